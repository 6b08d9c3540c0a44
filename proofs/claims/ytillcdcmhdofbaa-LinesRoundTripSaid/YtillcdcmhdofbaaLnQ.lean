/- What lines.Places computes for valid rows, in plain terms: the offsets at which code of a line begins. -/
import Derived.Test.YtillcdcmhdofbaaLnP
import Derived.Test.YtillcdcmhdofbaaLnD
import Derived.Test.YtillcdcmhdofbaaPLinesUniquex3
namespace Go.Proofs.Ytillcdcmhdofbaa.Ln
open Go.RowKit Go.Proofs.YtillcdcmhdofbaaW.PrintWords Go.Proofs.YtillcdcmhdofbaaW.PrintLast Go.Proofs.YtillcdcmhdofbaaW.PrintMore
open Go.Proofs.Ytillcdcmhdofbaa.PLinesUnique
set_option linter.unusedVariables false
set_option linter.unusedSimpArgs false

theorem Valid.small {l : List S25} (h : Valid l) (k : Nat) (hk : k < l.length) : Small (rd_T25 l k) := by
  have h1 := bad_zero (h.ok k hk)
  exact ⟨by omega, by omega, by omega, by omega, by omega, by omega⟩

/-- Row k is of this line. -/
def isAt (l : List S25) (a b : Int) (k : Nat) : Bool := (rd_T25 l k).f1 == a && (rd_T25 l k).f2 == b
/-- Code of the line begins at row k. -/
def begins (l : List S25) (a b : Int) (k : Nat) : Bool := isAt l a b k && !(decide (0 < k) && isAt l a b (k - 1))
def plc (l : List S25) (a b : Int) : Nat → List Int
  | 0 => []
  | k + 1 => if begins l a b k then plc l a b k ++ [(rd_T25 l k).f0] else plc l a b k
theorem plc_len (l : List S25) (a b : Int) (k : Nat) : (plc l a b k).length ≤ k := by
  induction k with
  | zero => simp [plc]
  | succ k ih =>
    rw [plc]
    split
    · rw [List.length_append, List.length_singleton]; omega
    · omega

theorem plc_l0 (l : List S25) (a b : Int) (hn : l.length ≤ 8000) (d : Nat) : ∀ (i k : Nat), i + d = l.length → d < k → lines_Places.l0 k l a b (plc l a b i) l l.length i = some (plc l a b l.length, 0, 0) := by
  induction d with
  | zero =>
    intro i k hi hk
    obtain ⟨k, rfl⟩ : ∃ m, k = m + 1 := ⟨k - 1, by omega⟩
    rw [lines_Places.l0, if_neg (by omega)]
    obtain rfl : i = l.length := by omega
    rfl
  | succ d ih =>
    intro i k hi hk
    obtain ⟨k, rfl⟩ : ∃ m, k = m + 1 := ⟨k - 1, by omega⟩
    have e1 := w64 ((i : Int) - 1) (by omega) (by omega)
    have e2 := w64 ((i : Int) + 1) (by omega) (by omega)
    have hrec := ih (i + 1) k (by omega) (by omega)
    rw [show (((i + 1 : Nat)) : Int) = (i : Int) + 1 by omega, plc] at hrec
    have hpl := plc_len l a b i
    have hlt : (plc l a b i).length < 17592186044416 := by omega
    rw [lines_Places.l0, if_pos (by omega), if_pos (by omega), if_pos (by omega), e1, e2]
    unfold begins isAt at hrec
    by_cases h0 : i = 0
    · have h0' : (i : Int) = 0 := by omega
      rw [if_pos h0']
      have hd0 : decide (0 < i) = false := by simp [h0]
      rw [hd0] at hrec
      clear h0 h0'
      by_cases c1 : (rd_T25 l i).f1 = a <;> by_cases c2 : (rd_T25 l i).f2 = b <;> simp [c1, c2, hlt] at hrec ⊢ <;> exact hrec
    · have hi0 : 0 < i := by omega
      have hp : (((i - 1 : Nat)) : Int) = (i : Int) - 1 := by omega
      rw [hp] at hrec
      rw [if_neg (by omega), if_pos (by omega), if_pos (by omega)]
      by_cases c1 : (rd_T25 l i).f1 = a <;> by_cases c2 : (rd_T25 l i).f2 = b <;> by_cases c3 : (rd_T25 l ((i : Int) - 1)).f1 = a <;> by_cases c4 : (rd_T25 l ((i : Int) - 1)).f2 = b <;>
        simp [c1, c2, c3, c4, hi0, hlt] at hrec ⊢ <;> exact hrec
theorem places_ok (l : List S25) (a b : Int) (h : Valid l) (hv : vFault l = (0, 0)) : ∃ k, lines_Places.f k l a b = some (plc l a b l.length, 0, 0) := by
  obtain ⟨k, hk⟩ := validate_is l
  rw [hv] at hk
  have h1 : lines_Validate.f (max k (l.length + 1)) l = some (0, 0) := at_rounds (g := fun k => lines_Validate.f k l) (lines_Validate.mono l) (Nat.le_max_left _ _) hk
  refine ⟨max k (l.length + 1), ?_⟩
  unfold lines_Places.f
  rw [h1]
  exact plc_l0 l a b h.len l.length 0 _ (by omega) (by omega)
theorem places_bad (l : List S25) (a b : Int) (hv : (vFault l).1 ≠ 0) : ∃ k, lines_Places.f k l a b = some ([], (vFault l).1, (vFault l).2) := by
  obtain ⟨k, hk⟩ := validate_is l
  refine ⟨k, ?_⟩
  unfold lines_Places.f
  rw [hk]
  simp only [Option.bind_some]
  rw [if_pos (by simp [hv])]
end Go.Proofs.Ytillcdcmhdofbaa.Ln
