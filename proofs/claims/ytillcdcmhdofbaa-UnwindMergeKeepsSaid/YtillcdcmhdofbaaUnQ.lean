/- What unwind.Merge computes for valid rows, in plain terms: the rows whose rule differs from that of the row before; and the statement's sameRule. -/
import Derived.Test.YtillcdcmhdofbaaUnP
import Derived.Test.YtillcdcmhdofbaaPUnwindUniquex4
namespace Go.Proofs.Ytillcdcmhdofbaa.Un
open Go.RowKit Go.Proofs.YtillcdcmhdofbaaW.PrintWords Go.Proofs.YtillcdcmhdofbaaW.PrintLast Go.Proofs.YtillcdcmhdofbaaW.PrintMore
open Go.Proofs.Ytillcdcmhdofbaa.PUnwindUnique
set_option linter.unusedVariables false
set_option linter.unusedSimpArgs false

/-- The rules are the same. -/
def same (x y : S48) : Bool := x.f1 == y.f1 && (x.f2 == y.f2 && x.f3 == y.f3)
/-- Row k stays. -/
def keeps (l : List S48) (k : Nat) : Bool := !(decide (0 < k) && same (rd_T48 l ((k : Int) - 1)) (rd_T48 l k))
def mrg (l : List S48) : Nat → List S48
  | 0 => []
  | k + 1 => if keeps l k then mrg l k ++ [rd_T48 l k] else mrg l k
theorem mrg_len (l : List S48) (k : Nat) : (mrg l k).length ≤ k := by
  induction k with
  | zero => simp [mrg]
  | succ k ih =>
    rw [mrg]
    split
    · rw [List.length_append, List.length_singleton]; omega
    · omega

theorem mrg_l0 (l : List S48) (hn : l.length ≤ 8000) (d : Nat) : ∀ (i k : Nat), i + d = l.length → d < k → unwind_Merge.l0 k l (mrg l i) l l.length i = some (mrg l l.length, 0, 0) := by
  induction d with
  | zero =>
    intro i k hi hk
    obtain ⟨k, rfl⟩ : ∃ m, k = m + 1 := ⟨k - 1, by omega⟩
    rw [unwind_Merge.l0, if_neg (by omega)]
    obtain rfl : i = l.length := by omega
    rfl
  | succ d ih =>
    intro i k hi hk
    obtain ⟨k, rfl⟩ : ∃ m, k = m + 1 := ⟨k - 1, by omega⟩
    have e1 := w64 ((i : Int) - 1) (by omega) (by omega)
    have e2 := w64 ((i : Int) + 1) (by omega) (by omega)
    have hrec := ih (i + 1) k (by omega) (by omega)
    rw [show (((i + 1 : Nat)) : Int) = (i : Int) + 1 by omega, mrg] at hrec
    have hml := mrg_len l i
    have hlt : (mrg l i).length < 4398046511104 := by omega
    rw [unwind_Merge.l0, if_pos (by omega), if_pos (by omega), if_pos (by omega), e1, e2]
    unfold keeps same at hrec
    by_cases h0 : (i : Int) > 0
    · rw [if_pos h0, if_pos (by omega), if_pos (by omega)]
      have hd0 : decide (0 < i) = true := by rw [decide_eq_true_eq]; omega
      rw [hd0, Bool.true_and] at hrec
      cases hs : ((rd_T48 l ((i : Int) - 1)).f1 == (rd_T48 l i).f1 && ((rd_T48 l ((i : Int) - 1)).f2 == (rd_T48 l i).f2 && (rd_T48 l ((i : Int) - 1)).f3 == (rd_T48 l i).f3)) with
      | true =>
        rw [hs] at hrec
        rw [if_pos rfl]
        exact hrec
      | false =>
        rw [hs] at hrec
        rw [if_neg (by decide), if_pos hlt]
        exact hrec
    · rw [if_neg h0, if_pos hlt]
      have hd0 : decide (0 < i) = false := by rw [decide_eq_false_iff_not]; omega
      rw [hd0] at hrec
      exact hrec
theorem merge_ok (l : List S48) (h : Valid l) (hv : vFault l = (0, 0)) : ∃ k, unwind_Merge.f k l = some (mrg l l.length, 0, 0) := by
  obtain ⟨k, hk⟩ := validate_is l
  rw [hv] at hk
  have h1 : unwind_Validate.f (max k (l.length + 1)) l = some (0, 0) := at_rounds (g := fun k => unwind_Validate.f k l) (unwind_Validate.mono l) (Nat.le_max_left _ _) hk
  refine ⟨max k (l.length + 1), ?_⟩
  unfold unwind_Merge.f
  rw [h1]
  exact mrg_l0 l h.len l.length 0 _ (by omega) (by omega)
theorem merge_bad (l : List S48) (hv : (vFault l).1 ≠ 0) : ∃ k, unwind_Merge.f k l = some ([], (vFault l).1, (vFault l).2) := by
  obtain ⟨k, hk⟩ := validate_is l
  refine ⟨k, ?_⟩
  unfold unwind_Merge.f
  rw [hk]
  simp only [Option.bind_some]
  rw [if_pos (by simp [hv])]

set_option maxHeartbeats 1000000 in
set_option maxRecDepth 100000 in
theorem f33_any (x y : S48) (w : World) : Calls Try.prog 33 #[ag x, ag y] w fun e w' => e = .returned (.bool (same x y)) ∧ Below w.heap.size w w' := by
  unfold ag same
  cases c1 : (x.f1 == y.f1) with
  | true =>
    cases c2 : (x.f2 == y.f2) with
    | true =>
      go_enter Try.func33, Try.ntmps33
      go_wp2
      go_ret
      exact ⟨by simp, below_alloc (below_alloc (Below.refl _ _) _) _⟩
    | false =>
      go_enter Try.func33, Try.ntmps33
      go_wp2
      go_ret
      exact ⟨by simp, below_alloc (below_alloc (Below.refl _ _) _) _⟩
  | false =>
    go_enter Try.func33, Try.ntmps33
    go_wp2
    go_ret
    exact ⟨by simp, below_alloc (below_alloc (Below.refl _ _) _) _⟩
end Go.Proofs.Ytillcdcmhdofbaa.Un
