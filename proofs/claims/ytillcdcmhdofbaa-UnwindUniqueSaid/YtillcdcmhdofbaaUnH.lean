/- The reference's UnwindCode returns the bytes of valid rows; conditions: the rows are read as a list, and are valid. -/
import Derived.Test.YtillcdcmhdofbaaUnN
import Derived.Test.YtillcdcmhdofbaaUnE
import Derived.Test.YtillcdcmhdofbaaPUnwindUniquex5
namespace Go.Proofs.Ytillcdcmhdofbaa.Un
open Go.RowKit Go.Proofs.YtillcdcmhdofbaaW.PrintWords Go.Proofs.YtillcdcmhdofbaaW.PrintLast Go.Proofs.YtillcdcmhdofbaaW.PrintMore
open Go.Proofs.Ytillcdcmhdofbaa.PUnwindUnique
set_option linter.unusedVariables false
set_option linter.unusedSimpArgs false

theorem nc_at (n : Int) (h : InI n) (k : Nat) (hk : 12 ≤ k) : linkhouseref1_NumberCode.f k n = some (nc n) :=
  at_rounds (g := fun k => linkhouseref1_NumberCode.f k n) (linkhouseref1_NumberCode.mono n) hk (nc_is n h)
theorem before_small {l : List S48} (hs : ∀ k : Nat, k < l.length → Small (rd_T48 l k)) (i : Nat) (hi : i ≤ l.length) : Small (before z48 l i) := by
  unfold before
  split
  · exact small_z
  · rename_i h
    have h1 := hs (i - 1) (by omega)
    rwa [show (((i - 1 : Nat)) : Int) = (i : Int) - 1 by omega] at h1
theorem code_j1 (l : List S48) (hn : l.length ≤ 8000) (hs : ∀ k : Nat, k < l.length → Small (rd_T48 l k)) (i k : Nat) (acc r : List Int) (hi : i < l.length) (hk : 12 ≤ k) (hacc : acc.length ≤ 400000)
    (hrec : linkhouseref2_UnwindCode.l0 k l (acc ++ rowCode (before z48 l i) (rd_T48 l i)) (wrap64 ((i : Int) + 1)) = some r) : linkhouseref2_UnwindCode.j1 (k + 1) l acc i (before z48 l i).f0 = some r := by
  have hx := hs i hi
  have hy := before_small hs i (by omega)
  have a1 := hx.a0
  have a2 := hx.a1
  have a3 := hx.b0
  have a4 := hx.b1
  have a5 := hx.c0
  have a6 := hx.c1
  have a7 := hx.d0
  have a8 := hx.d1
  have b1 := hy.a0
  have b2 := hy.a1
  have hcode : rowCode (before z48 l i) (rd_T48 l i) = nc ((rd_T48 l i).f0 - (before z48 l i).f0) ++ (nc (rd_T48 l i).f1 ++ (nc (rd_T48 l i).f2 ++ nc (rd_T48 l i).f3)) := by simp [rowCode, ncs]
  rw [hcode] at hrec
  generalize before z48 l i = y at b1 b2 hrec ⊢
  have n1 := nc_len ((rd_T48 l i).f0 - y.f0)
  have n2 := nc_len (rd_T48 l i).f1
  have n3 := nc_len (rd_T48 l i).f2
  have n4 := nc_len (rd_T48 l i).f3
  rw [linkhouseref2_UnwindCode.j1, if_pos (by omega), if_pos (by omega), w64 _ (by omega) (by omega), nc_at _ ⟨by omega, by omega⟩ k hk]
  simp only [Option.bind_some]
  rw [if_pos (by omega), nc_at _ ⟨by omega, by omega⟩ k hk]
  simp only [Option.bind_some]
  rw [if_pos (by rw [List.length_append]; omega), nc_at _ ⟨by omega, by omega⟩ k hk]
  simp only [Option.bind_some]
  rw [if_pos (by rw [List.length_append, List.length_append]; omega), nc_at _ ⟨by omega, by omega⟩ k hk]
  simp only [Option.bind_some]
  rw [if_pos (by rw [List.length_append, List.length_append, List.length_append]; omega)]
  rw [← hrec]
  simp only [List.append_assoc]
theorem code_l0 (l : List S48) (hn : l.length ≤ 8000) (hs : ∀ k : Nat, k < l.length → Small (rd_T48 l k)) (d : Nat) : ∀ (i k : Nat), i + d = l.length → 2 * d + 14 < k →
    linkhouseref2_UnwindCode.l0 k l (nc l.length ++ codeFrom z48 (l.take i)) i = some (nc l.length ++ codeFrom z48 l) := by
  induction d with
  | zero =>
    intro i k hi hk
    obtain ⟨k, rfl⟩ : ∃ m, k = m + 1 := ⟨k - 1, by omega⟩
    rw [linkhouseref2_UnwindCode.l0, if_neg (by omega), List.take_of_length_le (by omega)]
  | succ d ih =>
    intro i k hi hk
    obtain ⟨k, rfl⟩ : ∃ m, k = m + 1 + 1 := ⟨k - 2, by omega⟩
    have e1 := w64 ((i : Int) - 1) (by omega) (by omega)
    have e2 := w64 ((i : Int) + 1) (by omega) (by omega)
    have hrec := ih (i + 1) k (by omega) (by omega)
    rw [codeFrom_take _ _ _ (by omega), ← List.append_assoc, show (((i + 1 : Nat)) : Int) = (i : Int) + 1 by omega, ← e2] at hrec
    have h1 := codeFrom_len (l.take i) z48
    have h2 : (l.take i).length ≤ i := List.length_take_le _ _
    have h3 := nc_len l.length
    have key := code_j1 l hn hs i k (nc l.length ++ codeFrom z48 (l.take i)) _ (by omega) (by omega) (by rw [List.length_append]; omega) hrec
    rw [linkhouseref2_UnwindCode.l0, if_pos (by omega)]
    by_cases hi0 : (i : Int) > 0
    · rw [if_pos hi0, if_pos (by omega), if_pos (by omega), e1]
      unfold before at key
      rw [if_neg (by omega)] at key
      exact key
    · rw [if_neg hi0]
      unfold before at key
      rw [if_pos (by omega)] at key
      exact key
theorem code_is (l : List S48) (hn : l.length ≤ 8000) (hs : ∀ k : Nat, k < l.length → Small (rd_T48 l k)) : ∃ k, linkhouseref2_UnwindCode.f k l = some (nc l.length ++ codeFrom z48 l) := by
  refine ⟨2 * l.length + 15, ?_⟩
  unfold linkhouseref2_UnwindCode.f
  rw [nc_at _ ⟨by omega, by omega⟩ _ (by omega)]
  simp only [Option.bind_some]
  have h := code_l0 l hn hs l.length 0 (2 * l.length + 15) (by omega) (by omega)
  rw [List.take_zero] at h
  simpa [codeFrom] using h
/-- Bytes in a row of the call's own. -/
def BytesPost (bs : List Int) (w : World) (e : Ending) (w' : World) : Prop :=
  ∃ v, e = .returned v ∧ Kd.R (Kd.int .u8) 5 w' w.heap.size (fun _ => True) v bs ∧ Below w.heap.size w w'
theorem f36_any (A : Option Addr) (c : Nat) (l : List S48) (w : World) (hr : Kd.C k48 w A l.length l) (hc : l.length ≤ c) (hn : l.length ≤ 8000) (hs : ∀ k : Nat, k < l.length → Small (rd_T48 l k)) :
    Calls Try.prog 36 #[.slice A l.length c] w (BytesPost (nc l.length ++ codeFrom z48 l) w) := by
  obtain ⟨k, hk⟩ := code_is l hn hs
  exact linkhouseref2_UnwindCode.calls k A c l _ w hr hc hk
end Go.Proofs.Ytillcdcmhdofbaa.Un
