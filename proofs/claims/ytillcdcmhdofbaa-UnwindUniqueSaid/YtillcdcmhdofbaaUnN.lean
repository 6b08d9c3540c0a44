/- What the reference's NumberCode computes, in plain terms: the same bytes as codec's writer. -/
import Derived.Test.YtillcdcmhdofbaaUnD
import Derived.Test.YtillcdcmhdofbaaUnP
import Derived.Test.YtillcdcmhdofbaaPUnwindUniquex5
namespace Go.Proofs.Ytillcdcmhdofbaa.Un
open Go.RowKit Go.Proofs.YtillcdcmhdofbaaW.PrintWords Go.Proofs.YtillcdcmhdofbaaW.PrintLast Go.Proofs.YtillcdcmhdofbaaW.PrintMore
open Go.Proofs.Ytillcdcmhdofbaa.PUnwindUnique
set_option linter.unusedVariables false
set_option linter.unusedSimpArgs false

theorem num_l0 (f : Nat) : ∀ (k : Nat) (u : Int) (acc : List Int), 0 ≤ u → u < 18446744073709551616 → u < 128 ^ (f + 1) → acc.length + f < 1000 → f < k → linkhouseref1_NumberCode.l0 k u acc = some (acc ++ vc f u) := by
  induction f with
  | zero =>
    intro k u acc h0 h1 h2 h3 hk
    obtain ⟨k, rfl⟩ : ∃ m, k = m + 1 := ⟨k - 1, by omega⟩
    have h4 : u < 128 := by simpa using h2
    rw [linkhouseref1_NumberCode.l0, if_neg (by omega), if_pos (by omega), vc, show u % 256 = u by omega]
  | succ f ih =>
    intro k u acc h0 h1 h2 h3 hk
    obtain ⟨k, rfl⟩ : ∃ m, k = m + 1 := ⟨k - 1, by omega⟩
    rw [linkhouseref1_NumberCode.l0, vc]
    by_cases hu : u ≥ 128
    · have e1 : IntKind.u64.wrap (Int.tdiv u 128) = u / 128 := by
        rw [IntKind.wrap_u64, Int.tdiv_eq_ediv_of_nonneg h0]
        omega
      have e2 : IntKind.u64.wrap (Int.tmod u 128 + 128) % 256 = u % 128 + 128 := by
        rw [IntKind.wrap_u64, Int.tmod_eq_emod_of_nonneg h0]
        omega
      have h5 : u / 128 < 128 ^ (f + 1) := by
        rw [Int.pow_succ] at h2
        exact Int.ediv_lt_of_lt_mul (by decide) h2
      rw [if_pos hu, if_pos (by omega), if_pos hu, e1, e2, ih k (u / 128) _ (by omega) (by omega) h5 (by rw [List.length_append, List.length_singleton]; omega) (by omega), List.append_assoc]
      rfl
    · rw [if_neg hu, if_pos (by omega), if_neg hu, show u % 256 = u by omega]
theorem nc_is (n : Int) (h : InI n) : linkhouseref1_NumberCode.f 12 n = some (nc n) := by
  obtain ⟨h0, h1⟩ := h
  have hz := zig_range n h0 h1
  have hlt : zig n < 18446744073709551616 := by unfold zig; split <;> omega
  have key : ∀ u : Int, u = zig n → linkhouseref1_NumberCode.j0 12 u = some (nc n) := by
    rintro u rfl
    rw [linkhouseref1_NumberCode.j0, num_l0 9 11 (zig n) [] hz.1 hlt hz.2 (by decide) (by decide)]
    rfl
  unfold linkhouseref1_NumberCode.f
  by_cases hn : n ≥ 0
  · rw [if_pos hn]
    refine key _ ?_
    rw [IntKind.wrap_u64, IntKind.wrap_u64]
    unfold zig
    rw [if_pos hn]
    omega
  · rw [if_neg hn]
    refine key _ ?_
    rw [w64 (n + 1) (by omega) (by omega), w64 (-(n + 1)) (by omega) (by omega), IntKind.wrap_u64, IntKind.wrap_u64, IntKind.wrap_u64]
    unfold zig
    rw [if_neg hn]
    omega
end Go.Proofs.Ytillcdcmhdofbaa.Un
