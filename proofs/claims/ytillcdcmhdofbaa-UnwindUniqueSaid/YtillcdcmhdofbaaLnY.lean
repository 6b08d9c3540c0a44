/- An argument that is a slice of bytes, opened: its cells read as a list of numbers from 0 to 255; no condition. -/
import Derived.Test.YtillcdcmhdofbaaWWords
import Derived.Test.YtillcdcmhdofbaaRows
import Derived.ChangeSlices
import Derived.OpenShut
namespace Go.Proofs.Ytillcdcmhdofbaa.Ln
open Go.RowKit Go.Proofs.YtillcdcmhdofbaaW.PrintWords
open Go.ChangeShapes Go.WideShapes
set_option linter.unusedVariables false
section
variable {H : Type} {enc : TypeId × Value → H} {w : World} {base : Nat} {spare : Nat → Bool} {held : Bool}
theorem open_bytes {A : Option Addr} {n c : Nat} {fuel : Nat} {x : DataW H × List MemPlace} (h : DataW.trod enc Try.prog w base spare held fuel 39 [.slice A n c] = some x) :
    ∃ l : List Int, n = l.length ∧ l.length ≤ c ∧ Kd.C (Kd.int .u8) w A l.length l ∧ ∀ b, b ∈ l → 0 ≤ b ∧ b ≤ 255 := by
  rcases open_ints (k := .u8) Try.underlying39 Try.underlying5 (by kernel_rfl) h with ⟨hcs, _⟩ | ⟨a, len, cap, zs, hcs, _, hl, hm, hz, _, hc, hw⟩
  · simp at hcs
    obtain ⟨rfl, rfl, rfl⟩ := hcs
    exact ⟨[], rfl, Nat.le_refl _, Kd.C_nil _ _, fun b hb => by simp at hb⟩
  · simp at hcs
    obtain ⟨rfl, rfl, rfl⟩ := hcs
    have hle : n ≤ zs.length := by rw [hz]; split <;> omega
    have hll : (zs.take n).length = n := by rw [List.length_take]; omega
    refine ⟨zs.take n, hll.symm, by omega, ?_, fun b hb => ?_⟩
    · refine Kd.C_of_reads (d := (0 : Int)) (h1 := fun _ => rfl) ⟨rfl, by rw [hll]; unfold maxLen at hm; omega, fun _ => ⟨a, rfl, fun j hj => ?_⟩⟩
      rw [hll] at hj
      rw [hc j (by omega)]
      simp [List.getD, hj]
    · have h1 := hw b (List.mem_of_mem_take hb)
      simpa [Lit.wf, IntKind.min, IntKind.max, IntKind.signed, IntKind.bits] using h1
end
end Go.Proofs.Ytillcdcmhdofbaa.Ln
