/- The statement that the bytes of unwind rows are the only ones: for every input the call returns true and the arguments read as before; no condition. -/
import Derived.Test.YtillcdcmhdofbaaRows
import Derived.Test.YtillcdcmhdofbaaLnY
import Derived.Test.YtillcdcmhdofbaaUnL14
import Derived.WalkKit
import Derived.ProofKit
import Derived.OpenShut
import Derived.ChangeOld
import Derived.Below
namespace Go.Proofs.Ytillcdcmhdofbaa.unwindUnique
open Go.ChangeShapes Go.WideShapes Go.ChangeAt Go.RowKit
set_option linter.unusedVariables false
theorem own : ownKnob Try.prog.godebug = none := by kernel_rfl
theorem laidOut : laidOutB Try.prog = true := by kernel_rfl
theorem walk (A0 : Option Addr) (c0 : Nat) (l0 : List Int) (w : World) (hr0 : YtillcdcmhdofbaaW.PrintWords.Kd.C (YtillcdcmhdofbaaW.PrintWords.Kd.int .u8) w A0 l0.length l0) (hc0 : l0.length ≤ c0) (hb0 : ∀ b, b ∈ l0 → 0 ≤ b ∧ b ≤ 255) :
    Calls Try.prog 14 #[.slice A0 l0.length c0] w fun e w' => e = .returned (.bool true) ∧ Below w.heap.size w w' := by
  exact Un.f14_all A0 c0 l0 w hr0 hc0 (Un.bytes_of l0 hb0)
set_option maxRecDepth 100000 in
theorem lifted (os : Os) (started : os.Started) (H : Type) (enc : TypeId × Value → H) :
    ReturnsInHanded {} Try.checked os 14 .any (Rows.unwindUniqueSpec.pre6 enc Try.prog Try.f14 Rows.unwindUniqueRow.domain false) (Rows.unwindUniqueSpec.post enc Try.prog Try.f14 false true false false) := by
  refine returnsInHanded_of_change (C := Try.checked) own started (by kernel_rfl) Try.func14
    (ChangeSpec.witness6 (enc := enc) (C := Try.checked) false ⟨#[], #[.slice none 0 0], []⟩ 8 (by kernel_rfl) (by kernel_rfl) (by kernel_rfl) (by kernel_rfl)) ?_
  intro W base args ds gs before hval0 hW hcnd _
  have hval : ∀ (j : Nat) t v, Try.f14.params[j]? = some t → args[j]? = some v → Value.okWide Try.prog W .any base t v := hval0
  have hW' := hW
  obtain ⟨p, q, hA0, hV, rfl, hfz, hnd⟩ := hW
  have hA : DataW.TrodAll enc Try.prog W 0 (fun _ => true) true Try.f14.params.toList args.toList ds p := hA0
  rw [Try.params14] at hA hval
  obtain ⟨v0, vs0, d0, ds0, p0, q0, hargs, rfl, rfl, h0, r0⟩ := trodAll_cons hA
  obtain ⟨rfl, rfl, rfl⟩ := trodAll_nil r0
  obtain rfl : args = #[v0] := by cases args; simp_all
  obtain ⟨rfl, rfl⟩ := trodVars_none hV
  obtain ⟨a0, len0, cap0, rfl⟩ := okWide_slice Try.underlying39 (hval 0 39 v0 rfl rfl)
  have k0 := h0
  have lt0 : ∀ x ∈ p0, x.block < W.heap.size := by obtain ⟨m, hm⟩ := k0; exact DataW.trod_lt m _ _ _ hm
  obtain ⟨l0, rfl, hc0, hr0, hb0⟩ : ∃ l : List Int, len0 = l.length ∧ l.length ≤ cap0 ∧ YtillcdcmhdofbaaW.PrintWords.Kd.C (YtillcdcmhdofbaaW.PrintWords.Kd.int .u8) W a0 l.length l ∧ ∀ b, b ∈ l → 0 ≤ b ∧ b ≤ 255 := by
    obtain ⟨fuel, hf⟩ := h0
    exact Ln.open_bytes (by simpa [Value.cells] using hf)
  clear hA0 hval0
  refine (walk a0 cap0 l0 W hr0 hc0 hb0).mono fun e W' ⟨he, bel⟩ => ?_
  subst he
  exact ⟨_, rfl, _, _, _, [], _, [], hW', trodAll_mk1 (shut_bool Try.underlying4 _), (trodAll_cons_mk (Below.trod laidOut (by kernel_rfl) (of_decide_eq_true (by kernel_rfl)) k0 bel lt0) trodAll_mk0), rfl, bel.frame _, fun h => by cases h⟩
theorem over : Rows.unwindUniqueRow.holds Try.pinned (OpenSpec.ofChange Rows.unwindUniqueSpec) :=
  OpenClaim.holds_of_wide 14 Try.f14 rfl rfl rfl rfl rfl rfl rfl ⟨rfl, rfl, rfl, rfl, rfl⟩ rfl rfl rfl rfl rfl (by kernel_rfl) Try.func14 (by kernel_rfl)
    (of_decide_eq_true (by kernel_rfl)) (by unfold Func.isWrapper; first | (rw [if_pos (by decide +kernel)]; kernel_rfl) | (rw [if_neg (by decide +kernel)]; exact ⟨rfl, rfl⟩))
    (fun os started H enc _ => lifted os started H enc)
theorem proved : Rows.UnwindUniqueSaid := over
end Go.Proofs.Ytillcdcmhdofbaa.unwindUnique
namespace Go.Proofs.Ytillcdcmhdofbaa
/-- The row, under a short name, for the claim. -/
theorem unwindUnique_holds : Rows.UnwindUniqueSaid := unwindUnique.proved
#print axioms unwindUnique_holds
end Go.Proofs.Ytillcdcmhdofbaa
