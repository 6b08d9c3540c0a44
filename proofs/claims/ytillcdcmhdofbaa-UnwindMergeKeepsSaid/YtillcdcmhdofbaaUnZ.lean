/- linkhouseref2.SameUnwind of two slices with the same rows returns true; conditions: both read as the list. -/
import Derived.Test.YtillcdcmhdofbaaUnP
import Derived.Test.YtillcdcmhdofbaaPUnwindUniquex2
import Derived.BigQuiet
namespace Go.Proofs.Ytillcdcmhdofbaa.Un
open Go.RowKit Go.Proofs.YtillcdcmhdofbaaW.PrintWords Go.Proofs.YtillcdcmhdofbaaW.PrintLast Go.Proofs.YtillcdcmhdofbaaW.PrintMore
open Go.Proofs.Ytillcdcmhdofbaa.PUnwindUnique
set_option linter.unusedVariables false
set_option linter.unusedSimpArgs false

attribute [local go_sem high] eqA48

set_option maxHeartbeats 4000000 in
set_option maxRecDepth 100000 in
theorem f34_eq (A B : Option Addr) (c c' : Nat) (l : List S48) (w : World) (hr : Kd.C k48 w A l.length l) (hr' : Kd.C k48 w B l.length l) :
    Calls Try.prog 34 #[.slice A l.length c, .slice B l.length c'] w fun e w' => e = .returned (.bool true) ∧ Below w.heap.size w w' := by
  have hu48 := Try.underlying48
  have hll : l.length ≤ 9223372036854775807 := hr.2.1
  have HR := Aside0.mk hr
  have HR' := Aside0.mk hr'
  clear hr hr'
  go_enter Try.func34, Try.ntmps34
  go_wp2_with fail
  go_loopg [5] l.length (fun kq i w' => ∃ j : Nat, i = .int .i64 j ∧ j ≤ l.length ∧ Aside0 (l.length - j ≤ kq) ∧ Aside0 (Below w.heap.size w w'))
  case atStart => exact ⟨0, rfl, Nat.zero_le _, ⟨by omega⟩, ⟨Below.refl _ _⟩⟩
  case round =>
    obtain ⟨j, rfl, hj, HM, HB⟩ := hrel
    by_cases hlt : j < l.length
    · obtain ⟨ad, hA, hy0, hy1, hy2, hy3⟩ := at_T48 (Kd.C_below HR.out HB.out) (j : Int) (by omega) (by omega)
      obtain ⟨ad', hA', hz0, hz1, hz2, hz3⟩ := at_T48 (Kd.C_below HR'.out HB.out) (j : Int) (by omega) (by omega)
      cases hA
      cases hA'
      rw [Int.toNat_natCast] at hy0 hy1 hy2 hy3 hz0 hz1 hz2 hz3
      generalize rd_T48 l (j : Int) = y at hy0 hy1 hy2 hy3 hz0 hz1 hz2 hz3
      have hj0 : (0 : Int) ≤ (j : Int) := by omega
      have hj1 : (j : Int) < (l.length : Int) := by omega
      go_wp2_with fail
      go_quiet (fail)
      go_wp2_with fail
      go_roundg (l.length - (j + 1))
      case measure => have := HM.out; omega
      case rel => exact ⟨j + 1, by go_num, by omega, ⟨Nat.le_refl _⟩, ⟨by first | exact pw_below_drewN HB.out _ | exact HB.out⟩⟩
    · go_wp2_with fail
      go_ret
      exact ⟨rfl, HB.out⟩
end Go.Proofs.Ytillcdcmhdofbaa.Un
