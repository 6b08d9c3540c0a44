/- The statement that lines packed and unpacked are the same lines, walked: the call returns true. -/
import Derived.Test.YtillcdcmhdofbaaUnV
import Derived.Test.YtillcdcmhdofbaaUnW
import Derived.Test.YtillcdcmhdofbaaUnZ
import Derived.Test.YtillcdcmhdofbaaUnG
import Derived.Test.YtillcdcmhdofbaaUnF
namespace Go.Proofs.Ytillcdcmhdofbaa.Un
open Go.RowKit Go.Proofs.YtillcdcmhdofbaaW.PrintWords Go.Proofs.YtillcdcmhdofbaaW.PrintLast Go.Proofs.YtillcdcmhdofbaaW.PrintMore
open Go.Proofs.Ytillcdcmhdofbaa.PUnwindUnique
set_option linter.unusedVariables false
set_option linter.unusedSimpArgs false
def LawPost (w : World) (e : Ending) (w' : World) : Prop := e = .returned (.bool true) ∧ Below w.heap.size w w'

set_option maxHeartbeats 4000000 in
set_option maxRecDepth 100000 in
theorem f13_bad (A : Option Addr) (c : Nat) (l : List S48) (w : World) (hr : Kd.C k48 w A l.length l) (hcl : l.length ≤ c) (hv : (vFault l).1 ≠ 0) :
    Calls Try.prog 13 #[.slice A l.length c] w (LawPost w) := by
  obtain ⟨k, hk⟩ := validate_is l
  have HV := Aside0.mk (show unwind_Validate.f k l = some ((vFault l).1, (vFault l).2) from hk)
  clear hk
  generalize (vFault l).1 = r1 at hv HV
  generalize (vFault l).2 = r2 at HV
  have hne' : (r1 != 0) = true := by simpa using hv
  have HNE := Aside0.mk hv
  have HR := Aside0.mk hr
  clear hr hv
  have hu27 := Try.underlying27
  go_enter Try.func13, Try.ntmps13
  go_wp2_with fail
  refine (f27_any w).mono ?_
  rintro e w1 ⟨rfl, hb⟩
  have HB1 := Aside0.mk hb
  have HR1 := Aside0.mk (Kd.C_below HR.out hb)
  clear hb
  go_wp2_with fail
  refine (f35_bad k A c l r1 r2 _ HR1.out hcl HV.out (fun h => HNE.out h.1)).mono ?_
  rintro e w2 ⟨rfl, hb⟩
  have HB2 := Aside0.mk (below_then HB1.out HB1.out.size hb)
  clear hb
  go_wp2_with fail
  go_ret
  exact ⟨by simp, below_alloc' HB2.out _⟩

set_option maxHeartbeats 4000000 in
set_option maxRecDepth 100000 in
theorem f13_ok (A : Option Addr) (c : Nat) (l : List S48) (w : World) (hr : Kd.C k48 w A l.length l) (hcl : l.length ≤ c) (hv : (vFault l).1 = 0) :
    Calls Try.prog 13 #[.slice A l.length c] w (LawPost w) := by
  obtain ⟨hv0, hV⟩ := valid_of l hv
  obtain ⟨k, hk⟩ := validate_is l
  rw [hv0] at hk
  have HV := Aside0.mk (show unwind_Validate.f k l = some (0, 0) from hk)
  have HVal := Aside0.mk hV
  have hlen := hV.len
  have HD := Aside0.mk (decAll_code l hV)
  have HC := Aside0.mk (code_ok l hV)
  have HV0 := Aside0.mk hv
  clear hk hV hv0 hv
  have HR := Aside0.mk hr
  clear hr
  have hu27 := Try.underlying27
  go_enter Try.func13, Try.ntmps13
  go_wp2_with fail
  refine (f27_any w).mono ?_
  rintro e w1 ⟨rfl, hb⟩
  have HB1 := Aside0.mk hb
  have HR1 := Aside0.mk (Kd.C_below HR.out hb)
  clear hb
  go_wp2_with fail
  refine (f35_ok k A c l _ HR1.out hcl HV.out hlen HVal.out.small).mono ?_
  rintro e w2 ⟨v, rfl, ho, hb⟩
  obtain ⟨bs, hbs⟩ : ∃ bs, nc l.length ++ codeFrom z48 l = bs := ⟨_, rfl⟩
  rw [hbs] at ho HD HC
  clear hbs
  obtain ⟨A2, C2, rfl⟩ := own_slice ho
  have HB2 := Aside0.mk (below_then HB1.out HB1.out.size hb)
  have HR2 := Aside0.mk (Kd.C_below HR1.out hb)
  have HB3 := Aside0.mk (below_alloc' HB2.out (.cells #[.int .i64 0, .int .i64 0] 27))
  have HR3 := Aside0.mk (Kd.C_alloc HR2.out (.cells #[.int .i64 0, .int .i64 0] 27))
  have HO3 := Aside0.mk (Kd.C_alloc (bytes_C ho) (.cells #[.int .i64 0, .int .i64 0] 27))
  clear hb ho HR2 HB2 HR1 HB1
  go_wp2_with fail
  refine (f40_any A2 C2 bs _ HO3.out HC.out.1).mono ?_
  rintro e w3 ⟨v, l', c', i, rfl, ho, hb, hu⟩
  have hsame : l' = l ∧ c' = 0 ∧ i = 0 := by
    have hd := HD.out
    have hc := HC.out.2
    rcases hu with ⟨h1, _⟩ | ⟨_, _, _, _, h2⟩ | ⟨_, h1, h2, h3, h4⟩
    · omega
    · exact absurd ⟨l, hd, HV0.out⟩ h2
    · rw [hd] at h3
      simp only [Option.some.injEq, Prod.mk.injEq, and_true] at h3
      exact ⟨h3.symm, h1, h2⟩
  obtain ⟨rfl, rfl, rfl⟩ := hsame
  obtain ⟨A4, C4, rfl⟩ := Kd.R_slice ho
  have HB4 := Aside0.mk (below_alloc' (below_then HB3.out HB3.out.size hb) (.cells #[.int .i64 0, .int .i64 0] 27))
  have HR4 := Aside0.mk (Kd.C_alloc (Kd.C_below HR3.out hb) (.cells #[.int .i64 0, .int .i64 0] 27))
  have HO4 := Aside0.mk (Kd.C_alloc (Kd.R_reads' ho).2.2 (.cells #[.int .i64 0, .int .i64 0] 27))
  clear hb ho hu HB3 HR3 HO3
  go_wp2_with fail
  refine (f34_eq A4 A C4 c l' _ HO4.out HR4.out).mono ?_
  rintro e w4 ⟨rfl, hb⟩
  have HB5 := Aside0.mk (below_then HB4.out HB4.out.size hb)
  clear hb
  go_wp2_with fail
  go_ret
  exact ⟨rfl, HB5.out⟩
theorem f13_all (A : Option Addr) (c : Nat) (l : List S48) (w : World) (hr : Kd.C k48 w A l.length l) (hcl : l.length ≤ c) : Calls Try.prog 13 #[.slice A l.length c] w (LawPost w) := by
  by_cases h : (vFault l).1 = 0
  · exact f13_ok A c l w hr hcl h
  · exact f13_bad A c l w hr hcl h
end Go.Proofs.Ytillcdcmhdofbaa.Un
