/- The statement on unwind.Pack, walked: the call returns true for every list of rows. -/
import Derived.Test.YtillcdcmhdofbaaUnH
import Derived.Test.YtillcdcmhdofbaaUnG
namespace Go.Proofs.Ytillcdcmhdofbaa.Un
open Go.RowKit Go.Proofs.YtillcdcmhdofbaaW.PrintWords Go.Proofs.YtillcdcmhdofbaaW.PrintLast Go.Proofs.YtillcdcmhdofbaaW.PrintMore
open Go.Proofs.Ytillcdcmhdofbaa.PUnwindUnique
set_option linter.unusedVariables false
set_option linter.unusedSimpArgs false
attribute [local go_sem high] eqA27
def LawPost (w : World) (e : Ending) (w' : World) : Prop := e = .returned (.bool true) ∧ Below w.heap.size w w'

set_option maxHeartbeats 2000000 in
set_option maxRecDepth 100000 in
theorem f10_bad (A : Option Addr) (c : Nat) (l : List S48) (w : World) (hr : Kd.C k48 w A l.length l) (hcl : l.length ≤ c) (hv : (vFault l).1 ≠ 0) :
    Calls Try.prog 10 #[.slice A l.length c] w (LawPost w) := by
  obtain ⟨k, hk⟩ := validate_is l
  obtain ⟨k', hk'⟩ := fault_is l
  have HV := Aside0.mk (show unwind_Validate.f k l = some ((vFault l).1, (vFault l).2) from hk)
  have HV' := Aside0.mk (show linkhouseref2_UnwindFault.f k' l = some ((vFault l).1, (vFault l).2) from hk')
  clear hk hk'
  generalize (vFault l).1 = r1 at hv HV HV'
  generalize (vFault l).2 = r2 at HV HV'
  have hne : (r1 == 0) = false := by simpa using hv
  have hne' : (r1 != 0) = true := by simpa using hv
  have HNE := Aside0.mk hv
  have HR := Aside0.mk hr
  clear hr hv
  have hu27 := Try.underlying27
  go_enter Try.func10, Try.ntmps10
  go_wp2_with fail
  refine (f27_any w).mono ?_
  rintro e w1 ⟨rfl, hb⟩
  have HB1 := Aside0.mk hb
  have HR1 := Aside0.mk (Kd.C_below HR.out hb)
  clear hb
  go_wp2_with fail
  refine (f35_bad k A c l r1 r2 _ HR1.out hcl HV.out (fun h => HNE.out h.1)).mono ?_
  rintro e w2 ⟨rfl, hb⟩
  have HB2 := Aside0.mk (below_then HB1.out HB1.out.size hb)
  have HR2 := Aside0.mk (Kd.C_below HR1.out hb)
  clear hb
  go_wp2_with fail
  have HB3 := Aside0.mk (below_alloc' HB2.out (.cells #[.int .i64 r1, .int .i64 r2] 27))
  have HR3 := Aside0.mk (Kd.C_alloc HR2.out (.cells #[.int .i64 r1, .int .i64 r2] 27))
  have HK3 := Aside0.mk (blk_new w2 (.cells #[.int .i64 r1, .int .i64 r2] 27))
  refine (linkhouseref2_UnwindFault.calls k' A c l r1 r2 _ HR3.out hcl HV'.out).mono ?_
  rintro e w3 ⟨rfl, hb⟩
  have HB4 := Aside0.mk (below_then HB3.out HB3.out.size hb)
  have HK4 := Aside0.mk (blk_below HK3.out hb)
  clear hb HB1 HB2 HB3 HK3
  have hq0 : w3.cell? ⟨w2.heap.size, 0, none⟩ = some (.int .i64 r1) := (blk_cell HK4.out 0).trans rfl
  have hq1 : w3.cell? ⟨w2.heap.size, 1, none⟩ = some (.int .i64 r2) := (blk_cell HK4.out 1).trans rfl
  have hlt : w2.heap.size < w3.heap.size := blk_lt HK4.out
  go_wp2_with fail
  go_ret
  exact ⟨by simp, below_alloc' HB4.out _⟩

set_option maxHeartbeats 2000000 in
set_option maxRecDepth 100000 in
theorem f10_ok (A : Option Addr) (c : Nat) (l : List S48) (w : World) (hr : Kd.C k48 w A l.length l) (hcl : l.length ≤ c) (hv : (vFault l).1 = 0) :
    Calls Try.prog 10 #[.slice A l.length c] w (LawPost w) := by
  obtain ⟨hv0, hV⟩ := valid_of l hv
  obtain ⟨k, hk⟩ := validate_is l
  obtain ⟨k', hk'⟩ := fault_is l
  rw [hv0] at hk hk'
  have HV := Aside0.mk hk
  have HV' := Aside0.mk hk'
  have HVal := Aside0.mk hV
  have hlen := hV.len
  clear hk hk' hv hv0 hV
  have HR := Aside0.mk hr
  clear hr
  have hu27 := Try.underlying27
  go_enter Try.func10, Try.ntmps10
  go_wp2_with fail
  refine (f27_any w).mono ?_
  rintro e w1 ⟨rfl, hb⟩
  have HB1 := Aside0.mk hb
  have HR1 := Aside0.mk (Kd.C_below HR.out hb)
  clear hb
  go_wp2_with fail
  refine (f35_ok k A c l _ HR1.out hcl HV.out hlen HVal.out.small).mono ?_
  rintro e w2 ⟨v, rfl, ho, hb⟩
  obtain ⟨bs, hbs⟩ : ∃ bs, nc l.length ++ codeFrom z48 l = bs := ⟨_, rfl⟩
  rw [hbs] at ho
  have HBS := Aside0.mk hbs
  clear hbs
  obtain ⟨A2, C2, rfl⟩ := own_slice ho
  have HB2 := Aside0.mk (below_then HB1.out HB1.out.size hb)
  have HR2 := Aside0.mk (Kd.C_below HR1.out hb)
  have HO2 := Aside0.mk (bytes_C ho)
  have HL2 := Aside0.mk (own_le ho)
  clear hb ho
  go_wp2_with fail
  have HB3 := Aside0.mk (below_alloc' HB2.out (.cells #[.int .i64 0, .int .i64 0] 27))
  have HR3 := Aside0.mk (Kd.C_alloc HR2.out (.cells #[.int .i64 0, .int .i64 0] 27))
  have HO3 := Aside0.mk (Kd.C_alloc HO2.out (.cells #[.int .i64 0, .int .i64 0] 27))
  have HK3 := Aside0.mk (blk_new w2 (.cells #[.int .i64 0, .int .i64 0] 27))
  refine (linkhouseref2_UnwindFault.calls k' A c l 0 0 _ HR3.out hcl HV'.out).mono ?_
  rintro e w3 ⟨rfl, hb⟩
  have HB4 := Aside0.mk (below_alloc' (below_then HB3.out HB3.out.size hb) (.cells #[.int .i64 0, .int .i64 0] 27))
  have HR4 := Aside0.mk (Kd.C_alloc (Kd.C_below HR3.out hb) (.cells #[.int .i64 0, .int .i64 0] 27))
  have HO4 := Aside0.mk (Kd.C_alloc (Kd.C_below HO3.out hb) (.cells #[.int .i64 0, .int .i64 0] 27))
  have hb3 := blk_below HK3.out hb
  have hlt : w2.heap.size < w3.heap.size := blk_lt hb3
  have hq0 : w3.cell? ⟨w2.heap.size, 0, none⟩ = some (.int .i64 0) := (blk_cell hb3 0).trans rfl
  clear hb hb3 HB1 HB2 HB3 HK3 HR1 HR2 HR3
  go_wp2_with fail
  refine (f36_any A c l _ HR4.out hcl hlen HVal.out.small).mono ?_
  rintro e w5 ⟨v5, rfl, ho, hb⟩
  rw [HBS.out] at ho
  obtain ⟨A5, C5, rfl, hle5, hc5⟩ := Kd.R_reads ho
  have HB6 := Aside0.mk (below_then HB4.out HB4.out.size hb)
  have HO6 := Aside0.mk (Kd.C_below HO4.out hb)
  have HP6 := Aside0.mk hc5
  have HL6 := Aside0.mk hle5
  clear hb ho hc5 hle5
  go_wp2_with fail
  refine (linkhouseref1_Bytes.calls A2 C2 bs A5 C5 bs true _ HO6.out HL2.out HP6.out HL6.out (by unfold linkhouseref1_Bytes.f; simp)).mono ?_
  rintro e w6 ⟨rfl, hd⟩
  have HB7 := Aside0.mk (below_then HB6.out HB6.out.size hd.below)
  clear hd
  go_wp2_with fail
  go_ret
  exact ⟨rfl, HB7.out⟩
theorem f10_all (A : Option Addr) (c : Nat) (l : List S48) (w : World) (hr : Kd.C k48 w A l.length l) (hcl : l.length ≤ c) : Calls Try.prog 10 #[.slice A l.length c] w (LawPost w) := by
  by_cases h : (vFault l).1 = 0
  · exact f10_ok A c l w hr hcl h
  · exact f10_bad A c l w hr hcl h
end Go.Proofs.Ytillcdcmhdofbaa.Un
