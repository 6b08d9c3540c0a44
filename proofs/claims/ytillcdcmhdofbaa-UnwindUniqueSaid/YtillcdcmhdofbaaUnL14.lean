/- The statement that bytes decoded without fault are the bytes that the rows encode to, walked: the call returns true. -/
import Derived.Test.YtillcdcmhdofbaaUnV
import Derived.Test.YtillcdcmhdofbaaUnW
import Derived.Test.YtillcdcmhdofbaaUnH
import Derived.Test.YtillcdcmhdofbaaUnG
import Derived.BigQuiet
namespace Go.Proofs.Ytillcdcmhdofbaa.Un
open Go.RowKit Go.Proofs.YtillcdcmhdofbaaW.PrintWords Go.Proofs.YtillcdcmhdofbaaW.PrintLast Go.Proofs.YtillcdcmhdofbaaW.PrintMore
open Go.Proofs.Ytillcdcmhdofbaa.PUnwindUnique
set_option linter.unusedVariables false
set_option linter.unusedSimpArgs false
attribute [local go_sem high] eqA27
def LawPost (w : World) (e : Ending) (w' : World) : Prop := e = .returned (.bool true) ∧ Below w.heap.size w w'
theorem fld27 (x y : Value) (w : World) : (Instr.field 27 (.agg #[x, y]) 0).run Try.prog w = .ok x w := by kernel_rfl
attribute [local go_sem] fld27

set_option maxHeartbeats 4000000 in
set_option maxRecDepth 100000 in
theorem f14_all (A : Option Addr) (cp : Nat) (bs : List Int) (w : World) (hr : Kd.C (Kd.int .u8) w A bs.length bs) (hcl : bs.length ≤ cp) (hB : Bytes bs) :
    Calls Try.prog 14 #[.slice A bs.length cp] w (LawPost w) := by
  have HR := Aside0.mk hr
  have HBY := Aside0.mk hB
  have hbl : bs.length ≤ 9223372036854775807 := hr.2.1
  clear hr hB
  have hu27 := Try.underlying27
  go_enter Try.func14, Try.ntmps14
  go_wp2_with fail
  refine (f27_any w).mono ?_
  rintro e w1 ⟨rfl, hb⟩
  have HB1 := Aside0.mk hb
  have HR1 := Aside0.mk (Kd.C_below HR.out hb)
  clear hb
  go_wp2_with fail
  refine (f40_any A cp bs _ HR1.out HBY.out).mono ?_
  rintro e w2 ⟨v, l, c, i, rfl, ho, hb, hu⟩
  obtain ⟨A2, C2, rfl⟩ := Kd.R_slice ho
  have HL2 := Aside0.mk (Kd.R_reads' ho).2.1
  have HO3 := Aside0.mk (Kd.C_alloc (Kd.R_reads' ho).2.2 (.cells #[.int .i64 0, .int .i64 0] 27))
  have HB2 := Aside0.mk (below_then HB1.out HB1.out.size hb)
  have HB3 := Aside0.mk (below_alloc' HB2.out (.cells #[.int .i64 0, .int .i64 0] 27))
  have HR3 := Aside0.mk (Kd.C_alloc (Kd.C_below HR1.out hb) (.cells #[.int .i64 0, .int .i64 0] 27))
  clear hb ho HR1 HB1
  rcases hu with ⟨h1, rfl, rfl, rfl⟩ | ⟨h1, rfl, rfl, rfl, h2⟩ | ⟨h1, rfl, rfl, h2, h3⟩
  · have hd : decide ((bs.length : Int) > 200000) = true := by simpa using by omega
    have HBX := Aside0.mk (below_alloc' HB2.out (.cells #[.int .i64 2, .int .i64 (-2)] 27))
    have hG := Aside0.mk (blk_new w2 (.cells #[.int .i64 2, .int .i64 (-2)] 27))
    clear HB3 HO3 HR3 HL2
    go_wp2_with fail
    clear hd
    (generalize hWS : w2.alloc (.cells #[.int .i64 2, .int .i64 (-2)] 27) = wS at HBX hG ⊢)
    clear hWS
    generalize w2.heap.size = g at hG ⊢
    have hq0 : wS.cell? ⟨g, 0, none⟩ = some (.int .i64 2) := (blk_cell hG.out 0).trans rfl
    have hq1 : wS.cell? ⟨g, 1, none⟩ = some (.int .i64 (-2)) := (blk_cell hG.out 1).trans rfl
    go_region_held3 (fun w' => w'.cell? ⟨g, 0, none⟩ = some (.int .i64 2) ∧ w'.cell? ⟨g, 1, none⟩ = some (.int .i64 (-2))) (first | go_keep | exact ⟨pw_cell_below hbk hq0, pw_cell_below hbk hq1⟩)
      (first | (go_at_call 39; refine (linkhouseref1_At.calls 2 (-2) 2 (-2) _ rfl).mono ?_; rintro e w4 ⟨rfl, hbk⟩))
    all_goals go_wp2_with fail
    all_goals go_ret
    all_goals exact ⟨rfl, by first | exact below_then HBX.out HBX.out.size hbk | exact below_then (below_drew1 HBX.out) (below_drew1 HBX.out).size hbk⟩
  · have hd : decide ((bs.length : Int) > 200000) = false := by simpa using by omega
    have HBX := Aside0.mk (below_alloc' HB2.out (.cells #[.int .i64 17, .int .i64 (-3)] 27))
    have hG := Aside0.mk (blk_new w2 (.cells #[.int .i64 17, .int .i64 (-3)] 27))
    clear HB3 HO3 HR3 HL2
    (generalize hWS : w2.alloc (.cells #[.int .i64 17, .int .i64 (-3)] 27) = wS at HBX hG)
    have hq0 : wS.cell? ⟨w2.heap.size, 0, none⟩ = some (.int .i64 17) := (blk_cell hG.out 0).trans rfl
    have hq1 : wS.cell? ⟨w2.heap.size, 1, none⟩ = some (.int .i64 (-3)) := (blk_cell hG.out 1).trans rfl
    go_wp2_with fail
    clear hd hWS
    generalize w2.heap.size = g at hG hq0 hq1 ⊢
    go_wp2_with fail
    go_region_held3 (fun w' => w'.cell? ⟨g, 0, none⟩ = some (.int .i64 17) ∧ w'.cell? ⟨g, 1, none⟩ = some (.int .i64 (-3))) (first | go_keep | exact ⟨pw_cell_below hbk hq0, pw_cell_below hbk hq1⟩)
      (first | (go_at_call 39; refine (linkhouseref1_At.calls 17 (-3) 17 (-3) _ rfl).mono ?_; rintro e w4 ⟨rfl, hbk⟩))
    all_goals go_wp2_with fail
    all_goals go_ret
    all_goals exact ⟨rfl, by first | exact below_then HBX.out HBX.out.size hbk | exact below_then (below_drew1 HBX.out) (below_drew1 HBX.out).size hbk⟩
  · have hd : decide ((bs.length : Int) > 200000) = false := by simpa using by omega
    have HV := valid_of l h3
    have hlen := HV.2.len
    obtain ⟨k', hk'⟩ := fault_is l
    have HVF := Aside0.mk (show linkhouseref2_UnwindFault.f k' l = some (0, 0) by rw [hk', HV.1])
    have HVal := Aside0.mk HV.2
    have HBK := Aside0.mk (all_back bs HBY.out l h2 HV.2)
    clear hk' HV h2 HBY
    go_wp2_with fail
    clear hd
    refine (linkhouseref2_UnwindFault.calls k' A2 C2 l 0 0 _ HO3.out HL2.out HVF.out).mono ?_
    rintro e w3 ⟨rfl, hb⟩
    have HB4 := Aside0.mk (below_then HB3.out HB3.out.size hb)
    have HR4 := Aside0.mk (Kd.C_below HR3.out hb)
    have HO4 := Aside0.mk (Kd.C_below HO3.out hb)
    clear hb HB3 HR3 HO3
    go_wp2_with fail
    refine (f36_any A2 C2 l _ HO4.out HL2.out hlen HVal.out.small).mono ?_
    rintro e w5 ⟨v5, rfl, ho, hb⟩
    rw [HBK.out] at ho
    obtain ⟨A5, C5, rfl, hle5, hc5⟩ := Kd.R_reads ho
    have HB6 := Aside0.mk (below_then HB4.out HB4.out.size hb)
    have HR6 := Aside0.mk (Kd.C_below HR4.out hb)
    have HP6 := Aside0.mk hc5
    have HL6 := Aside0.mk hle5
    clear hb ho hc5 hle5
    go_wp2_with fail
    refine (linkhouseref1_Bytes.calls A5 C5 bs A cp bs true _ HP6.out HL6.out HR6.out hcl (by unfold linkhouseref1_Bytes.f; simp)).mono ?_
    rintro e w6 ⟨rfl, hd⟩
    have HB7 := Aside0.mk (below_then HB6.out HB6.out.size hd.below)
    clear hd
    go_wp2_with fail
    go_ret
    exact ⟨rfl, HB7.out⟩
end Go.Proofs.Ytillcdcmhdofbaa.Un
