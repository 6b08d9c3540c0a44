/- The statement that merged rows apply the same rules, walked: the call returns true for every list of rows and every offset. -/
import Derived.Test.YtillcdcmhdofbaaUnM
import Derived.Test.YtillcdcmhdofbaaUnF
import Derived.Test.YtillcdcmhdofbaaUnZ
namespace Go.Proofs.Ytillcdcmhdofbaa.Un
open Go.RowKit Go.Proofs.YtillcdcmhdofbaaW.PrintWords Go.Proofs.YtillcdcmhdofbaaW.PrintLast Go.Proofs.YtillcdcmhdofbaaW.PrintMore
open Go.Proofs.Ytillcdcmhdofbaa.PUnwindUnique
set_option linter.unusedVariables false
set_option linter.unusedSimpArgs false
def LawPost (w : World) (e : Ending) (w' : World) : Prop := e = .returned (.bool true) ∧ Below w.heap.size w w'

set_option maxHeartbeats 4000000 in
set_option maxRecDepth 100000 in
theorem f9_bad (A : Option Addr) (c : Nat) (l : List S48) (off : Int) (w : World) (hr : Kd.C k48 w A l.length l) (hcl : l.length ≤ c) (hv : (vFault l).1 ≠ 0) :
    Calls Try.prog 9 #[.slice A l.length c, .int .i64 off] w (LawPost w) := by
  obtain ⟨k, hk⟩ := merge_bad l hv
  have HM := Aside0.mk hk
  clear hk
  generalize (vFault l).1 = r1 at hv HM
  generalize (vFault l).2 = r2 at HM
  have hne' : (r1 != 0) = true := by simpa using hv
  have HR := Aside0.mk hr
  clear hr hv
  have hu27 := Try.underlying27
  go_enter Try.func9, Try.ntmps9
  go_wp2_with fail
  refine (f27_any w).mono ?_
  rintro e w1 ⟨rfl, hb⟩
  have HB1 := Aside0.mk hb
  have HR1 := Aside0.mk (Kd.C_below HR.out hb)
  clear hb
  go_wp2_with fail
  refine (unwind_Merge.calls k A c l [] r1 r2 _ HR1.out hcl HM.out).mono ?_
  rintro e w2 ⟨v, rfl, hp, hb⟩
  obtain ⟨A2, C2, rfl, _, _⟩ := Kd.R_reads hp
  have HB2 := Aside0.mk (below_then HB1.out HB1.out.size hb)
  clear hb hp
  go_wp2_with fail
  go_ret
  exact ⟨by simp, below_alloc' HB2.out _⟩

set_option maxHeartbeats 4000000 in
set_option maxRecDepth 100000 in
theorem f9_ok (A : Option Addr) (c : Nat) (l : List S48) (off : Int) (w : World) (hr : Kd.C k48 w A l.length l) (hcl : l.length ≤ c) (hv : (vFault l).1 = 0) :
    Calls Try.prog 9 #[.slice A l.length c, .int .i64 off] w (LawPost w) := by
  obtain ⟨hv0, hV⟩ := valid_of l hv
  have hVm := mrg_valid l hV
  have hag := mrg_again l hV
  obtain ⟨k, hk⟩ := merge_ok l hV hv0
  obtain ⟨k1, hk1⟩ := validate_is l
  rw [hv0] at hk1
  obtain ⟨m, hm⟩ : ∃ m, mrg l l.length = m := ⟨_, rfl⟩
  rw [hm] at hk hVm hag
  have hvm : vFault m = (0, 0) := vf_zero hVm
  obtain ⟨k2, hk2⟩ := merge_ok m hVm hvm
  obtain ⟨k3, hk3⟩ := validate_is m
  rw [hvm] at hk3
  rw [hag] at hk2
  have HM := Aside0.mk hk
  have HM2 := Aside0.mk hk2
  have HV1 := Aside0.mk hk1
  have HV2 := Aside0.mk hk3
  have HVal := Aside0.mk hV
  have HVm := Aside0.mk hVm
  have HEQ := Aside0.mk hm
  have hlen := hV.len
  have hlenm := hVm.len
  clear hk hk1 hk2 hk3 hv hv0 hV hVm hag hm hvm
  have HR := Aside0.mk hr
  clear hr
  have hu27 := Try.underlying27
  have hu48 := Try.underlying48
  go_enter Try.func9, Try.ntmps9
  go_wp2_with fail
  refine (f27_any w).mono ?_
  rintro e w1 ⟨rfl, hb⟩
  have HB1 := Aside0.mk hb
  have HR1 := Aside0.mk (Kd.C_below HR.out hb)
  clear hb
  go_wp2_with fail
  refine (unwind_Merge.calls k A c l m 0 0 _ HR1.out hcl HM.out).mono ?_
  rintro e w2 ⟨v, rfl, hp, hb⟩
  obtain ⟨A2, C2, rfl, hle2, hc2⟩ := Kd.R_reads hp
  have HB2 := Aside0.mk (below_alloc' (below_then HB1.out HB1.out.size hb) (.cells #[.int .i64 0, .int .i64 0] 27))
  have HR2 := Aside0.mk (Kd.C_alloc (Kd.C_below HR1.out hb) (.cells #[.int .i64 0, .int .i64 0] 27))
  have HP2 := Aside0.mk (Kd.C_alloc hc2 (.cells #[.int .i64 0, .int .i64 0] 27))
  have HL2 := Aside0.mk hle2
  clear hb hp hle2 hc2 HB1 HR1
  go_wp2_with fail
  refine (f28_ok k1 A c l off _ HR2.out hcl HV1.out (by omega) HVal.out.rises).mono ?_
  rintro e w3 ⟨x, b, rfl, hf, hb⟩
  have HB3 := Aside0.mk (below_then HB2.out HB2.out.size hb)
  have HP3 := Aside0.mk (Kd.C_below HP2.out hb)
  have HF1 := Aside0.mk hf
  clear hb hf HB2 HP2 HR2
  unfold ag
  go_wp2_with fail
  have HB4 := Aside0.mk (below_alloc' (below_alloc' HB3.out (.cells #[.int .i64 x.f0, .int .i64 x.f1, .int .i64 x.f2, .int .i64 x.f3] 48)) (.cells #[.int .i64 0, .int .i64 0] 27))
  have HP4 := Aside0.mk (Kd.C_alloc (Kd.C_alloc HP3.out (.cells #[.int .i64 x.f0, .int .i64 x.f1, .int .i64 x.f2, .int .i64 x.f3] 48)) (.cells #[.int .i64 0, .int .i64 0] 27))
  have HX4 := Aside0.mk (blk_alloc (blk_new w3 (.cells #[.int .i64 x.f0, .int .i64 x.f1, .int .i64 x.f2, .int .i64 x.f3] 48)) (.cells #[.int .i64 0, .int .i64 0] 27))
  have HF4 := Aside0.mk (new_snd w3 (.cells #[.int .i64 x.f0, .int .i64 x.f1, .int .i64 x.f2, .int .i64 x.f3] 48) #[.int .i64 0, .int .i64 0] (t := 27))
  refine (f28_ok k3 A2 C2 m off _ HP4.out HL2.out HV2.out (by omega) HVm.out.rises).mono ?_
  rintro e w5 ⟨y, b', rfl, hf, hb⟩
  have HB5 := Aside0.mk (below_then HB4.out HB4.out.size hb)
  have HP5 := Aside0.mk (Kd.C_below HP4.out hb)
  have HX5 := Aside0.mk (blk_below HX4.out hb)
  have HF5 := Aside0.mk (blk_below HF4.out hb)
  have hfm := found_mrg HVal.out HF1.out (by rw [HEQ.out]; exact hf)
  obtain ⟨rfl, hsame⟩ := hfm
  have HS := Aside0.mk hsame
  clear hb hf hsame HF1 HB3 HP3 HB4 HP4 HX4 HF4
  unfold ag
  go_wp2_with fail
  have HB6 := Aside0.mk (below_alloc' (below_alloc' HB5.out (.cells #[.int .i64 y.f0, .int .i64 y.f1, .int .i64 y.f2, .int .i64 y.f3] 48)) (.cells #[.int .i64 0, .int .i64 0] 27))
  have HP6 := Aside0.mk (Kd.C_alloc (Kd.C_alloc HP5.out (.cells #[.int .i64 y.f0, .int .i64 y.f1, .int .i64 y.f2, .int .i64 y.f3] 48)) (.cells #[.int .i64 0, .int .i64 0] 27))
  have HX6 := Aside0.mk (blk_alloc (blk_alloc HX5.out (.cells #[.int .i64 y.f0, .int .i64 y.f1, .int .i64 y.f2, .int .i64 y.f3] 48)) (.cells #[.int .i64 0, .int .i64 0] 27))
  have HF6 := Aside0.mk (blk_alloc (blk_alloc HF5.out (.cells #[.int .i64 y.f0, .int .i64 y.f1, .int .i64 y.f2, .int .i64 y.f3] 48)) (.cells #[.int .i64 0, .int .i64 0] 27))
  have HY6 := Aside0.mk (blk_alloc (blk_new w5 (.cells #[.int .i64 y.f0, .int .i64 y.f1, .int .i64 y.f2, .int .i64 y.f3] 48)) (.cells #[.int .i64 0, .int .i64 0] 27))
  have HG6 := Aside0.mk (new_snd w5 (.cells #[.int .i64 y.f0, .int .i64 y.f1, .int .i64 y.f2, .int .i64 y.f3] 48) #[.int .i64 0, .int .i64 0] (t := 27))
  refine (unwind_Merge.calls k2 A2 C2 m m 0 0 _ HP6.out HL2.out HM2.out).mono ?_
  rintro e w7 ⟨v7, rfl, hp, hb⟩
  obtain ⟨A7, C7, rfl, hle7, hc7⟩ := Kd.R_reads hp
  have HB7 := Aside0.mk (below_then HB6.out HB6.out.size hb)
  have HP7 := Aside0.mk (Kd.C_below HP6.out hb)
  have HQ7 := Aside0.mk hc7
  have HX7 := Aside0.mk (blk_below HX6.out hb)
  have HF7 := Aside0.mk (blk_below HF6.out hb)
  have HY7 := Aside0.mk (blk_below HY6.out hb)
  have HG7 := Aside0.mk (blk_below HG6.out hb)
  clear hb hp hle7 hc7 HB5 HP5 HX5 HF5 HB6 HP6 HX6 HF6 HY6 HG6
  have hx0 : w7.cell? ⟨w3.heap.size, 0, none⟩ = some (.int .i64 x.f0) := (blk_cell HX7.out 0).trans rfl
  have hx1 : w7.cell? ⟨w3.heap.size, 1, none⟩ = some (.int .i64 x.f1) := (blk_cell HX7.out 1).trans rfl
  have hx2 : w7.cell? ⟨w3.heap.size, 2, none⟩ = some (.int .i64 x.f2) := (blk_cell HX7.out 2).trans rfl
  have hx3 : w7.cell? ⟨w3.heap.size, 3, none⟩ = some (.int .i64 x.f3) := (blk_cell HX7.out 3).trans rfl
  have hf0 : w7.cell? ⟨w3.heap.size + 1, 0, none⟩ = some (.int .i64 0) := (blk_cell HF7.out 0).trans rfl
  have hy0 : w7.cell? ⟨w5.heap.size, 0, none⟩ = some (.int .i64 y.f0) := (blk_cell HY7.out 0).trans rfl
  have hy1 : w7.cell? ⟨w5.heap.size, 1, none⟩ = some (.int .i64 y.f1) := (blk_cell HY7.out 1).trans rfl
  have hy2 : w7.cell? ⟨w5.heap.size, 2, none⟩ = some (.int .i64 y.f2) := (blk_cell HY7.out 2).trans rfl
  have hy3 : w7.cell? ⟨w5.heap.size, 3, none⟩ = some (.int .i64 y.f3) := (blk_cell HY7.out 3).trans rfl
  have hg0 : w7.cell? ⟨w5.heap.size + 1, 0, none⟩ = some (.int .i64 0) := (blk_cell HG7.out 0).trans rfl
  have l1 : w3.heap.size < w7.heap.size := blk_lt HX7.out
  have l2 : w3.heap.size + 1 < w7.heap.size := blk_lt HF7.out
  have l3 : w5.heap.size < w7.heap.size := blk_lt HY7.out
  have l4 : w5.heap.size + 1 < w7.heap.size := blk_lt HG7.out
  have HB8 := Aside0.mk (below_alloc' HB7.out (.cells #[.int .i64 0, .int .i64 0] 27))
  have HP8 := Aside0.mk (Kd.C_alloc HP7.out (.cells #[.int .i64 0, .int .i64 0] 27))
  have HQ8 := Aside0.mk (Kd.C_alloc HQ7.out (.cells #[.int .i64 0, .int .i64 0] 27))
  clear HB7 HP7 HQ7 HX7 HF7 HY7 HG7
  go_wp2_with fail
  refine (f33_any x y _).mono ?_
  rintro e w8 ⟨rfl, hb⟩
  rw [HS.out]
  have HB9 := Aside0.mk (below_then HB8.out HB8.out.size hb)
  have HP9 := Aside0.mk (Kd.C_below HP8.out hb)
  have HQ9 := Aside0.mk (Kd.C_below HQ8.out hb)
  clear hb hx0 hx1 hx2 hx3 hf0 hy0 hy1 hy2 hy3 hg0 l1 l2 l3 l4 HB8 HP8 HQ8
  go_wp2_with fail
  refine (f34_eq A7 A2 C7 C2 m _ HQ9.out HP9.out).mono ?_
  rintro e w9 ⟨rfl, hb⟩
  have HB10 := Aside0.mk (below_then HB9.out HB9.out.size hb)
  clear hb
  go_wp2_with fail
  go_ret
  exact ⟨rfl, HB10.out⟩
theorem f9_all (A : Option Addr) (c : Nat) (l : List S48) (off : Int) (w : World) (hr : Kd.C k48 w A l.length l) (hcl : l.length ≤ c) : Calls Try.prog 9 #[.slice A l.length c, .int .i64 off] w (LawPost w) := by
  by_cases h : (vFault l).1 = 0
  · exact f9_ok A c l off w hr hcl h
  · exact f9_bad A c l off w hr hcl h
end Go.Proofs.Ytillcdcmhdofbaa.Un
