/- The statement on unwind.Merge, walked: the call returns true for every list of rows. -/
import Derived.Test.YtillcdcmhdofbaaUnQ
import Derived.Test.YtillcdcmhdofbaaUnU
import Derived.Test.YtillcdcmhdofbaaUnG
import Derived.Test.YtillcdcmhdofbaaUnZ
import Derived.IntWalk
import Derived.BigQuiet
namespace Go.Proofs.Ytillcdcmhdofbaa.Un
open Go.RowKit Go.Proofs.YtillcdcmhdofbaaW.PrintWords Go.Proofs.YtillcdcmhdofbaaW.PrintLast Go.Proofs.YtillcdcmhdofbaaW.PrintMore
open Go.Proofs.Ytillcdcmhdofbaa.PUnwindUnique
set_option linter.unusedVariables false
set_option linter.unusedSimpArgs false
attribute [local go_sem high] eqA27
def LawPost (w : World) (e : Ending) (w' : World) : Prop := e = .returned (.bool true) ∧ Below w.heap.size w w'

set_option maxHeartbeats 4000000 in
set_option maxRecDepth 100000 in
theorem f8_bad (A : Option Addr) (c : Nat) (l : List S48) (w : World) (hr : Kd.C k48 w A l.length l) (hcl : l.length ≤ c) (hv : (vFault l).1 ≠ 0) :
    Calls Try.prog 8 #[.slice A l.length c] w (LawPost w) := by
  obtain ⟨k, hk⟩ := merge_bad l hv
  obtain ⟨k', hk'⟩ := fault_is l
  have HM := Aside0.mk hk
  have HV' := Aside0.mk (show linkhouseref2_UnwindFault.f k' l = some ((vFault l).1, (vFault l).2) from hk')
  clear hk hk'
  generalize (vFault l).1 = r1 at hv HM HV'
  generalize (vFault l).2 = r2 at HM HV'
  have hne : (r1 == 0) = false := by simpa using hv
  have hne' : (r1 != 0) = true := by simpa using hv
  have HR := Aside0.mk hr
  clear hr hv
  have hu27 := Try.underlying27
  go_enter Try.func8, Try.ntmps8
  go_wp2_with fail
  refine (f27_any w).mono ?_
  rintro e w1 ⟨rfl, hb⟩
  have HB1 := Aside0.mk hb
  have HR1 := Aside0.mk (Kd.C_below HR.out hb)
  clear hb
  go_wp2_with fail
  refine (unwind_Merge.calls k A c l [] r1 r2 _ HR1.out hcl HM.out).mono ?_
  rintro e w2 ⟨v, rfl, hp, hb⟩
  obtain ⟨A2, C2, rfl, _, _⟩ := Kd.R_reads hp
  have HB2 := Aside0.mk (below_then HB1.out HB1.out.size hb)
  have HR2 := Aside0.mk (Kd.C_below HR1.out hb)
  clear hb hp
  go_wp2_with fail
  have HB3 := Aside0.mk (below_alloc' HB2.out (.cells #[.int .i64 r1, .int .i64 r2] 27))
  have HR3 := Aside0.mk (Kd.C_below HR2.out (below_alloc (Below.refl _ _) (.cells #[.int .i64 r1, .int .i64 r2] 27)))
  have HK3 := Aside0.mk (blk_new w2 (.cells #[.int .i64 r1, .int .i64 r2] 27))
  refine (linkhouseref2_UnwindFault.calls k' A c l r1 r2 _ HR3.out hcl HV'.out).mono ?_
  rintro e w3 ⟨rfl, hb⟩
  have HB4 := Aside0.mk (below_then HB3.out HB3.out.size hb)
  have HK4 := Aside0.mk (blk_below HK3.out hb)
  clear hb HB1 HB2 HB3 HK3
  have hq0 : w3.cell? ⟨w2.heap.size, 0, none⟩ = some (.int .i64 r1) := (blk_cell HK4.out 0).trans rfl
  have hq1 : w3.cell? ⟨w2.heap.size, 1, none⟩ = some (.int .i64 r2) := (blk_cell HK4.out 1).trans rfl
  have hlt : w2.heap.size < w3.heap.size := blk_lt HK4.out
  go_wp2_with fail
  go_ret
  exact ⟨by simp, below_alloc' HB4.out _⟩

set_option maxHeartbeats 4000000 in
set_option maxRecDepth 100000 in
theorem f8_ok (A : Option Addr) (c : Nat) (l : List S48) (w : World) (hr : Kd.C k48 w A l.length l) (hcl : l.length ≤ c) (hv : (vFault l).1 = 0) :
    Calls Try.prog 8 #[.slice A l.length c] w (LawPost w) := by
  obtain ⟨hv0, hV⟩ := valid_of l hv
  obtain ⟨k, hk⟩ := merge_ok l hV hv0
  obtain ⟨k', hk'⟩ := fault_is l
  rw [hv0] at hk'
  have HV := Aside0.mk hk
  have HV' := Aside0.mk hk'
  have HVal := Aside0.mk hV
  have hlen := hV.len
  clear hk hk' hv hv0 hV
  have HR := Aside0.mk hr
  clear hr
  have hu27 := Try.underlying27
  have hu48 := Try.underlying48
  go_enter Try.func8, Try.ntmps8
  go_wp2_with fail
  refine (f27_any w).mono ?_
  rintro e w1 ⟨rfl, hb⟩
  have HB1 := Aside0.mk hb
  have HR1 := Aside0.mk (Kd.C_below HR.out hb)
  clear hb
  go_wp2_with fail
  refine (unwind_Merge.calls k A c l (mrg l l.length) 0 0 _ HR1.out hcl HV.out).mono ?_
  rintro e w2 ⟨v, rfl, hp, hb⟩
  obtain ⟨A2, C2, rfl, hle2, hc2⟩ := Kd.R_reads hp
  have HB2 := Aside0.mk (below_then HB1.out HB1.out.size hb)
  have HR2 := Aside0.mk (Kd.C_below HR1.out hb)
  have HP2 := Aside0.mk hc2
  have HL2 := Aside0.mk hle2
  clear hb hp hle2 hc2
  go_wp2_with fail
  have HB3 := Aside0.mk (below_alloc' HB2.out (.cells #[.int .i64 0, .int .i64 0] 27))
  have HR3 := Aside0.mk (Kd.C_below HR2.out (below_alloc (Below.refl _ _) (.cells #[.int .i64 0, .int .i64 0] 27)))
  have HP3 := Aside0.mk (Kd.C_below HP2.out (below_alloc (Below.refl _ _) (.cells #[.int .i64 0, .int .i64 0] 27)))
  have HK3 := Aside0.mk (blk_new w2 (.cells #[.int .i64 0, .int .i64 0] 27))
  refine (linkhouseref2_UnwindFault.calls k' A c l 0 0 _ HR3.out hcl HV'.out).mono ?_
  rintro e w3 ⟨rfl, hb⟩
  have HB4 := Aside0.mk (below_alloc' (below_then HB3.out HB3.out.size hb) (.cells #[.int .i64 0, .int .i64 0] 27))
  have HR4 := Aside0.mk (Kd.C_below (Kd.C_below HR3.out hb) (below_alloc (Below.refl _ _) (.cells #[.int .i64 0, .int .i64 0] 27)))
  have HP4 := Aside0.mk (Kd.C_below (Kd.C_below HP3.out hb) (below_alloc (Below.refl _ _) (.cells #[.int .i64 0, .int .i64 0] 27)))
  have HK4 := Aside0.mk (blk_alloc (blk_below HK3.out hb) (.cells #[.int .i64 0, .int .i64 0] 27))
  clear hb HB1 HB2 HB3 HK3 HR1 HR2 HR3 HP2 HP3
  go_wp2_with fail
  generalize w3.alloc (.cells #[.int .i64 0, .int .i64 0] 27) = wS at HB4 HR4 HP4 HK4 ⊢
  go_loopg [6, 7] l.length (fun kq v i w' => ∃ k : Nat, i = .int .i64 k ∧ k ≤ l.length ∧ Aside0 (l.length - k ≤ kq) ∧ Aside0 (Kd.R k48 48 w' wS.heap.size (fun _ => True) v (mrg l k)) ∧ Aside0 (Below wS.heap.size wS w'))
  case atStart => exact ⟨0, rfl, Nat.zero_le _, ⟨by omega⟩, ⟨Kd.R_nil _ _ _ _ _⟩, ⟨Below.refl _ _⟩⟩
  case round =>
    obtain ⟨k, rfl, hk, HM, HO, HB⟩ := hrel
    have hml := mrg_len l k
    have HML := Aside0.mk hml
    clear hml
    by_cases hlt : k < l.length
    · obtain ⟨ad, hA, hx0, hx1, hx2, hx3⟩ := at_T48 (Kd.C_below HR4.out HB.out) (k : Int) (by omega) (by omega)
      cases hA
      rw [Int.toNat_natCast] at hx0 hx1 hx2 hx3
      obtain ⟨x, hx⟩ : ∃ x, rd_T48 l (k : Int) = x := ⟨_, rfl⟩
      rw [hx] at hx0 hx1 hx2 hx3
      have HX := Aside0.mk hx
      clear hx
      have hk0 : (0 : Int) ≤ (k : Int) := by omega
      have hk1 : (k : Int) < (l.length : Int) := by omega
      rcases Nat.eq_zero_or_pos k with h0 | h0
      · have hz : ((k : Int) == 0) = true := by simp [h0]
        have HE := Aside0.mk (show mrg l (k + 1) = mrg l k ++ [x] by rw [mrg, HX.out, if_pos (by unfold keeps; simp [h0])])
        clear h0
        go_wp2_with fail
        go_quiet (fail)
        have HO1 := Aside0.mk (Kd.R_drewN HO.out nq)
        have HB1 := Aside0.mk (pw_below_drewN HB.out nq)
        have hd0 : (wr.drewN nq).cell? (ad.add (k * 4)) = some (.int .i64 x.f0) := hx0
        have hd1 : (wr.drewN nq).cell? ⟨(ad.add (k * 4)).block, (ad.add (k * 4)).off + 1, none⟩ = some (.int .i64 x.f1) := hx1
        have hd2 : (wr.drewN nq).cell? ⟨(ad.add (k * 4)).block, (ad.add (k * 4)).off + 2, none⟩ = some (.int .i64 x.f2) := hx2
        have hd3 : (wr.drewN nq).cell? ⟨(ad.add (k * 4)).block, (ad.add (k * 4)).off + 3, none⟩ = some (.int .i64 x.f3) := hx3
        clear hx0 hx1 hx2 hx3
        generalize wr.drewN nq = wD at HO1 HB1 hd0 hd1 hd2 hd3 ⊢
        go_wp2_with (at_builtin; refine append48 (w0 := wS) wS.heap.size rfl (.tmp 49) (.tmp 54) rfl u6 (mrg l k) x (fun _ => True) wD.heap.size rfl rfl rfl (fun _ _ => trivial) HO1.out HB1.out HB1.out.size ?cA ?_; (case cA => have := HML.out; omega); intro v1 w4 hown1 hB1 hg1; have HO2 := Aside0.mk hown1; have HB2 := Aside0.mk hB1; clear hown1 hB1 hg1)
        go_roundg (l.length - (k + 1))
        case measure => have := HM.out; omega
        case rel => exact ⟨k + 1, by go_num, by omega, ⟨Nat.le_refl _⟩, ⟨by rw [HE.out]; exact HO2.out⟩, HB2⟩
      · have hz : ((k : Int) == 0) = false := by rw [beq_eq_false_iff_ne]; omega
        obtain ⟨ad', hA, hy0, hy1, hy2, hy3⟩ := at_T48 (Kd.C_below HR4.out HB.out) ((k : Int) - 1) (by omega) (by omega)
        cases hA
        rw [show ((k : Int) - 1).toNat = k - 1 by omega] at hy0 hy1 hy2 hy3
        obtain ⟨y, hy⟩ : ∃ y, rd_T48 l ((k : Int) - 1) = y := ⟨_, rfl⟩
        rw [hy] at hy0 hy1 hy2 hy3
        have HY := Aside0.mk hy
        clear hy
        have he := IntWalk.i64_in ((k : Int) - 1) (by omega)
        have hj0 : (0 : Int) ≤ (k : Int) - 1 := by omega
        have hj1 : (k : Int) - 1 < (l.length : Int) := by omega
        have hj2 : ((k : Int) - 1).toNat = k - 1 := by omega
        have hj3 : (1 : Int) ≤ (k : Int) := by omega
        have hj4 : (k : Int) ≤ (l.length : Int) := by omega
        have hj5 : 1 ≤ k := by omega
        have hj6 : k ≤ l.length := by omega
        have H0 := Aside0.mk h0
        clear h0
        go_wp2_with fail
        go_region_held3 (fun w' => w'.cell? (ad.add ((k - 1) * 4)) = some (.int .i64 y.f0) ∧ w'.cell? ⟨(ad.add ((k - 1) * 4)).block, (ad.add ((k - 1) * 4)).off + 1, none⟩ = some (.int .i64 y.f1) ∧ w'.cell? ⟨(ad.add ((k - 1) * 4)).block, (ad.add ((k - 1) * 4)).off + 2, none⟩ = some (.int .i64 y.f2) ∧ w'.cell? ⟨(ad.add ((k - 1) * 4)).block, (ad.add ((k - 1) * 4)).off + 3, none⟩ = some (.int .i64 y.f3) ∧ w'.cell? (ad.add (k * 4)) = some (.int .i64 x.f0) ∧ w'.cell? ⟨(ad.add (k * 4)).block, (ad.add (k * 4)).off + 1, none⟩ = some (.int .i64 x.f1) ∧ w'.cell? ⟨(ad.add (k * 4)).block, (ad.add (k * 4)).off + 2, none⟩ = some (.int .i64 x.f2) ∧ w'.cell? ⟨(ad.add (k * 4)).block, (ad.add (k * 4)).off + 3, none⟩ = some (.int .i64 x.f3)) (first | go_keep | exact ⟨pw_cell_below hbk hy0, pw_cell_below hbk hy1, pw_cell_below hbk hy2, pw_cell_below hbk hy3, pw_cell_below hbk hx0, pw_cell_below hbk hx1, pw_cell_below hbk hx2, pw_cell_below hbk hx3⟩)
          (first | (go_at_call 33; refine (f33_any y x _).mono ?_; rintro e w4 ⟨rfl, hbk⟩))
        have HO1 := Aside0.mk (Kd.R_below (Kd.R_drew HO.out) hbk)
        have HB1 := Aside0.mk (below_then (below_drew1 HB.out) (below_drew1 HB.out).size hbk)
        have hd0 := pw_cell_below hbk hx0
        have hd1 := pw_cell_below hbk hx1
        have hd2 := pw_cell_below hbk hx2
        have hd3 := pw_cell_below hbk hx3
        have hkk : decide (0 < k) = true := by simp [H0.out]
        clear hbk hx0 hx1 hx2 hx3 hy0 hy1 hy2 hy3 he hj0 hj1 hj2 hj3 hj4 hj5 hj6
        cases hs : same y x with
        | true =>
          have HE := Aside0.mk (show mrg l (k + 1) = mrg l k by rw [mrg, if_neg (by unfold keeps; rw [HX.out, HY.out, hs, hkk]; decide)])
          clear hs hkk
          go_wp2_with fail
          go_roundg (l.length - (k + 1))
          case measure => have := HM.out; omega
          case rel => exact ⟨k + 1, by go_num, by omega, ⟨Nat.le_refl _⟩, ⟨by rw [HE.out]; exact HO1.out⟩, HB1⟩
        | false =>
          have HE := Aside0.mk (show mrg l (k + 1) = mrg l k ++ [x] by rw [mrg, HX.out, if_pos (by unfold keeps; rw [HX.out, HY.out, hs, hkk]; decide)])
          clear hs hkk
          go_wp2_with (at_builtin; refine append48 (w0 := wS) wS.heap.size rfl (.tmp 49) (.tmp 54) rfl u6 (mrg l k) x (fun _ => True) w4.heap.size rfl rfl rfl (fun _ _ => trivial) HO1.out HB1.out HB1.out.size ?cA ?_; (case cA => have := HML.out; omega); intro v1 w5 hown1 hB1 hg1; have HO2 := Aside0.mk hown1; have HB2 := Aside0.mk hB1; clear hown1 hB1 hg1)
          go_roundg (l.length - (k + 1))
          case measure => have := HM.out; omega
          case rel => exact ⟨k + 1, by go_num, by omega, ⟨Nat.le_refl _⟩, ⟨by rw [HE.out]; exact HO2.out⟩, HB2⟩
    · obtain rfl : k = l.length := by omega
      have hq0 : wr.cell? ⟨w2.heap.size, 0, none⟩ = some (.int .i64 0) := (blk_cell (blk_below HK4.out HB.out) 0).trans rfl
      have HP5 := Aside0.mk (Kd.C_below HP4.out HB.out)
      have HB5 := Aside0.mk (below_then HB4.out HB4.out.size HB.out)
      have ho := HO.out
      obtain ⟨A3, C3, rfl, hle3, hc3⟩ := Kd.R_reads ho
      have HC3 := Aside0.mk hc3
      clear ho hle3 hc3
      go_wp2_with fail
      refine (f34_eq A2 A3 C2 C3 (mrg l l.length) _ HP5.out HC3.out).mono ?_
      rintro e w5 ⟨rfl, hd⟩
      have HB6 := Aside0.mk (below_then HB5.out HB5.out.size hd)
      clear hd hq0
      go_wp2_with fail
      go_ret
      exact ⟨rfl, HB6.out⟩
theorem f8_all (A : Option Addr) (c : Nat) (l : List S48) (w : World) (hr : Kd.C k48 w A l.length l) (hcl : l.length ≤ c) : Calls Try.prog 8 #[.slice A l.length c] w (LawPost w) := by
  by_cases h : (vFault l).1 = 0
  · exact f8_ok A c l w hr hcl h
  · exact f8_bad A c l w hr hcl h
end Go.Proofs.Ytillcdcmhdofbaa.Un
