/- The statement that at each place of a line the row of this line applies, walked: the call returns true. -/
import Derived.Test.YtillcdcmhdofbaaLnL3
namespace Go.Proofs.Ytillcdcmhdofbaa.Ln
open Go.RowKit Go.Proofs.YtillcdcmhdofbaaW.PrintWords Go.Proofs.YtillcdcmhdofbaaW.PrintLast Go.Proofs.YtillcdcmhdofbaaW.PrintMore
open Go.Proofs.Ytillcdcmhdofbaa.PLinesUnique
set_option linter.unusedVariables false
set_option linter.unusedSimpArgs false
attribute [local go_sem high] eqA27 eqA25

theorem keep_set2 {w : World} {a : Addr} {g : Nat} {v : Value} (h : w.cell? a = some v) (hne : a.block ≠ g) (x y : Value) : ((w.setCell ⟨g, 0, none⟩ x).setCell ⟨g, 1, none⟩ y).cell? a = some v :=
  (cell_far (p := ⟨g, 1, none⟩) hne y).trans ((cell_far (p := ⟨g, 0, none⟩) hne x).trans h)
theorem ints_set2 {w : World} {base g n c : Nat} {A : Option Addr} {ps : List Int} {ok : Nat → Prop} {cs : Array Value} (h : Kd.R (Kd.int .i64) 3 w base ok (.slice A n c) ps) (hg : w.heap[g]? = some (.cells cs 27 (0, 0))) (x y : Value) :
    Kd.C (Kd.int .i64) ((w.setCell ⟨g, 0, none⟩ x).setCell ⟨g, 1, none⟩ y) A ps.length ps := by
  have h1 : Kd.R (Kd.int .i64) 3 (w.setCell ⟨g, 0, none⟩ x) base ok (.slice A n c) ps := ⟨h.1, (h.2.set_ hg (by decide) 0 x).imp_ (fun _ _ hp => hp)⟩
  have h2 : Kd.R (Kd.int .i64) 3 ((w.setCell ⟨g, 0, none⟩ x).setCell ⟨g, 1, none⟩ y) base ok (.slice A n c) ps := ⟨h1.1, (h1.2.set_ (blk_set hg 0 x) (by decide) 1 y).imp_ (fun _ _ hp => hp)⟩
  exact (Kd.R_reads' h2).2.2
theorem fld27 (x y : Value) (w : World) : (Instr.field 27 (.agg #[x, y]) 0).run Try.prog w = .ok x w := by kernel_rfl
attribute [local go_sem] fld27

theorem plc_mem (l : List S25) (a b : Int) (k : Nat) : ∀ v, v ∈ plc l a b k → ∃ t : Nat, t < k ∧ v = (rd_T25 l t).f0 ∧ isAt l a b t = true := by
  induction k with
  | zero => intro v hv; simp [plc] at hv
  | succ k ih =>
    intro v hv
    rw [plc] at hv
    by_cases hb : begins l a b k = true
    · rw [if_pos hb, List.mem_append, List.mem_singleton] at hv
      rcases hv with hv | rfl
      · obtain ⟨t, h1, h2⟩ := ih v hv
        exact ⟨t, by omega, h2⟩
      · unfold begins at hb
        rw [Bool.and_eq_true] at hb
        exact ⟨k, by omega, rfl, hb.1⟩
    · rw [if_neg hb] at hv
      obtain ⟨t, h1, h2⟩ := ih v hv
      exact ⟨t, by omega, h2⟩
theorem plc_head (l : List S25) (a b : Int) (hs : Rises l) (k : Nat) (hk : k ≤ l.length) : ∀ i : Nat, i < k → isAt l a b i = true → ∃ v r, plc l a b k = v :: r ∧ v ≤ (rd_T25 l i).f0 := by
  induction k with
  | zero => intro i hi; omega
  | succ k ih =>
    intro i hi ha
    rw [plc]
    by_cases hik : i < k
    · obtain ⟨v, r, h1, h2⟩ := ih (by omega) i hik ha
      split
      · exact ⟨v, r ++ [(rd_T25 l k).f0], by rw [h1]; rfl, h2⟩
      · exact ⟨v, r, h1, h2⟩
    · obtain rfl : i = k := by omega
      by_cases hb : begins l a b i = true
      · rw [if_pos hb]
        cases hp : plc l a b i with
        | nil => exact ⟨_, [], rfl, Int.le_refl _⟩
        | cons v r =>
          obtain ⟨t, h1, h2, _⟩ := plc_mem l a b i v (by rw [hp]; exact List.mem_cons_self)
          have h3 := hs t i h1 (by omega)
          exact ⟨v, r ++ [(rd_T25 l i).f0], rfl, by omega⟩
      · rw [if_neg hb]
        unfold begins at hb
        rw [ha] at hb
        simp at hb
        have h2 := ih (by omega) (i - 1) (by omega) hb.2
        obtain ⟨v, r, h3, h4⟩ := h2
        have h5 := hs (i - 1) i (by omega) (by omega)
        exact ⟨v, r, h3, by omega⟩
/-- What Find finds at an offset of row t is row t. -/
theorem found_at {l : List S25} (hs : Rises l) {t : Nat} (ht : t < l.length) {x : S25} {b : Bool} (h : Found l (rd_T25 l t).f0 x b) : b = true ∧ x = rd_T25 l t := by
  rcases h with ⟨rfl, rfl, g⟩ | ⟨rfl, j, gj, rfl, g1, g2⟩
  · have := g t ht
    omega
  · refine ⟨rfl, ?_⟩
    have e : j = t := by
      rcases Nat.lt_trichotomy j t with e | e | e
      · have := g2 t e ht
        omega
      · exact e
      · have := hs t j e gj
        omega
    rw [e]

set_option maxHeartbeats 4000000 in
set_option maxRecDepth 100000 in
theorem f6_early (A : Option Addr) (c : Nat) (l : List S25) (i : Int) (w : World) (hr : Kd.C k25 w A l.length l) (hcl : l.length ≤ c) (h : (vFault l).1 ≠ 0 ∨ ¬ (0 ≤ i ∧ i < l.length)) :
    Calls Try.prog 6 #[.slice A l.length c, .int .i64 i] w (LawPost w) := by
  obtain ⟨k, hk⟩ := validate_is l
  have HV := Aside0.mk (show lines_Validate.f k l = some ((vFault l).1, (vFault l).2) from hk)
  clear hk
  have hv := valid_of l
  generalize (vFault l).1 = r1 at h HV hv
  generalize (vFault l).2 = r2 at HV
  have HR := Aside0.mk hr
  have H := Aside0.mk h
  have HVal := Aside0.mk (fun h0 => (hv h0).2)
  clear hr h hv
  have hu27 := Try.underlying27
  have hu25 := Try.underlying25
  go_enter Try.func6, Try.ntmps6
  go_wp2_with fail
  refine (f15_any w).mono ?_
  rintro e w1 ⟨rfl, hb⟩
  have HB1 := Aside0.mk hb
  have HR1 := Aside0.mk (Kd.C_below HR.out hb)
  clear hb
  go_wp2_with fail
  refine (lines_Validate.calls k A c l r1 r2 _ HR1.out hcl HV.out).mono ?_
  rintro e w2 ⟨rfl, hb⟩
  have HB2 := Aside0.mk (below_then HB1.out HB1.out.size hb)
  clear hb
  by_cases h0 : r1 = 0
  · have hlen := (HVal.out h0).len
    have hno : linkhouseref1_In.f i 0 ((l.length : Int) - 1) = some false := by
      rw [in_is]
      rcases H.out with g | g
      · exact absurd h0 g
      · congr 1
        rw [decide_eq_false_iff_not]
        omega
    have HNO := Aside0.mk hno
    clear hno HV H HVal
    subst h0
    go_wp2_with fail
    refine (linkhouseref1_In.calls i 0 ((l.length : Int) - 1) false _ HNO.out).mono ?_
    rintro e w3 ⟨rfl, hd⟩
    have HB3 := Aside0.mk (below_then HB2.out HB2.out.size hd.below)
    clear hd
    go_wp2_with fail
    go_ret
    exact ⟨rfl, HB3.out⟩
  · have hn0 : (r1 != 0) = true := by simpa using h0
    clear h0
    go_wp2_with fail
    go_ret
    exact ⟨rfl, HB2.out⟩

set_option maxHeartbeats 4000000 in
set_option maxRecDepth 100000 in
theorem f6_ok (A : Option Addr) (c : Nat) (l : List S25) (m : Nat) (w : World) (hr : Kd.C k25 w A l.length l) (hcl : l.length ≤ c) (hv : (vFault l).1 = 0) (hm : m < l.length) :
    Calls Try.prog 6 #[.slice A l.length c, .int .i64 m] w (LawPost w) := by
  obtain ⟨hv0, hV⟩ := valid_of l hv
  obtain ⟨k, hk⟩ := validate_is l
  obtain ⟨kp, hkp⟩ := places_ok l (rd_T25 l m).f1 (rd_T25 l m).f2 hV hv0
  rw [hv0] at hk
  have HV := Aside0.mk hk
  have HVal := Aside0.mk hV
  have hlen := hV.len
  obtain ⟨v0, rest, hpl, hple⟩ := plc_head l (rd_T25 l m).f1 (rd_T25 l m).f2 hV.rises l.length (Nat.le_refl _) m hm (by simp [isAt])
  have hmem := plc_mem l (rd_T25 l m).f1 (rd_T25 l m).f2 l.length
  obtain ⟨y, hy⟩ : ∃ y, rd_T25 l (m : Int) = y := ⟨_, rfl⟩
  rw [hy] at hkp hpl hple hmem
  have hpn := plc_len l y.f1 y.f2 l.length
  rw [hpl] at hkp hmem hpn
  have HY := Aside0.mk hy
  have HKP := Aside0.mk hkp
  have HMEM := Aside0.mk hmem
  clear hk hv hv0 hV hkp hmem hpl hy
  obtain ⟨ps, hps⟩ : ∃ ps, v0 :: rest = ps := ⟨_, rfl⟩
  have hps0 : rd ps 0 = v0 := by rw [← hps]; rfl
  have hpsl : 0 < ps.length := by rw [← hps]; simp
  rw [hps] at HKP HMEM hpn
  have HPS0 := Aside0.mk hps0
  have HR := Aside0.mk hr
  clear hr hps hps0
  have hin : linkhouseref1_In.f (m : Int) 0 ((l.length : Int) - 1) = some true := by
    rw [in_is]
    congr 1
    rw [decide_eq_true_eq]
    omega
  have HIN := Aside0.mk hin
  clear hin
  have hu27 := Try.underlying27
  have hu25 := Try.underlying25
  go_enter Try.func6, Try.ntmps6
  go_wp2_with fail
  refine (f15_any w).mono ?_
  rintro e w1 ⟨rfl, hb⟩
  have HB1 := Aside0.mk hb
  have HR1 := Aside0.mk (Kd.C_below HR.out hb)
  clear hb
  go_wp2_with fail
  refine (lines_Validate.calls k A c l 0 0 _ HR1.out hcl HV.out).mono ?_
  rintro e w2 ⟨rfl, hb⟩
  have HB2 := Aside0.mk (below_then HB1.out HB1.out.size hb)
  have HR2 := Aside0.mk (Kd.C_below HR1.out hb)
  clear hb
  go_wp2_with fail
  refine (linkhouseref1_In.calls (m : Int) 0 ((l.length : Int) - 1) true _ HIN.out).mono ?_
  rintro e w3 ⟨rfl, hd⟩
  have HB3 := Aside0.mk (below_then HB2.out HB2.out.size hd.below)
  have HR3 := Aside0.mk (Kd.C_below HR2.out hd.below)
  clear hd HB1 HB2 HR1 HR2
  obtain ⟨ad, hA, hy0, hy1, hy2⟩ := at_T25 HR3.out (m : Int) (by omega) (by omega)
  cases hA
  rw [Int.toNat_natCast, HY.out] at hy0 hy1 hy2
  have hm0 : (0 : Int) ≤ (m : Int) := by omega
  have hm1 : (m : Int) < (l.length : Int) := by omega
  have hady : (ad.add (m * 3)).block ≠ w3.heap.size := Nat.ne_of_lt (World.block_lt_of_cell? w3 _ hy0)
  have tokA : True := trivial
  go_wp2_with fail
  go_region_held3 (fun w' => w'.cell? ⟨(ad.add (m * 3)).block, (ad.add (m * 3)).off + 1, none⟩ = some (.int .i64 y.f1) ∧ w'.cell? ⟨(ad.add (m * 3)).block, (ad.add (m * 3)).off + 2, none⟩ = some (.int .i64 y.f2)) (first | go_keep | exact ⟨pw_cell_below hbk hy1, pw_cell_below hbk hy2⟩ | exact ⟨pw_cell_below hbk (pw_cell_below (below_alloc (Below.refl _ _) _) hy1), pw_cell_below hbk (pw_cell_below (below_alloc (Below.refl _ _) _) hy2)⟩ | exact ⟨keep_set2 (pw_cell_below hbk (pw_cell_below (below_alloc (Below.refl _ _) _) hy1)) hady _ _, keep_set2 (pw_cell_below hbk (pw_cell_below (below_alloc (Below.refl _ _) _) hy2)) hady _ _⟩)
    (first | (go_at_call 21; refine (lines_Places.calls kp (some ad) c l y.f1 y.f2 ps 0 0 _ ?s1 hcl HKP.out).mono ?_; (case s1 => exact HR3.out); rintro e w4 ⟨v, rfl, hpp, hbk⟩; have _t := tokA; obtain ⟨A4, C4, rfl, hle4, hc4⟩ := Kd.R_reads hpp) | (go_at_call 21; refine (lines_Places.calls kp (some ad) c l y.f1 y.f2 ps 0 0 _ ?s2 hcl HKP.out).mono ?_; (case s2 => exact Kd.C_drew (Kd.C_alloc HR3.out _)); rintro e w4 ⟨v, rfl, hpp, hbk⟩; have hgb := Aside0.mk (blk_below (blk_drew (blk_new w3 (.cells #[.int .i64 0, .int .i64 0] 27))) hbk); have hd0 : w4.cell? ⟨w3.heap.size, 0, none⟩ = some (.int .i64 0) := (blk_cell hgb.out 0).trans rfl; have hd1 : w4.cell? ⟨w3.heap.size, 1, none⟩ = some (.int .i64 0) := (blk_cell hgb.out 1).trans rfl; have hd2 := blk_frozen hgb.out 0; have hd3 := blk_frozen hgb.out 1; obtain ⟨A4, C4, rfl, hle4, hc4⟩ := Kd.R_reads hpp))
  all_goals first | (have HB5 := Aside0.mk (below_alloc' (below_then (below_drew1 HB3.out) (below_drew1 HB3.out).size hbk) (.cells #[.int .i64 0, .int .i64 0] 27)); have HP5 := Aside0.mk (Kd.C_alloc hc4 (.cells #[.int .i64 0, .int .i64 0] 27)); have HG5 := Aside0.mk (blk_new w4 (.cells #[.int .i64 0, .int .i64 0] 27)); clear hbk; (generalize hWS : w4.alloc (.cells #[.int .i64 0, .int .i64 0] 27) = wS at HB5 HP5 HG5 ⊢); clear hWS; (generalize hg6 : w4.heap.size = g6 at HG5 ⊢); clear hg6) | (have HB5 := Aside0.mk (below_set (g := w3.heap.size) (j := 1) (v := .int .i64 0) (below_set (g := w3.heap.size) (j := 0) (v := .int .i64 0) (below_then (below_drew1 (below_alloc' HB3.out _)) (below_drew1 (below_alloc' HB3.out _)).size hbk) HB3.out.size) HB3.out.size); have HP5 := Aside0.mk (ints_set2 hpp hgb.out (.int .i64 0) (.int .i64 0)); have HG5 := Aside0.mk (set2 hgb.out (.int .i64 0) (.int .i64 0)); clear hbk hd0 hd1 hd2 hd3 hgb; (generalize hWS : (w4.setCell ⟨w3.heap.size, 0, none⟩ (.int .i64 0)).setCell ⟨w3.heap.size, 1, none⟩ (.int .i64 0) = wS at HB5 HP5 HG5 ⊢); clear hWS; clear hady; (generalize hg6 : w3.heap.size = g6 at HG5 ⊢); clear hg6)
  all_goals (
    clear HB3 HR3 hy0 hy1 hy2 hpp hc4 tokA
    have HL4 := Aside0.mk hle4
    clear hle4
    have HR5 := Aside0.mk (Kd.C_below HR.out HB5.out)
    obtain ⟨ad5, hA, hy0, hy1, hy2⟩ := at_T25 HR5.out (m : Int) (by omega) (by omega)
    cases hA
    rw [Int.toNat_natCast, HY.out] at hy0 hy1 hy2
    obtain ⟨ad4, hA, hp0⟩ := Kd.at_int HP5.out 0 (by omega) (by omega)
    cases hA
    rw [HPS0.out] at hp0
    have hp0' : wS.cell? ad4 = some (.int .i64 v0) := by simpa [Addr.add] using hp0
    have hg0 : wS.cell? ⟨g6, 0, none⟩ = some (.int .i64 0) := (blk_cell HG5.out 0).trans rfl
    have hpl0 : ((ps.length : Int) == 0) = false := by rw [beq_eq_false_iff_ne]; omega
    have hpl1 : (0 : Int) < (ps.length : Int) := by omega
    have hpl2 : decide (y.f0 < v0) = false := by rw [decide_eq_false_iff_not]; omega
    go_wp2_with fail
    go_quiet (fail)
    go_wp2_with fail
    clear hg0 hp0 hp0' hpl0 hpl2 hy0 hy1 hy2
    go_loopg [7] ps.length (fun kq i w' => ∃ j : Nat, i = .int .i64 j ∧ j ≤ ps.length ∧ Aside0 (ps.length - j ≤ kq) ∧ Aside0 (Below wS.heap.size wS w'))
    case atStart => exact ⟨0, rfl, Nat.zero_le _, ⟨by omega⟩, ⟨pw_below_drewN (Below.refl _ _) _⟩⟩
    case round =>
      obtain ⟨j, rfl, hj, HM, HB⟩ := hrel
      have HRr := Aside0.mk (Kd.C_below HR5.out HB.out)
      have HPr := Aside0.mk (Kd.C_below HP5.out HB.out)
      by_cases hlt : j < ps.length
      · obtain ⟨ad4', hA, hp1⟩ := Kd.at_int HPr.out (j : Int) (by omega) (by omega)
        cases hA
        rw [Int.toNat_natCast] at hp1
        have hin : rd ps (j : Int) ∈ ps := by
          unfold rd
          rw [Int.toNat_natCast, List.getD_eq_getElem?_getD, List.getElem?_eq_getElem hlt]
          exact List.getElem_mem hlt
        obtain ⟨t, ht, hpt, hat⟩ := HMEM.out _ hin
        obtain ⟨o, ho⟩ : ∃ o, rd ps (j : Int) = o := ⟨_, rfl⟩
        rw [ho] at hp1 hpt
        have HPT := Aside0.mk hpt
        have HAT := Aside0.mk hat
        have HPX := Aside0.mk ho
        clear hin ho hpt hat
        go_wp2_with fail
        refine (f16_ok k (some ad) c l o _ HRr.out hcl HV.out (by omega) HVal.out.rises).mono ?_
        rintro e w6 ⟨x, b, rfl, hf, hb⟩
        rw [HPT.out] at hf
        obtain ⟨rfl, hx⟩ := found_at HVal.out.rises ht hf
        have hat := HAT.out
        unfold isAt at hat
        rw [← hx, Bool.and_eq_true, beq_iff_eq, beq_iff_eq] at hat
        have hx0 : x.f0 = o := by rw [HPT.out, hx]
        obtain ⟨x0, x1, x2⟩ := x
        obtain ⟨rfl, rfl⟩ : x1 = y.f1 ∧ x2 = y.f2 := hat
        obtain rfl : x0 = o := hx0
        have HRs := Aside0.mk (Kd.C_below HRr.out hb)
        have HPs := Aside0.mk (Kd.C_below HPr.out hb)
        have HB6 := Aside0.mk (below_then HB.out HB.out.size hb)
        clear hf hb hx hp1 HRr HPr
        obtain ⟨ad5', hA, hy0, hy1, hy2⟩ := at_T25 HRs.out (m : Int) (by omega) (by omega)
        cases hA
        rw [Int.toNat_natCast, HY.out] at hy0 hy1 hy2
        obtain ⟨ad4', hA, hp1⟩ := Kd.at_int HPs.out (j : Int) (by omega) (by omega)
        cases hA
        rw [Int.toNat_natCast, show rd ps (j : Int) = x0 from HPX.out] at hp1
        have hbl1 : (ad.add (m * 3)).block < w6.heap.size := World.block_lt_of_cell? w6 _ hy0
        have hbl2 : (ad4.add j).block < w6.heap.size := World.block_lt_of_cell? w6 _ hp1
        have hj0 : (0 : Int) ≤ (j : Int) := by omega
        have hj1 : (j : Int) < (ps.length : Int) := by omega
        unfold ag
        go_wp2_with fail
        go_quiet (fail)
        go_wp2_with fail
        go_roundg (ps.length - (j + 1))
        case measure => have := HM.out; omega
        case rel => exact ⟨j + 1, by go_num, by omega, ⟨Nat.le_refl _⟩, ⟨pw_below_drewN (below_alloc' (below_alloc' HB6.out _) _) _⟩⟩
      · go_wp2_with fail
        go_ret
        exact ⟨rfl, below_then HB5.out HB5.out.size HB.out⟩)

theorem f6_all (A : Option Addr) (c : Nat) (l : List S25) (i : Int) (w : World) (hr : Kd.C k25 w A l.length l) (hcl : l.length ≤ c) : Calls Try.prog 6 #[.slice A l.length c, .int .i64 i] w (LawPost w) := by
  by_cases h : (vFault l).1 ≠ 0 ∨ ¬ (0 ≤ i ∧ i < l.length)
  · exact f6_early A c l i w hr hcl h
  · have h1 : (vFault l).1 = 0 := by omega
    obtain ⟨m, rfl⟩ := Int.eq_ofNat_of_zero_le (show 0 ≤ i by omega)
    exact f6_ok A c l m w hr hcl h1 (by omega)
end Go.Proofs.Ytillcdcmhdofbaa.Ln
