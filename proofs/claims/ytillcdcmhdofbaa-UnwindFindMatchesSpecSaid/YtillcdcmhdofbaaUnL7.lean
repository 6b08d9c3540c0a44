/- The statement on unwind.Find, walked: the call returns true for every list of rows and every offset. -/
import Derived.Test.YtillcdcmhdofbaaUnG
import Derived.Test.YtillcdcmhdofbaaPUnwindUniquex2
import Derived.BigQuiet
namespace Go.Proofs.Ytillcdcmhdofbaa.Un
open Go.RowKit Go.Proofs.YtillcdcmhdofbaaW.PrintWords Go.Proofs.YtillcdcmhdofbaaW.PrintLast Go.Proofs.YtillcdcmhdofbaaW.PrintMore
open Go.Proofs.Ytillcdcmhdofbaa.PUnwindUnique
set_option linter.unusedVariables false
set_option linter.unusedSimpArgs false
attribute [local go_sem high] eqA27

attribute [local go_sem high] eqA48

def LawPost (w : World) (e : Ending) (w' : World) : Prop := e = .returned (.bool true) ∧ Below w.heap.size w w'

set_option maxHeartbeats 4000000 in
set_option maxRecDepth 100000 in
theorem f7_bad (A : Option Addr) (c : Nat) (l : List S48) (off : Int) (w : World) (hr : Kd.C k48 w A l.length l) (hcl : l.length ≤ c) (hv : (vFault l).1 ≠ 0) :
    Calls Try.prog 7 #[.slice A l.length c, .int .i64 off] w (LawPost w) := by
  obtain ⟨k, hk⟩ := validate_is l
  obtain ⟨k', hk'⟩ := fault_is l
  have HV := Aside0.mk (show unwind_Validate.f k l = some ((vFault l).1, (vFault l).2) from hk)
  have HV' := Aside0.mk (show linkhouseref2_UnwindFault.f k' l = some ((vFault l).1, (vFault l).2) from hk')
  clear hk hk'
  generalize (vFault l).1 = r1 at hv HV HV'
  generalize (vFault l).2 = r2 at HV HV'
  have hne : (r1 == 0) = false := by simpa using hv
  have HNE := Aside0.mk hv
  have HR := Aside0.mk hr
  clear hr hv
  have hu27 := Try.underlying27
  have hu48 := Try.underlying48
  go_enter Try.func7, Try.ntmps7
  go_wp2_with fail
  refine (f27_any w).mono ?_
  rintro e w1 ⟨rfl, hb⟩
  have HB1 := Aside0.mk hb
  have HR1 := Aside0.mk (Kd.C_below HR.out hb)
  clear hb
  go_wp2_with fail
  refine (f28_bad k A c l off r1 r2 _ HR1.out hcl HV.out (fun h => HNE.out h.1)).mono ?_
  rintro e w2 ⟨rfl, hb⟩
  have HB2 := Aside0.mk (below_then HB1.out HB1.out.size hb)
  have HR2 := Aside0.mk (Kd.C_below HR1.out hb)
  clear hb
  unfold ag z48
  go_wp2_with fail
  have HB3 := Aside0.mk (below_alloc' (below_alloc' HB2.out (.cells #[.int .i64 0, .int .i64 0, .int .i64 0, .int .i64 0] 48)) (.cells #[.int .i64 r1, .int .i64 r2] 27))
  have HR3 := Aside0.mk (Kd.C_below HR2.out (below_alloc (below_alloc (Below.refl _ _) (.cells #[.int .i64 0, .int .i64 0, .int .i64 0, .int .i64 0] 48)) (.cells #[.int .i64 r1, .int .i64 r2] 27)))
  have HX3 := Aside0.mk (blk_alloc (blk_new w2 (.cells #[.int .i64 0, .int .i64 0, .int .i64 0, .int .i64 0] 48)) (.cells #[.int .i64 r1, .int .i64 r2] 27))
  have HF3 := Aside0.mk (new_snd w2 (.cells #[.int .i64 0, .int .i64 0, .int .i64 0, .int .i64 0] 48) #[.int .i64 r1, .int .i64 r2] (t := 27))
  refine (linkhouseref2_UnwindFault.calls k' A c l r1 r2 _ HR3.out hcl HV'.out).mono ?_
  rintro e w3 ⟨rfl, hb⟩
  have HB4 := Aside0.mk (below_alloc' (below_then HB3.out HB3.out.size hb) (.cells #[.int .i64 r1, .int .i64 r2] 27))
  have HR4 := Aside0.mk (Kd.C_below (Kd.C_below HR3.out hb) (below_alloc (Below.refl _ _) (.cells #[.int .i64 r1, .int .i64 r2] 27)))
  have HX4 := Aside0.mk (blk_alloc (blk_below HX3.out hb) (.cells #[.int .i64 r1, .int .i64 r2] 27))
  have HF4 := Aside0.mk (blk_alloc (blk_below HF3.out hb) (.cells #[.int .i64 r1, .int .i64 r2] 27))
  have HG4 := Aside0.mk (blk_new w3 (.cells #[.int .i64 r1, .int .i64 r2] 27))
  clear hb HB1 HB2 HB3 HR1 HR2 HR3 HX3 HF3
  go_wp2_with fail
  generalize w3.alloc (.cells #[.int .i64 r1, .int .i64 r2] 27) = wS at HB4 HR4 HX4 HF4 HG4 ⊢
  obtain ⟨g8, hg8⟩ : ∃ g, w3.heap.size = g := ⟨_, rfl⟩
  rw [hg8] at HG4 ⊢
  clear hg8
  obtain ⟨g5, hg5⟩ : ∃ g, w2.heap.size = g := ⟨_, rfl⟩
  rw [hg5] at HX4 HF4 ⊢
  clear hg5
  have hs0 : wS.cell? ⟨g8, 0, none⟩ = some (.int .i64 r1) := (blk_cell HG4.out 0).trans rfl
  have hs1 : wS.cell? ⟨g8, 1, none⟩ = some (.int .i64 r2) := (blk_cell HG4.out 1).trans rfl
  go_region_held3 (fun w' => w'.cell? ⟨g8, 0, none⟩ = some (.int .i64 r1) ∧ w'.cell? ⟨g8, 1, none⟩ = some (.int .i64 r2)) (first | go_keep | exact ⟨pw_cell_below hbk hs0, pw_cell_below hbk hs1⟩)
    (first | (go_at_call 30; refine (unwind_Validate.calls k A c l r1 r2 _ ?s1 hcl HV.out).mono ?_; (case s1 => exact HR4.out); rintro e w4 ⟨rfl, hbk⟩))
  go_wp2_with fail
  have HB5 := Aside0.mk (below_then (below_drew1 HB4.out) (below_drew1 HB4.out).size hbk)
  have HR5 := Aside0.mk (Kd.C_below (Kd.C_drew HR4.out) hbk)
  have HG5 := Aside0.mk (blk_below (blk_drew HG4.out) hbk)
  have HX5 := Aside0.mk (blk_below (blk_drew HX4.out) hbk)
  have HF5 := Aside0.mk (blk_below (blk_drew HF4.out) hbk)
  clear hbk hs0 hs1 HB4 HR4 HG4 HX4 HF4
  have hs0 : w4.cell? ⟨g8, 0, none⟩ = some (.int .i64 r1) := (blk_cell HG5.out 0).trans rfl
  have hs1 : w4.cell? ⟨g8, 1, none⟩ = some (.int .i64 r2) := (blk_cell HG5.out 1).trans rfl
  have ht0 : w4.cell? ⟨g5 + 1, 0, none⟩ = some (.int .i64 r1) := (blk_cell HF5.out 0).trans rfl
  have ht1 : w4.cell? ⟨g5 + 1, 1, none⟩ = some (.int .i64 r2) := (blk_cell HF5.out 1).trans rfl
  have hx0 : w4.cell? ⟨g5, 0, none⟩ = some (.int .i64 0) := (blk_cell HX5.out 0).trans rfl
  have hx1 : w4.cell? ⟨g5, 1, none⟩ = some (.int .i64 0) := (blk_cell HX5.out 1).trans rfl
  have hx2 : w4.cell? ⟨g5, 2, none⟩ = some (.int .i64 0) := (blk_cell HX5.out 2).trans rfl
  have hx3 : w4.cell? ⟨g5, 3, none⟩ = some (.int .i64 0) := (blk_cell HX5.out 3).trans rfl
  go_region_held3 (fun w' => w'.cell? ⟨g8, 0, none⟩ = some (.int .i64 r1) ∧ w'.cell? ⟨g8, 1, none⟩ = some (.int .i64 r2) ∧ w'.cell? ⟨g5 + 1, 0, none⟩ = some (.int .i64 r1) ∧ w'.cell? ⟨g5 + 1, 1, none⟩ = some (.int .i64 r2) ∧ w'.cell? ⟨g5, 0, none⟩ = some (.int .i64 0) ∧ w'.cell? ⟨g5, 1, none⟩ = some (.int .i64 0) ∧ w'.cell? ⟨g5, 2, none⟩ = some (.int .i64 0) ∧ w'.cell? ⟨g5, 3, none⟩ = some (.int .i64 0)) (first | go_keep | exact ⟨pw_cell_below hbk hs0, pw_cell_below hbk hs1, pw_cell_below hbk ht0, pw_cell_below hbk ht1, pw_cell_below hbk hx0, pw_cell_below hbk hx1, pw_cell_below hbk hx2, pw_cell_below hbk hx3⟩)
    (first | (go_at_call 30; refine (unwind_Validate.calls k A c l r1 r2 _ ?s2 hcl HV.out).mono ?_; (case s2 => exact HR5.out); rintro e w5 ⟨rfl, hbk⟩))
  go_wp2_with fail
  go_ret
  exact ⟨by simp, below_then (below_drew1 HB5.out) (below_drew1 HB5.out).size hbk⟩

theorem rowTo_is (l : List S48) (off : Int) (m n : Nat) (hmn : m ≤ n) :
    (rowTo (offs l n) off m = -1 ∧ ∀ t : Nat, t < m → off < (rd_T48 l t).f0) ∨ ∃ k : Nat, k < m ∧ rowTo (offs l n) off m = k ∧ (rd_T48 l k).f0 ≤ off ∧ ∀ t : Nat, k < t → t < m → off < (rd_T48 l t).f0 := by
  induction m with
  | zero => exact .inl ⟨rfl, fun t ht => by omega⟩
  | succ m ih =>
    rw [rowTo, rd_offs l n m (by omega)]
    by_cases h : (rd_T48 l m).f0 ≤ off
    · rw [if_pos h]
      exact .inr ⟨m, by omega, rfl, h, fun t h1 h2 => by omega⟩
    · rw [if_neg h]
      rcases ih (by omega) with ⟨h1, h2⟩ | ⟨k, h1, h2, h3, h4⟩
      · refine .inl ⟨h1, fun t ht => ?_⟩
        rcases Nat.lt_or_ge t m with g | g
        · exact h2 t g
        · obtain rfl : t = m := by omega
          omega
      · refine .inr ⟨k, by omega, h2, h3, fun t g1 g2 => ?_⟩
        rcases Nat.lt_or_ge t m with g | g
        · exact h4 t g1 g
        · obtain rfl : t = m := by omega
          omega
theorem found_row {l : List S48} {off : Int} {x : S48} {b : Bool} (h : Found l off x b) :
    (rowTo (offs l l.length) off l.length < 0 ∧ b = false ∧ x = z48) ∨ ∃ k : Nat, k < l.length ∧ rowTo (offs l l.length) off l.length = k ∧ b = true ∧ x = rd_T48 l k := by
  rcases rowTo_is l off l.length l.length (Nat.le_refl _) with ⟨h1, h2⟩ | ⟨k, h1, h2, h3, h4⟩ <;> rcases h with ⟨rfl, rfl, g⟩ | ⟨rfl, j, gj, rfl, g1, g2⟩
  · exact .inl ⟨by omega, rfl, rfl⟩
  · have := h2 j gj
    omega
  · have := g k h1
    omega
  · refine .inr ⟨k, h1, h2, rfl, ?_⟩
    have e : j = k := by
      rcases Nat.lt_trichotomy j k with e | e | e
      · have := g2 k e h1
        omega
      · exact e
      · have := h4 j e gj
        omega
    rw [e]

set_option maxHeartbeats 4000000 in
set_option maxRecDepth 100000 in
theorem f7_ok (A : Option Addr) (c : Nat) (l : List S48) (off : Int) (w : World) (hr : Kd.C k48 w A l.length l) (hcl : l.length ≤ c) (hv : (vFault l).1 = 0) :
    Calls Try.prog 7 #[.slice A l.length c, .int .i64 off] w (LawPost w) := by
  obtain ⟨hv0, hV⟩ := valid_of l hv
  obtain ⟨k, hk⟩ := validate_is l
  obtain ⟨k', hk'⟩ := fault_is l
  rw [hv0] at hk hk'
  have HV := Aside0.mk hk
  have HV' := Aside0.mk hk'
  have HVal := Aside0.mk hV
  have hlen := hV.len
  clear hk hk' hv hv0 hV
  have HR := Aside0.mk hr
  clear hr
  have hu27 := Try.underlying27
  have hu48 := Try.underlying48
  go_enter Try.func7, Try.ntmps7
  go_wp2_with fail
  refine (f27_any w).mono ?_
  rintro e w1 ⟨rfl, hb⟩
  have HB1 := Aside0.mk hb
  have HR1 := Aside0.mk (Kd.C_below HR.out hb)
  clear hb
  go_wp2_with fail
  refine (f28_ok k A c l off _ HR1.out hcl HV.out (by omega) HVal.out.rises).mono ?_
  rintro e w2 ⟨x, b, rfl, hf, hb⟩
  have HB2 := Aside0.mk (below_then HB1.out HB1.out.size hb)
  have HR2 := Aside0.mk (Kd.C_below HR1.out hb)
  have HFD := Aside0.mk (found_row hf)
  clear hb hf
  unfold ag
  go_wp2_with fail
  have HB3 := Aside0.mk (below_alloc' (below_alloc' HB2.out (.cells #[.int .i64 x.f0, .int .i64 x.f1, .int .i64 x.f2, .int .i64 x.f3] 48)) (.cells #[.int .i64 0, .int .i64 0] 27))
  have HR3 := Aside0.mk (Kd.C_below HR2.out (below_alloc (below_alloc (Below.refl _ _) (.cells #[.int .i64 x.f0, .int .i64 x.f1, .int .i64 x.f2, .int .i64 x.f3] 48)) (.cells #[.int .i64 0, .int .i64 0] 27)))
  have HX3 := Aside0.mk (blk_alloc (blk_new w2 (.cells #[.int .i64 x.f0, .int .i64 x.f1, .int .i64 x.f2, .int .i64 x.f3] 48)) (.cells #[.int .i64 0, .int .i64 0] 27))
  have HF3 := Aside0.mk (new_snd w2 (.cells #[.int .i64 x.f0, .int .i64 x.f1, .int .i64 x.f2, .int .i64 x.f3] 48) #[.int .i64 0, .int .i64 0] (t := 27))
  refine (linkhouseref2_UnwindFault.calls k' A c l 0 0 _ HR3.out hcl HV'.out).mono ?_
  rintro e w3 ⟨rfl, hb⟩
  have HB4 := Aside0.mk (below_alloc' (below_then HB3.out HB3.out.size hb) (.cells #[.int .i64 0, .int .i64 0] 27))
  have HR4 := Aside0.mk (Kd.C_below (Kd.C_below HR3.out hb) (below_alloc (Below.refl _ _) (.cells #[.int .i64 0, .int .i64 0] 27)))
  have HX4 := Aside0.mk (blk_alloc (blk_below HX3.out hb) (.cells #[.int .i64 0, .int .i64 0] 27))
  have HF4 := Aside0.mk (blk_alloc (blk_below HF3.out hb) (.cells #[.int .i64 0, .int .i64 0] 27))
  have HG4 := Aside0.mk (blk_new w3 (.cells #[.int .i64 0, .int .i64 0] 27))
  clear hb HB1 HB2 HB3 HR1 HR2 HR3 HX3 HF3
  go_wp2_with fail
  generalize w3.alloc (.cells #[.int .i64 0, .int .i64 0] 27) = wS at HB4 HR4 HX4 HF4 HG4 ⊢
  obtain ⟨g8, hg8⟩ : ∃ g, w3.heap.size = g := ⟨_, rfl⟩
  rw [hg8] at HG4 ⊢
  clear hg8
  obtain ⟨g5, hg5⟩ : ∃ g, w2.heap.size = g := ⟨_, rfl⟩
  rw [hg5] at HX4 HF4 ⊢
  clear hg5
  have hs0 : wS.cell? ⟨g8, 0, none⟩ = some (.int .i64 0) := (blk_cell HG4.out 0).trans rfl
  have hs1 : wS.cell? ⟨g8, 1, none⟩ = some (.int .i64 0) := (blk_cell HG4.out 1).trans rfl
  go_region_held3 (fun w' => w'.cell? ⟨g8, 0, none⟩ = some (.int .i64 0) ∧ w'.cell? ⟨g8, 1, none⟩ = some (.int .i64 0)) (first | go_keep | exact ⟨pw_cell_below hbk hs0, pw_cell_below hbk hs1⟩)
    (first | (go_at_call 30; refine (unwind_Validate.calls k A c l 0 0 _ ?s1 hcl HV.out).mono ?_; (case s1 => exact HR4.out); rintro e w4 ⟨rfl, hbk⟩))
  have HB5 := Aside0.mk (below_then (below_drew1 HB4.out) (below_drew1 HB4.out).size hbk)
  have HR5 := Aside0.mk (Kd.C_below (Kd.C_drew HR4.out) hbk)
  have HX5 := Aside0.mk (blk_below (blk_drew HX4.out) hbk)
  have HF5 := Aside0.mk (blk_below (blk_drew HF4.out) hbk)
  clear hbk hs0 hs1 HB4 HR4 HG4 HX4 HF4
  go_wp2_with fail
  refine (f31_any A c l _ HR5.out (by omega)).mono ?_
  rintro e w5 ⟨A5, C5, rfl, hc5, hi5, hb⟩
  have HB6 := Aside0.mk (below_then HB5.out HB5.out.size hb)
  have HR6 := Aside0.mk (Kd.C_below HR5.out hb)
  have HX6 := Aside0.mk (blk_below HX5.out hb)
  have HF6 := Aside0.mk (blk_below HF5.out hb)
  have HI6 := Aside0.mk hi5
  clear hb hi5 HB5 HR5 HX5 HF5
  go_wp2_with fail
  have hol := offs_len l l.length
  refine (f19_any A5 C5 (offs l l.length) off _ HI6.out (by omega)).mono ?_
  rintro e w6 ⟨rfl, rfl⟩
  rw [hol]
  obtain ⟨r, hr⟩ : ∃ r, rowTo (offs l l.length) off l.length = r := ⟨_, rfl⟩
  have hfd := HFD.out
  rw [hr] at hfd ⊢
  clear hr hol HFD hc5
  have ht0 : w5.cell? ⟨g5 + 1, 0, none⟩ = some (.int .i64 0) := (blk_cell HF6.out 0).trans rfl
  have hx0 : w5.cell? ⟨g5, 0, none⟩ = some (.int .i64 x.f0) := (blk_cell HX6.out 0).trans rfl
  have hx1 : w5.cell? ⟨g5, 1, none⟩ = some (.int .i64 x.f1) := (blk_cell HX6.out 1).trans rfl
  have hx2 : w5.cell? ⟨g5, 2, none⟩ = some (.int .i64 x.f2) := (blk_cell HX6.out 2).trans rfl
  have hx3 : w5.cell? ⟨g5, 3, none⟩ = some (.int .i64 x.f3) := (blk_cell HX6.out 3).trans rfl
  rcases hfd with ⟨hneg, rfl, rfl⟩ | ⟨m, hm, rfl, rfl, hxm⟩
  · unfold z48 at hx0 hx1 hx2 hx3
    go_wp2_with fail
    go_ret
    exact ⟨by simp, HB6.out⟩
  · obtain ⟨ad, hA, hy0, hy1, hy2, hy3⟩ := at_T48 HR6.out (m : Int) (by omega) (by omega)
    cases hA
    rw [Int.toNat_natCast] at hy0 hy1 hy2 hy3
    rw [← hxm] at hy0 hy1 hy2 hy3
    clear hxm
    have hm0 : (0 : Int) ≤ (m : Int) := by omega
    have hm1 : (m : Int) < (l.length : Int) := by omega
    go_wp2_with fail
    go_quiet (fail)
    go_wp2_with fail
    go_ret
    exact ⟨by simp, pw_below_drewN HB6.out _⟩
end Go.Proofs.Ytillcdcmhdofbaa.Un
