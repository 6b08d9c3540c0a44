/- unwind.Unpack returns the rows whose bytes stand in the argument, or a fault; conditions: the bytes are read as a list. -/
import Derived.Test.YtillcdcmhdofbaaUnU
namespace Go.Proofs.Ytillcdcmhdofbaa.Un
open Go.RowKit Go.Proofs.YtillcdcmhdofbaaW.PrintWords Go.Proofs.YtillcdcmhdofbaaW.PrintLast Go.Proofs.YtillcdcmhdofbaaW.PrintMore
open Go.Proofs.Ytillcdcmhdofbaa.PUnwindUnique
set_option linter.unusedVariables false
set_option linter.unusedSimpArgs false
attribute [local go_sem high] eqA27

/-- What Unpack decodes. -/
def UnpR (bs : List Int) (l : List S48) (c i : Int) : Prop :=
  (bs.length > 200000 ∧ l = [] ∧ c = 2 ∧ i = -2) ∨
  (bs.length ≤ 200000 ∧ l = [] ∧ c = 17 ∧ i = -3 ∧ ¬ ∃ l', decAll bs = some (l', bs.length) ∧ (vFault l').1 = 0) ∨
  (bs.length ≤ 200000 ∧ c = 0 ∧ i = 0 ∧ decAll bs = some (l, bs.length) ∧ (vFault l).1 = 0)
def UnpackPost (bs : List Int) (w : World) (e : Ending) (w' : World) : Prop :=
  ∃ v l c i, e = .returned (.tuple #[v, .agg #[.int .i64 c, .int .i64 i]]) ∧ Kd.R k48 48 w' w.heap.size (fun _ => True) v l ∧ Below w.heap.size w w' ∧ UnpR bs l c i

theorem rows_set2 {w : World} {base g n c B : Nat} {A : Option Addr} {ps : List S48} {cs : Array Value} (h : Kd.R k48 48 w base (fun k => B ≤ k) (.slice A n c) ps) (hg : w.heap[g]? = some (.cells cs 27 (0, 0))) (hb : base ≤ base) (x y : Value) :
    Kd.R k48 48 ((w.setCell ⟨g, 0, none⟩ x).setCell ⟨g, 1, none⟩ y) base (fun _ => True) (.slice A n c) ps := by
  have h1 : Kd.R k48 48 (w.setCell ⟨g, 0, none⟩ x) base (fun k => B ≤ k) (.slice A n c) ps := ⟨h.1, (h.2.set_ hg (by decide) 0 x).imp_ (fun _ _ hp => hp)⟩
  have h2 : Kd.R k48 48 ((w.setCell ⟨g, 0, none⟩ x).setCell ⟨g, 1, none⟩ y) base (fun k => B ≤ k) (.slice A n c) ps := ⟨h1.1, (h1.2.set_ (blk_set hg 0 x) (by decide) 1 y).imp_ (fun _ _ hp => hp)⟩
  exact Kd.R_mono h2 (fun _ _ => trivial)

set_option maxHeartbeats 2000000 in
set_option maxRecDepth 100000 in
theorem f40_any (A : Option Addr) (cp : Nat) (bs : List Int) (w : World) (hr : Kd.C (Kd.int .u8) w A bs.length bs) (hb : Bytes bs) :
    Calls Try.prog 40 #[.slice A bs.length cp] w (UnpackPost bs w) := by
  have hmf : ∀ (fn : Fn) (first cap : Array Value) (w : World), (Instr.makeFunc fn first cap).run Try.prog w = .ok (.func fn first cap) w := fun _ _ _ _ => rfl
  have hu48 := Try.underlying48
  have hu27 := Try.underlying27
  have HR := Aside0.mk hr
  have HBs := Aside0.mk hb
  have hbl : bs.length ≤ 9223372036854775807 := hr.2.1
  clear hr hb
  by_cases hlong : bs.length > 200000
  · go_enter Try.func40, Try.ntmps40
    go_wp2_with fail
    refine bodyPost_ret (results_tc rfl _ _ w.heap.size 27 #[.int .i64 2, .int .i64 (-2)] (0, 0) _ rfl (blk_new w _) Try.underlying27 rfl (by kernel_rfl)) rfl ?_
    exact ⟨_, [], 2, -2, rfl, Kd.R_nil _ _ _ _ _, below_alloc (Below.refl _ _) _, .inl ⟨hlong, rfl, rfl, rfl⟩⟩
  · have hl : bs.length ≤ 200000 := by omega
    clear hlong hbl
    go_enter Try.func40, Try.ntmps40
    go_wp2_with fail
    have h4 := four w (.cells #[.int .i64 0, .int .i64 0] 27) (.cells #[.slice A bs.length cp, .int .i64 0, .bool false] 83) (.cells #[.pointer (some ⟨w.heap.size + 1, 0, none⟩)] 81) (.cells (cl1 z48) 3)
    have HW := Aside0.mk (show IsS83 w ((((w.alloc (.cells #[.int .i64 0, .int .i64 0] 27)).alloc (.cells #[.slice A bs.length cp, .int .i64 0, .bool false] 83)).alloc (.cells #[.pointer (some ⟨w.heap.size + 1, 0, none⟩)] 81)).alloc (.cells (cl1 z48) 3)) (w.heap.size + 1) bs 0 false from
      ⟨A, cp, h4.1, by omega, HR.out⟩)
    have HB2 := Aside0.mk (below_alloc' (below_alloc' (below_alloc' (below_alloc' (Below.refl w.heap.size w) (.cells #[.int .i64 0, .int .i64 0] 27)) (.cells #[.slice A bs.length cp, .int .i64 0, .bool false] 83)) (.cells #[.pointer (some ⟨w.heap.size + 1, 0, none⟩)] 81)) (.cells (cl1 z48) 3))
    have HP := Aside0.mk h4.2.1
    have HQ := Aside0.mk h4.2.2
    have HK2 := Aside0.mk (blk_alloc (blk_alloc (blk_alloc (blk_new w (.cells #[.int .i64 0, .int .i64 0] 27)) (.cells #[.slice A bs.length cp, .int .i64 0, .bool false] 83)) (.cells #[.pointer (some ⟨w.heap.size + 1, 0, none⟩)] 81)) (.cells (cl1 z48) 3))
    clear h4
    refine (f53_any (w.heap.size + 1) (w.heap.size + 1 + 1) (w.heap.size + 1 + 1 + 1) bs w _ HW.out HB2.out HBs.out hl HP.out HQ.out (by omega) (by omega) (by omega) (by omega)).mono ?_
    rintro e w2 ⟨v, l, q, b, rfl, ho, hrd, hi, hb, hk⟩
    obtain ⟨A2, C2, rfl⟩ := Kd.R_slice ho
    have HF3 := Aside0.mk (hk.blk HK2.out (by omega) (by omega))
    have HP3 := Aside0.mk (hk.blk HP.out (by omega) (by omega))
    have HI3 := Aside0.mk hi
    have HB3 := Aside0.mk hb
    have HO3 := Aside0.mk ho
    have HRD := Aside0.mk hrd
    clear hk ho hrd hi hb HW HB2 HP HQ HK2
    have hc0 : w2.cell? ⟨w.heap.size + 1 + 1, 0, none⟩ = some (.pointer (some ⟨w.heap.size + 1, 0, none⟩)) := (blk_cell HP3.out 0).trans rfl
    obtain ⟨A3, c3, hG3, hg3, hS3⟩ := HI3.out
    have hc1 : w2.cell? ⟨w.heap.size + 1, 1, none⟩ = some (.int .i64 q) := (blk_cell hG3 1).trans rfl
    have hc2 : w2.cell? ⟨w.heap.size + 1, 2, none⟩ = some (.bool b) := (blk_cell hG3 2).trans rfl
    clear hG3 hg3 hS3
    have hq0 : w2.cell? ⟨w.heap.size, 0, none⟩ = some (.int .i64 0) := (blk_cell HF3.out 0).trans rfl
    have hq1 : w2.cell? ⟨w.heap.size, 1, none⟩ = some (.int .i64 0) := (blk_cell HF3.out 1).trans rfl
    have hf0 := blk_frozen HF3.out 0
    have hf1 := blk_frozen HF3.out 1
    cases b with
    | true =>
      have hno : ¬ ∃ l', decAll bs = some (l', bs.length) ∧ (vFault l').1 = 0 := by
        rcases HRD.out with ⟨_, h⟩ | ⟨h, _⟩
        · rintro ⟨l', h', _⟩
          rw [h] at h'
          cases h'
        · exact absurd h (by decide)
      have HNO := Aside0.mk hno
      clear hno
      go_wp2_with fail
      refine bodyPost_ret (results_tc rfl _ _ w.heap.size 27 #[.int .i64 17, .int .i64 (-3)] (0, 0) _ rfl (set2 HF3.out _ _) Try.underlying27 rfl (by kernel_rfl)) rfl ?_
      exact ⟨_, [], 17, -3, rfl, Kd.R_nil _ _ _ _ _, below_set (below_set HB3.out (Nat.le_refl _)) (Nat.le_refl _), .inr (.inl ⟨hl, rfl, rfl, rfl, HNO.out⟩)⟩
    | false =>
      have hall : decAll bs = some (l, q) := by
        rcases HRD.out with ⟨h, _⟩ | ⟨_, h⟩
        · exact absurd h (by decide)
        · exact h
      have HALL := Aside0.mk hall
      clear hall
      by_cases hql : q = bs.length
      · subst hql
        obtain ⟨k, hk⟩ := validate_is l
        have HV := Aside0.mk (show unwind_Validate.f k l = some ((vFault l).1, (vFault l).2) from hk)
        have HV0 := Aside0.mk (valid_of l)
        clear hk
        obtain ⟨r1, hr1⟩ : ∃ r, (vFault l).1 = r := ⟨_, rfl⟩
        obtain ⟨r2, hr2⟩ : ∃ r, (vFault l).2 = r := ⟨_, rfl⟩
        rw [hr1, hr2] at HV
        have HR1 := Aside0.mk hr1
        have HR2 := Aside0.mk hr2
        clear hr1 hr2
        go_wp2_with fail
        refine (unwind_Validate.calls k A2 C2 l r1 r2 _ (Kd.R_reads' HO3.out).2.2 (by have h := (Kd.R_reads' HO3.out).2.1; exact h) HV.out).mono ?_
        rintro e w3 ⟨rfl, hb⟩
        have HB4 := Aside0.mk (below_then HB3.out HB3.out.size hb)
        have HO4 := Aside0.mk (Kd.R_below HO3.out hb)
        have HF4 := Aside0.mk (blk_below HF3.out hb)
        clear hb hc0 hc1 hc2 hq0 hq1 hf0 hf1
        have hq0 : w3.cell? ⟨w.heap.size, 0, none⟩ = some (.int .i64 0) := (blk_cell HF4.out 0).trans rfl
        have hq1 : w3.cell? ⟨w.heap.size, 1, none⟩ = some (.int .i64 0) := (blk_cell HF4.out 1).trans rfl
        have hf0 := blk_frozen HF4.out 0
        have hf1 := blk_frozen HF4.out 1
        by_cases h0 : r1 = 0
        · have hv0 := (HV0.out (HR1.out.trans h0)).1
          have h2 : r2 = 0 := by rw [← HR2.out, hv0]
          have HZ := Aside0.mk (HR1.out.trans h0)
          subst h2
          subst h0
          clear hv0
          go_wp2_with fail
          refine bodyPost_ret (results_tc rfl _ _ w.heap.size 27 #[.int .i64 0, .int .i64 0] (0, 0) _ rfl (set2 HF4.out _ _) Try.underlying27 rfl (by kernel_rfl)) rfl ?_
          exact ⟨_, l, 0, 0, rfl, rows_set2 HO4.out HF4.out (Nat.le_refl _) _ _, below_set (below_set HB4.out (Nat.le_refl _)) (Nat.le_refl _), .inr (.inr ⟨hl, rfl, rfl, HALL.out, HZ.out⟩)⟩
        · have hno : ¬ ∃ l', decAll bs = some (l', bs.length) ∧ (vFault l').1 = 0 := by
            rintro ⟨l', h1, h2⟩
            rw [HALL.out] at h1
            simp only [Option.some.injEq, Prod.mk.injEq] at h1
            rw [← h1.1, HR1.out] at h2
            exact h0 h2
          have HNO := Aside0.mk hno
          have hd : (r1 == 0) = false := by simpa using h0
          clear hno h0
          go_wp2_with fail
          refine bodyPost_ret (results_tc rfl _ _ w.heap.size 27 #[.int .i64 17, .int .i64 (-3)] (0, 0) _ rfl (set2 HF4.out _ _) Try.underlying27 rfl (by kernel_rfl)) rfl ?_
          exact ⟨_, [], 17, -3, rfl, Kd.R_nil _ _ _ _ _, below_set (below_set HB4.out (Nat.le_refl _)) (Nat.le_refl _), .inr (.inl ⟨hl, rfl, rfl, rfl, HNO.out⟩)⟩
      · have hno : ¬ ∃ l', decAll bs = some (l', bs.length) ∧ (vFault l').1 = 0 := by
          rintro ⟨l', h1, _⟩
          rw [HALL.out] at h1
          simp only [Option.some.injEq, Prod.mk.injEq] at h1
          exact hql h1.2
        have HNO := Aside0.mk hno
        have hd : ((q : Int) != (bs.length : Int)) = true := by
          rw [bne_iff_ne]
          omega
        have hd' : (q != bs.length) = true := by
          rw [bne_iff_ne]
          exact hql
        clear hno hql
        go_wp2_with fail
        refine bodyPost_ret (results_tc rfl _ _ w.heap.size 27 #[.int .i64 17, .int .i64 (-3)] (0, 0) _ rfl (set2 HF3.out _ _) Try.underlying27 rfl (by kernel_rfl)) rfl ?_
        exact ⟨_, [], 17, -3, rfl, Kd.R_nil _ _ _ _ _, below_set (below_set HB3.out (Nat.le_refl _)) (Nat.le_refl _), .inr (.inl ⟨hl, rfl, rfl, rfl, HNO.out⟩)⟩
end Go.Proofs.Ytillcdcmhdofbaa.Un
