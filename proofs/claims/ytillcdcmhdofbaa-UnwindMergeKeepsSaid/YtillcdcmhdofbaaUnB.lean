/- unwind.Row and unwind.Find return the row that applies, as their plain descriptions say; conditions: the rows are read as a list. -/
import Derived.Test.YtillcdcmhdofbaaUnA
import Derived.Test.YtillcdcmhdofbaaPUnwindUniquex1
import Derived.Test.YtillcdcmhdofbaaPUnwindUniquex3
namespace Go.Proofs.Ytillcdcmhdofbaa.Un
open Go.RowKit Go.Proofs.YtillcdcmhdofbaaW.PrintWords Go.Proofs.YtillcdcmhdofbaaW.PrintLast Go.Proofs.YtillcdcmhdofbaaW.PrintMore
open Go.Proofs.Ytillcdcmhdofbaa.PUnwindUnique
set_option linter.unusedVariables false
set_option linter.unusedSimpArgs false

/-- What is found: no row, or the last row whose offset is not greater. -/
def Found (l : List S48) (off : Int) (x : S48) (b : Bool) : Prop :=
  (b = false ∧ x = z48 ∧ ∀ t : Nat, t < l.length → off < (rd_T48 l t).f0) ∨
  (b = true ∧ ∃ k : Nat, k < l.length ∧ x = rd_T48 l k ∧ (rd_T48 l k).f0 ≤ off ∧ ∀ t : Nat, k < t → t < l.length → off < (rd_T48 l t).f0)
def RowPost (l : List S48) (off : Int) (w : World) (e : Ending) (w' : World) : Prop :=
  ∃ x b, e = .returned (.tuple #[ag x, .bool b]) ∧ Found l off x b ∧ Below w.heap.size w w'
theorem found_no {l : List S48} {off r : Int} (h : AtP l off r) (hr : r < 0) : Found l off z48 false := .inl ⟨rfl, rfl, fun t ht => h.gt t (by omega) ht⟩
theorem found_yes {l : List S48} {off : Int} {k : Nat} (h : AtP l off k) : Found l off (rd_T48 l k) true := .inr ⟨rfl, k, by have := h.hi; omega, rfl, h.le k (Int.le_refl _), fun t ht hl => h.gt t (by omega) hl⟩

theorem new3 (w : World) (a b c d : Value) (t : TypeId) : (w.alloc (.cells #[a, b, c, d] t)).heap[w.heap.size]? = some (.cells #[a, b, c, d] t (0, 0)) := blk_new w _

theorem set3 {w : World} {g : Nat} {a b c d : Value} {t : TypeId} (h : w.heap[g]? = some (.cells #[a, b, c, d] t (0, 0))) (x y z u : Value) :
    ((((w.setCell ⟨g, 0, none⟩ x).setCell ⟨g, 1, none⟩ y).setCell ⟨g, 2, none⟩ z).setCell ⟨g, 3, none⟩ u).heap[g]? = some (.cells #[x, y, z, u] t (0, 0)) :=
  blk_set (blk_set (blk_set (blk_set h 0 x) 1 y) 2 z) 3 u

set_option maxHeartbeats 1000000 in
set_option maxRecDepth 100000 in
theorem f46_any (A : Option Addr) (c : Nat) (l : List S48) (off : Int) (w : World) (hr : Kd.C k48 w A l.length l) (hn : l.length ≤ 100000) (hs : Rises l) :
    Calls Try.prog 46 #[.slice A l.length c, .int .i64 off] w (RowPost l off w) := by
  have hu48 := Try.underlying48
  have HB := Aside0.mk (below_alloc (Below.refl w.heap.size w) (.cells #[.int .i64 0, .int .i64 0, .int .i64 0, .int .i64 0] 48))
  have HR := Aside0.mk (Kd.C_below hr HB.out)
  have HS := Aside0.mk hs
  clear hr hs
  go_enter Try.func46, Try.ntmps46
  go_wp2_with fail
  refine (f58_any A c l off _ HR.out hn HS.out).mono ?_
  rintro e w1 ⟨r, rfl, hp, hb⟩
  have HB1 := Aside0.mk (below_then HB.out HB.out.size hb)
  have HK := Aside0.mk (blk_below (new3 w (.int .i64 0) (.int .i64 0) (.int .i64 0) (.int .i64 0) 48) hb)
  have HR1 := Aside0.mk (Kd.C_below HR.out hb)
  have HP := Aside0.mk hp
  have hlo := hp.lo
  have hhi := hp.hi
  clear hb hp
  have hq0 : w1.cell? ⟨w.heap.size, 0, none⟩ = some (.int .i64 0) := (blk_cell HK.out 0).trans rfl
  have hq1 : w1.cell? ⟨w.heap.size, 1, none⟩ = some (.int .i64 0) := (blk_cell HK.out 1).trans rfl
  have hq2 : w1.cell? ⟨w.heap.size, 2, none⟩ = some (.int .i64 0) := (blk_cell HK.out 2).trans rfl
  have hq3 : w1.cell? ⟨w.heap.size, 3, none⟩ = some (.int .i64 0) := (blk_cell HK.out 3).trans rfl
  have hf0 := blk_frozen HK.out 0
  have hf1 := blk_frozen HK.out 1
  have hf2 := blk_frozen HK.out 2
  have hf3 := blk_frozen HK.out 3
  by_cases hneg : r < 0
  · go_wp2_with fail
    refine bodyPost_ret (results_ct rfl _ _ w.heap.size 48 #[.int .i64 0, .int .i64 0, .int .i64 0, .int .i64 0] (0, 0) _ rfl (set3 HK.out _ _ _ _) Try.underlying48 rfl (by kernel_rfl)) rfl ?_
    exact ⟨z48, false, rfl, found_no HP.out hneg, below_set (below_set (below_set (below_set HB1.out (Nat.le_refl _)) (Nat.le_refl _)) (Nat.le_refl _)) (Nat.le_refl _)⟩
  · obtain ⟨k, rfl⟩ := Int.eq_ofNat_of_zero_le (show 0 ≤ r by omega)
    obtain ⟨ad, hA, hx0, hx1, hx2, hx3⟩ := at_T48 HR1.out (k : Int) (by omega) (by omega)
    cases hA
    rw [Int.toNat_natCast] at hx0 hx1 hx2 hx3
    obtain ⟨x, hx⟩ : ∃ x, rd_T48 l (k : Int) = x := ⟨_, rfl⟩
    rw [hx] at hx0 hx1 hx2 hx3
    have HX := Aside0.mk hx
    clear hx
    go_wp2_with fail
    refine bodyPost_ret (results_ct rfl _ _ w.heap.size 48 #[.int .i64 x.f0, .int .i64 x.f1, .int .i64 x.f2, .int .i64 x.f3] (0, 0) _ rfl (set3 HK.out _ _ _ _) Try.underlying48 rfl (by kernel_rfl)) rfl ?_
    exact ⟨x, true, rfl, by rw [← HX.out]; exact found_yes HP.out, below_set (below_set (below_set (below_set HB1.out (Nat.le_refl _)) (Nat.le_refl _)) (Nat.le_refl _)) (Nat.le_refl _)⟩

theorem results_ctc {P : Program} {fn : Func} {p p' u : Tmp} {ty ty' : TypeId} (h : fn.results = #[.cell p ty, .tmp u, .cell p' ty']) (tmps : Array Value) (w : World) (g g' : Nat) (t t' : TypeId) (cs cs' : Array Value) (fr fr' : Nat × Nat) (d d' : TypeDesc)
    (hp : tmps.getD p undef = .pointer (some ⟨g, 0, none⟩)) (hg : w.heap[g]? = some (.cells cs t fr))
    (hu : P.underlying ty = some d) (hd : (match d with | .struct _ | .array _ _ => true | _ => false) = true) (hi : (P.info? ty).map (·.size) = some cs.size)
    (hp' : tmps.getD p' undef = .pointer (some ⟨g', 0, none⟩)) (hg' : w.heap[g']? = some (.cells cs' t' fr'))
    (hu' : P.underlying ty' = some d') (hd' : (match d' with | .struct _ | .array _ _ => true | _ => false) = true) (hi' : (P.info? ty').map (·.size) = some cs'.size) :
    (results fn tmps).run P w = .ok (.tuple #[.agg cs, tmps.getD u undef, .agg cs']) w := by
  have h1 : tmps[p]?.getD undef = .pointer (some ⟨g, 0, none⟩) := by simpa using hp
  have h2 : tmps[p']?.getD undef = .pointer (some ⟨g', 0, none⟩) := by simpa using hp'
  simp [results, h, h1, h2, asAddr, run_loadVar_row w g t ty cs fr d hg hu hd hi, run_loadVar_row w g' t' ty' cs' fr' d' hg' hu' hd' hi']

attribute [local go_sem high] eqA27

theorem set2 {w : World} {g : Nat} {a b : Value} {t : TypeId} (h : w.heap[g]? = some (.cells #[a, b] t (0, 0))) (x y : Value) :
    ((w.setCell ⟨g, 0, none⟩ x).setCell ⟨g, 1, none⟩ y).heap[g]? = some (.cells #[x, y] t (0, 0)) := blk_set (blk_set h 0 x) 1 y
theorem far2 {w : World} {g g' : Nat} {t : TypeId} {cs : Array Value} (h : w.heap[g]? = some (.cells cs t (0, 0))) (hg : g ≠ g') (x y : Value) :
    ((w.setCell ⟨g', 0, none⟩ x).setCell ⟨g', 1, none⟩ y).heap[g]? = some (.cells cs t (0, 0)) := blk_far (blk_far h hg x) hg y
theorem far3 {w : World} {g g' : Nat} {t : TypeId} {cs : Array Value} (h : w.heap[g]? = some (.cells cs t (0, 0))) (hg : g ≠ g') (x y z u : Value) :
    ((((w.setCell ⟨g', 0, none⟩ x).setCell ⟨g', 1, none⟩ y).setCell ⟨g', 2, none⟩ z).setCell ⟨g', 3, none⟩ u).heap[g]? = some (.cells cs t (0, 0)) := blk_far (blk_far (far2 h hg x y) hg z) hg u

/-- The two blocks of the results. -/
theorem two_below (w : World) : Below w.heap.size w ((w.alloc (.cells #[.int .i64 0, .int .i64 0, .int .i64 0, .int .i64 0] 48)).alloc (.cells #[.int .i64 0, .int .i64 0] 27)) := below_alloc (below_alloc (Below.refl _ _) _) _
theorem two_fst (w : World) : ((w.alloc (.cells #[.int .i64 0, .int .i64 0, .int .i64 0, .int .i64 0] 48)).alloc (.cells #[.int .i64 0, .int .i64 0] 27)).heap[w.heap.size]? = some (.cells #[.int .i64 0, .int .i64 0, .int .i64 0, .int .i64 0] 48 (0, 0)) := blk_alloc (blk_new _ _) _
theorem two_snd (w : World) : ((w.alloc (.cells #[.int .i64 0, .int .i64 0, .int .i64 0, .int .i64 0] 48)).alloc (.cells #[.int .i64 0, .int .i64 0] 27)).heap[w.heap.size + 1]? = some (.cells #[.int .i64 0, .int .i64 0] 27 (0, 0)) := by
  have h := blk_new (w.alloc (.cells #[.int .i64 0, .int .i64 0, .int .i64 0, .int .i64 0] 48)) (.cells #[.int .i64 0, .int .i64 0] 27)
  simpa using h

set_option maxHeartbeats 1000000 in
set_option maxRecDepth 100000 in
theorem f28_bad (k : Nat) (A : Option Addr) (c : Nat) (l : List S48) (off r1 r2 : Int) (w : World) (hr : Kd.C k48 w A l.length l) (hcl : l.length ≤ c) (hv : unwind_Validate.f k l = some (r1, r2)) (hne : ¬ (r1 = 0 ∧ r2 = 0)) :
    Calls Try.prog 28 #[.slice A l.length c, .int .i64 off] w fun e w' => e = .returned (.tuple #[ag z48, .bool false, .agg #[.int .i64 r1, .int .i64 r2]]) ∧ Below w.heap.size w w' := by
  have hu48 := Try.underlying48
  have hu27 := Try.underlying27
  have HB := Aside0.mk (two_below w)
  have HR := Aside0.mk (Kd.C_below hr HB.out)
  have HV := Aside0.mk hv
  have HN := Aside0.mk (show (r1 == 0 && (r2 == 0)) = false by simpa using hne)
  clear hr hv hne
  go_enter Try.func28, Try.ntmps28
  go_wp2_with fail
  refine (unwind_Validate.calls k A c l r1 r2 _ HR.out hcl HV.out).mono ?_
  rintro e w1 ⟨rfl, hb⟩
  have HB1 := Aside0.mk (below_then HB.out HB.out.size hb)
  have HK0 := Aside0.mk (blk_below (two_fst w) hb)
  have HK1 := Aside0.mk (blk_below (two_snd w) hb)
  have hsz : w.heap.size + 1 < w1.heap.size := by have := hb.size; simp at this; omega
  clear hb
  have hN := HN.out
  go_wp2_with fail
  have HB2 := Aside0.mk (below_alloc HB1.out (.cells #[.int .i64 r1, .int .i64 r2] 27))
  have HK02 := Aside0.mk (blk_alloc HK0.out (.cells #[.int .i64 r1, .int .i64 r2] 27))
  have HK12 := Aside0.mk (blk_alloc HK1.out (.cells #[.int .i64 r1, .int .i64 r2] 27))
  have HK22 := Aside0.mk (blk_new w1 (.cells #[.int .i64 r1, .int .i64 r2] 27))
  generalize w1.alloc (.cells #[.int .i64 r1, .int .i64 r2] 27) = W2 at HB2 HK02 HK12 HK22 ⊢
  clear HK0 HK1 HB1 HB hN HN
  obtain ⟨g2, hg2⟩ : ∃ g2, w1.heap.size = g2 := ⟨_, rfl⟩
  rw [hg2] at hsz HK22 ⊢
  clear hg2
  have hq0 : W2.cell? ⟨w.heap.size, 0, none⟩ = some (.int .i64 0) := (blk_cell HK02.out 0).trans rfl
  have hq1 : W2.cell? ⟨w.heap.size, 1, none⟩ = some (.int .i64 0) := (blk_cell HK02.out 1).trans rfl
  have hq2 : W2.cell? ⟨w.heap.size, 2, none⟩ = some (.int .i64 0) := (blk_cell HK02.out 2).trans rfl
  have hq3 : W2.cell? ⟨w.heap.size, 3, none⟩ = some (.int .i64 0) := (blk_cell HK02.out 3).trans rfl
  have hf0 := blk_frozen HK02.out 0
  have hf1 := blk_frozen HK02.out 1
  have hf2 := blk_frozen HK02.out 2
  have hf3 := blk_frozen HK02.out 3
  have hr0 : W2.cell? ⟨w.heap.size + 1, 0, none⟩ = some (.int .i64 0) := (blk_cell HK12.out 0).trans rfl
  have hr1 : W2.cell? ⟨w.heap.size + 1, 1, none⟩ = some (.int .i64 0) := (blk_cell HK12.out 1).trans rfl
  have he0 := blk_frozen HK12.out 0
  have he1 := blk_frozen HK12.out 1
  have hs0 : W2.cell? ⟨g2, 0, none⟩ = some (.int .i64 r1) := (blk_cell HK22.out 0).trans rfl
  have hs1 : W2.cell? ⟨g2, 1, none⟩ = some (.int .i64 r2) := (blk_cell HK22.out 1).trans rfl
  have hne1 : w.heap.size ≠ g2 := by omega
  have hne2 : w.heap.size + 1 ≠ g2 := by omega
  go_region
  go_wp2
  refine bodyPost_ret (results_ctc rfl _ _ w.heap.size (w.heap.size + 1) 48 27 #[.int .i64 0, .int .i64 0, .int .i64 0, .int .i64 0] #[.int .i64 r1, .int .i64 r2] (0, 0) (0, 0) _ _ rfl (blk_drew (far2 (set3 HK02.out _ _ _ _) (by simp) _ _)) Try.underlying48 rfl (by kernel_rfl) rfl (blk_drew (set2 (far3 HK12.out (by simp) _ _ _ _) _ _)) Try.underlying27 rfl (by kernel_rfl)) rfl ?_
  exact ⟨rfl, below_drew1 (below_set (below_set (below_set (below_set (below_set (below_set HB2.out (Nat.le_refl _)) (Nat.le_refl _)) (Nat.le_refl _)) (Nat.le_refl _)) (Nat.le_add_right _ _)) (Nat.le_add_right _ _))⟩

/-- What Find returns for valid rows. -/
def FindPost (l : List S48) (off : Int) (w : World) (e : Ending) (w' : World) : Prop :=
  ∃ x b, e = .returned (.tuple #[ag x, .bool b, .agg #[.int .i64 0, .int .i64 0]]) ∧ Found l off x b ∧ Below w.heap.size w w'

set_option maxHeartbeats 1000000 in
set_option maxRecDepth 100000 in
theorem f28_ok (k : Nat) (A : Option Addr) (c : Nat) (l : List S48) (off : Int) (w : World) (hr : Kd.C k48 w A l.length l) (hcl : l.length ≤ c) (hv : unwind_Validate.f k l = some (0, 0)) (hn : l.length ≤ 100000) (hs : Rises l) :
    Calls Try.prog 28 #[.slice A l.length c, .int .i64 off] w (FindPost l off w) := by
  have hu48 := Try.underlying48
  have hu27 := Try.underlying27
  have HB := Aside0.mk (two_below w)
  have HR := Aside0.mk (Kd.C_below hr HB.out)
  have HV := Aside0.mk hv
  have HS := Aside0.mk hs
  clear hr hv hs
  go_enter Try.func28, Try.ntmps28
  go_wp2_with fail
  refine (unwind_Validate.calls k A c l 0 0 _ HR.out hcl HV.out).mono ?_
  rintro e w1 ⟨rfl, hb⟩
  have HB1 := Aside0.mk (below_then HB.out HB.out.size hb)
  have HK0 := Aside0.mk (blk_below (two_fst w) hb)
  have HK1 := Aside0.mk (blk_below (two_snd w) hb)
  have HR1 := Aside0.mk (Kd.C_below HR.out hb)
  clear hb
  go_wp2_with fail
  have HB2 := Aside0.mk (below_alloc HB1.out (.cells #[.int .i64 0, .int .i64 0] 27))
  have HK02 := Aside0.mk (blk_alloc HK0.out (.cells #[.int .i64 0, .int .i64 0] 27))
  have HK12 := Aside0.mk (blk_alloc HK1.out (.cells #[.int .i64 0, .int .i64 0] 27))
  have HR2 := Aside0.mk (Kd.C_below HR1.out (below_alloc (Below.refl _ _) (.cells #[.int .i64 0, .int .i64 0] 27)))
  refine (f46_any A c l off _ HR2.out hn HS.out).mono ?_
  rintro e w2 ⟨x, b, rfl, hf, hb⟩
  have HB3 := Aside0.mk (below_then HB2.out HB2.out.size hb)
  have HK03 := Aside0.mk (blk_below HK02.out hb)
  have HK13 := Aside0.mk (blk_below HK12.out hb)
  have HF := Aside0.mk hf
  have hsz : w.heap.size + 1 < w2.heap.size := blk_lt HK13.out
  have hsz0 : w.heap.size < w2.heap.size := blk_lt HK03.out
  unfold ag
  clear hb hf HB HB1 HB2 HK0 HK1 HK02 HK12 HR HR1 HR2
  have HB4 := Aside0.mk (below_alloc HB3.out (.cells #[.int .i64 x.f0, .int .i64 x.f1, .int .i64 x.f2, .int .i64 x.f3] 48))
  have HK04 := Aside0.mk (blk_alloc HK03.out (.cells #[.int .i64 x.f0, .int .i64 x.f1, .int .i64 x.f2, .int .i64 x.f3] 48))
  have HK14 := Aside0.mk (blk_alloc HK13.out (.cells #[.int .i64 x.f0, .int .i64 x.f1, .int .i64 x.f2, .int .i64 x.f3] 48))
  have hq0 : w2.cell? ⟨w.heap.size, 0, none⟩ = some (.int .i64 0) := (blk_cell HK03.out 0).trans rfl
  have hq1 : w2.cell? ⟨w.heap.size, 1, none⟩ = some (.int .i64 0) := (blk_cell HK03.out 1).trans rfl
  have hq2 : w2.cell? ⟨w.heap.size, 2, none⟩ = some (.int .i64 0) := (blk_cell HK03.out 2).trans rfl
  have hq3 : w2.cell? ⟨w.heap.size, 3, none⟩ = some (.int .i64 0) := (blk_cell HK03.out 3).trans rfl
  have hf0 := blk_frozen HK03.out 0
  have hf1 := blk_frozen HK03.out 1
  have hf2 := blk_frozen HK03.out 2
  have hf3 := blk_frozen HK03.out 3
  have hr0 : w2.cell? ⟨w.heap.size + 1, 0, none⟩ = some (.int .i64 0) := (blk_cell HK13.out 0).trans rfl
  have hr1 : w2.cell? ⟨w.heap.size + 1, 1, none⟩ = some (.int .i64 0) := (blk_cell HK13.out 1).trans rfl
  have he0 := blk_frozen HK13.out 0
  have he1 := blk_frozen HK13.out 1
  go_wp2_with fail
  refine bodyPost_ret (results_ctc rfl _ _ w.heap.size (w.heap.size + 1) 48 27 #[.int .i64 x.f0, .int .i64 x.f1, .int .i64 x.f2, .int .i64 x.f3] #[.int .i64 0, .int .i64 0] (0, 0) (0, 0) _ _ rfl (blk_alloc (far2 (set3 HK03.out _ _ _ _) (by simp) _ _) _) Try.underlying48 rfl (by kernel_rfl) rfl (blk_alloc (set2 (far3 HK13.out (by simp) _ _ _ _) _ _) _) Try.underlying27 rfl (by kernel_rfl)) rfl ?_
  exact ⟨x, b, rfl, HF.out, below_alloc (below_set (below_set (below_set (below_set (below_set (below_set HB3.out (Nat.le_refl _)) (Nat.le_refl _)) (Nat.le_refl _)) (Nat.le_refl _)) (Nat.le_add_right _ _)) (Nat.le_add_right _ _)) _⟩

end Go.Proofs.Ytillcdcmhdofbaa.Un
