/- codec.List over unwind rows, and unwind.Pack: the bytes of valid rows; conditions: the rows are read as a list. -/
import Derived.Test.YtillcdcmhdofbaaUnD
import Derived.Test.YtillcdcmhdofbaaUnB
namespace Go.Proofs.Ytillcdcmhdofbaa.Un
open Go.RowKit Go.Proofs.YtillcdcmhdofbaaW.PrintWords Go.Proofs.YtillcdcmhdofbaaW.PrintLast Go.Proofs.YtillcdcmhdofbaaW.PrintMore
open Go.Proofs.Ytillcdcmhdofbaa.PUnwindUnique
set_option linter.unusedVariables false
set_option linter.unusedSimpArgs false

/-- The bytes of rows behind row y. -/
def codeFrom : S48 → List S48 → List Int
  | _, [] => []
  | y, x :: xs => rowCode y x ++ codeFrom x xs
/-- The row behind which row k stands. -/
def before (y : S48) (l : List S48) (k : Nat) : S48 := if k = 0 then y else rd_T48 l ((k : Int) - 1)
theorem codeFrom_snoc (l : List S48) : ∀ (y x : S48), codeFrom y (l ++ [x]) = codeFrom y l ++ rowCode (l.getLastD y) x := by
  induction l with
  | nil => intro y x; simp [codeFrom]
  | cons a l ih =>
    intro y x
    rw [List.cons_append, codeFrom, codeFrom, ih a x, List.append_assoc]
    rw [List.getLastD_cons]
theorem rd_getElem (l : List S48) (k : Nat) (h : k < l.length) : rd_T48 l k = l[k] := by
  unfold rd_T48
  rw [Int.toNat_natCast, List.getD_eq_getElem?_getD, List.getElem?_eq_getElem h]
  rfl
theorem last_take (y : S48) (l : List S48) (k : Nat) (h : k ≤ l.length) : (l.take k).getLastD y = before y l k := by
  unfold before
  by_cases h0 : k = 0
  · subst h0
    simp
  · rw [if_neg h0, show ((k : Int) - 1) = ((k - 1 : Nat) : Int) by omega, rd_getElem l (k - 1) (by omega)]
    rw [List.getLastD_eq_getLast?, List.getLast?_eq_getElem?, List.length_take, Nat.min_eq_left h, List.getElem?_take, if_pos (by omega), List.getElem?_eq_getElem (by omega)]
    rfl
theorem codeFrom_take (y : S48) (l : List S48) (k : Nat) (h : k < l.length) : codeFrom y (l.take (k + 1)) = codeFrom y (l.take k) ++ rowCode (before y l k) (rd_T48 l k) := by
  rw [List.take_succ_eq_append_getElem h, codeFrom_snoc, last_take y l k (by omega), rd_getElem l k h]
theorem before_succ (y : S48) (l : List S48) (k : Nat) : before y l (k + 1) = rd_T48 l k := by
  unfold before
  rw [if_neg (by omega)]
  congr 1
  omega
theorem rowCode_len (y x : S48) : (rowCode y x).length ≤ 40 := ncs_len [_, _, _, _]
theorem codeFrom_len (l : List S48) : ∀ y, (codeFrom y l).length ≤ 40 * l.length := by
  induction l with
  | nil => intro y; simp [codeFrom]
  | cons x l ih =>
    intro y
    have h1 := rowCode_len y x
    have h2 := ih x
    rw [codeFrom, List.length_append, List.length_cons]
    omega
def ListPost (w0 w : World) (g pl : Nat) (bs : List Int) (e : Ending) (w' : World) : Prop :=
  e = .returned (.tuple #[]) ∧ IsW w0 w' g bs ∧ Below w0.heap.size w0 w' ∧ KeepL w w' pl

set_option maxHeartbeats 1000000 in
set_option maxRecDepth 100000 in
theorem f48_any (g pw pl : Nat) (A : Option Addr) (c : Nat) (l : List S48) (y : S48) (bs : List Int) (w0 w : World) (hI : IsW w0 w g bs) (hB : Below w0.heap.size w0 w) (hl : bs.length ≤ 1000000) (hn : l.length ≤ 8000)
    (hr : Kd.C k48 w0 A l.length l) (hy : Small y) (hs : ∀ k : Nat, k < l.length → Small (rd_T48 l k))
    (hp : w.heap[pw]? = some (.cells #[.pointer (some ⟨g, 0, none⟩)] 69 (0, 0))) (hq : w.heap[pl]? = some (.cells (cl1 y) 3 (0, 0))) (hpl : w0.heap.size ≤ pl) :
    Calls Try.prog 48 #[.pointer (some ⟨g, 0, none⟩), .slice A l.length c, .func (.func 49) #[] #[.pointer (some ⟨pw, 0, none⟩), .pointer (some ⟨pl, 0, none⟩)]] w (ListPost w0 w g pl (bs ++ nc l.length ++ codeFrom y l)) := by
  have hu48 := Try.underlying48
  have HI := Aside0.mk hI
  have HB := Aside0.mk hB
  have HR := Aside0.mk hr
  have HY := Aside0.mk hy
  have HS := Aside0.mk hs
  have HP := Aside0.mk hp
  have HQ := Aside0.mk hq
  have HPL := Aside0.mk hpl
  have HNE := Aside0.mk (blk_ne hp hq (by decide))
  clear hI hB hr hy hs hp hq hpl
  go_enter Try.func48, Try.ntmps48
  go_wp2_with fail
  refine (f57_any g l.length bs w0 _ HI.out HB.out (by omega) (by omega) (by omega)).mono ?_
  rintro e w1 ⟨rfl, hi, hb, hk⟩
  have HI1 := Aside0.mk hi
  have HB1 := Aside0.mk hb
  have HK1 := Aside0.mk ((KeepL.refl w pl).keepT hk)
  have HQ1 := Aside0.mk (hk.2 pl _ _ _ HQ.out (by decide) (by decide))
  clear hi hb hk
  go_wp2_with fail
  go_loopg [14] l.length (fun kq i w' => ∃ k : Nat, i = .int .i64 k ∧ k ≤ l.length ∧ Aside0 (l.length - k ≤ kq) ∧ Aside0 (IsW w0 w' g (bs ++ nc l.length ++ codeFrom y (l.take k))) ∧ Aside0 (Below w0.heap.size w0 w') ∧ Aside0 (KeepL w w' pl) ∧ Aside0 (w'.heap[pl]? = some (.cells (cl1 (before y l k)) 3 (0, 0))))
  case atStart => exact ⟨0, rfl, Nat.zero_le _, ⟨by omega⟩, ⟨by simpa [codeFrom] using HI1.out⟩, HB1, HK1, HQ1⟩
  case round =>
    obtain ⟨k, rfl, hk, HM, HI2, HB2, HK2, HQ2⟩ := hrel
    by_cases hlt : k < l.length
    · obtain ⟨ad, hA, hx0, hx1, hx2, hx3⟩ := at_T48 (Kd.C_below HR.out HB2.out) (k : Int) (by omega) (by omega)
      cases hA
      rw [Int.toNat_natCast] at hx0 hx1 hx2 hx3
      obtain ⟨x, hx⟩ : ∃ x, rd_T48 l (k : Int) = x := ⟨_, rfl⟩
      rw [hx] at hx0 hx1 hx2 hx3
      have HX := Aside0.mk hx
      clear hx
      go_wp2_with fail
      have HP2 := Aside0.mk (blk_alloc (HK2.out.2 pw _ _ _ HNE.out HP.out (by decide) (by decide)) (.cells (cl x) 48))
      refine (f49_any g pw pl x (before y l k) _ w0 _ (HI2.out.alloc _) (below_alloc' HB2.out _) ?_ (by rw [← HX.out]; exact HS.out k hlt) ?_ HP2.out (blk_alloc HQ2.out _) HPL.out).mono ?_
      · have h1 := codeFrom_len (l.take k) y
        have h2 : (l.take k).length ≤ k := List.length_take_le _ _
        have h3 := nc_len l.length
        rw [List.length_append, List.length_append]
        omega
      · unfold before
        split
        · exact HY.out
        · have h1 := HS.out (k - 1) (by omega)
          rwa [show (((k - 1 : Nat)) : Int) = (k : Int) - 1 by omega] at h1
      rintro e w2 ⟨rfl, hi, hb, hk', hq⟩
      have HI3 := Aside0.mk hi
      have HB3 := Aside0.mk hb
      have HK3 := Aside0.mk ((HK2.out.alloc (.cells (cl x) 48)).trans hk')
      have HQ3 := Aside0.mk hq
      clear hi hb hk' hq hx0 hx1 hx2 hx3
      go_wp2_with fail
      go_roundg (l.length - (k + 1))
      case measure => have := HM.out; omega
      case rel => exact ⟨k + 1, by go_num, by omega, ⟨Nat.le_refl _⟩, ⟨by rw [codeFrom_take _ _ _ hlt, HX.out, ← List.append_assoc]; exact HI3.out⟩, HB3, HK3, ⟨by rw [before_succ, HX.out]; exact HQ3.out⟩⟩
    · go_wp2_with fail
      go_end0
      have e : l.take k = l := List.take_of_length_le (by omega)
      have h1 := HI2.out
      rw [e] at h1
      exact ⟨rfl, h1, HB2.out, HK2.out⟩

attribute [local go_sem high] eqA27

/-- The two blocks of Pack: its second result, its fault. -/
theorem one_below (w : World) : Below w.heap.size w (w.alloc (.cells #[.int .i64 0, .int .i64 0] 27)) := below_alloc (Below.refl _ _) _

set_option maxHeartbeats 1000000 in
set_option maxRecDepth 100000 in
theorem f35_bad (k : Nat) (A : Option Addr) (c : Nat) (l : List S48) (r1 r2 : Int) (w : World) (hr : Kd.C k48 w A l.length l) (hcl : l.length ≤ c) (hv : unwind_Validate.f k l = some (r1, r2)) (hne : ¬ (r1 = 0 ∧ r2 = 0)) :
    Calls Try.prog 35 #[.slice A l.length c] w fun e w' => e = .returned (.tuple #[.slice none 0 0, .agg #[.int .i64 r1, .int .i64 r2]]) ∧ Below w.heap.size w w' := by
  have hu27 := Try.underlying27
  have HB := Aside0.mk (one_below w)
  have HR := Aside0.mk (Kd.C_below hr HB.out)
  have HV := Aside0.mk hv
  have HN := Aside0.mk (show (r1 == 0 && (r2 == 0)) = false by simpa using hne)
  clear hr hv hne
  go_enter Try.func35, Try.ntmps35
  go_wp2_with fail
  refine (unwind_Validate.calls k A c l r1 r2 _ HR.out hcl HV.out).mono ?_
  rintro e w1 ⟨rfl, hb⟩
  have HB1 := Aside0.mk (below_then HB.out HB.out.size hb)
  have HK0 := Aside0.mk (blk_below (blk_new w (.cells #[.int .i64 0, .int .i64 0] 27)) hb)
  clear hb
  have hN := HN.out
  go_wp2_with fail
  have HB2 := Aside0.mk (below_alloc HB1.out (.cells #[.int .i64 r1, .int .i64 r2] 27))
  have HK02 := Aside0.mk (blk_alloc HK0.out (.cells #[.int .i64 r1, .int .i64 r2] 27))
  have HK22 := Aside0.mk (blk_new w1 (.cells #[.int .i64 r1, .int .i64 r2] 27))
  have hne1 : w.heap.size ≠ w1.heap.size := Nat.ne_of_lt (blk_lt HK0.out)
  generalize w1.alloc (.cells #[.int .i64 r1, .int .i64 r2] 27) = W2 at HB2 HK02 HK22 ⊢
  clear HK0 HB1 HB hN HN
  obtain ⟨g2, hg2⟩ : ∃ g2, w1.heap.size = g2 := ⟨_, rfl⟩
  rw [hg2] at HK22 hne1 ⊢
  clear hg2
  have hq0 : W2.cell? ⟨w.heap.size, 0, none⟩ = some (.int .i64 0) := (blk_cell HK02.out 0).trans rfl
  have hq1 : W2.cell? ⟨w.heap.size, 1, none⟩ = some (.int .i64 0) := (blk_cell HK02.out 1).trans rfl
  have hf0 := blk_frozen HK02.out 0
  have hf1 := blk_frozen HK02.out 1
  have hs0 : W2.cell? ⟨g2, 0, none⟩ = some (.int .i64 r1) := (blk_cell HK22.out 0).trans rfl
  have hs1 : W2.cell? ⟨g2, 1, none⟩ = some (.int .i64 r2) := (blk_cell HK22.out 1).trans rfl
  go_region
  go_wp2
  refine bodyPost_ret (results_tc rfl _ _ w.heap.size 27 #[.int .i64 r1, .int .i64 r2] (0, 0) _ rfl (blk_drew (set2 HK02.out _ _)) Try.underlying27 rfl (by kernel_rfl)) rfl ?_
  exact ⟨rfl, below_drew1 (below_set (below_set HB2.out (Nat.le_refl _)) (Nat.le_refl _))⟩

theorem four (w : World) (o1 o2 o3 o4 : Obj) : ((((w.alloc o1).alloc o2).alloc o3).alloc o4).heap[w.heap.size + 1]? = some o2 ∧ ((((w.alloc o1).alloc o2).alloc o3).alloc o4).heap[w.heap.size + 1 + 1]? = some o3 ∧ ((((w.alloc o1).alloc o2).alloc o3).alloc o4).heap[w.heap.size + 1 + 1 + 1]? = some o4 := by
  have h2 := blk_new (w.alloc o1) o2
  have h3 := blk_new ((w.alloc o1).alloc o2) o3
  have h4 := blk_new (((w.alloc o1).alloc o2).alloc o3) o4
  have e1 : (w.alloc o1).heap.size = w.heap.size + 1 := by simp
  have e2 : ((w.alloc o1).alloc o2).heap.size = w.heap.size + 1 + 1 := by simp
  have e3 : (((w.alloc o1).alloc o2).alloc o3).heap.size = w.heap.size + 1 + 1 + 1 := by simp
  rw [e1] at h2
  rw [e2] at h3
  rw [e3] at h4
  exact ⟨blk_alloc (blk_alloc h2 _) _, blk_alloc h3 _, h4⟩
theorem small_z : Small z48 := ⟨by decide, by decide, by decide, by decide, by decide, by decide, by decide, by decide⟩

/-- What Pack returns for valid rows: the bytes, a row of the call's own. -/
def PackPost (l : List S48) (w : World) (e : Ending) (w' : World) : Prop :=
  ∃ v, e = .returned (.tuple #[v, .agg #[.int .i64 0, .int .i64 0]]) ∧ w'.ownsRow w.heap.size 5 1 v (nc l.length ++ codeFrom z48 l).length (nums .u8 (nc l.length ++ codeFrom z48 l)) ∧ Below w.heap.size w w'

set_option maxHeartbeats 1000000 in
set_option maxRecDepth 100000 in
theorem f35_ok (k : Nat) (A : Option Addr) (c : Nat) (l : List S48) (w : World) (hr : Kd.C k48 w A l.length l) (hcl : l.length ≤ c) (hv : unwind_Validate.f k l = some (0, 0)) (hn : l.length ≤ 8000) (hs : ∀ k : Nat, k < l.length → Small (rd_T48 l k)) :
    Calls Try.prog 35 #[.slice A l.length c] w (PackPost l w) := by
  have hmf : ∀ (fn : Fn) (first cap : Array Value) (w : World), (Instr.makeFunc fn first cap).run Try.prog w = .ok (.func fn first cap) w := fun _ _ _ _ => rfl
  have hu48 := Try.underlying48
  have hu27 := Try.underlying27
  have HB := Aside0.mk (one_below w)
  have HR := Aside0.mk (Kd.C_below hr HB.out)
  have HR0 := Aside0.mk hr
  have HV := Aside0.mk hv
  have HS := Aside0.mk hs
  clear hr hv hs
  go_enter Try.func35, Try.ntmps35
  go_wp2_with fail
  refine (unwind_Validate.calls k A c l 0 0 _ HR.out hcl HV.out).mono ?_
  rintro e w1 ⟨rfl, hb⟩
  have HB1 := Aside0.mk (below_then HB.out HB.out.size hb)
  have HK0 := Aside0.mk (blk_below (blk_new w (.cells #[.int .i64 0, .int .i64 0] 27)) hb)
  clear hb
  go_wp2_with fail
  have h4 := four w1 (.cells #[.int .i64 0, .int .i64 0] 27) (.cells #[.slice none 0 0] 71) (.cells #[.pointer (some ⟨w1.heap.size + 1, 0, none⟩)] 69) (.cells (cl1 z48) 3)
  have HW := Aside0.mk (show IsW w ((((w1.alloc (.cells #[.int .i64 0, .int .i64 0] 27)).alloc (.cells #[.slice none 0 0] 71)).alloc (.cells #[.pointer (some ⟨w1.heap.size + 1, 0, none⟩)] 69)).alloc (.cells (cl1 z48) 3)) (w1.heap.size + 1) [] from
    ⟨.slice none 0 0, h4.1, by have := HB1.out.size; omega, own_nil _ _ _ _⟩)
  have HB2 := Aside0.mk (below_alloc' (below_alloc' (below_alloc' (below_alloc' HB1.out (.cells #[.int .i64 0, .int .i64 0] 27)) (.cells #[.slice none 0 0] 71)) (.cells #[.pointer (some ⟨w1.heap.size + 1, 0, none⟩)] 69)) (.cells (cl1 z48) 3))
  have HP := Aside0.mk h4.2.1
  have HQ := Aside0.mk h4.2.2
  have HK2 := Aside0.mk (blk_alloc (blk_alloc (blk_alloc (blk_alloc HK0.out (.cells #[.int .i64 0, .int .i64 0] 27)) (.cells #[.slice none 0 0] 71)) (.cells #[.pointer (some ⟨w1.heap.size + 1, 0, none⟩)] 69)) (.cells (cl1 z48) 3))
  have hpl : w.heap.size ≤ w1.heap.size + 1 + 1 + 1 := by have := HB1.out.size; omega
  have HPL := Aside0.mk hpl
  have HNE := Aside0.mk (show w.heap.size ≠ w1.heap.size + 1 + 1 + 1 by have := blk_lt HK0.out; omega)
  clear h4 hpl
  refine (f48_any (w1.heap.size + 1) (w1.heap.size + 1 + 1) (w1.heap.size + 1 + 1 + 1) A c l z48 [] w _ HW.out HB2.out (by simp) hn HR0.out small_z HS.out HP.out HQ.out HPL.out).mono ?_
  rintro e w2 ⟨rfl, hi, hb, hk⟩
  have HK3 := Aside0.mk (hk.2 _ _ _ _ HNE.out HK2.out (by decide) (by decide))
  have HP3 := Aside0.mk (hk.2 (w1.heap.size + 1 + 1) _ _ _ (by omega) HP.out (by decide) (by decide))
  have HB3 := Aside0.mk hb
  rw [List.nil_append] at hi
  obtain ⟨bs, hbs⟩ : ∃ bs, nc l.length ++ codeFrom z48 l = bs := ⟨_, rfl⟩
  rw [hbs] at hi
  have HBS := Aside0.mk hbs
  clear hbs
  obtain ⟨v, hv, hg, ho⟩ := hi
  obtain ⟨A1, C1, rfl⟩ := own_slice ho
  have HV3 := Aside0.mk hv
  have HO3 := Aside0.mk ho
  clear hk hb hv hg ho
  have hc0 : w2.cell? ⟨w1.heap.size + 1 + 1, 0, none⟩ = some (.pointer (some ⟨w1.heap.size + 1, 0, none⟩)) := (blk_cell HP3.out 0).trans rfl
  have hc1 := (blk_cell HV3.out 0).trans rfl
  have hq0 : w2.cell? ⟨w.heap.size, 0, none⟩ = some (.int .i64 0) := (blk_cell HK3.out 0).trans rfl
  have hq1 : w2.cell? ⟨w.heap.size, 1, none⟩ = some (.int .i64 0) := (blk_cell HK3.out 1).trans rfl
  have hf0 := blk_frozen HK3.out 0
  have hf1 := blk_frozen HK3.out 1
  go_wp2_with fail
  refine bodyPost_ret (results_tc rfl _ _ w.heap.size 27 #[.int .i64 0, .int .i64 0] (0, 0) _ rfl (set2 HK3.out _ _) Try.underlying27 rfl (by kernel_rfl)) rfl ?_
  have h2 := blk_set HK3.out 0 (.int .i64 0)
  have o1 := own_setCell HO3.out (p := ⟨w.heap.size, 0, none⟩) (own_ne HO3.out HK3.out (show (5 : Nat) ≠ 27 by decide)) (.int .i64 0)
  have o2 := own_setCell o1 (p := ⟨w.heap.size, 1, none⟩) (own_ne o1 h2 (show (5 : Nat) ≠ 27 by decide)) (.int .i64 0)
  unfold PackPost
  rw [HBS.out]
  exact ⟨_, rfl, o2, below_set (below_set HB3.out (Nat.le_refl _)) (Nat.le_refl _)⟩
end Go.Proofs.Ytillcdcmhdofbaa.Un
