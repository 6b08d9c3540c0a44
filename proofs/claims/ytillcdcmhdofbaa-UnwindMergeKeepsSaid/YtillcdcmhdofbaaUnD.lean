/- codec's (*Writer).Numbers, and unwind.Pack's closure and loop, append the encodings; conditions: the writer's bytes are the call's own. -/
import Derived.Test.YtillcdcmhdofbaaUnC
import Derived.Test.YtillcdcmhdofbaaUnA
namespace Go.Proofs.Ytillcdcmhdofbaa.Un
open Go.RowKit Go.Proofs.YtillcdcmhdofbaaW.PrintWords Go.Proofs.YtillcdcmhdofbaaW.PrintLast Go.Proofs.YtillcdcmhdofbaaW.PrintMore
open Go.Proofs.Ytillcdcmhdofbaa.PUnwindUnique
set_option linter.unusedVariables false
set_option linter.unusedSimpArgs false

theorem vc_len (k : Nat) : ∀ u, (vc k u).length ≤ k + 1 := by
  induction k with
  | zero => intro u; simp [vc]
  | succ k ih =>
    intro u
    rw [vc]
    split
    · have := ih (u / 128)
      simp only [List.length_cons]
      omega
    · simp
theorem nc_len (n : Int) : (nc n).length ≤ 10 := vc_len 9 _
def ncs (ns : List Int) : List Int := ns.flatMap nc
theorem ncs_len (ns : List Int) : (ncs ns).length ≤ 10 * ns.length := by
  induction ns with
  | nil => simp [ncs]
  | cons n ns ih =>
    have := nc_len n
    simp only [ncs, List.flatMap_cons, List.length_append, List.length_cons] at ih ⊢
    omega
theorem ncs_take (ns : List Int) (k : Nat) (hk : k < ns.length) : ncs (ns.take (k + 1)) = ncs (ns.take k) ++ nc (ns.getD k 0) := by
  have e : ns.take (k + 1) = ns.take k ++ [ns.getD k 0] := by
    rw [List.take_succ_eq_append_getElem hk]
    simp [List.getD_eq_getElem?_getD, List.getElem?_eq_getElem hk]
  rw [e, ncs, List.flatMap_append]
  simp [ncs]
/-- An int's range. -/
def InI (n : Int) : Prop := -9223372036854775808 ≤ n ∧ n ≤ 9223372036854775807
theorem IsW.size {w0 W : World} {g : Nat} {bs : List Int} (h : IsW w0 W g bs) : g < W.heap.size := by
  obtain ⟨v, hv, _⟩ := h
  exact blk_lt hv

set_option maxHeartbeats 1000000 in
set_option maxRecDepth 100000 in
theorem f44_any (g b : Nat) (ns : List Int) (bs : List Int) (w0 w : World) (hI : IsW w0 w g bs) (hB : Below w0.heap.size w0 w) (hl : bs.length + 10 * ns.length ≤ 1000000000) (hr : ∀ n ∈ ns, InI n)
    (hb : w.heap[b]? = some (.cells (nums .i64 ns).toArray 3 (0, 0))) (c : Nat) :
    Calls Try.prog 44 #[.pointer (some ⟨g, 0, none⟩), .slice (some ⟨b, 0, none⟩) ns.length c] w (WPost w0 w g (bs ++ ncs ns)) := by
  have HI := Aside0.mk hI
  have HB := Aside0.mk hB
  have HR := Aside0.mk hr
  have HN := Aside0.mk hb
  have hnl : ns.length ≤ 1000000000 := by omega
  have HL := Aside0.mk hl
  clear hI hB hr hb hl
  go_enter Try.func44, Try.ntmps44
  go_wp2_with fail
  go_loopg [8] ns.length (fun kq i w' => ∃ k : Nat, i = .int .i64 k ∧ k ≤ ns.length ∧ Aside0 (ns.length - k ≤ kq) ∧ Aside0 (IsW w0 w' g (bs ++ ncs (ns.take k))) ∧ Aside0 (Below w0.heap.size w0 w') ∧ Aside0 (KeepT w w'))
  case atStart => exact ⟨0, rfl, Nat.zero_le _, ⟨by omega⟩, ⟨by simpa [ncs] using HI.out⟩, HB, ⟨KeepT.refl _⟩⟩
  case round =>
    obtain ⟨k, rfl, hk, HQ, HI, HB, HK⟩ := hrel
    by_cases hlt : k < ns.length
    · have hc0 : wr.cell? ⟨b, k, none⟩ = some (.int .i64 (ns.getD k 0)) := by
        rw [blk_cell (HK.out.2 _ _ _ _ HN.out (by decide) (by decide))]
        simp [nums, List.getElem?_eq_getElem hlt, List.getD_eq_getElem?_getD]
      obtain ⟨x, hx⟩ : ∃ x, ns.getD k 0 = x := ⟨_, rfl⟩
      rw [hx] at hc0
      have HX := Aside0.mk hx
      clear hx
      have hin : InI x := HR.out x (by rw [← HX.out]; simp [List.getD_eq_getElem?_getD, List.getElem?_eq_getElem hlt])
      have HIN := Aside0.mk hin
      clear hin
      go_wp2_with fail
      refine (f57_any g x _ w0 _ HI.out HB.out ?_ HIN.out.1 HIN.out.2).mono ?_
      · have h1 := ncs_len (ns.take k)
        have h2 : (ns.take k).length ≤ k := List.length_take_le _ _
        have := HL.out
        rw [List.length_append]
        omega
      rintro e w1 ⟨rfl, hi, hb1, hk1⟩
      have HI1 := Aside0.mk hi
      have HB1 := Aside0.mk hb1
      have HK1 := Aside0.mk (HK.out.trans hk1)
      clear hi hb1 hk1 hc0
      go_wp2_with fail
      go_roundg (ns.length - (k + 1))
      case measure => have := HQ.out; omega
      case rel => exact ⟨k + 1, by go_num, by omega, ⟨Nat.le_refl _⟩, ⟨by rw [ncs_take _ _ hlt, HX.out, ← List.append_assoc]; exact HI1.out⟩, HB1, HK1⟩
    · go_wp2_with fail
      go_end0
      have e : ns.take k = ns := List.take_of_length_le (by omega)
      have h1 := HI.out
      rw [e] at h1
      exact ⟨rfl, h1, HB.out, HK.out⟩

theorem f44_three (g b : Nat) (n0 n1 n2 n3 : Int) (bs : List Int) (w0 w : World) (hI : IsW w0 w g bs) (hB : Below w0.heap.size w0 w) (hl : bs.length + 40 ≤ 1000000000) (h0 : InI n0) (h1 : InI n1) (h2 : InI n2) (h3 : InI n3)
    (hb : w.heap[b]? = some (.cells #[.int .i64 n0, .int .i64 n1, .int .i64 n2, .int .i64 n3] 3 (0, 0))) :
    Calls Try.prog 44 #[.pointer (some ⟨g, 0, none⟩), .slice (some ⟨b, 0, none⟩) 4 4] w (WPost w0 w g (bs ++ ncs [n0, n1, n2, n3])) :=
  f44_any g b [n0, n1, n2, n3] bs w0 w hI hB hl (by intro n hn; simp only [List.mem_cons, List.not_mem_nil, or_false] at hn; rcases hn with rfl | rfl | rfl | rfl <;> assumption) hb 4

/-- All blocks but writers, rows of bytes and block pl are as they were. -/
def KeepL (w w' : World) (pl : Nat) : Prop := w.heap.size ≤ w'.heap.size ∧ ∀ (i : Nat) (cs : Array Value) (t : TypeId) (fr : Nat × Nat), i ≠ pl → w.heap[i]? = some (Obj.cells cs t fr) → t ≠ 71 → t ≠ 5 → w'.heap[i]? = some (Obj.cells cs t fr)
theorem KeepL.refl (w : World) (pl : Nat) : KeepL w w pl := ⟨Nat.le_refl _, fun _ _ _ _ _ h _ _ => h⟩
theorem KeepL.trans {w w1 w2 : World} {pl : Nat} (h : KeepL w w1 pl) (k : KeepL w1 w2 pl) : KeepL w w2 pl := ⟨Nat.le_trans h.1 k.1, fun i cs t fr hne hi h1 h2 => k.2 i cs t fr hne (h.2 i cs t fr hne hi h1 h2) h1 h2⟩
theorem KeepL.alloc {w w1 : World} {pl : Nat} (h : KeepL w w1 pl) (o : Obj) : KeepL w (w1.alloc o) pl := ⟨by have := h.1; simp; omega, fun i cs t fr hne hi h1 h2 => blk_alloc (h.2 i cs t fr hne hi h1 h2) o⟩
theorem KeepL.keepT {w w1 w2 : World} {pl : Nat} (h : KeepL w w1 pl) (k : KeepT w1 w2) : KeepL w w2 pl := ⟨Nat.le_trans h.1 k.1, fun i cs t fr hne hi h1 h2 => k.2 i cs t fr (h.2 i cs t fr hne hi h1 h2) h1 h2⟩
theorem KeepL.set_ {w w1 : World} {pl : Nat} (h : KeepL w w1 pl) (i : Nat) (u : Value) : KeepL w (w1.setCell ⟨pl, i, none⟩ u) pl :=
  ⟨by simpa [World.setCell] using h.1, fun j cs t fr hne hi h1 h2 => (Below.heap_setCell w1 ⟨pl, i, none⟩ u j hne).trans (h.2 j cs t fr hne hi h1 h2)⟩
theorem IsW.alloc {w0 W : World} {g : Nat} {bs : List Int} (h : IsW w0 W g bs) (o : Obj) : IsW w0 (W.alloc o) g bs := by
  obtain ⟨v, hv, hg, ho⟩ := h
  exact ⟨v, blk_alloc hv o, hg, ho.alloc o⟩
theorem IsW.set_ {w0 W : World} {g pl : Nat} {bs : List Int} {cs : Array Value} {t : TypeId} (h : IsW w0 W g bs) (hb : W.heap[pl]? = some (.cells cs t (0, 0))) (h1 : t ≠ 71) (h2 : t ≠ 5) (i : Nat) (u : Value) : IsW w0 (W.setCell ⟨pl, i, none⟩ u) g bs := by
  obtain ⟨v, hv, hg, ho⟩ := h
  exact ⟨v, blk_far hv (blk_ne hv hb (Ne.symm h1)) u, hg, own_setCell ho (own_ne ho hb (Ne.symm h2)) u⟩
/-- A row's parts are small. -/
structure Small (x : S48) : Prop where
  a0 : 0 ≤ x.f0
  a1 : x.f0 ≤ 1048576
  b0 : -1 ≤ x.f1
  b1 : x.f1 ≤ 7
  c0 : -1048576 ≤ x.f2
  c1 : x.f2 ≤ 1048576
  d0 : -1048576 ≤ x.f3
  d1 : x.f3 ≤ 0
def cl (x : S48) : Array Value := #[.int .i64 x.f0, .int .i64 x.f1, .int .i64 x.f2, .int .i64 x.f3]
/-- The cell of the last offset. -/
def cl1 (x : S48) : Array Value := #[.int .i64 x.f0]
def rowCode (y x : S48) : List Int := ncs [x.f0 - y.f0, x.f1, x.f2, x.f3]
def ClPost (w0 w : World) (g pl : Nat) (bs : List Int) (x : S48) (e : Ending) (w' : World) : Prop :=
  e = .returned (.tuple #[]) ∧ IsW w0 w' g bs ∧ Below w0.heap.size w0 w' ∧ KeepL w w' pl ∧ w'.heap[pl]? = some (.cells (cl1 x) 3 (0, 0))

theorem below_alloc' {w0 w : World} (h : Below w0.heap.size w0 w) (o : Obj) : Below w0.heap.size w0 (w.alloc o) := h.alloc h.size o
theorem new_snd (w : World) (o : Obj) (cs : Array Value) {t : TypeId} : ((w.alloc o).alloc (.cells cs t)).heap[w.heap.size + 1]? = some (.cells cs t (0, 0)) := by
  have h := blk_new (w.alloc o) (.cells cs t)
  simpa using h

set_option maxHeartbeats 1000000 in
set_option maxRecDepth 100000 in
theorem f49_any (g pw pl : Nat) (x y : S48) (bs : List Int) (w0 w : World) (hI : IsW w0 w g bs) (hB : Below w0.heap.size w0 w) (hl : bs.length ≤ 900000000) (hx : Small x) (hy : Small y)
    (hp : w.heap[pw]? = some (.cells #[.pointer (some ⟨g, 0, none⟩)] 69 (0, 0))) (hq : w.heap[pl]? = some (.cells (cl1 y) 3 (0, 0))) (hpl : w0.heap.size ≤ pl) :
    Calls Try.prog 49 #[ag x, .pointer (some ⟨pw, 0, none⟩), .pointer (some ⟨pl, 0, none⟩)] w (ClPost w0 w g pl (bs ++ rowCode y x) x) := by
  have hu48 := Try.underlying48
  have HI := Aside0.mk hI
  have HB := Aside0.mk hB
  have HP := Aside0.mk hp
  have HQ := Aside0.mk hq
  have hx1 := hx.a0
  have hx2 := hx.a1
  have hx3 := hx.b0
  have hx4 := hx.b1
  have hx5 := hx.c0
  have hx6 := hx.c1
  have hx7 := hx.d0
  have hx8 := hx.d1
  have hy1 := hy.a0
  have hy2 := hy.a1
  clear hI hB hp hq hx hy
  have hp0 : w.cell? ⟨pw, 0, none⟩ = some (.pointer (some ⟨g, 0, none⟩)) := (blk_cell HP.out 0).trans rfl
  have hq0 : w.cell? ⟨pl, 0, none⟩ = some (.int .i64 y.f0) := (blk_cell HQ.out 0).trans rfl
  have hlt1 : pw < w.heap.size := blk_lt HP.out
  have hlt2 : pl < w.heap.size := blk_lt HQ.out
  unfold ag
  go_enter Try.func49, Try.ntmps49
  go_wp2_with fail
  refine (f44_three g (w.heap.size + 1) _ _ _ _ bs w0 _ ((HI.out.alloc _).alloc _) (below_alloc' (below_alloc' HB.out _) _) (by omega) ⟨by omega, by omega⟩ ⟨by omega, by omega⟩ ⟨by omega, by omega⟩ ⟨by omega, by omega⟩ (new_snd w _ _)).mono ?_
  rintro e w1 ⟨rfl, hi, hb, hk⟩
  have HK1 := Aside0.mk ((((KeepL.refl w pl).alloc (.cells (cl x) 48)).alloc (.cells #[.int .i64 (x.f0 - y.f0), .int .i64 x.f1, .int .i64 x.f2, .int .i64 x.f3] 3)).keepT hk)
  have HQ1 := Aside0.mk (hk.2 pl _ _ _ (blk_alloc (blk_alloc HQ.out (.cells (cl x) 48)) (.cells #[.int .i64 (x.f0 - y.f0), .int .i64 x.f1, .int .i64 x.f2, .int .i64 x.f3] 3)) (by decide) (by decide))
  have HX1 := Aside0.mk (hk.2 w.heap.size _ _ _ (blk_alloc (blk_new w (.cells (cl x) 48)) (.cells #[.int .i64 (x.f0 - y.f0), .int .i64 x.f1, .int .i64 x.f2, .int .i64 x.f3] 3)) (by decide) (by decide))
  have HI1 := Aside0.mk hi
  have HB1 := Aside0.mk hb
  clear hi hb hk hp0 hq0
  have hs0 : w1.cell? ⟨pl, 0, none⟩ = some (.int .i64 y.f0) := (blk_cell HQ1.out 0).trans rfl
  have hf0 := blk_frozen HQ1.out 0
  have ht0 : w1.cell? ⟨w.heap.size, 0, none⟩ = some (.int .i64 x.f0) := (blk_cell HX1.out 0).trans rfl
  go_wp2_with fail
  go_end0
  exact ⟨rfl, HI1.out.set_ HQ1.out (by decide) (by decide) 0 _, below_set HB1.out hpl, HK1.out.set_ 0 _, blk_set HQ1.out 0 (.int .i64 x.f0)⟩
end Go.Proofs.Ytillcdcmhdofbaa.Un
