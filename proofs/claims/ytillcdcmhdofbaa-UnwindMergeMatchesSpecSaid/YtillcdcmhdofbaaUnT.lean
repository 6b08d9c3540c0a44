/- unwind.Unpack's closure reads one row; conditions: the reader is the call's own, its bytes are read as a list. -/
import Derived.Test.YtillcdcmhdofbaaUnS
import Derived.Test.YtillcdcmhdofbaaUnD
namespace Go.Proofs.Ytillcdcmhdofbaa.Un
open Go.RowKit Go.Proofs.YtillcdcmhdofbaaW.PrintWords Go.Proofs.YtillcdcmhdofbaaW.PrintLast Go.Proofs.YtillcdcmhdofbaaW.PrintMore
open Go.Proofs.Ytillcdcmhdofbaa.PUnwindUnique
set_option linter.unusedVariables false
set_option linter.unusedSimpArgs false

def NumPost (w0 w : World) (g : Nat) (bs : List Int) (p : Nat) (isBad : Bool) (e : Ending) (w' : World) : Prop :=
  ∃ (r : Int) (q : Nat) (b : Bool), e = .returned (.int .i64 r) ∧ NumR bs p isBad (dec bs 10 0 0 p) r q b ∧ IsS83 w0 w' g bs q b ∧ Below w0.heap.size w0 w' ∧ KeepBut w w' g none
theorem NumR.place {bs : List Int} {p : Nat} {isBad b : Bool} {d : Option (Int × Nat)} {r r2 : Int} (h : NumR bs p isBad d r r2 b) : ∃ q : Nat, r2 = q ∧ p ≤ q ∧ q ≤ bs.length := by
  rcases h with ⟨_, _, _, q, h1, h2, h3⟩ | ⟨_, _, q, h1, _, h2, h3⟩
  · exact ⟨q, h1, h2, h3⟩
  · exact ⟨q, h1, by omega, h3⟩
theorem numr_le {bs : List Int} {p q : Nat} {isBad b : Bool} {d : Option (Int × Nat)} {r : Int} (h : NumR bs p isBad d r q b) : q ≤ bs.length := by
  obtain ⟨q', h1, _, h2⟩ := h.place
  omega
theorem num_any (g : Nat) (bs : List Int) (p : Nat) (isBad : Bool) (w0 w : World) (hI : IsS83 w0 w g bs p isBad) (hB : Below w0.heap.size w0 w) (hb : Bytes bs) (hl : bs.length ≤ 1000000000) (hp : p ≤ bs.length) :
    Calls Try.prog 52 #[.pointer (some ⟨g, 0, none⟩)] w (NumPost w0 w g bs p isBad) := by
  obtain ⟨k, r1, r2, r3, hk, hn⟩ := num_is bs hb hl p hp isBad
  refine (codec_Reader_Number.calls k g bs p isBad r1 r2 r3 w0 w hI hB hk).mono ?_
  rintro e w' ⟨rfl, h1, h2, h3⟩
  obtain ⟨q, rfl, _⟩ := hn.place
  exact ⟨r1, q, r3, rfl, hn, h1, h2, h3⟩

/-- One row behind row y, at place p. -/
def decRow (bs : List Int) (y : S48) (p : Nat) : Option (S48 × Nat) :=
  (dec bs 10 0 0 p).bind fun a => (dec bs 10 0 0 a.2).bind fun b => (dec bs 10 0 0 b.2).bind fun c => (dec bs 10 0 0 c.2).bind fun d =>
    if wrap64 (y.f0 + a.1) < 0 ∨ wrap64 (y.f0 + a.1) ≥ 1048576 then none else some (⟨wrap64 (y.f0 + a.1), b.1, c.1, d.1⟩, d.2)
def RowR (bs : List Int) (y : S48) (p : Nat) (isBad : Bool) (x : S48) (q : Nat) (b : Bool) : Prop :=
  (b = true ∧ (isBad = true ∨ decRow bs y p = none) ∧ q ≤ bs.length) ∨ (b = false ∧ isBad = false ∧ decRow bs y p = some (x, q) ∧ q ≤ bs.length)
theorem row_r {bs : List Int} {y : S48} {p q1 q2 q3 q4 : Nat} {isBad b1 b2 b3 b4 : Bool} {r1 r2 r3 r4 : Int} (h1 : NumR bs p isBad (dec bs 10 0 0 p) r1 q1 b1) (h2 : NumR bs q1 b1 (dec bs 10 0 0 q1) r2 q2 b2) (h3 : NumR bs q2 b2 (dec bs 10 0 0 q2) r3 q3 b3) (h4 : NumR bs q3 b3 (dec bs 10 0 0 q3) r4 q4 b4) (b : Bool)
    (hb : b = (b4 || decide (wrap64 (y.f0 + r1) < 0 ∨ wrap64 (y.f0 + r1) ≥ 1048576))) : RowR bs y p isBad ⟨wrap64 (y.f0 + r1), r2, r3, r4⟩ q4 b := by
  have hq : q4 ≤ bs.length := by
    obtain ⟨q, h, _, h'⟩ := h4.place
    omega
  have step : ∀ {q q' : Nat} {c : Bool} {r : Int} {d : Option (Int × Nat)}, NumR bs q true d r q' c → c = true := by
    intro q q' c r d h
    rcases h with ⟨h, _⟩ | ⟨_, h, _⟩
    · exact h
    · exact absurd h (by decide)
  have last : b4 = true → (isBad = true ∨ decRow bs y p = none) → RowR bs y p isBad ⟨wrap64 (y.f0 + r1), r2, r3, r4⟩ q4 b := fun e h => .inl ⟨by rw [hb, e]; simp, h, hq⟩
  rcases h1 with ⟨rfl, rfl, g1, _⟩ | ⟨rfl, rfl, a1, e1, g1, _⟩
  · have c2 := step h2
    subst c2
    have c3 := step h3
    subst c3
    refine last (step h4) ?_
    rcases g1 with g1 | g1
    · exact .inl g1
    · exact .inr (by unfold decRow; rw [g1]; rfl)
  · have e1' : q1 = a1 := by omega
    subst e1'
    rcases h2 with ⟨rfl, rfl, g2, _⟩ | ⟨rfl, _, a2, e2, g2, _⟩
    · have c3 := step h3
      subst c3
      refine last (step h4) (.inr ?_)
      rcases g2 with g2 | g2
      · exact absurd g2 (by decide)
      · unfold decRow
        rw [g1]
        simp only [Option.bind_some]
        rw [g2]
        rfl
    · have e2' : q2 = a2 := by omega
      subst e2'
      rcases h3 with ⟨rfl, rfl, g3, _⟩ | ⟨rfl, _, a3, e3, g3, _⟩
      · refine last (step h4) (.inr ?_)
        rcases g3 with g3 | g3
        · exact absurd g3 (by decide)
        · unfold decRow
          rw [g1]
          simp only [Option.bind_some]
          rw [g2]
          simp only [Option.bind_some]
          rw [g3]
          rfl
      · have e3' : q3 = a3 := by omega
        subst e3'
        rcases h4 with ⟨rfl, rfl, g4, _⟩ | ⟨rfl, _, a4, e4, g4, _⟩
        · refine last rfl (.inr ?_)
          rcases g4 with g4 | g4
          · exact absurd g4 (by decide)
          · unfold decRow
            rw [g1]
            simp only [Option.bind_some]
            rw [g2]
            simp only [Option.bind_some]
            rw [g3]
            simp only [Option.bind_some]
            rw [g4]
            rfl
        · have e4' : q4 = a4 := by omega
          subst e4'
          have hrow : decRow bs y p = if wrap64 (y.f0 + r1) < 0 ∨ wrap64 (y.f0 + r1) ≥ 1048576 then none else some (⟨wrap64 (y.f0 + r1), r2, r3, r4⟩, q4) := by
            unfold decRow
            rw [g1]
            simp only [Option.bind_some]
            rw [g2]
            simp only [Option.bind_some]
            rw [g3]
            simp only [Option.bind_some]
            rw [g4]
            simp only [Option.bind_some]
          rw [Bool.false_or] at hb
          by_cases h : wrap64 (y.f0 + r1) < 0 ∨ wrap64 (y.f0 + r1) ≥ 1048576
          · rw [if_pos h] at hrow
            exact .inl ⟨by rw [hb]; simpa using h, .inr hrow, hq⟩
          · rw [if_neg h] at hrow
            exact .inr ⟨by rw [hb]; simpa using h, rfl, hrow, hq⟩
/-- All blocks but the reader and block pl are as they were. -/
def KeepG (w w' : World) (g pl : Nat) : Prop := w.heap.size ≤ w'.heap.size ∧ ∀ i, i < w.heap.size → i ≠ g → i ≠ pl → w'.heap[i]? = w.heap[i]?
theorem KeepG.refl (w : World) (g pl : Nat) : KeepG w w g pl := ⟨Nat.le_refl _, fun _ _ _ _ => rfl⟩
theorem KeepG.trans {w w1 w2 : World} {g pl : Nat} (h : KeepG w w1 g pl) (k : KeepG w1 w2 g pl) : KeepG w w2 g pl := ⟨Nat.le_trans h.1 k.1, fun i hi h1 h2 => (k.2 i (Nat.lt_of_lt_of_le hi h.1) h1 h2).trans (h.2 i hi h1 h2)⟩
theorem KeepG.but {w w1 w2 : World} {g pl : Nat} (h : KeepG w w1 g pl) (k : KeepBut w1 w2 g none) : KeepG w w2 g pl := h.trans ⟨k.1, fun i hi h1 _ => k.2 i hi h1 (by simp)⟩
theorem KeepG.alloc {w w1 : World} {g pl : Nat} (h : KeepG w w1 g pl) (o : Obj) : KeepG w (w1.alloc o) g pl := h.trans ⟨by simp, fun i hi _ _ => Below.heap_alloc w1 o i hi⟩
theorem KeepG.drew {w w1 : World} {g pl : Nat} (h : KeepG w w1 g pl) : KeepG w w1.drew g pl := ⟨h.1, h.2⟩
theorem KeepG.set_ {w w1 : World} {g pl : Nat} (h : KeepG w w1 g pl) (j : Nat) (u : Value) : KeepG w (w1.setCell ⟨pl, j, none⟩ u) g pl := h.trans ⟨by simp [World.setCell], fun i _ _ h2 => Below.heap_setCell w1 ⟨pl, j, none⟩ u i h2⟩
theorem KeepG.setG {w w1 : World} {g pl : Nat} (h : KeepG w w1 g pl) (j : Nat) (u : Value) : KeepG w (w1.setCell ⟨g, j, none⟩ u) g pl := h.trans ⟨by simp [World.setCell], fun i _ h1 _ => Below.heap_setCell w1 ⟨g, j, none⟩ u i h1⟩
theorem KeepG.blk {w w1 : World} {g pl i : Nat} {o : Obj} (h : KeepG w w1 g pl) (hb : w.heap[i]? = some o) (h1 : i ≠ g) (h2 : i ≠ pl) : w1.heap[i]? = some o := (h.2 i (blk_lt hb) h1 h2).trans hb
theorem but_blk {w w1 : World} {g i : Nat} {o : Obj} (h : KeepBut w w1 g none) (hb : w.heap[i]? = some o) (h1 : i ≠ g) : w1.heap[i]? = some o := h.blk hb h1 (by simp)

def ClR (w0 w : World) (g pl : Nat) (bs : List Int) (y : S48) (p : Nat) (isBad : Bool) (e : Ending) (w' : World) : Prop :=
  ∃ (x : S48) (q : Nat) (b : Bool), e = .returned (ag x) ∧ RowR bs y p isBad x q b ∧ IsS83 w0 w' g bs q b ∧ Below w0.heap.size w0 w' ∧ KeepG w w' g pl ∧ w'.heap[pl]? = some (.cells (cl1 x) 3 (0, 0))

theorem set4' {w : World} {g : Nat} {a b c d : Value} {t : TypeId} (h : w.heap[g]? = some (.cells #[a, b, c, d] t (0, 0))) (x y z u : Value) :
    ((((w.setCell ⟨g, 0, none⟩ x).setCell ⟨g, 1, none⟩ y).setCell ⟨g, 2, none⟩ z).setCell ⟨g, 3, none⟩ u).heap[g]? = some (.cells #[x, y, z, u] t (0, 0)) :=
  blk_set (blk_set (blk_set (blk_set h 0 x) 1 y) 2 z) 3 u
theorem far4' {w : World} {g g' : Nat} {t : TypeId} {cs : Array Value} (h : w.heap[g]? = some (.cells cs t (0, 0))) (hg : g ≠ g') (x y z u : Value) :
    ((((w.setCell ⟨g', 0, none⟩ x).setCell ⟨g', 1, none⟩ y).setCell ⟨g', 2, none⟩ z).setCell ⟨g', 3, none⟩ u).heap[g]? = some (.cells cs t (0, 0)) := blk_far (blk_far (blk_far (blk_far h hg x) hg y) hg z) hg u
theorem KeepG.setN {w w1 : World} {g pl g2 : Nat} (h : KeepG w w1 g pl) (hg : w.heap.size ≤ g2) (j : Nat) (u : Value) : KeepG w (w1.setCell ⟨g2, j, none⟩ u) g pl :=
  ⟨by simpa [World.setCell] using h.1, fun i hi h1 h2 => (Below.heap_setCell w1 ⟨g2, j, none⟩ u i (by show i ≠ g2; omega)).trans (h.2 i hi h1 h2)⟩
section
variable {w0 w W : World} {g pl g2 : Nat} {bs : List Int} {q : Int} {b : Bool} {y : S48}
theorem cl_ok (h1 : g ≠ pl) (h4 : g2 ≠ g) (h5 : g2 ≠ pl) (h0 : w0.heap.size ≤ pl) (hg : w.heap.size ≤ g2) (hg0 : w0.heap.size ≤ g2) (hI : IsS83 w0 W g bs q b) (hB : Below w0.heap.size w0 W) (hK : KeepG w W g pl) (hL : W.heap[pl]? = some (.cells (cl1 y) 3 (0, 0))) (a a' b' c' d' : Value) :
    IsS83 w0 (((((W.setCell ⟨pl, 0, none⟩ a).setCell ⟨g2, 0, none⟩ a').setCell ⟨g2, 1, none⟩ b').setCell ⟨g2, 2, none⟩ c').setCell ⟨g2, 3, none⟩ d') g bs q b ∧
    Below w0.heap.size w0 (((((W.setCell ⟨pl, 0, none⟩ a).setCell ⟨g2, 0, none⟩ a').setCell ⟨g2, 1, none⟩ b').setCell ⟨g2, 2, none⟩ c').setCell ⟨g2, 3, none⟩ d') ∧
    KeepG w (((((W.setCell ⟨pl, 0, none⟩ a).setCell ⟨g2, 0, none⟩ a').setCell ⟨g2, 1, none⟩ b').setCell ⟨g2, 2, none⟩ c').setCell ⟨g2, 3, none⟩ d') g pl ∧
    ((((((W.setCell ⟨pl, 0, none⟩ a).setCell ⟨g2, 0, none⟩ a').setCell ⟨g2, 1, none⟩ b').setCell ⟨g2, 2, none⟩ c').setCell ⟨g2, 3, none⟩ d')).heap[pl]? = some (.cells #[a] 3 (0, 0)) :=
  ⟨((((hI.far (p := ⟨pl, 0, none⟩) h1 a).far (p := ⟨g2, 0, none⟩) h4.symm a').far (p := ⟨g2, 1, none⟩) h4.symm b').far (p := ⟨g2, 2, none⟩) h4.symm c').far (p := ⟨g2, 3, none⟩) h4.symm d',
   below_set (below_set (below_set (below_set (below_set hB h0) hg0) hg0) hg0) hg0,
   ((((hK.set_ 0 a).setN hg 0 a').setN hg 1 b').setN hg 2 c').setN hg 3 d',
   far4' (blk_set hL 0 a) h5.symm a' b' c' d'⟩
theorem cl_bad (h1 : g ≠ pl) (h4 : g2 ≠ g) (h5 : g2 ≠ pl) (h0 : w0.heap.size ≤ pl) (hg : w.heap.size ≤ g2) (hg0 : w0.heap.size ≤ g2) (hI : IsS83 w0 W g bs q b) (hB : Below w0.heap.size w0 W) (hK : KeepG w W g pl) (hL : W.heap[pl]? = some (.cells (cl1 y) 3 (0, 0))) (a a' b' c' d' : Value) :
    IsS83 w0 ((((((W.setCell ⟨pl, 0, none⟩ a).setCell ⟨g, 2, none⟩ (.bool true)).setCell ⟨g2, 0, none⟩ a').setCell ⟨g2, 1, none⟩ b').setCell ⟨g2, 2, none⟩ c').setCell ⟨g2, 3, none⟩ d') g bs q true ∧
    Below w0.heap.size w0 ((((((W.setCell ⟨pl, 0, none⟩ a).setCell ⟨g, 2, none⟩ (.bool true)).setCell ⟨g2, 0, none⟩ a').setCell ⟨g2, 1, none⟩ b').setCell ⟨g2, 2, none⟩ c').setCell ⟨g2, 3, none⟩ d') ∧
    KeepG w ((((((W.setCell ⟨pl, 0, none⟩ a).setCell ⟨g, 2, none⟩ (.bool true)).setCell ⟨g2, 0, none⟩ a').setCell ⟨g2, 1, none⟩ b').setCell ⟨g2, 2, none⟩ c').setCell ⟨g2, 3, none⟩ d') g pl ∧
    (((((((W.setCell ⟨pl, 0, none⟩ a).setCell ⟨g, 2, none⟩ (.bool true)).setCell ⟨g2, 0, none⟩ a').setCell ⟨g2, 1, none⟩ b').setCell ⟨g2, 2, none⟩ c').setCell ⟨g2, 3, none⟩ d')).heap[pl]? = some (.cells #[a] 3 (0, 0)) :=
  ⟨(((((hI.far (p := ⟨pl, 0, none⟩) h1 a).set_2 true).far (p := ⟨g2, 0, none⟩) h4.symm a').far (p := ⟨g2, 1, none⟩) h4.symm b').far (p := ⟨g2, 2, none⟩) h4.symm c').far (p := ⟨g2, 3, none⟩) h4.symm d',
   below_set (below_set (below_set (below_set (below_set (below_set hB h0) hI.ge) hg0) hg0) hg0) hg0,
   (((((hK.set_ 0 a).setG 2 (.bool true)).setN hg 0 a').setN hg 1 b').setN hg 2 c').setN hg 3 d',
   far4' (blk_far (blk_set hL 0 a) h1.symm (.bool true)) h5.symm a' b' c' d'⟩
end

set_option maxHeartbeats 2000000 in
set_option maxRecDepth 100000 in
theorem f54_any (g pr pl : Nat) (y : S48) (bs : List Int) (p : Nat) (isBad : Bool) (w0 w : World) (hI : IsS83 w0 w g bs p isBad) (hB : Below w0.heap.size w0 w) (hb : Bytes bs) (hl : bs.length ≤ 1000000000) (hp : p ≤ bs.length)
    (hpr : w.heap[pr]? = some (.cells #[.pointer (some ⟨g, 0, none⟩)] 81 (0, 0))) (hpl : w.heap[pl]? = some (.cells (cl1 y) 3 (0, 0))) (hpl0 : w0.heap.size ≤ pl) (hgl : g ≠ pl) (hgr : g ≠ pr) (hrl : pr ≠ pl) :
    Calls Try.prog 54 #[.pointer (some ⟨pr, 0, none⟩), .pointer (some ⟨pl, 0, none⟩)] w (ClR w0 w g pl bs y p isBad) := by
  have hu48 := Try.underlying48
  have HL0 := Aside0.mk (blk_lt hpl)
  have hI1 := Aside0.mk (hI.alloc (.cells #[.int .i64 0, .int .i64 0, .int .i64 0, .int .i64 0] 48))
  have hB1 := Aside0.mk (below_alloc' hB (.cells #[.int .i64 0, .int .i64 0, .int .i64 0, .int .i64 0] 48))
  have hR1 := Aside0.mk (blk_alloc hpr (.cells #[.int .i64 0, .int .i64 0, .int .i64 0, .int .i64 0] 48))
  have hL1 := Aside0.mk (blk_alloc hpl (.cells #[.int .i64 0, .int .i64 0, .int .i64 0, .int .i64 0] 48))
  have hN1 := Aside0.mk (blk_new w (.cells #[.int .i64 0, .int .i64 0, .int .i64 0, .int .i64 0] 48))
  have hK1 := Aside0.mk ((KeepG.refl w g pl).alloc (.cells #[.int .i64 0, .int .i64 0, .int .i64 0, .int .i64 0] 48))
  have HB0 := Aside0.mk hB.size
  have HB := Aside0.mk hb
  have HP := Aside0.mk hp
  have HL := Aside0.mk hl
  have H0 := Aside0.mk hpl0
  have H1 := Aside0.mk hgl
  have H2 := Aside0.mk hgr
  have H3 := Aside0.mk hrl
  have H4 := Aside0.mk (show w.heap.size ≠ g by have := hI.lt; omega)
  have H5 := Aside0.mk (show w.heap.size ≠ pl by have := blk_lt hpl; omega)
  clear hI hB hb hl hp hpr hpl hpl0 hgl hgr hrl
  go_enter Try.func54, Try.ntmps54
  go_wp2_with fail
  generalize w.alloc (.cells #[.int .i64 0, .int .i64 0, .int .i64 0, .int .i64 0] 48) = W1 at hI1 hB1 hR1 hL1 hN1 hK1 ⊢
  obtain ⟨g2, hg2⟩ : ∃ g2, w.heap.size = g2 := ⟨_, rfl⟩
  rw [hg2] at hN1 H4 H5 ⊢
  have HG2 := Aside0.mk (Nat.le_of_eq hg2)
  have HG3 := Aside0.mk (Nat.le_trans HB0.out (Nat.le_of_eq hg2))
  clear hg2
  have hpr0 : W1.cell? ⟨pr, 0, none⟩ = some (.pointer (some ⟨g, 0, none⟩)) := (blk_cell hR1.out 0).trans rfl
  have tok1 : True := trivial
  have tok2 : True := trivial
  have tok3 : True := trivial
  have tok4 : True := trivial
  go_region_held3 (fun w' => w'.cell? ⟨pr, 0, none⟩ = some (.pointer (some ⟨g, 0, none⟩))) (first | go_keep | exact (blk_cell hR1.out 0).trans rfl)
    (first | (go_at_call 52; have _t := tok1; refine (num_any g bs p isBad w0 _ ?s1 ?s2 HB.out HL.out HP.out).mono ?_; (case s1 => exact hI1.out.drew); (case s2 => exact below_drew1 hB1.out); rintro e w2 ⟨r1, q1, b1, rfl, hn1, hi, hb, hk⟩; clear _t tok1; have HN1 := Aside0.mk hn1; have n1 := Aside0.mk hi; have n2 := Aside0.mk hb; have n3 := Aside0.mk (but_blk hk (blk_drew hR1.out) H2.out.symm); have n4 := Aside0.mk (but_blk hk (blk_drew hL1.out) H1.out.symm); have n5 := Aside0.mk (but_blk hk (blk_drew hN1.out) H4.out); have n6 := Aside0.mk (hK1.out.drew.but hk); clear hI1 hB1 hR1 hL1 hN1 hK1 hn1 hi hb hk; have hI1 := n1; have hB1 := n2; have hR1 := n3; have hL1 := n4; have hN1 := n5; have hK1 := n6; clear n1 n2 n3 n4 n5 n6) | (go_at_call 52; have _t := tok2; refine (num_any g bs q1 b1 w0 _ hI1.out hB1.out HB.out HL.out (numr_le HN1.out)).mono ?_; rintro e w3 ⟨r2, q2, b2, rfl, hn1, hi, hb, hk⟩; clear _t tok2; have HN2 := Aside0.mk hn1; have n1 := Aside0.mk hi; have n2 := Aside0.mk hb; have n3 := Aside0.mk (but_blk hk hR1.out H2.out.symm); have n4 := Aside0.mk (but_blk hk hL1.out H1.out.symm); have n5 := Aside0.mk (but_blk hk hN1.out H4.out); have n6 := Aside0.mk (hK1.out.but hk); clear hI1 hB1 hR1 hL1 hN1 hK1 hn1 hi hb hk; have hI1 := n1; have hB1 := n2; have hR1 := n3; have hL1 := n4; have hN1 := n5; have hK1 := n6; clear n1 n2 n3 n4 n5 n6) | (go_at_call 52; have _t := tok3; refine (num_any g bs q2 b2 w0 _ hI1.out hB1.out HB.out HL.out (numr_le HN2.out)).mono ?_; rintro e w4 ⟨r3, q3, b3, rfl, hn1, hi, hb, hk⟩; clear _t tok3; have HN3 := Aside0.mk hn1; have n1 := Aside0.mk hi; have n2 := Aside0.mk hb; have n3 := Aside0.mk (but_blk hk hR1.out H2.out.symm); have n4 := Aside0.mk (but_blk hk hL1.out H1.out.symm); have n5 := Aside0.mk (but_blk hk hN1.out H4.out); have n6 := Aside0.mk (hK1.out.but hk); clear hI1 hB1 hR1 hL1 hN1 hK1 hn1 hi hb hk; have hI1 := n1; have hB1 := n2; have hR1 := n3; have hL1 := n4; have hN1 := n5; have hK1 := n6; clear n1 n2 n3 n4 n5 n6) | (go_at_call 52; have _t := tok4; refine (num_any g bs q3 b3 w0 _ hI1.out hB1.out HB.out HL.out (numr_le HN3.out)).mono ?_; rintro e w5 ⟨r4, q4, b4, rfl, hn1, hi, hb, hk⟩; clear _t tok4; have HN4 := Aside0.mk hn1; have n1 := Aside0.mk hi; have n2 := Aside0.mk hb; have n3 := Aside0.mk (but_blk hk hR1.out H2.out.symm); have n4 := Aside0.mk (but_blk hk hL1.out H1.out.symm); have n5 := Aside0.mk (but_blk hk hN1.out H4.out); have n6 := Aside0.mk (hK1.out.but hk); clear hI1 hB1 hR1 hL1 hN1 hK1 hn1 hi hb hk; have hI1 := n1; have hB1 := n2; have hR1 := n3; have hL1 := n4; have hN1 := n5; have hK1 := n6; clear n1 n2 n3 n4 n5 n6))
  have hs0 : w5.cell? ⟨pl, 0, none⟩ = some (.int .i64 y.f0) := (blk_cell hL1.out 0).trans rfl
  have hf0 := blk_frozen hL1.out 0
  have ht0 : w5.cell? ⟨g2, 0, none⟩ = some (.int .i64 0) := (blk_cell hN1.out 0).trans rfl
  have ht1 : w5.cell? ⟨g2, 1, none⟩ = some (.int .i64 0) := (blk_cell hN1.out 1).trans rfl
  have ht2 : w5.cell? ⟨g2, 2, none⟩ = some (.int .i64 0) := (blk_cell hN1.out 2).trans rfl
  have ht3 : w5.cell? ⟨g2, 3, none⟩ = some (.int .i64 0) := (blk_cell hN1.out 3).trans rfl
  have he0 := blk_frozen hN1.out 0
  have he1 := blk_frozen hN1.out 1
  have he2 := blk_frozen hN1.out 2
  have he3 := blk_frozen hN1.out 3
  have hpr4 : w5.cell? ⟨pr, 0, none⟩ = some (.pointer (some ⟨g, 0, none⟩)) := (blk_cell hR1.out 0).trans rfl
  obtain ⟨A3, c3, hG3, hg3, hS3⟩ := hI1.out
  have hgb : w5.cell? ⟨g, 2, none⟩ = some (.bool b4) := (blk_cell hG3 2).trans rfl
  have hgf := blk_frozen hG3 2
  clear hG3 hg3 hS3
  have hne1 := H1.out
  have hne2 := H2.out
  have hne3 := H3.out
  have hne4 := H4.out
  have hne5 := H5.out
  by_cases c1 : wrap64 (y.f0 + r1) < 0
  · go_wp2_with fail
    refine bodyPost_ret (results_cell_row rfl _ _ g2 48 #[.int .i64 (wrap64 (y.f0 + r1)), .int .i64 r2, .int .i64 r3, .int .i64 r4] (0, 0) _ rfl (set4' (blk_far (blk_far hN1.out H5.out _) H4.out _) _ _ _ _) Try.underlying48 rfl (by kernel_rfl)) rfl ?_
    exact ⟨⟨wrap64 (y.f0 + r1), r2, r3, r4⟩, q4, true, rfl, row_r HN1.out HN2.out HN3.out HN4.out true (by simp [c1]), (cl_bad H1.out H4.out H5.out H0.out HG2.out HG3.out hI1.out hB1.out hK1.out hL1.out _ _ _ _ _)⟩
  · by_cases c2 : wrap64 (y.f0 + r1) ≥ 1048576
    · go_wp2_with fail
      refine bodyPost_ret (results_cell_row rfl _ _ g2 48 #[.int .i64 (wrap64 (y.f0 + r1)), .int .i64 r2, .int .i64 r3, .int .i64 r4] (0, 0) _ rfl (set4' (blk_far (blk_far hN1.out H5.out _) H4.out _) _ _ _ _) Try.underlying48 rfl (by kernel_rfl)) rfl ?_
      exact ⟨⟨wrap64 (y.f0 + r1), r2, r3, r4⟩, q4, true, rfl, row_r HN1.out HN2.out HN3.out HN4.out true (by simp [c2]), (cl_bad H1.out H4.out H5.out H0.out HG2.out HG3.out hI1.out hB1.out hK1.out hL1.out _ _ _ _ _)⟩
    · go_wp2_with fail
      refine bodyPost_ret (results_cell_row rfl _ _ g2 48 #[.int .i64 (wrap64 (y.f0 + r1)), .int .i64 r2, .int .i64 r3, .int .i64 r4] (0, 0) _ rfl (set4' (blk_far hN1.out H5.out _) _ _ _ _) Try.underlying48 rfl (by kernel_rfl)) rfl ?_
      exact ⟨⟨wrap64 (y.f0 + r1), r2, r3, r4⟩, q4, b4, rfl, row_r HN1.out HN2.out HN3.out HN4.out b4 (by simp; omega), (cl_ok H1.out H4.out H5.out H0.out HG2.out HG3.out hI1.out hB1.out hK1.out hL1.out _ _ _ _ _)⟩
end Go.Proofs.Ytillcdcmhdofbaa.Un
