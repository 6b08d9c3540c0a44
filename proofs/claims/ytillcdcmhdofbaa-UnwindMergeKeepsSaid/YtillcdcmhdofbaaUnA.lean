/- The walks of the look-up of unwind rows: unwind.Row's closures, cmp.Compare, slices.BinarySearchFunc, unwind.At, unwind.Row, unwind.Find return what their plain descriptions say; conditions: the rows are read as a list. -/
import Derived.Test.YtillcdcmhdofbaaPUnwindUniquex2
namespace Go.Proofs.Ytillcdcmhdofbaa.Un
open Go.RowKit Go.Proofs.YtillcdcmhdofbaaW.PrintWords Go.Proofs.YtillcdcmhdofbaaW.PrintLast Go.Proofs.YtillcdcmhdofbaaW.PrintMore
open Go.Proofs.Ytillcdcmhdofbaa.PUnwindUnique
set_option linter.unusedVariables false
set_option linter.unusedSimpArgs false

def ag (x : S48) : Value := .agg #[.int .i64 x.f0, .int .i64 x.f1, .int .i64 x.f2, .int .i64 x.f3]

set_option maxHeartbeats 400000 in
theorem f59_any (a b c d : Int) (w : World) : Calls Try.prog 59 #[.agg #[.int .i64 a, .int .i64 b, .int .i64 c, .int .i64 d]] w fun e w' => e = .returned (.int .i64 a) ∧ Below w.heap.size w w' := by
  go_enter Try.func59, Try.ntmps59
  go_wp2
  go_ret
  exact ⟨rfl, (Below.refl _ _).alloc (Nat.le_refl _) _⟩

def cmpI (x y : Int) : Int := if x < y then -1 else if y < x then 1 else 0

set_option maxHeartbeats 400000 in
theorem f63_any (x y : Int) (w : World) : Calls Try.prog 63 #[.int .i64 x, .int .i64 y] w fun e w' => e = .returned (.int .i64 (cmpI x y)) ∧ w = w' := by
  by_cases h1 : x < y
  · have e : cmpI x y = -1 := by simp [cmpI, h1]
    rw [e]
    go_enter Try.func63, Try.ntmps63
    go_wp2
    go_ret
    exact ⟨rfl, rfl⟩
  · by_cases h2 : y < x
    · have e : cmpI x y = 1 := by simp [cmpI, h1, h2]
      rw [e]
      go_enter Try.func63, Try.ntmps63
      go_wp2
      go_ret
      exact ⟨rfl, rfl⟩
    · have e : cmpI x y = 0 := by simp [cmpI, h1, h2]
      rw [e]
      go_enter Try.func63, Try.ntmps63
      go_wp2
      go_ret
      exact ⟨rfl, rfl⟩

set_option maxHeartbeats 400000 in
theorem f65_any (a b c d y : Int) (g : Nat) (w : World) (hc : w.cell? ⟨g, 0, none⟩ = some (.func (.func 59) #[] #[])) :
    Calls Try.prog 65 #[.agg #[.int .i64 a, .int .i64 b, .int .i64 c, .int .i64 d], .int .i64 y, .pointer (some ⟨g, 0, none⟩)] w fun e w' => e = .returned (.int .i64 (cmpI a y)) ∧ Below w.heap.size w w' := by
  have hc2 : (w.alloc (.cells #[.int .i64 a, .int .i64 b, .int .i64 c, .int .i64 d] 48)).cell? ⟨g, 0, none⟩ = some (.func (.func 59) #[] #[]) := by
    rw [World.cell?_alloc_past _ _ _ (World.block_lt_of_cell? _ _ hc)]; exact hc
  have hb0 := below_alloc (Below.refl w.heap.size w) (.cells #[.int .i64 a, .int .i64 b, .int .i64 c, .int .i64 d] 48)
  have HB := Aside0.mk hb0
  clear hb0
  go_enter Try.func65, Try.ntmps65
  go_wp2_with fail
  refine (f59_any a b c d _).mono ?_
  rintro e w1 ⟨rfl, hb⟩
  have HB1 := Aside0.mk (below_then HB.out HB.out.size hb)
  clear hb
  go_wp2_with fail
  refine (f63_any a y _).mono ?_
  rintro e w2 ⟨rfl, rfl⟩
  go_wp2
  go_ret
  exact ⟨rfl, HB1.out⟩

/-- What the binary search has found out: ahead of i the offsets are less, from j on they are not. -/
structure BsInv (l : List S48) (off : Int) (i j : Nat) : Prop where
  le : i ≤ j
  le' : j ≤ l.length
  lo : ∀ t, t < i → (rd_T48 l t).f0 < off
  hi : ∀ t, j ≤ t → t < l.length → off ≤ (rd_T48 l t).f0
/-- The offsets rise. -/
def Rises (l : List S48) : Prop := ∀ a b : Nat, a < b → b < l.length → (rd_T48 l a).f0 < (rd_T48 l b).f0
theorem bs_mid (i j : Nat) (h : i < j) : i ≤ (i + j) / 2 ∧ (i + j) / 2 < j := by omega
theorem BsInv.low {l : List S48} {off : Int} {i j : Nat} (h : BsInv l off i j) (hs : Rises l) (hij : i < j) (hc : (rd_T48 l (((i + j) / 2 : Nat) : Int)).f0 < off) : BsInv l off ((i + j) / 2 + 1) j := by
  have hj := h.le'
  refine ⟨by omega, h.le', fun t ht => ?_, h.hi⟩
  rcases Nat.lt_or_ge t ((i + j) / 2) with h1 | h1
  · exact Int.lt_trans (hs t _ h1 (by omega)) hc
  · obtain rfl : t = (i + j) / 2 := by omega
    exact hc
theorem BsInv.high {l : List S48} {off : Int} {i j : Nat} (h : BsInv l off i j) (hs : Rises l) (hij : i < j) (hc : off ≤ (rd_T48 l (((i + j) / 2 : Nat) : Int)).f0) : BsInv l off i ((i + j) / 2) := by
  have hj := h.le'
  refine ⟨by omega, by omega, h.lo, fun t ht hl => ?_⟩
  rcases Nat.lt_or_ge ((i + j) / 2) t with h1 | h1
  · exact Int.le_of_lt (Int.lt_of_le_of_lt hc (hs _ t h1 hl))
  · obtain rfl : t = (i + j) / 2 := by omega
    exact hc
/-- What it returns. -/
def BsPost (l : List S48) (off : Int) (w : World) (e : Ending) (w' : World) : Prop :=
  ∃ i : Nat, e = .returned (.tuple #[.int .i64 i, .bool (decide (i < l.length) && ((rd_T48 l i).f0 == off))]) ∧ BsInv l off i i ∧ Below w.heap.size w w'

theorem retBs {i : Int} {b b' : Bool} (h : b = b') : Ending.returned (.tuple #[.int .i64 i, .bool b]) = .returned (.tuple #[.int .i64 i, .bool b']) := by rw [h]
theorem cmpI_zero (x y : Int) : (cmpI x y == 0) = (x == y) := by
  unfold cmpI
  rw [Bool.eq_iff_iff, beq_iff_eq, beq_iff_eq]
  split
  · omega
  · split <;> omega

set_option maxHeartbeats 1000000 in
set_option maxRecDepth 100000 in
theorem f64_any (A : Option Addr) (c : Nat) (l : List S48) (off : Int) (g : Nat) (w : World) (hr : Kd.C k48 w A l.length l) (hn : l.length ≤ 100000) (hs : Rises l)
    (hc : w.cell? ⟨g, 0, none⟩ = some (.func (.func 59) #[] #[])) :
    Calls Try.prog 64 #[.slice A l.length c, .int .i64 off, .func (.func 65) #[] #[.pointer (some ⟨g, 0, none⟩)]] w (BsPost l off w) := by
  have HR := Aside0.mk hr
  have HC := Aside0.mk hc
  have HS := Aside0.mk hs
  clear hr hc hs
  go_enter Try.func64, Try.ntmps64
  go_wp2_with fail
  go_loopg [9, 10] l.length (fun kq i j w' => ∃ (ni nj : Nat), i = .int .i64 ni ∧ j = .int .i64 nj ∧ Aside0 (BsInv l off ni nj) ∧ Aside0 (nj - ni ≤ kq) ∧ Aside0 (Below w.heap.size w w'))
  case atStart => exact ⟨0, l.length, rfl, rfl, ⟨⟨by omega, Nat.le_refl _, fun t h => by omega, fun t h1 h2 => by omega⟩⟩, ⟨by omega⟩, ⟨Below.refl _ _⟩⟩
  case round =>
    obtain ⟨ni, nj, rfl, rfl, HI, HK, HB⟩ := hrel
    have hle := HI.out.le
    have hle' := HI.out.le'
    by_cases hij : ni < nj
    · obtain ⟨ad, hA, hx0, hx1, hx2, hx3⟩ := at_T48 (Kd.C_below HR.out HB.out) (((ni + nj) / 2 : Nat) : Int) (by omega) (by omega)
      cases hA
      rw [Int.toNat_natCast] at hx0 hx1 hx2 hx3
      obtain ⟨x, hx⟩ : ∃ x, rd_T48 l (((ni + nj) / 2 : Nat) : Int) = x := ⟨_, rfl⟩
      rw [hx] at hx0 hx1 hx2 hx3
      have HX := Aside0.mk hx
      clear hx
      go_wp2_with fail
      refine (f65_any x.f0 x.f1 x.f2 x.f3 off g _ (pw_cell_below HB.out HC.out)).mono ?_
      rintro e w1 ⟨rfl, hb⟩
      have HB1 := Aside0.mk (below_then HB.out HB.out.size hb)
      clear hb hx0 hx1 hx2 hx3
      by_cases hlow : x.f0 < off
      · have e1 : cmpI x.f0 off = -1 := by simp [cmpI, hlow]
        rw [e1]
        clear e1
        have HI1 := Aside0.mk (HI.out.low HS.out hij (by rw [HX.out]; exact hlow))
        clear hlow
        go_wp2_with fail
        go_roundg (nj - ((ni + nj) / 2 + 1))
        case measure => have := HK.out; omega
        case rel => exact ⟨(ni + nj) / 2 + 1, nj, by go_num, rfl, HI1, ⟨Nat.le_refl _⟩, HB1⟩
      · have HI1 := Aside0.mk (HI.out.high HS.out hij (by rw [HX.out]; omega))
        have hge : ¬ cmpI x.f0 off < 0 := by unfold cmpI; split <;> (try split) <;> omega
        obtain ⟨r, hr⟩ : ∃ r, cmpI x.f0 off = r := ⟨_, rfl⟩
        rw [hr] at hge ⊢
        clear hlow hr
        have hge' : decide (r < 0) = false := by simpa using hge
        go_wp2_with fail
        go_roundg ((ni + nj) / 2 - ni)
        case measure => have := HK.out; omega
        case rel => exact ⟨ni, (ni + nj) / 2, rfl, rfl, HI1, ⟨Nat.le_refl _⟩, HB1⟩
    · obtain rfl : ni = nj := by omega
      clear hij
      by_cases hlt : ni < l.length
      · obtain ⟨ad, hA, hx0, hx1, hx2, hx3⟩ := at_T48 (Kd.C_below HR.out HB.out) (ni : Int) (by omega) (by omega)
        cases hA
        rw [Int.toNat_natCast] at hx0 hx1 hx2 hx3
        obtain ⟨x, hx⟩ : ∃ x, rd_T48 l (ni : Int) = x := ⟨_, rfl⟩
        rw [hx] at hx0 hx1 hx2 hx3
        have HX := Aside0.mk hx
        clear hx
        go_wp2_with fail
        refine (f65_any x.f0 x.f1 x.f2 x.f3 off g _ (pw_cell_below HB.out HC.out)).mono ?_
        rintro e w1 ⟨rfl, hb⟩
        have HB1 := Aside0.mk (below_then HB.out HB.out.size hb)
        clear hb hx0 hx1 hx2 hx3
        go_wp2_with fail
        go_ret2
        refine ⟨ni, retBs ?_, HI.out, HB1.out⟩
        rw [HX.out, cmpI_zero]
        simp [hlt]
      · go_wp2_with fail
        go_ret2
        exact ⟨ni, retBs (by simp [hlt]), HI.out, HB.out⟩

/-- r is the number of the last row whose offset is not greater, or -1. -/
structure AtP (l : List S48) (off r : Int) : Prop where
  lo : -1 ≤ r
  hi : r < l.length
  le : ∀ t : Nat, (t : Int) ≤ r → (rd_T48 l t).f0 ≤ off
  gt : ∀ t : Nat, r < t → t < l.length → off < (rd_T48 l t).f0
theorem at_yes {l : List S48} {off : Int} {i : Nat} (h : BsInv l off i i) (hs : Rises l) (hf : (decide (i < l.length) && ((rd_T48 l i).f0 == off)) = true) : AtP l off i := by
  simp only [Bool.and_eq_true, decide_eq_true_eq, beq_iff_eq] at hf
  refine ⟨by omega, by omega, fun t ht => ?_, fun t ht hl => ?_⟩
  · rcases Nat.lt_or_ge t i with h1 | h1
    · exact Int.le_of_lt (h.lo t h1)
    · obtain rfl : t = i := by omega
      omega
  · have := hs i t (by omega) hl
    omega
theorem at_no {l : List S48} {off : Int} {i : Nat} (h : BsInv l off i i) (hs : Rises l) (hf : (decide (i < l.length) && ((rd_T48 l i).f0 == off)) = false) : AtP l off ((i : Int) - 1) := by
  have hl' := h.le'
  refine ⟨by omega, by omega, fun t ht => Int.le_of_lt (h.lo t (by omega)), fun t ht hl => ?_⟩
  have h1 := h.hi t (by omega) hl
  rcases Nat.lt_or_ge i t with h2 | h2
  · have h3 := h.hi i (Nat.le_refl _) (by omega)
    have h4 := hs i t h2 hl
    omega
  · obtain rfl : t = i := by omega
    have h4 : (rd_T48 l t).f0 ≠ off := by simpa [hl] using hf
    omega
def AtPost (l : List S48) (off : Int) (w : World) (e : Ending) (w' : World) : Prop := ∃ r : Int, e = .returned (.int .i64 r) ∧ AtP l off r ∧ Below w.heap.size w w'

set_option maxHeartbeats 1000000 in
set_option maxRecDepth 100000 in
theorem f58_any (A : Option Addr) (c : Nat) (l : List S48) (off : Int) (w : World) (hr : Kd.C k48 w A l.length l) (hn : l.length ≤ 100000) (hs : Rises l) :
    Calls Try.prog 58 #[.slice A l.length c, .int .i64 off, .func (.func 59) #[] #[]] w (AtPost l off w) := by
  have hmf : ∀ (fn : Fn) (first cap : Array Value) (w : World), (Instr.makeFunc fn first cap).run Try.prog w = .ok (.func fn first cap) w := fun _ _ _ _ => rfl
  have HB := Aside0.mk (below_alloc (Below.refl w.heap.size w) (.cells #[.func (.func 59) #[] #[]] 94))
  have HR := Aside0.mk (Kd.C_below hr HB.out)
  have HC := Aside0.mk (show (w.alloc (.cells #[.func (.func 59) #[] #[]] 94)).cell? ⟨w.heap.size, 0, none⟩ = some (.func (.func 59) #[] #[]) by rw [World.cell?_alloc_at _ _ _ _ rfl]; rfl)
  have HS := Aside0.mk hs
  clear hr hs
  go_enter Try.func58, Try.ntmps58
  go_wp2_with fail
  refine (f64_any A c l off w.heap.size _ HR.out hn HS.out HC.out).mono ?_
  rintro e w1 ⟨i, rfl, hi, hb⟩
  have HB1 := Aside0.mk (below_then HB.out HB.out.size hb)
  have HI := Aside0.mk hi
  have hil : i ≤ l.length := hi.le'
  clear hb hi
  obtain ⟨b, hb⟩ : ∃ b, (decide (i < l.length) && ((rd_T48 l i).f0 == off)) = b := ⟨_, rfl⟩
  rw [hb]
  have HF := Aside0.mk hb
  clear hb
  cases b with
  | true =>
    go_wp2_with fail
    go_ret
    exact ⟨i, rfl, at_yes HI.out HS.out HF.out, HB1.out⟩
  | false =>
    go_wp2_with fail
    go_ret
    exact ⟨_, rfl, at_no HI.out HS.out HF.out, HB1.out⟩

end Go.Proofs.Ytillcdcmhdofbaa.Un
