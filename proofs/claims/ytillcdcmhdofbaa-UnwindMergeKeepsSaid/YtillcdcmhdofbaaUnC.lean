/- codec's writer: (*Writer).Number appends the encoding of a number; conditions: the writer's bytes are the call's own. -/
import Derived.Test.YtillcdcmhdofbaaPUnwindUniquex0
import Derived.Laws.BitsAllLaws
import Derived.Laws.Bits64
namespace Go.Proofs.Ytillcdcmhdofbaa.Un
open Go.RowKit Go.Proofs.YtillcdcmhdofbaaW.PrintWords Go.Proofs.YtillcdcmhdofbaaW.PrintLast Go.Proofs.YtillcdcmhdofbaaW.PrintMore
open Go.Proofs.Ytillcdcmhdofbaa.PUnwindUnique
set_option linter.unusedVariables false
set_option linter.unusedSimpArgs false

/-- The bytes of a natural number, seven bits each; k: how many more at most. -/
def vc : Nat → Int → List Int
  | 0, u => [u]
  | k + 1, u => if u ≥ 128 then (u % 128 + 128) :: vc k (u / 128) else [u]
/-- The natural number of a whole one. -/
def zig (n : Int) : Int := if n ≥ 0 then 2 * n else -(2 * n) - 1
def nc (n : Int) : List Int := vc 9 (zig n)

/-- Block g is a writer whose bytes are bs, a row of the call's own. -/
def IsW (w0 W : World) (g : Nat) (bs : List Int) : Prop := ∃ v, W.heap[g]? = some (.cells #[v] 71 (0, 0)) ∧ w0.heap.size ≤ g ∧ W.ownsRow w0.heap.size 5 1 v bs.length (nums .u8 bs)
/-- All blocks but writers and rows of bytes are as they were. -/
def KeepT (w w' : World) : Prop := w.heap.size ≤ w'.heap.size ∧ ∀ (i : Nat) (cs : Array Value) (t : TypeId) (fr : Nat × Nat), w.heap[i]? = some (Obj.cells cs t fr) → t ≠ 71 → t ≠ 5 → w'.heap[i]? = some (Obj.cells cs t fr)
theorem KeepT.refl (w : World) : KeepT w w := ⟨Nat.le_refl _, fun _ _ _ _ h _ _ => h⟩
theorem KeepT.trans {w w1 w2 : World} (h : KeepT w w1) (k : KeepT w1 w2) : KeepT w w2 := ⟨Nat.le_trans h.1 k.1, fun i cs t fr hi h1 h2 => k.2 i cs t fr (h.2 i cs t fr hi h1 h2) h1 h2⟩
theorem KeepT.alloc {w w1 : World} (h : KeepT w w1) (o : Obj) : KeepT w (w1.alloc o) := ⟨by have := h.1; simp; omega, fun i cs t fr hi h1 h2 => blk_alloc (h.2 i cs t fr hi h1 h2) o⟩
theorem KeepT.drew {w w1 : World} (h : KeepT w w1) : KeepT w w1.drew := ⟨h.1, h.2⟩
theorem KeepT.grown {w w1 w2 : World} {base n : Nat} {xs : List Value} {v : Value} (h : KeepT w w1) (ho : w1.ownsRow base 5 1 v n xs) (hg : w1.grownBy w2 v.ownBlock) : KeepT w w2 :=
  ⟨Nat.le_trans h.1 hg.size, fun i cs t fr hi h1 h2 => by
    have h3 := h.2 i cs t fr hi h1 h2
    refine blk_grown h3 hg fun e => ?_
    obtain ⟨cells, hc⟩ := own_typed ho i e.symm
    rw [h3] at hc
    injection hc with hc
    injection hc with _ ht
    exact h2 ht⟩
theorem KeepT.set_ {w w1 : World} {g : Nat} {cs : Array Value} (h : KeepT w w1) (hb : w1.heap[g]? = some (.cells cs 71 (0, 0))) (i : Nat) (u : Value) : KeepT w (w1.setCell ⟨g, i, none⟩ u) :=
  ⟨by simpa [World.setCell] using h.1, fun j cs' t fr hi h1 h2 => by
    have h3 := h.2 j cs' t fr hi h1 h2
    have hne : j ≠ g := by
      rintro rfl
      rw [hb] at h3
      injection h3 with h3
      injection h3 with _ ht
      exact h1 ht.symm
    exact (Below.heap_setCell w1 ⟨g, i, none⟩ u j hne).trans h3⟩
def WPost (w0 w : World) (g : Nat) (bs : List Int) (e : Ending) (w' : World) : Prop := e = .returned (.tuple #[]) ∧ IsW w0 w' g bs ∧ Below w0.heap.size w0 w' ∧ KeepT w w'

/-- What the code computes for 'uint64(n)<<1 ^ uint64(n>>63)'. -/
def xz (n : Int) : Int := bits .xor .u64 (IntKind.u64.wrap (IntKind.u64.wrap n * 2)) (IntKind.u64.wrap (n / 9223372036854775808))
theorem vc_more (k : Nat) (u : Int) (h : 128 ≤ u) : vc (k + 1) u = (u % 128 + 128) :: vc k (u / 128) := by rw [vc, if_pos h]
theorem vc_last (k : Nat) (u : Int) (h : u < 128) : vc k u = [u] := by
  cases k with
  | zero => rfl
  | succ k => rw [vc, if_neg (by omega)]

theorem zig_range (n : Int) (h0 : -9223372036854775808 ≤ n) (h1 : n ≤ 9223372036854775807) : 0 ≤ zig n ∧ zig n < 128 ^ 10 := by
  have : (128 : Int) ^ 10 = 1180591620717411303424 := by decide
  rw [this]
  unfold zig
  split <;> omega
theorem xz_zig (n : Int) (h0 : -9223372036854775808 ≤ n) (h1 : n ≤ 9223372036854775807) : xz n = zig n := by
  unfold xz zig
  rw [IntKind.wrap_u64, IntKind.wrap_u64, IntKind.wrap_u64]
  split
  · have e1 : n / 9223372036854775808 = 0 := by omega
    have e2 : n % 18446744073709551616 * 2 % 18446744073709551616 = 2 * n := by omega
    rw [e1, e2, u64_xor _ _ (by omega) (by omega) (by decide) (by decide)]
    have : (0 % 18446744073709551616 : Int).toNat = 0 := by decide
    rw [this, Nat.xor_zero]
    omega
  · have e1 : n / 9223372036854775808 = -1 := by omega
    have e2 : n % 18446744073709551616 * 2 % 18446744073709551616 = 2 * n + 18446744073709551616 := by omega
    rw [e1, e2, u64_xor _ _ (by omega) (by omega) (by decide) (by decide)]
    have e3 : (-1 % 18446744073709551616 : Int).toNat = 2 ^ 64 - 1 := by decide
    have hx : (2 * n + 18446744073709551616).toNat < 2 ^ 64 := by
      have : (2 : Nat) ^ 64 = 18446744073709551616 := by decide
      omega
    have e4 : (2 * n + 18446744073709551616).toNat ^^^ (2 ^ 64 - 1) = 2 ^ 64 - 1 - (2 * n + 18446744073709551616).toNat := by
      have hb := BitVec.toNat_not (x := BitVec.ofNat 64 (2 * n + 18446744073709551616).toNat)
      rw [BitVec.not_def, BitVec.toNat_xor, BitVec.toNat_allOnes, BitVec.toNat_ofNat, Nat.mod_eq_of_lt hx] at hb
      rw [Nat.xor_comm]
      exact hb
    rw [e3, e4]
    have : (2 : Nat) ^ 64 = 18446744073709551616 := by decide
    omega
theorem byte_or (u : Int) (h : 0 ≤ u) : bits .or .u8 (u % 256) 128 = u % 128 + 128 := by
  rw [u8_or _ _ (by omega) (by omega) (by decide) (by decide)]
  have e1 : (128 : Int).toNat = 2 ^ 7 := by decide
  rw [e1]
  have key : ∀ x : Nat, x < 256 → x ||| 2 ^ 7 = x % 128 + 128 := by decide +kernel
  rw [key _ (by omega)]
  omega

theorem wput {w0 w wr w1 : World} {g : Nat} {v v1 : Value} {xs ys : List Int} (hB : Below w0.heap.size w0 wr) (hK : KeepT w wr) (hg : w0.heap.size ≤ g) (ho : wr.ownsRow w0.heap.size 5 1 v xs.length (nums .u8 xs))
    (hv : wr.heap[g]? = some (.cells #[v] 71 (0, 0))) (ho1 : w1.ownsRow w0.heap.size 5 1 v1 ys.length (nums .u8 ys)) (hB1 : Below w0.heap.size w0 w1) (hg1 : wr.grownBy w1 v.ownBlock) :
    IsW w0 (w1.setCell ⟨g, 0, none⟩ v1) g ys ∧ Below w0.heap.size w0 (w1.setCell ⟨g, 0, none⟩ v1) ∧ KeepT w (w1.setCell ⟨g, 0, none⟩ v1) := by
  have hv1 := blk_grown hv hg1 (own_ne ho hv (by decide))
  refine ⟨⟨v1, by simpa using blk_set hv1 0 v1, hg, own_setCell ho1 (own_ne ho1 hv1 (by decide)) v1⟩, below_set hB1 hg, (hK.grown ho hg1).set_ hv1 0 v1⟩

set_option maxHeartbeats 1000000 in
set_option maxRecDepth 100000 in
theorem f57_any (g : Nat) (n : Int) (bs : List Int) (w0 w : World) (hI : IsW w0 w g bs) (hB : Below w0.heap.size w0 w) (hl : bs.length ≤ 1000000000) (h0 : -9223372036854775808 ≤ n) (h1 : n ≤ 9223372036854775807) :
    Calls Try.prog 57 #[.pointer (some ⟨g, 0, none⟩), .int .i64 n] w (WPost w0 w g (bs ++ nc n)) := by
  have HI := Aside0.mk hI
  have HB := Aside0.mk hB
  have HX := Aside0.mk (xz_zig n h0 h1)
  have HZ := Aside0.mk (zig_range n h0 h1)
  clear hI hB h0 h1
  go_enter Try.func57, Try.ntmps57
  go_wp2_with fail
  go_loopg [4] 9 (fun kq u w' => ∃ (x : Int) (ds : List Int), u = .int .u64 x ∧ 0 ≤ x ∧ Aside0 (x < 128 ^ (kq + 1)) ∧ Aside0 (ds ++ vc kq x = bs ++ nc n) ∧ Aside0 (ds.length + kq ≤ bs.length + 9) ∧ Aside0 (IsW w0 w' g ds) ∧ Aside0 (Below w0.heap.size w0 w') ∧ Aside0 (KeepT w w'))
  case atStart => exact ⟨xz n, bs, rfl, by rw [HX.out]; exact HZ.out.1, ⟨by rw [HX.out]; exact HZ.out.2⟩, ⟨by rw [HX.out]; rfl⟩, ⟨Nat.le_refl _⟩, HI, HB, ⟨KeepT.refl _⟩⟩
  case round =>
    obtain ⟨x, ds, rfl, hx0, HX1, HD, HL, HI, HB, HK⟩ := hrel
    obtain ⟨v, hv, hg, hown⟩ := HI.out
    have HO := Aside0.mk hown
    have HG := Aside0.mk hg
    have HV := Aside0.mk hv
    have hc0 : wr.cell? ⟨g, 0, none⟩ = some v := (blk_cell hv 0).trans rfl
    have hf0 := blk_frozen hv 0
    clear hv hg hown
    have hdl : ds.length ≤ 1000000009 := by have := HL.out; omega
    by_cases hge : 128 ≤ x
    · go_wp2_with (at_builtin; refine print_append_num (w0 := w0) w0.heap.size rfl (.tmp 18) (.tmp 22) 39 5 .u8 1 rfl Try.underlying39 info5 (by decide) v ds (bits .or .u8 (x % 256) 128) rfl rfl HO.out HB.out HB.out.size ?cA ?_; (case cA => omega); intro v1 w1 hown1 hB1 hg1 hat1; have hv1 := blk_grown HV.out hg1 (own_ne HO.out HV.out (by decide)); have hc1 : w1.cell? ⟨g, 0, none⟩ = some v := (blk_cell hv1 0).trans rfl; have hf1 := blk_frozen hv1 0; have HW1 := Aside0.mk (wput HB.out HK.out HG.out HO.out HV.out hown1 hB1 hg1); obtain ⟨A1, C1, rfl⟩ := own_slice hown1; clear hv1 hown1 hB1 hg1 hat1)
      go_roundg (gk - 1)
      case measure => have h1 := HX1.out; rcases gk with _ | gk <;> omega
      case rel =>
        obtain ⟨m, rfl⟩ : ∃ m, gk = m + 1 := ⟨gk - 1, by have h1 := HX1.out; rcases gk with _ | gk <;> omega⟩
        have e := byte_or x hx0
        have HW := HW1.out
        simp only [List.length_append, List.length_singleton] at HW
        refine ⟨x / 128, ds ++ [bits .or .u8 (x % 256) 128], rfl, by omega, ⟨?_⟩, ⟨?_⟩, ⟨?_⟩, ⟨HW.1⟩, ⟨HW.2.1⟩, ⟨HW.2.2⟩⟩
        · have h1 := HX1.out
          rw [Int.pow_succ] at h1
          exact Int.ediv_lt_of_lt_mul (by decide) h1
        · rw [← HD.out, vc_more _ _ hge, e, List.append_assoc]
          rfl
        · have := HL.out
          rw [List.length_append, List.length_singleton]
          omega
    · go_wp2_with (at_builtin; refine print_append_num (w0 := w0) w0.heap.size rfl (.tmp 32) (.tmp 35) 39 5 .u8 1 rfl Try.underlying39 info5 (by decide) v ds x rfl rfl HO.out HB.out HB.out.size ?cA ?_; (case cA => omega); intro v1 w1 hown1 hB1 hg1 hat1; have hv1 := blk_grown HV.out hg1 (own_ne HO.out HV.out (by decide)); have hc1 : w1.cell? ⟨g, 0, none⟩ = some v := (blk_cell hv1 0).trans rfl; have hf1 := blk_frozen hv1 0; have HW1 := Aside0.mk (wput HB.out HK.out HG.out HO.out HV.out hown1 hB1 hg1); obtain ⟨A1, C1, rfl⟩ := own_slice hown1; clear hv1 hown1 hB1 hg1 hat1)
      go_end0
      have hfin := HD.out
      rw [vc_last _ _ (by omega)] at hfin
      have hW := HW1.out
      simp only [List.length_append, List.length_singleton] at hW
      rw [hfin] at hW
      exact ⟨rfl, hW⟩
end Go.Proofs.Ytillcdcmhdofbaa.Un
