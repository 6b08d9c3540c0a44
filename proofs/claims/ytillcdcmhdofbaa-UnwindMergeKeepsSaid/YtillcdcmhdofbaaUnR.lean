/- An argument that is a slice of unwind rows, or of bytes, opened: its cells read as a list; no condition. -/
import Derived.Test.YtillcdcmhdofbaaPUnwindUniquex0
import Derived.Deep.Slices
import Derived.Deep.Fields
import Derived.ChangeSame
import Derived.ProofKit
import Derived.OpenShut
namespace Go.Proofs.Ytillcdcmhdofbaa.Un
open Go.RowKit Go.Proofs.YtillcdcmhdofbaaW.PrintWords Go.Proofs.YtillcdcmhdofbaaW.PrintLast Go.Proofs.YtillcdcmhdofbaaW.PrintMore
open Go.Proofs.Ytillcdcmhdofbaa.PUnwindUnique
open Go.ChangeShapes Go.WideShapes Go.Deep
set_option linter.unusedVariables false
set_option linter.unusedSimpArgs false

theorem cells48 : Try.prog.cellsOf 48 = 4 := by kernel_rfl
theorem cells3 : Try.prog.cellsOf 3 = 1 := by kernel_rfl
theorem list_of {α : Type} (p : Nat → α → Prop) (n : Nat) (h : ∀ i, i < n → ∃ x, p i x) : ∃ l : List α, l.length = n ∧ ∀ i x, l[i]? = some x → p i x := by
  induction n with
  | zero => exact ⟨[], rfl, fun i x hx => by simp at hx⟩
  | succ n ih =>
    obtain ⟨l, hl, hp⟩ := ih (fun i hi => h i (by omega))
    obtain ⟨x, hx⟩ := h n (by omega)
    refine ⟨l ++ [x], by simp [hl], fun i y hy => ?_⟩
    rcases Nat.lt_or_ge i n with hi | hi
    · rw [List.getElem?_append_left (by omega)] at hy
      exact hp i y hy
    · rw [List.getElem?_append_right (by omega)] at hy
      obtain rfl : i = n := by
        have := (List.getElem?_eq_some_iff.1 hy).1
        simp at this
        omega
      rw [hl, Nat.sub_self] at hy
      simp at hy
      subst hy
      exact hx
theorem three_of {α : Type} {cs : List α} (h : cs.length = 4) : ∃ a b c d, cs = [a, b, c, d] := by
  match cs, h with
  | [a, b, c, d], _ => exact ⟨a, b, c, d, rfl⟩
theorem some_of {α : Type} {xs : List α} {i : Nat} {o : Option α} (hi : i < xs.length) (h : o = xs[i]?) : ∃ y, o = some y := ⟨_, h.trans (List.getElem?_eq_getElem hi)⟩
section
variable {H : Type} {enc : TypeId × Value → H} {w : World} {base : Nat} {spare : Nat → Bool} {held : Bool}
theorem open_row {fuel : Nat} {cs : List Value} {x : DataW H × List MemPlace} (h : DataW.trod enc Try.prog w base spare held fuel 48 cs = some x) : ∃ p : S48, cs = [.int .i64 p.f0, .int .i64 p.f1, .int .i64 p.f2, .int .i64 p.f3] := by
  obtain ⟨ys, n, _, _, hl, hyl, hf⟩ := DataW.trod_struct Try.underlying48 h
  rw [cells48] at hl
  obtain ⟨a, b, c, d, rfl⟩ := three_of hl
  have hyl3 : ys.length = 4 := hyl
  obtain ⟨y0, g0⟩ := some_of (show 0 < ys.length by omega) (hf 0 _ rfl)
  obtain ⟨y1, g1⟩ := some_of (show 1 < ys.length by omega) (hf 1 _ rfl)
  obtain ⟨y2, g2⟩ := some_of (show 2 < ys.length by omega) (hf 2 _ rfl)
  obtain ⟨y3, g3⟩ := some_of (show 3 < ys.length by omega) (hf 3 _ rfl)
  clear hf h
  have k0 : DataW.trod enc Try.prog w base spare held n 3 (([a, b, c, d].drop 0).take (Try.prog.cellsOf 3)) = some y0 := g0
  have k1 : DataW.trod enc Try.prog w base spare held n 3 (([a, b, c, d].drop 1).take (Try.prog.cellsOf 3)) = some y1 := g1
  have k2 : DataW.trod enc Try.prog w base spare held n 3 (([a, b, c, d].drop 2).take (Try.prog.cellsOf 3)) = some y2 := g2
  have k3 : DataW.trod enc Try.prog w base spare held n 3 (([a, b, c, d].drop 3).take (Try.prog.cellsOf 3)) = some y3 := g3
  rw [cells3] at k0 k1 k2 k3
  obtain ⟨i0, e0, _⟩ := DataW.trod_int Try.underlying3 k0
  obtain ⟨i1, e1, _⟩ := DataW.trod_int Try.underlying3 k1
  obtain ⟨i2, e2, _⟩ := DataW.trod_int Try.underlying3 k2
  obtain ⟨i3, e3, _⟩ := DataW.trod_int Try.underlying3 k3
  refine ⟨⟨i0, i1, i2, i3⟩, ?_⟩
  simp only [List.drop_zero, List.drop_succ_cons, List.take_succ_cons, List.take_zero, List.cons.injEq, and_true] at e0 e1 e2 e3
  rw [e0, e1, e2, e3]
theorem open_rows {A : Option Addr} {n c : Nat} {fuel : Nat} {x : DataW H × List MemPlace} (h : DataW.trod enc Try.prog w base spare held fuel 46 [.slice A n c] = some x) :
    ∃ l : List S48, n = l.length ∧ l.length ≤ c ∧ Kd.C k48 w A l.length l := by
  rcases open_slice Try.underlying46 h with ⟨hcs, _⟩ | ⟨a, len, cap, m, k, D, Pl, hcs, _, hl, hm, hmm, _, hi⟩
  · simp at hcs
    obtain ⟨rfl, rfl, rfl⟩ := hcs
    exact ⟨[], rfl, Nat.le_refl _, Kd.C_nil _ _⟩
  · simp at hcs
    obtain ⟨rfl, rfl, rfl⟩ := hcs
    have hle : n ≤ m := by rw [hmm]; split <;> omega
    obtain ⟨l, hll, hlp⟩ := list_of (fun i (p : S48) => ∀ j u, [Value.int .i64 p.f0, .int .i64 p.f1, .int .i64 p.f2, .int .i64 p.f3][j]? = some u → w.cell? (a.add (i * 4 + j)) = some u) n (fun i him => by
      obtain ⟨cs', hc, ht⟩ := hi i (by omega)
      rw [cells48] at hc
      obtain ⟨p, rfl⟩ := open_row ht
      obtain ⟨_, hcl, hat⟩ := World.cells?_some hc
      refine ⟨p, fun j u hj => ?_⟩
      have hj3 : j < 4 := (List.getElem?_eq_some_iff.1 hj).1
      rw [← Go.Deep.add_add, hat j hj3, hj])
    subst hll
    refine ⟨l, rfl, hl, rfl, by unfold maxLen at hm; omega, fun _ => ⟨a, rfl, fun j p hj => ⟨_, rfl, k48_mk _ _, hlp j p hj⟩⟩⟩
end
end Go.Proofs.Ytillcdcmhdofbaa.Un
