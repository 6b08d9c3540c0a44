/- What lines.Validate and the reference's LinesFault compute, in plain terms: both are the first fault of the rows. -/
import Derived.Test.YtillcdcmhdofbaaLnA
import Derived.Test.YtillcdcmhdofbaaPLinesUniquex4
namespace Go.Proofs.Ytillcdcmhdofbaa.Ln
open Go.RowKit Go.Proofs.YtillcdcmhdofbaaW.PrintWords Go.Proofs.YtillcdcmhdofbaaW.PrintLast Go.Proofs.YtillcdcmhdofbaaW.PrintMore
open Go.Proofs.Ytillcdcmhdofbaa.PLinesUnique
set_option linter.unusedVariables false
set_option linter.unusedSimpArgs false

/-- The code of row i's fault: 5 malformed, 3 out of range, 0 none. -/
def bad (l : List S25) (i : Nat) : Int :=
  if (rd_T25 l i).f0 < 0 ∨ (rd_T25 l i).f0 ≥ 1048576 ∨ (0 < i ∧ (rd_T25 l i).f0 ≤ (rd_T25 l ((i : Int) - 1)).f0) then 5
  else if (rd_T25 l i).f1 < 0 ∨ (rd_T25 l i).f1 > 1000000 ∨ (rd_T25 l i).f2 < 0 ∨ (rd_T25 l i).f2 > 1000000 then 3 else 0
def vFrom (l : List S25) : Nat → Nat → Int × Int
  | 0, _ => (0, 0)
  | d + 1, i => if bad l i = 0 then vFrom l d (i + 1) else (bad l i, i)
def vFault (l : List S25) : Int × Int := if (l.length : Int) > 8000 then (2, -1) else vFrom l l.length 0
theorem w64 (x : Int) (h0 : -9223372036854775808 ≤ x) (h1 : x ≤ 9223372036854775807) : wrap64 x = x := by unfold wrap64; omega

theorem val_l0 (l : List S25) (hn : l.length ≤ 8000) (d : Nat) : ∀ (i k : Nat), i + d = l.length → 2 * d < k → lines_Validate.l0 k l l l.length i = some (vFrom l d i) := by
  induction d with
  | zero =>
    intro i k hi hk
    obtain ⟨k, rfl⟩ : ∃ m, k = m + 1 := ⟨k - 1, by omega⟩
    simp only [lines_Validate.l0]
    rw [if_neg (by omega)]
    rfl
  | succ d ih =>
    intro i k hi hk
    obtain ⟨k, rfl⟩ : ∃ m, k = m + 1 + 1 := ⟨k - 2, by omega⟩
    have e1 := w64 ((i : Int) - 1) (by omega) (by omega)
    have e2 := w64 ((i : Int) + 1) (by omega) (by omega)
    have hrec := ih (i + 1) k (by omega) (by omega)
    rw [show (((i + 1 : Nat)) : Int) = (i : Int) + 1 by omega] at hrec
    rw [lines_Validate.l0, if_pos (by omega), if_pos (by omega), if_pos (by omega), vFrom]
    by_cases c1 : (rd_T25 l i).f0 < 0
    · rw [if_pos c1, lines_Validate.j1, if_pos rfl]
      have hb : bad l i = 5 := by unfold bad; rw [if_pos (Or.inl c1)]
      rw [hb, if_neg (by decide)]
    · rw [if_neg c1]
      by_cases c2 : (rd_T25 l i).f0 ≥ 1048576
      · rw [if_pos c2, lines_Validate.j1, if_pos rfl]
        have hb : bad l i = 5 := by unfold bad; rw [if_pos (Or.inr (Or.inl c2))]
        rw [hb, if_neg (by decide)]
      · rw [if_neg c2]
        have key : ∀ b : Bool, (b = true ↔ 0 < i ∧ (rd_T25 l i).f0 ≤ (rd_T25 l ((i : Int) - 1)).f0) →
            lines_Validate.j1 (k + 1) l i l l.length i b (rd_T25 l i).f0 (rd_T25 l i).f1 (rd_T25 l i).f2 = some (if bad l i = 0 then vFrom l d (i + 1) else (bad l i, (i : Int))) := by
          intro b hb
          rw [lines_Validate.j1]
          by_cases c3 : b = true
          · rw [if_pos c3]
            have hb5 : bad l i = 5 := by unfold bad; rw [if_pos (Or.inr (Or.inr (hb.1 c3)))]
            rw [hb5, if_neg (by decide)]
          · rw [if_neg c3]
            have hno : ¬ ((rd_T25 l i).f0 < 0 ∨ (rd_T25 l i).f0 ≥ 1048576 ∨ (0 < i ∧ (rd_T25 l i).f0 ≤ (rd_T25 l ((i : Int) - 1)).f0)) := by
              rintro (h | h | h)
              · exact c1 h
              · exact c2 h
              · exact c3 (hb.2 h)
            unfold bad
            rw [if_neg hno, e2, hrec]
            by_cases d1 : (rd_T25 l i).f1 < 0
            · simp [d1]
            · by_cases d2 : (rd_T25 l i).f1 > 1000000
              · simp [d1, d2]
              · by_cases d3 : (rd_T25 l i).f2 < 0
                · simp [d1, d2, d3]
                · by_cases d4 : (rd_T25 l i).f2 > 1000000
                  · simp [d1, d2, d3, d4]
                  · simp [d1, d2, d3, d4]
        by_cases c3 : (i : Int) > 0
        · rw [if_pos c3, e1, if_pos (by omega), if_pos (by omega)]
          refine key _ ?_
          rw [decide_eq_true_eq]
          exact ⟨fun h => ⟨by omega, h⟩, fun h => h.2⟩
        · rw [if_neg c3]
          refine key _ ?_
          exact ⟨fun h => by simp at h, fun h => by omega⟩
theorem validate_is (l : List S25) : ∃ k, lines_Validate.f k l = some (vFault l) := by
  unfold lines_Validate.f vFault
  by_cases h : (l.length : Int) > 8000
  · exact ⟨0, by rw [if_pos h, if_pos h]⟩
  · exact ⟨2 * l.length + 1, by rw [if_neg h, if_neg h]; exact val_l0 l (by omega) l.length 0 _ (by omega) (by omega)⟩

theorem in_is (a b c : Int) : linkhouseref1_In.f a b c = some (decide (b ≤ a ∧ a ≤ c)) := by
  unfold linkhouseref1_In.f
  by_cases h : a ≥ b
  · have h' : b ≤ a := h
    rw [if_pos h]
    simp [h']
  · have h' : ¬ b ≤ a := h
    rw [if_neg h]
    simp [h']
theorem at_is (a b : Int) : linkhouseref1_At.f a b = some (a, b) := rfl

theorem fau_l0 (l : List S25) (hn : l.length ≤ 8000) (d : Nat) : ∀ (i k : Nat), i + d = l.length → 2 * d < k → linkhouseref2_LinesFault.l0 k l i = some (vFrom l d i) := by
  induction d with
  | zero =>
    intro i k hi hk
    obtain ⟨k, rfl⟩ : ∃ m, k = m + 1 := ⟨k - 1, by omega⟩
    simp only [linkhouseref2_LinesFault.l0]
    rw [if_neg (by omega)]
    rfl
  | succ d ih =>
    intro i k hi hk
    obtain ⟨k, rfl⟩ : ∃ m, k = m + 1 + 1 := ⟨k - 2, by omega⟩
    have e1 := w64 ((i : Int) - 1) (by omega) (by omega)
    have e2 := w64 ((i : Int) + 1) (by omega) (by omega)
    have hrec := ih (i + 1) k (by omega) (by omega)
    rw [show (((i + 1 : Nat)) : Int) = (i : Int) + 1 by omega] at hrec
    have key : ∀ b : Bool, (b = true ↔ (rd_T25 l i).f0 < 0 ∨ (rd_T25 l i).f0 ≥ 1048576 ∨ (0 < i ∧ (rd_T25 l i).f0 ≤ (rd_T25 l ((i : Int) - 1)).f0)) →
        linkhouseref2_LinesFault.j1 (k + 1) l i b = some (if bad l i = 0 then vFrom l d (i + 1) else (bad l i, (i : Int))) := by
      intro b hb
      rw [linkhouseref2_LinesFault.j1]
      by_cases c3 : b = true
      · rw [if_pos c3]
        have hb5 : bad l i = 5 := by unfold bad; rw [if_pos (hb.1 c3)]
        rw [hb5, if_neg (by decide)]
        rfl
      · rw [if_neg c3, if_pos (by omega), if_pos (by omega)]
        unfold bad
        rw [if_neg (fun h => c3 (hb.2 h)), in_is, in_is, e2, hrec]
        simp only [Option.bind_some, at_is]
        by_cases d1 : (rd_T25 l i).f1 < 0 ∨ (rd_T25 l i).f1 > 1000000
        · have g1 : ¬ (0 ≤ (rd_T25 l i).f1 ∧ (rd_T25 l i).f1 ≤ 1000000) := by omega
          have g2 : (rd_T25 l i).f1 < 0 ∨ (rd_T25 l i).f1 > 1000000 ∨ (rd_T25 l i).f2 < 0 ∨ (rd_T25 l i).f2 > 1000000 := by omega
          rw [if_neg (by simpa using g1), if_pos g2]
          rfl
        · have g1 : 0 ≤ (rd_T25 l i).f1 ∧ (rd_T25 l i).f1 ≤ 1000000 := by omega
          rw [if_pos (by simpa using g1)]
          by_cases d2 : (rd_T25 l i).f2 < 0 ∨ (rd_T25 l i).f2 > 1000000
          · have g3 : ¬ (0 ≤ (rd_T25 l i).f2 ∧ (rd_T25 l i).f2 ≤ 1000000) := by omega
            have g2 : (rd_T25 l i).f1 < 0 ∨ (rd_T25 l i).f1 > 1000000 ∨ (rd_T25 l i).f2 < 0 ∨ (rd_T25 l i).f2 > 1000000 := by omega
            rw [if_neg (by simpa using g3), if_pos g2]
            rfl
          · have g3 : 0 ≤ (rd_T25 l i).f2 ∧ (rd_T25 l i).f2 ≤ 1000000 := by omega
            have g2 : ¬ ((rd_T25 l i).f1 < 0 ∨ (rd_T25 l i).f1 > 1000000 ∨ (rd_T25 l i).f2 < 0 ∨ (rd_T25 l i).f2 > 1000000) := by omega
            rw [if_pos (by simpa using g3), if_neg g2]
            rfl
    rw [linkhouseref2_LinesFault.l0, if_pos (by omega), if_pos (by omega), in_is, vFrom]
    simp only [Option.bind_some]
    by_cases c1 : 0 ≤ (rd_T25 l i).f0 ∧ (rd_T25 l i).f0 ≤ 1048575
    · rw [if_pos (by simpa using c1)]
      by_cases c3 : (i : Int) > 0
      · rw [if_pos c3, e1, if_pos (by omega), if_pos (by omega)]
        refine key _ ?_
        rw [decide_eq_true_eq]
        exact ⟨fun h => Or.inr (Or.inr ⟨by omega, h⟩), fun h => by omega⟩
      · rw [if_neg c3]
        exact key _ ⟨fun h => by simp at h, fun h => by omega⟩
    · rw [if_neg (by simpa using c1)]
      exact key _ ⟨fun _ => by omega, fun _ => rfl⟩
theorem fault_is (l : List S25) : ∃ k, linkhouseref2_LinesFault.f k l = some (vFault l) := by
  unfold linkhouseref2_LinesFault.f vFault
  by_cases h : (l.length : Int) > 8000
  · exact ⟨0, by rw [if_pos h, if_pos h]; rfl⟩
  · exact ⟨2 * l.length + 1, by rw [if_neg h, if_neg h]; exact fau_l0 l (by omega) l.length 0 _ (by omega) (by omega)⟩

/-! What no fault says. -/
theorem bad_cases (l : List S25) (i : Nat) : bad l i = 5 ∨ bad l i = 3 ∨ bad l i = 0 := by
  unfold bad
  split
  · exact .inl rfl
  · split
    · exact .inr (.inl rfl)
    · exact .inr (.inr rfl)
theorem vFrom_zero (l : List S25) (d : Nat) : ∀ i, (vFrom l d i).1 = 0 → vFrom l d i = (0, 0) ∧ ∀ t, i ≤ t → t < i + d → bad l t = 0 := by
  induction d with
  | zero => intro i _; exact ⟨rfl, fun t h1 h2 => by omega⟩
  | succ d ih =>
    intro i h
    rw [vFrom] at h ⊢
    by_cases hb : bad l i = 0
    · rw [if_pos hb] at h ⊢
      obtain ⟨h1, h2⟩ := ih (i + 1) h
      refine ⟨h1, fun t g1 g2 => ?_⟩
      rcases Nat.eq_or_lt_of_le g1 with rfl | g3
      · exact hb
      · exact h2 t g3 (by omega)
    · rw [if_neg hb] at h
      exact absurd h hb
/-- Rows without a fault. -/
structure Valid (l : List S25) : Prop where
  len : l.length ≤ 8000
  ok : ∀ t, t < l.length → bad l t = 0
theorem valid_of (l : List S25) (h : (vFault l).1 = 0) : vFault l = (0, 0) ∧ Valid l := by
  unfold vFault at h ⊢
  by_cases hl : (l.length : Int) > 8000
  · rw [if_pos hl] at h
    exact absurd h (by decide)
  · rw [if_neg hl] at h ⊢
    obtain ⟨h1, h2⟩ := vFrom_zero l _ 0 h
    exact ⟨h1, by omega, fun t ht => h2 t (Nat.zero_le _) (by omega)⟩
theorem bad_zero {l : List S25} {i : Nat} (h : bad l i = 0) : 0 ≤ (rd_T25 l i).f0 ∧ (rd_T25 l i).f0 < 1048576 ∧ (0 < i → (rd_T25 l ((i : Int) - 1)).f0 < (rd_T25 l i).f0) ∧ 0 ≤ (rd_T25 l i).f1 ∧ (rd_T25 l i).f1 ≤ 1000000 ∧ 0 ≤ (rd_T25 l i).f2 ∧ (rd_T25 l i).f2 ≤ 1000000 := by
  unfold bad at h
  split at h
  · exact absurd h (by decide)
  · split at h
    · exact absurd h (by decide)
    · omega
theorem Valid.step {l : List S25} (h : Valid l) (t : Nat) (ht : t + 1 < l.length) : (rd_T25 l t).f0 < (rd_T25 l ((t + 1 : Nat) : Int)).f0 := by
  have h1 := (bad_zero (h.ok (t + 1) ht)).2.2.1 (by omega)
  rwa [show (((t + 1 : Nat) : Int)) - 1 = (t : Int) by omega] at h1
theorem Valid.rises {l : List S25} (h : Valid l) : Rises l := by
  intro a b hab
  induction b with
  | zero => omega
  | succ b ih =>
    intro hb
    have h1 := h.step b hb
    rcases Nat.lt_or_ge a b with h2 | h2
    · exact Int.lt_trans (ih h2 (by omega)) h1
    · obtain rfl : a = b := by omega
      exact h1
end Go.Proofs.Ytillcdcmhdofbaa.Ln
