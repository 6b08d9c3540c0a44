/- What unwind.Validate and the reference's UnwindFault compute, in plain terms: both are the first fault of the rows. -/
import Derived.Test.YtillcdcmhdofbaaUnA
import Derived.Test.YtillcdcmhdofbaaPUnwindUniquex4
namespace Go.Proofs.Ytillcdcmhdofbaa.Un
open Go.RowKit Go.Proofs.YtillcdcmhdofbaaW.PrintWords Go.Proofs.YtillcdcmhdofbaaW.PrintLast Go.Proofs.YtillcdcmhdofbaaW.PrintMore
open Go.Proofs.Ytillcdcmhdofbaa.PUnwindUnique
set_option linter.unusedVariables false
set_option linter.unusedSimpArgs false

/-- A rule by a register. -/
abbrev ByReg (a b c : Int) : Prop := 0 ≤ a ∧ a ≤ 7 ∧ -1048576 ≤ b ∧ b ≤ 1048576 ∧ -1048576 ≤ c ∧ c ≤ 0
/-- No rule. -/
abbrev NoReg (a b c : Int) : Prop := a = -1 ∧ b = 0 ∧ c = 0
/-- Row i stands at a place out of order. -/
abbrev Mis (l : List S48) (i : Nat) : Prop := (rd_T48 l i).f0 < 0 ∨ (rd_T48 l i).f0 ≥ 1048576 ∨ (0 < i ∧ (rd_T48 l i).f0 ≤ (rd_T48 l ((i : Int) - 1)).f0)
/-- The code of row i's fault: 5 malformed, 3 out of range, 0 none. -/
def bad (l : List S48) (i : Nat) : Int :=
  if Mis l i then 5 else if ByReg (rd_T48 l i).f1 (rd_T48 l i).f2 (rd_T48 l i).f3 ∨ NoReg (rd_T48 l i).f1 (rd_T48 l i).f2 (rd_T48 l i).f3 then 0 else 3
def vFrom (l : List S48) : Nat → Nat → Int × Int
  | 0, _ => (0, 0)
  | d + 1, i => if bad l i = 0 then vFrom l d (i + 1) else (bad l i, i)
def vFault (l : List S48) : Int × Int := if (l.length : Int) > 8000 then (2, -1) else vFrom l l.length 0
theorem w64 (x : Int) (h0 : -9223372036854775808 ≤ x) (h1 : x ≤ 9223372036854775807) : wrap64 x = x := by unfold wrap64; omega

theorem val_l0 (l : List S48) (hn : l.length ≤ 8000) (d : Nat) : ∀ (i k : Nat), i + d = l.length → 3 * d < k → unwind_Validate.l0 k l l l.length i = some (vFrom l d i) := by
  induction d with
  | zero =>
    intro i k hi hk
    obtain ⟨k, rfl⟩ : ∃ m, k = m + 1 := ⟨k - 1, by omega⟩
    simp only [unwind_Validate.l0]
    rw [if_neg (by omega)]
    rfl
  | succ d ih =>
    intro i k hi hk
    obtain ⟨k, rfl⟩ : ∃ m, k = m + 1 + 1 + 1 := ⟨k - 3, by omega⟩
    have e1 := w64 ((i : Int) - 1) (by omega) (by omega)
    have e2 := w64 ((i : Int) + 1) (by omega) (by omega)
    have hrec := ih (i + 1) k (by omega) (by omega)
    rw [show (((i + 1 : Nat)) : Int) = (i : Int) + 1 by omega] at hrec
    rw [unwind_Validate.l0, if_pos (by omega), if_pos (by omega), if_pos (by omega), vFrom]
    have key2 : ∀ b5 b : Bool, (b5 = true ↔ ByReg (rd_T48 l i).f1 (rd_T48 l i).f2 (rd_T48 l i).f3) → (b = true ↔ Mis l i) →
        unwind_Validate.j2 (k + 1) l i b5 l l.length i b (rd_T48 l i).f0 (rd_T48 l i).f1 (rd_T48 l i).f2 (rd_T48 l i).f3 = some (if bad l i = 0 then vFrom l d (i + 1) else (bad l i, (i : Int))) := by
      intro b5 b h5 hb
      rw [unwind_Validate.j2]
      by_cases c3 : b = true
      · have hb5 : bad l i = 5 := by unfold bad; rw [if_pos (hb.1 c3)]
        rw [if_pos c3, hb5, if_neg (by decide)]
      · have hno : ¬ Mis l i := fun h => c3 (hb.2 h)
        rw [if_neg c3]
        unfold bad
        rw [if_neg hno, e2, hrec]
        by_cases c5 : b5 = true
        · rw [if_pos c5, if_pos (Or.inl (h5.1 c5)), if_pos rfl]
        · have hn5 : ¬ ByReg (rd_T48 l i).f1 (rd_T48 l i).f2 (rd_T48 l i).f3 := fun h => c5 (h5.2 h)
          have hnn : ¬ NoReg (rd_T48 l i).f1 (rd_T48 l i).f2 (rd_T48 l i).f3 → (if (if ByReg (rd_T48 l i).f1 (rd_T48 l i).f2 (rd_T48 l i).f3 ∨ NoReg (rd_T48 l i).f1 (rd_T48 l i).f2 (rd_T48 l i).f3 then (0 : Int) else 3) = 0 then vFrom l d (i + 1) else ((if ByReg (rd_T48 l i).f1 (rd_T48 l i).f2 (rd_T48 l i).f3 ∨ NoReg (rd_T48 l i).f1 (rd_T48 l i).f2 (rd_T48 l i).f3 then (0 : Int) else 3), (i : Int))) = (3, (i : Int)) := by
            intro hn
            have hq : ¬ (ByReg (rd_T48 l i).f1 (rd_T48 l i).f2 (rd_T48 l i).f3 ∨ NoReg (rd_T48 l i).f1 (rd_T48 l i).f2 (rd_T48 l i).f3) := fun h => h.elim hn5 hn
            rw [if_neg hq, if_neg (by decide)]
          rw [if_neg c5]
          by_cases d1 : (rd_T48 l i).f1 = -1
          · rw [if_pos d1]
            by_cases d2 : (rd_T48 l i).f2 = 0
            · rw [if_pos d2]
              by_cases d3 : (rd_T48 l i).f3 = 0
              · rw [if_pos d3, if_pos (Or.inr ⟨d1, d2, d3⟩), if_pos rfl]
              · rw [if_neg d3, hnn (fun h => d3 h.2.2)]
            · rw [if_neg d2, hnn (fun h => d2 h.2.1)]
          · rw [if_neg d1, hnn (fun h => d1 h.1)]
    have key : ∀ b5 : Bool, (b5 = true ↔ ByReg (rd_T48 l i).f1 (rd_T48 l i).f2 (rd_T48 l i).f3) →
        unwind_Validate.j1 (k + 1 + 1) l i b5 l l.length i (rd_T48 l i).f0 (rd_T48 l i).f1 (rd_T48 l i).f2 (rd_T48 l i).f3 = some (if bad l i = 0 then vFrom l d (i + 1) else (bad l i, (i : Int))) := by
      intro b5 h5
      rw [unwind_Validate.j1]
      by_cases c1 : (rd_T48 l i).f0 < 0
      · rw [if_pos c1]
        exact key2 b5 true h5 ⟨fun _ => Or.inl c1, fun _ => rfl⟩
      · rw [if_neg c1]
        by_cases c2 : (rd_T48 l i).f0 ≥ 1048576
        · rw [if_pos c2]
          exact key2 b5 true h5 ⟨fun _ => Or.inr (Or.inl c2), fun _ => rfl⟩
        · rw [if_neg c2]
          by_cases c3 : (i : Int) > 0
          · rw [if_pos c3, e1, if_pos (by omega), if_pos (by omega)]
            refine key2 b5 _ h5 ?_
            rw [decide_eq_true_eq]
            exact ⟨fun h => Or.inr (Or.inr ⟨by omega, h⟩), fun h => by rcases h with h | h | h <;> omega⟩
          · rw [if_neg c3]
            exact key2 b5 false h5 ⟨fun h => by simp at h, fun h => by rcases h with h | h | h <;> omega⟩
    by_cases d1 : (rd_T48 l i).f1 ≥ 0
    · rw [if_pos d1]
      by_cases d2 : (rd_T48 l i).f1 ≤ 7
      · rw [if_pos d2]
        by_cases d3 : (rd_T48 l i).f2 ≥ -1048576
        · rw [if_pos d3]
          by_cases d4 : (rd_T48 l i).f2 ≤ 1048576
          · rw [if_pos d4]
            by_cases d5 : (rd_T48 l i).f3 ≥ -1048576
            · rw [if_pos d5]
              refine key _ ?_
              rw [decide_eq_true_eq]
              exact ⟨fun h => ⟨d1, d2, d3, d4, d5, h⟩, fun h => h.2.2.2.2.2⟩
            · rw [if_neg d5]
              exact key false ⟨fun h => by simp at h, fun h => absurd h.2.2.2.2.1 d5⟩
          · rw [if_neg d4]
            exact key false ⟨fun h => by simp at h, fun h => absurd h.2.2.2.1 d4⟩
        · rw [if_neg d3]
          exact key false ⟨fun h => by simp at h, fun h => absurd h.2.2.1 d3⟩
      · rw [if_neg d2]
        exact key false ⟨fun h => by simp at h, fun h => absurd h.2.1 d2⟩
    · rw [if_neg d1]
      exact key false ⟨fun h => by simp at h, fun h => absurd h.1 d1⟩
theorem validate_is (l : List S48) : ∃ k, unwind_Validate.f k l = some (vFault l) := by
  unfold unwind_Validate.f vFault
  by_cases h : (l.length : Int) > 8000
  · exact ⟨0, by rw [if_pos h, if_pos h]⟩
  · exact ⟨3 * l.length + 1, by rw [if_neg h, if_neg h]; exact val_l0 l (by omega) l.length 0 _ (by omega) (by omega)⟩

theorem in_is (a b c : Int) : linkhouseref1_In.f a b c = some (decide (b ≤ a ∧ a ≤ c)) := by
  unfold linkhouseref1_In.f
  by_cases h : a ≥ b
  · have h' : b ≤ a := h
    rw [if_pos h]
    simp [h']
  · have h' : ¬ b ≤ a := h
    rw [if_neg h]
    simp [h']
theorem at_is (a b : Int) : linkhouseref1_At.f a b = some (a, b) := rfl
theorem known_is (o a b c : Int) : linkhouseref2_KnownRow.f o a b c = some (decide (ByReg a b c ∨ NoReg a b c)) := by
  unfold linkhouseref2_KnownRow.f
  by_cases h1 : a = -1
  · rw [if_pos h1]
    by_cases h2 : b = 0
    · rw [if_pos h2]
      congr 1
      rw [Bool.eq_iff_iff, beq_iff_eq, decide_eq_true_eq]
      exact ⟨fun h => Or.inr ⟨h1, h2, h⟩, fun h => by rcases h with h | h <;> omega⟩
    · rw [if_neg h2]
      congr 1
      rw [eq_comm, decide_eq_false_iff_not]
      rintro (h | h) <;> omega
  · rw [if_neg h1, in_is, in_is, in_is]
    simp only [Option.bind_some]
    by_cases g1 : 0 ≤ a ∧ a ≤ 7
    · rw [if_pos (by simpa using g1)]
      by_cases g2 : -1048576 ≤ b ∧ b ≤ 1048576
      · rw [if_pos (by simpa using g2)]
        congr 1
        rw [Bool.eq_iff_iff, decide_eq_true_eq, decide_eq_true_eq]
        exact ⟨fun h => Or.inl ⟨g1.1, g1.2, g2.1, g2.2, h.1, h.2⟩, fun h => by rcases h with h | h <;> omega⟩
      · rw [if_neg (by simpa using g2)]
        congr 1
        rw [eq_comm, decide_eq_false_iff_not]
        rintro (h | h) <;> omega
    · rw [if_neg (by simpa using g1)]
      congr 1
      rw [eq_comm, decide_eq_false_iff_not]
      rintro (h | h) <;> omega

theorem fau_l0 (l : List S48) (hn : l.length ≤ 8000) (d : Nat) : ∀ (i k : Nat), i + d = l.length → 2 * d < k → linkhouseref2_UnwindFault.l0 k l i = some (vFrom l d i) := by
  induction d with
  | zero =>
    intro i k hi hk
    obtain ⟨k, rfl⟩ : ∃ m, k = m + 1 := ⟨k - 1, by omega⟩
    simp only [linkhouseref2_UnwindFault.l0]
    rw [if_neg (by omega)]
    rfl
  | succ d ih =>
    intro i k hi hk
    obtain ⟨k, rfl⟩ : ∃ m, k = m + 1 + 1 := ⟨k - 2, by omega⟩
    have e1 := w64 ((i : Int) - 1) (by omega) (by omega)
    have e2 := w64 ((i : Int) + 1) (by omega) (by omega)
    have hrec := ih (i + 1) k (by omega) (by omega)
    rw [show (((i + 1 : Nat)) : Int) = (i : Int) + 1 by omega] at hrec
    have key : ∀ b : Bool, (b = true ↔ Mis l i) →
        linkhouseref2_UnwindFault.j1 (k + 1) l i b = some (if bad l i = 0 then vFrom l d (i + 1) else (bad l i, (i : Int))) := by
      intro b hb
      rw [linkhouseref2_UnwindFault.j1]
      by_cases c3 : b = true
      · rw [if_pos c3]
        have hb5 : bad l i = 5 := by unfold bad; rw [if_pos (hb.1 c3)]
        rw [hb5, if_neg (by decide)]
        rfl
      · rw [if_neg c3, if_pos (by omega), if_pos (by omega)]
        unfold bad
        rw [if_neg (fun h => c3 (hb.2 h)), known_is, e2, hrec]
        simp only [Option.bind_some, at_is]
        by_cases d1 : ByReg (rd_T48 l i).f1 (rd_T48 l i).f2 (rd_T48 l i).f3 ∨ NoReg (rd_T48 l i).f1 (rd_T48 l i).f2 (rd_T48 l i).f3
        · rw [if_pos (decide_eq_true d1), if_pos d1, if_pos rfl]
        · rw [if_neg (by rw [decide_eq_true_eq]; exact d1), if_neg d1, if_neg (by decide)]
    rw [linkhouseref2_UnwindFault.l0, if_pos (by omega), if_pos (by omega), in_is, vFrom]
    simp only [Option.bind_some]
    by_cases c1 : 0 ≤ (rd_T48 l i).f0 ∧ (rd_T48 l i).f0 ≤ 1048575
    · rw [if_pos (by simpa using c1)]
      by_cases c3 : (i : Int) > 0
      · rw [if_pos c3, e1, if_pos (by omega), if_pos (by omega)]
        refine key _ ?_
        rw [decide_eq_true_eq]
        exact ⟨fun h => Or.inr (Or.inr ⟨by omega, h⟩), fun h => by rcases h with h | h | h <;> omega⟩
      · rw [if_neg c3]
        exact key _ ⟨fun h => by simp at h, fun h => by rcases h with h | h | h <;> omega⟩
    · rw [if_neg (by simpa using c1)]
      exact key _ ⟨fun _ => by unfold Mis; omega, fun _ => rfl⟩
theorem fault_is (l : List S48) : ∃ k, linkhouseref2_UnwindFault.f k l = some (vFault l) := by
  unfold linkhouseref2_UnwindFault.f vFault
  by_cases h : (l.length : Int) > 8000
  · exact ⟨0, by rw [if_pos h, if_pos h]; rfl⟩
  · exact ⟨2 * l.length + 1, by rw [if_neg h, if_neg h]; exact fau_l0 l (by omega) l.length 0 _ (by omega) (by omega)⟩

/-! What no fault says. -/
theorem bad_cases (l : List S48) (i : Nat) : bad l i = 5 ∨ bad l i = 3 ∨ bad l i = 0 := by
  unfold bad
  split
  · exact .inl rfl
  · split
    · exact .inr (.inr rfl)
    · exact .inr (.inl rfl)
theorem vFrom_zero (l : List S48) (d : Nat) : ∀ i, (vFrom l d i).1 = 0 → vFrom l d i = (0, 0) ∧ ∀ t, i ≤ t → t < i + d → bad l t = 0 := by
  induction d with
  | zero => intro i _; exact ⟨rfl, fun t h1 h2 => by omega⟩
  | succ d ih =>
    intro i h
    rw [vFrom] at h ⊢
    by_cases hb : bad l i = 0
    · rw [if_pos hb] at h ⊢
      obtain ⟨h1, h2⟩ := ih (i + 1) h
      refine ⟨h1, fun t g1 g2 => ?_⟩
      rcases Nat.eq_or_lt_of_le g1 with rfl | g3
      · exact hb
      · exact h2 t g3 (by omega)
    · rw [if_neg hb] at h
      exact absurd h hb
/-- Rows without a fault. -/
structure Valid (l : List S48) : Prop where
  len : l.length ≤ 8000
  ok : ∀ t, t < l.length → bad l t = 0
theorem valid_of (l : List S48) (h : (vFault l).1 = 0) : vFault l = (0, 0) ∧ Valid l := by
  unfold vFault at h ⊢
  by_cases hl : (l.length : Int) > 8000
  · rw [if_pos hl] at h
    exact absurd h (by decide)
  · rw [if_neg hl] at h ⊢
    obtain ⟨h1, h2⟩ := vFrom_zero l _ 0 h
    exact ⟨h1, by omega, fun t ht => h2 t (Nat.zero_le _) (by omega)⟩
theorem bad_zero {l : List S48} {i : Nat} (h : bad l i = 0) : 0 ≤ (rd_T48 l i).f0 ∧ (rd_T48 l i).f0 < 1048576 ∧ (0 < i → (rd_T48 l ((i : Int) - 1)).f0 < (rd_T48 l i).f0) ∧ (ByReg (rd_T48 l i).f1 (rd_T48 l i).f2 (rd_T48 l i).f3 ∨ NoReg (rd_T48 l i).f1 (rd_T48 l i).f2 (rd_T48 l i).f3) := by
  unfold bad at h
  split at h
  · exact absurd h (by decide)
  · rename_i hm
    split at h
    · rename_i hk
      have h1 : ¬ (rd_T48 l i).f0 < 0 := fun g => hm (Or.inl g)
      have h2 : ¬ (rd_T48 l i).f0 ≥ 1048576 := fun g => hm (Or.inr (Or.inl g))
      have h3 : ¬ (0 < i ∧ (rd_T48 l i).f0 ≤ (rd_T48 l ((i : Int) - 1)).f0) := fun g => hm (Or.inr (Or.inr g))
      exact ⟨by omega, by omega, fun g => by omega, hk⟩
    · exact absurd h (by decide)
theorem Valid.step {l : List S48} (h : Valid l) (t : Nat) (ht : t + 1 < l.length) : (rd_T48 l t).f0 < (rd_T48 l ((t + 1 : Nat) : Int)).f0 := by
  have h1 := (bad_zero (h.ok (t + 1) ht)).2.2.1 (by omega)
  rwa [show (((t + 1 : Nat) : Int)) - 1 = (t : Int) by omega] at h1
theorem Valid.rises {l : List S48} (h : Valid l) : Rises l := by
  intro a b hab
  induction b with
  | zero => omega
  | succ b ih =>
    intro hb
    have h1 := h.step b hb
    rcases Nat.lt_or_ge a b with h2 | h2
    · exact Int.lt_trans (ih h2 (by omega)) h1
    · obtain rfl : a = b := by omega
      exact h1
end Go.Proofs.Ytillcdcmhdofbaa.Un
