/- In plain terms: merged rows are valid rows, merging them again changes nothing, and at each offset the rule that applies is the same. -/
import Derived.Test.YtillcdcmhdofbaaUnQ
import Derived.Test.YtillcdcmhdofbaaUnB
import Derived.Test.YtillcdcmhdofbaaUnE
namespace Go.Proofs.Ytillcdcmhdofbaa.Un
open Go.RowKit Go.Proofs.YtillcdcmhdofbaaW.PrintWords Go.Proofs.YtillcdcmhdofbaaW.PrintLast Go.Proofs.YtillcdcmhdofbaaW.PrintMore
open Go.Proofs.Ytillcdcmhdofbaa.PUnwindUnique
set_option linter.unusedVariables false
set_option linter.unusedSimpArgs false

theorem vFrom_ok (l : List S48) (d : Nat) : ∀ i, (∀ t, i ≤ t → t < i + d → bad l t = 0) → vFrom l d i = (0, 0) := by
  induction d with
  | zero => intro i _; rfl
  | succ d ih =>
    intro i h
    rw [vFrom, if_pos (h i (Nat.le_refl _) (by omega))]
    exact ih (i + 1) (fun t h1 h2 => h t (by omega) (by omega))
theorem vf_zero {l : List S48} (h : Valid l) : vFault l = (0, 0) := by
  have hl := h.len
  unfold vFault
  rw [if_neg (by omega)]
  exact vFrom_ok l _ 0 (fun t _ ht => h.ok t (by omega))
theorem same_iff (x y : S48) : same x y = true ↔ x.f1 = y.f1 ∧ x.f2 = y.f2 ∧ x.f3 = y.f3 := by
  unfold same
  rw [Bool.and_eq_true, Bool.and_eq_true, beq_iff_eq, beq_iff_eq, beq_iff_eq]
theorem same_no {x y : S48} (h : same x y = false) : ¬ (x.f1 = y.f1 ∧ x.f2 = y.f2 ∧ x.f3 = y.f3) := by
  intro g
  rw [(same_iff x y).2 g] at h
  cases h
theorem keeps_no {l : List S48} {k : Nat} (h : ¬ keeps l k = true) : 0 < k ∧ same (rd_T48 l ((k : Int) - 1)) (rd_T48 l k) = true := by
  unfold keeps at h
  rw [Bool.not_eq_true', Bool.not_eq_false] at h
  rw [Bool.and_eq_true, decide_eq_true_eq] at h
  exact h
theorem keeps_yes {l : List S48} {k : Nat} (h : keeps l k = true) (hk : 0 < k) : same (rd_T48 l ((k : Int) - 1)) (rd_T48 l k) = false := by
  unfold keeps at h
  rw [Bool.not_eq_true', show decide (0 < k) = true by simpa using hk, Bool.true_and] at h
  exact h
/-- The last kept row has the rule of the last row. -/
theorem mrg_last (l : List S48) (hs : Rises l) (k : Nat) (hk : k + 1 ≤ l.length) : ∃ pre y, mrg l (k + 1) = pre ++ [y] ∧ same y (rd_T48 l k) = true ∧ y.f0 ≤ (rd_T48 l k).f0 := by
  induction k with
  | zero =>
    refine ⟨[], rd_T48 l ((0 : Nat) : Int), ?_, (same_iff _ _).2 ⟨rfl, rfl, rfl⟩, Int.le_refl _⟩
    rw [mrg, if_pos (by unfold keeps; rfl)]
    rfl
  | succ k ih =>
    obtain ⟨pre, y, h1, h2, h3⟩ := ih (by omega)
    rw [mrg]
    by_cases hb : keeps l (k + 1) = true
    · rw [if_pos hb]
      exact ⟨_, _, rfl, (same_iff _ _).2 ⟨rfl, rfl, rfl⟩, Int.le_refl _⟩
    · rw [if_neg hb]
      obtain ⟨_, h4⟩ := keeps_no hb
      rw [show (((k + 1 : Nat)) : Int) - 1 = (k : Int) by omega] at h4
      have h5 := (same_iff _ _).1 h2
      have h6 := (same_iff _ _).1 h4
      have h7 := hs k (k + 1) (by omega) (by omega)
      exact ⟨pre, y, h1, (same_iff _ _).2 ⟨by omega, by omega, by omega⟩, by omega⟩
theorem mrg_rest (l : List S48) (k n : Nat) (h : k ≤ n) : ∃ rest, mrg l n = mrg l k ++ rest ∧ ∀ z, z ∈ rest → ∃ i : Nat, k ≤ i ∧ i < n ∧ z = rd_T48 l i := by
  induction n with
  | zero =>
    obtain rfl : k = 0 := by omega
    exact ⟨[], by simp, fun z hz => by simp at hz⟩
  | succ n ih =>
    rcases Nat.lt_or_ge n k with h1 | h1
    · obtain rfl : k = n + 1 := by omega
      exact ⟨[], by simp, fun z hz => by simp at hz⟩
    · obtain ⟨rest, h2, h3⟩ := ih h1
      rw [mrg]
      split
      · refine ⟨rest ++ [rd_T48 l n], by rw [h2, List.append_assoc], fun z hz => ?_⟩
        rw [List.mem_append, List.mem_singleton] at hz
        rcases hz with hz | rfl
        · obtain ⟨i, g1, g2, g3⟩ := h3 z hz
          exact ⟨i, g1, by omega, g3⟩
        · exact ⟨n, h1, by omega, rfl⟩
      · refine ⟨rest, h2, fun z hz => ?_⟩
        obtain ⟨i, g1, g2, g3⟩ := h3 z hz
        exact ⟨i, g1, by omega, g3⟩
theorem mrg_mem (l : List S48) (n : Nat) : ∀ z, z ∈ mrg l n → ∃ i : Nat, i < n ∧ z = rd_T48 l i := by
  intro z hz
  obtain ⟨rest, h1, h2⟩ := mrg_rest l 0 n (Nat.zero_le _)
  rw [h1] at hz
  obtain ⟨i, _, g2, g3⟩ := h2 z (by simpa [mrg] using hz)
  exact ⟨i, g2, g3⟩
/-- Each row but the first stands behind the one before it, with another rule. -/
def Step (m : List S48) : Prop := ∀ t : Nat, t + 1 < m.length → (rd_T48 m t).f0 < (rd_T48 m ((t + 1 : Nat) : Int)).f0 ∧ same (rd_T48 m t) (rd_T48 m ((t + 1 : Nat) : Int)) = false
theorem rd_app (m r : List S48) (t : Nat) (h : t < m.length) : rd_T48 (m ++ r) t = rd_T48 m t := by
  rw [rd_getElem m t h, rd_getElem (m ++ r) t (by rw [List.length_append]; omega), List.getElem_append_left h]
theorem rd_snoc (m : List S48) (x : S48) (r : List S48) : rd_T48 (m ++ x :: r) (m.length : Nat) = x := by
  rw [rd_getElem (m ++ x :: r) m.length (by rw [List.length_append, List.length_cons]; omega), List.getElem_append_right (Nat.le_refl _)]
  simp
theorem mrg_step (l : List S48) (hs : Rises l) (k : Nat) (hk : k ≤ l.length) : Step (mrg l k) := by
  induction k with
  | zero => intro t ht; simp [mrg] at ht
  | succ k ih =>
    have ih := ih (by omega)
    rw [mrg]
    by_cases hb : keeps l k = true
    · rw [if_pos hb]
      intro t ht
      rw [List.length_append, List.length_singleton] at ht
      rcases Nat.lt_or_ge (t + 1) (mrg l k).length with h1 | h1
      · rw [rd_app _ _ t (by omega), rd_app _ _ (t + 1) h1]
        exact ih t h1
      · cases k with
        | zero => simp [mrg] at ht
        | succ k =>
          obtain ⟨pre, y, g1, g2, g3⟩ := mrg_last l hs k (by omega)
          have h2 : t + 1 = (mrg l (k + 1)).length := by omega
          have h3 : t = pre.length := by rw [g1, List.length_append, List.length_singleton] at h2; omega
          have e1 : rd_T48 (mrg l (k + 1) ++ [rd_T48 l ((k + 1 : Nat) : Int)]) ((t + 1 : Nat) : Int) = rd_T48 l ((k + 1 : Nat) : Int) := by rw [h2]; exact rd_snoc _ _ _
          have e2 : rd_T48 (mrg l (k + 1) ++ [rd_T48 l ((k + 1 : Nat) : Int)]) (t : Int) = y := by
            rw [rd_app _ _ t (by omega), g1, h3]
            exact rd_snoc _ _ _
          rw [e1, e2]
          have h4 := keeps_yes hb (by omega)
          rw [show (((k + 1 : Nat)) : Int) - 1 = (k : Int) by omega] at h4
          have h5 := (same_iff _ _).1 g2
          have h6 := same_no h4
          have h7 := hs k (k + 1) (by omega) (by omega)
          refine ⟨by omega, ?_⟩
          rw [Bool.eq_false_iff]
          intro h8
          have h9 := (same_iff _ _).1 h8
          exact h6 ⟨by omega, by omega, by omega⟩
    · rw [if_neg hb]
      exact ih
theorem mrg_valid (l : List S48) (h : Valid l) : Valid (mrg l l.length) := by
  have hml := mrg_len l l.length
  have hlen := h.len
  refine ⟨by omega, fun t ht => ?_⟩
  have hm : rd_T48 (mrg l l.length) t ∈ mrg l l.length := by
    rw [rd_getElem _ t ht]
    exact List.getElem_mem ht
  obtain ⟨i, hi, he⟩ := mrg_mem l l.length _ hm
  obtain ⟨a0, a1, _, a3⟩ := bad_zero (h.ok i hi)
  rw [← he] at a0 a1 a3
  unfold bad
  rw [if_neg, if_pos a3]
  rintro (g | g | ⟨g1, g2⟩)
  · omega
  · omega
  · have h1 := (mrg_step l h.rises l.length (Nat.le_refl _) (t - 1) (by omega)).1
    rw [show t - 1 + 1 = t by omega, show (((t - 1 : Nat)) : Int) = (t : Int) - 1 by omega] at h1
    omega
theorem mrg_take (m : List S48) (hs : Step m) (n : Nat) (hn : n ≤ m.length) : mrg m n = m.take n := by
  induction n with
  | zero => simp [mrg]
  | succ n ih =>
    have hk : keeps m n = true := by
      unfold keeps
      rw [Bool.not_eq_true', Bool.and_eq_false_iff]
      rcases Nat.eq_zero_or_pos n with h0 | h0
      · exact .inl (by simp [h0])
      · have h1 := (hs (n - 1) (by omega)).2
        rw [show n - 1 + 1 = n by omega, show (((n - 1 : Nat)) : Int) = (n : Int) - 1 by omega] at h1
        exact .inr h1
    rw [mrg, if_pos hk, ih (by omega), List.take_succ_eq_append_getElem (by omega), rd_getElem m n (by omega)]
theorem mrg_again (l : List S48) (h : Valid l) : mrg (mrg l l.length) (mrg l l.length).length = mrg l l.length := by
  rw [mrg_take _ (mrg_step l h.rises _ (Nat.le_refl _)) _ (Nat.le_refl _), List.take_length]
theorem found_one {m : List S48} {off : Int} {x y : S48} {b c : Bool} (h : Found m off x b) (g : Found m off y c) : x = y ∧ b = c := by
  rcases h with ⟨rfl, rfl, h1⟩ | ⟨rfl, i, hi, rfl, h1, h2⟩ <;> rcases g with ⟨rfl, rfl, g1⟩ | ⟨rfl, j, gj, rfl, g1, g2⟩
  · exact ⟨rfl, rfl⟩
  · have := h1 j gj
    omega
  · have := g1 i hi
    omega
  · have e : i = j := by
      rcases Nat.lt_trichotomy i j with e | e | e
      · have := h2 j e gj
        omega
      · exact e
      · have := g2 i e hi
        omega
    rw [e]
    exact ⟨rfl, rfl⟩
theorem found_mrg {l : List S48} {off : Int} {x y : S48} {b c : Bool} (hV : Valid l) (h : Found l off x b) (g : Found (mrg l l.length) off y c) : b = c ∧ same x y = true := by
  rcases h with ⟨rfl, rfl, h1⟩ | ⟨rfl, k, hk, rfl, h1, h2⟩
  · have g2 : Found (mrg l l.length) off z48 false := .inl ⟨rfl, rfl, fun t ht => by
      have hm : rd_T48 (mrg l l.length) t ∈ mrg l l.length := by
        rw [rd_getElem _ t ht]
        exact List.getElem_mem ht
      obtain ⟨i, hi, he⟩ := mrg_mem l l.length _ hm
      rw [he]
      exact h1 i hi⟩
    obtain ⟨rfl, rfl⟩ := found_one g2 g
    exact ⟨rfl, rfl⟩
  · obtain ⟨pre, z, e1, e2, e3⟩ := mrg_last l hV.rises k (by omega)
    obtain ⟨rest, r1, r2⟩ := mrg_rest l (k + 1) l.length (by omega)
    rw [e1, List.append_assoc, List.singleton_append] at r1
    have hz : rd_T48 (mrg l l.length) (pre.length : Nat) = z := by rw [r1]; exact rd_snoc _ _ _
    have g2 : Found (mrg l l.length) off z true := by
      refine .inr ⟨rfl, pre.length, by rw [r1, List.length_append, List.length_cons]; omega, hz.symm, by rw [hz]; omega, fun t ht hl => ?_⟩
      have hlen : (mrg l l.length).length = pre.length + (rest.length + 1) := by rw [r1, List.length_append, List.length_cons]
      have hmem : rd_T48 (mrg l l.length) t ∈ rest := by
        rw [rd_getElem _ t hl]
        have : (mrg l l.length)[t] = (pre ++ z :: rest)[t]'(by rw [List.length_append, List.length_cons]; omega) := by simp only [r1]
        rw [this, List.getElem_append_right (by omega)]
        obtain ⟨u, hu⟩ : ∃ u, t - pre.length = u + 1 := ⟨t - pre.length - 1, by omega⟩
        simp only [hu, List.getElem_cons_succ]
        exact List.getElem_mem _
      obtain ⟨i, i1, i2, i3⟩ := r2 _ hmem
      rw [i3]
      exact h2 i (by omega) i2
    obtain ⟨rfl, rfl⟩ := found_one g2 g
    have h5 := (same_iff _ _).1 e2
    exact ⟨rfl, (same_iff _ _).2 ⟨by omega, by omega, by omega⟩⟩
end Go.Proofs.Ytillcdcmhdofbaa.Un
