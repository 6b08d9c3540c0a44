/- In plain terms: what has been encoded is decoded again, and what is decoded is encoded by the same bytes; rows that are valid. -/
import Derived.Test.YtillcdcmhdofbaaUnU
namespace Go.Proofs.Ytillcdcmhdofbaa.Un
open Go.RowKit Go.Proofs.YtillcdcmhdofbaaW.PrintWords Go.Proofs.YtillcdcmhdofbaaW.PrintLast Go.Proofs.YtillcdcmhdofbaaW.PrintMore
open Go.Proofs.Ytillcdcmhdofbaa.PUnwindUnique
set_option linter.unusedVariables false
set_option linter.unusedSimpArgs false

theorem drop_lt {bs : List Int} {p : Nat} {b : Int} {r : List Int} (h : bs.drop p = b :: r) : p < bs.length ∧ rd bs p = b ∧ bs.drop (p + 1) = r := by
  have hl : p < bs.length := by
    rcases Nat.lt_or_ge p bs.length with h1 | h1
    · exact h1
    · rw [List.drop_of_length_le h1] at h
      cases h
  refine ⟨hl, ?_, ?_⟩
  · have h2 := List.drop_eq_getElem_cons hl
    rw [h] at h2
    injection h2 with h3 _
    unfold rd
    rw [Int.toNat_natCast, List.getD_eq_getElem?_getD, List.getElem?_eq_getElem hl]
    exact h3.symm
  · have h2 := List.drop_eq_getElem_cons hl
    rw [h] at h2
    injection h2 with _ h4
    exact h4.symm
theorem drop_cons {bs : List Int} {p : Nat} (hl : p < bs.length) : bs.drop p = rd bs p :: bs.drop (p + 1) := by
  rw [List.drop_eq_getElem_cons hl]
  congr 1
  unfold rd
  rw [Int.toNat_natCast, List.getD_eq_getElem?_getD, List.getElem?_eq_getElem hl]
  rfl

theorem dec_vc (bs : List Int) (f : Nat) : ∀ (i : Nat) (u x : Int) (p : Nat) (r : List Int), i + f = 9 → 0 ≤ x → x < 128 ^ (f + 1) → x * 128 ^ i < 18446744073709551616 → (0 < i → x ≠ 0) → bs.drop p = vc f x ++ r →
    dec bs (f + 1) i u p = some (unz (u + x * 128 ^ i), p + (vc f x).length) := by
  induction f with
  | zero =>
    intro i u x p r hi h0 h1 h2 h3 hd
    obtain rfl : i = 9 := by omega
    have h4 : (128 : Int) ^ 9 = 9223372036854775808 := by decide
    rw [h4] at h2
    rw [vc] at hd ⊢
    obtain ⟨g1, g2, _⟩ := drop_lt hd
    have hx : x ≠ 0 := h3 (by decide)
    rw [dec, if_pos g1, g2, if_neg (by omega), if_pos (by omega), show x % 128 = x by omega]
    rfl
  | succ f ih =>
    intro i u x p r hi h0 h1 h2 h3 hd
    by_cases hx : x < 128
    · rw [vc_last _ _ hx] at hd ⊢
      obtain ⟨g1, g2, _⟩ := drop_lt hd
      rw [dec, if_pos g1, g2, if_neg (by omega), if_pos hx, show x % 128 = x by omega]
      rfl
    · rw [vc_more _ _ (by omega)] at hd ⊢
      obtain ⟨g1, g2, g3⟩ := drop_lt hd
      have e1 : (x % 128 + 128) % 128 = x % 128 := by omega
      have hp : (0 : Int) < 128 ^ i := Int.pow_pos (by decide)
      have e2 : x / 128 * 128 ^ (i + 1) = (x - x % 128) * 128 ^ i := by
        rw [Int.pow_succ, ← Int.mul_assoc, Int.mul_right_comm]
        congr 1
        omega
      have e3 : (x - x % 128) * 128 ^ i ≤ x * 128 ^ i := Int.mul_le_mul_of_nonneg_right (by omega) (Int.le_of_lt hp)
      have h5 : x / 128 < 128 ^ (f + 1) := by
        rw [Int.pow_succ] at h1
        exact Int.ediv_lt_of_lt_mul (by decide) h1
      rw [dec, if_pos g1, g2, if_neg (by omega), if_neg (by omega), e1]
      rw [ih (i + 1) (u + x % 128 * 128 ^ i) (x / 128) (p + 1) r (by omega) (by omega) h5 (by rw [e2]; omega) (by omega) g3, e2]
      rw [List.length_cons, Int.sub_mul]
      congr 2
      · congr 1
        omega
      · omega
theorem unz_zig (n : Int) : unz (zig n) = n := by
  unfold unz zig
  split <;> split <;> omega
theorem zig_unz (u : Int) (h : 0 ≤ u) : zig (unz u) = u := by
  unfold unz zig
  split <;> split <;> omega
theorem dec_nc (bs : List Int) (n : Int) (h : InI n) (p : Nat) (r : List Int) (hd : bs.drop p = nc n ++ r) : dec bs 10 0 0 p = some (n, p + (nc n).length) := by
  obtain ⟨h0, h1⟩ := h
  have hz := zig_range n h0 h1
  have hlt : zig n < 18446744073709551616 := by unfold zig; split <;> omega
  have := dec_vc bs 9 0 0 (zig n) p r rfl hz.1 hz.2 (by simpa using hlt) (fun h => absurd h (by decide)) hd
  rw [this]
  simp [unz_zig, nc]
theorem wrap_add (y x : Int) (hy : 0 ≤ y) (hy1 : y ≤ 1048576) (hx : 0 ≤ x) (hx1 : x ≤ 1048576) : wrap64 (y + (x - y)) = x := by
  unfold wrap64
  omega
/-- Small, and the offset below the bound. -/
structure Fit (x : S48) : Prop where
  s : Small x
  o : x.f0 < 1048576
theorem drop_skip {bs a r : List Int} {p : Nat} (h : bs.drop p = a ++ r) : bs.drop (p + a.length) = r := by
  rw [← List.drop_drop, h, List.drop_left]
theorem decRow_code (bs : List Int) (y x : S48) (hy : Small y) (hx : Fit x) (p : Nat) (r : List Int) (hd : bs.drop p = rowCode y x ++ r) : decRow bs y p = some (x, p + (rowCode y x).length) := by
  have a1 := hx.s.a0
  have a2 := hx.s.a1
  have a3 := hx.s.b0
  have a4 := hx.s.b1
  have a5 := hx.s.c0
  have a6 := hx.s.c1
  have a7 := hx.o
  have a8 := hx.s.d0
  have a9 := hx.s.d1
  have b1 := hy.a0
  have b2 := hy.a1
  have hc : rowCode y x = nc (x.f0 - y.f0) ++ (nc x.f1 ++ (nc x.f2 ++ nc x.f3)) := by simp [rowCode, ncs]
  rw [hc] at hd ⊢
  rw [List.append_assoc, List.append_assoc, List.append_assoc] at hd
  have d1 := drop_skip hd
  have d2 := drop_skip d1
  have d3 := drop_skip d2
  have e1 := dec_nc bs (x.f0 - y.f0) ⟨by omega, by omega⟩ p _ hd
  have e2 := dec_nc bs x.f1 ⟨by omega, by omega⟩ _ _ d1
  have e3 := dec_nc bs x.f2 ⟨by omega, by omega⟩ _ _ d2
  have e4 := dec_nc bs x.f3 ⟨by omega, by omega⟩ _ _ d3
  unfold decRow
  rw [e1]
  simp only [Option.bind_some]
  rw [e2]
  simp only [Option.bind_some]
  rw [e3]
  simp only [Option.bind_some]
  rw [e4]
  simp only [Option.bind_some]
  rw [wrap_add y.f0 x.f0 b1 b2 a1 a2, if_neg (by omega)]
  simp [Nat.add_assoc]
theorem decN_code (bs : List Int) (l : List S48) : ∀ (y : S48) (p : Nat) (r : List Int), Small y → (∀ x, x ∈ l → Fit x) → bs.drop p = codeFrom y l ++ r → decN bs l.length y p = some (l, p + (codeFrom y l).length) := by
  induction l with
  | nil => intro y p r _ _ _; simp [decN, codeFrom]
  | cons x l ih =>
    intro y p r hy hl hd
    rw [codeFrom, List.append_assoc] at hd
    have hx := hl x List.mem_cons_self
    have e1 := decRow_code bs y x hy hx p _ hd
    have e2 := ih x _ r hx.s (fun z hz => hl z (List.mem_cons_of_mem _ hz)) (drop_skip hd)
    rw [List.length_cons, decN, e1]
    simp only [Option.bind_some]
    rw [e2]
    simp [codeFrom, Nat.add_assoc]
theorem vc_pos (k : Nat) (u : Int) : 1 ≤ (vc k u).length := by
  cases k with
  | zero => simp [vc]
  | succ k =>
    rw [vc]
    split
    · simp
    · simp
theorem rowCode_pos (y x : S48) : 1 ≤ (rowCode y x).length := by
  have h := vc_pos 9 (zig (x.f0 - y.f0))
  have : rowCode y x = nc (x.f0 - y.f0) ++ (nc x.f1 ++ (nc x.f2 ++ nc x.f3)) := by simp [rowCode, ncs]
  rw [this, List.length_append]
  unfold nc
  omega
theorem codeFrom_pos (l : List S48) : ∀ y, l.length ≤ (codeFrom y l).length := by
  induction l with
  | nil => intro y; simp
  | cons x l ih =>
    intro y
    have h1 := rowCode_pos y x
    have h2 := ih x
    rw [codeFrom, List.length_append, List.length_cons]
    omega
theorem Valid.fit {l : List S48} (h : Valid l) : ∀ x, x ∈ l → Fit x := by
  intro x hx
  obtain ⟨k, hk, rfl⟩ := List.getElem_of_mem hx
  have h1 := bad_zero (h.ok k hk)
  rw [rd_getElem l k hk] at h1
  obtain ⟨a0, a1, _, h1⟩ := h1
  rcases h1 with ⟨b0, b1, c0, c1, d0, d1⟩ | ⟨b, c, d⟩ <;> exact ⟨⟨by omega, by omega, by omega, by omega, by omega, by omega, by omega, by omega⟩, by omega⟩
theorem decAll_code (l : List S48) (h : Valid l) : decAll (nc l.length ++ codeFrom z48 l) = some (l, (nc l.length ++ codeFrom z48 l).length) := by
  have hlen := h.len
  have e1 := dec_nc (nc l.length ++ codeFrom z48 l) l.length ⟨by omega, by omega⟩ 0 (codeFrom z48 l) rfl
  have e2 := decN_code (nc l.length ++ codeFrom z48 l) l z48 (nc l.length).length [] small_z h.fit (by rw [List.drop_left, List.append_nil])
  have h3 := codeFrom_pos l z48
  unfold decAll
  rw [e1]
  simp only [Option.bind_some]
  rw [if_neg (by rw [List.length_append]; omega), Int.toNat_natCast, Nat.zero_add, e2, List.length_append]

/-! Every byte is a byte; the code is not long. -/
def AllB (l : List Int) : Prop := ∀ b, b ∈ l → 0 ≤ b ∧ b ≤ 255
theorem AllB.app {a b : List Int} (h : AllB a) (k : AllB b) : AllB (a ++ b) := by
  intro x hx
  rw [List.mem_append] at hx
  rcases hx with hx | hx
  · exact h x hx
  · exact k x hx
theorem vc_allB (k : Nat) : ∀ u, 0 ≤ u → u < 128 ^ (k + 1) → AllB (vc k u) := by
  induction k with
  | zero =>
    intro u h0 h1 b hb
    rw [vc, List.mem_singleton] at hb
    have : u < 128 := by simpa using h1
    omega
  | succ k ih =>
    intro u h0 h1
    by_cases hu : u < 128
    · rw [vc_last _ _ hu]
      intro b hb
      rw [List.mem_singleton] at hb
      omega
    · rw [vc_more _ _ (by omega)]
      intro b hb
      rw [List.mem_cons] at hb
      rcases hb with hb | hb
      · omega
      · refine ih (u / 128) (by omega) ?_ b hb
        rw [Int.pow_succ] at h1
        exact Int.ediv_lt_of_lt_mul (by decide) h1
theorem nc_allB (n : Int) (h : InI n) : AllB (nc n) := by
  have hz := zig_range n h.1 h.2
  exact vc_allB 9 (zig n) hz.1 hz.2
theorem rowCode_allB (y x : S48) (hy : Small y) (hx : Small x) : AllB (rowCode y x) := by
  have a1 := hx.a0
  have a2 := hx.a1
  have a3 := hx.b0
  have a4 := hx.b1
  have a5 := hx.c0
  have a6 := hx.c1
  have a7 := hx.d0
  have a8 := hx.d1
  have b1 := hy.a0
  have b2 := hy.a1
  have hc : rowCode y x = nc (x.f0 - y.f0) ++ (nc x.f1 ++ (nc x.f2 ++ nc x.f3)) := by simp [rowCode, ncs]
  rw [hc]
  exact (nc_allB _ ⟨by omega, by omega⟩).app ((nc_allB _ ⟨by omega, by omega⟩).app ((nc_allB _ ⟨by omega, by omega⟩).app (nc_allB _ ⟨by omega, by omega⟩)))
theorem codeFrom_allB (l : List S48) : ∀ y, Small y → (∀ x, x ∈ l → Fit x) → AllB (codeFrom y l) := by
  induction l with
  | nil => intro y _ _ b hb; simp [codeFrom] at hb
  | cons x l ih =>
    intro y hy hl
    rw [codeFrom]
    have hx := hl x List.mem_cons_self
    exact (rowCode_allB y x hy hx.s).app (ih x hx.s (fun z hz => hl z (List.mem_cons_of_mem _ hz)))
theorem bytes_of (l : List Int) (h : AllB l) : Bytes l := by
  intro p hp
  refine h _ ?_
  unfold rd
  rw [Int.toNat_natCast, List.getD_eq_getElem?_getD, List.getElem?_eq_getElem hp]
  exact List.getElem_mem hp
theorem vc_short (m : Nat) : ∀ (k : Nat) (u : Int), u < 128 ^ m → 1 ≤ m → (vc k u).length ≤ m := by
  induction m with
  | zero => intro k u _ h; omega
  | succ m ih =>
    intro k u hu _
    by_cases h : u < 128
    · rw [vc_last _ _ h]; simp
    · cases k with
      | zero => simp [vc]
      | succ k =>
        rw [vc_more _ _ (by omega)]
        have h1 : u / 128 < 128 ^ m := by
          rw [Int.pow_succ] at hu
          exact Int.ediv_lt_of_lt_mul (by decide) hu
        have hm : 1 ≤ m := by
          rcases Nat.eq_zero_or_pos m with rfl | hm
          · simp at hu; omega
          · exact hm
        have := ih k (u / 128) h1 hm
        rw [List.length_cons]
        omega
theorem nc_short (n : Int) (h : -1048576 ≤ n) (h' : n ≤ 1048576) : (nc n).length ≤ 4 := by
  refine vc_short 4 9 (zig n) ?_ (by decide)
  have : (128 : Int) ^ 4 = 268435456 := by decide
  rw [this]
  unfold zig
  split <;> omega
theorem rowCode_short (y x : S48) (hy : Small y) (hx : Small x) : (rowCode y x).length ≤ 16 := by
  have a1 := hx.a0
  have a2 := hx.a1
  have a3 := hx.b0
  have a4 := hx.b1
  have a5 := hx.c0
  have a6 := hx.c1
  have a7 := hx.d0
  have a8 := hx.d1
  have b1 := hy.a0
  have b2 := hy.a1
  have hc : rowCode y x = nc (x.f0 - y.f0) ++ (nc x.f1 ++ (nc x.f2 ++ nc x.f3)) := by simp [rowCode, ncs]
  have c1 := nc_short (x.f0 - y.f0) (by omega) (by omega)
  have c2 := nc_short x.f1 (by omega) (by omega)
  have c3 := nc_short x.f2 (by omega) (by omega)
  have c4 := nc_short x.f3 (by omega) (by omega)
  rw [hc, List.length_append, List.length_append, List.length_append]
  omega
theorem codeFrom_short (l : List S48) : ∀ y, Small y → (∀ x, x ∈ l → Fit x) → (codeFrom y l).length ≤ 16 * l.length := by
  induction l with
  | nil => intro y _ _; simp [codeFrom]
  | cons x l ih =>
    intro y hy hl
    have hx := hl x List.mem_cons_self
    have h1 := rowCode_short y x hy hx.s
    have h2 := ih x hx.s (fun z hz => hl z (List.mem_cons_of_mem _ hz))
    rw [codeFrom, List.length_append, List.length_cons]
    omega
theorem code_ok (l : List S48) (h : Valid l) : Bytes (nc l.length ++ codeFrom z48 l) ∧ (nc l.length ++ codeFrom z48 l).length ≤ 200000 := by
  have hlen := h.len
  have h1 := codeFrom_short l z48 small_z h.fit
  have h2 := nc_len l.length
  exact ⟨bytes_of _ ((nc_allB _ ⟨by omega, by omega⟩).app (codeFrom_allB l z48 small_z h.fit)), by rw [List.length_append]; omega⟩

/-! The other way. -/
theorem dec_back (bs : List Int) (hB : Bytes bs) (f : Nat) : ∀ (i : Nat) (u r : Int) (p q : Nat), i + f = 9 → 0 ≤ u → u < 128 ^ i → dec bs (f + 1) i u p = some (r, q) →
    ∃ x : Int, 0 ≤ x ∧ r = unz (u + x * 128 ^ i) ∧ bs.drop p = vc f x ++ bs.drop q ∧ (0 < i → x ≠ 0) ∧ u + x * 128 ^ i < 18446744073709551616 ∧ p < q ∧ q ≤ bs.length := by
  induction f with
  | zero =>
    intro i u r p q hi hu0 hu1 hd
    obtain rfl : i = 9 := by omega
    have h4 : (128 : Int) ^ 9 = 9223372036854775808 := by decide
    rw [h4] at hu1 ⊢
    rw [dec] at hd
    by_cases hp : p < bs.length
    · obtain ⟨b0, b1⟩ := hB p hp
      rw [if_pos hp] at hd
      by_cases hbad : (9 = 9 ∧ rd bs p > 1) ∨ (0 < 9 ∧ rd bs p = 0)
      · rw [if_pos hbad] at hd; cases hd
      · rw [if_neg hbad, if_pos (by omega)] at hd
        simp only [Option.some.injEq, Prod.mk.injEq] at hd
        obtain ⟨rfl, rfl⟩ := hd
        rw [h4]
        refine ⟨rd bs p, b0, by rw [show rd bs p % 128 = rd bs p by omega], ?_, by omega, by omega, by omega, by omega⟩
        rw [vc, drop_cons hp]
        rfl
    · rw [if_neg hp] at hd; cases hd
  | succ f ih =>
    intro i u r p q hi hu0 hu1 hd
    rw [dec] at hd
    by_cases hp : p < bs.length
    · obtain ⟨b0, b1⟩ := hB p hp
      rw [if_pos hp] at hd
      obtain ⟨b, hb⟩ : ∃ b, rd bs p = b := ⟨_, rfl⟩
      have hdc := drop_cons hp
      rw [hb] at hd b0 b1 hdc
      have hpw : (0 : Int) < 128 ^ i := Int.pow_pos (by decide)
      have hpw8 : (128 : Int) ^ i ≤ 72057594037927936 := by
        have h := Nat.pow_le_pow_right (n := 128) (by decide) (show i ≤ 8 by omega)
        have h' : (128 : Int) ^ i ≤ 128 ^ 8 := by exact_mod_cast h
        have h3 : (128 : Int) ^ 8 = 72057594037927936 := by decide
        omega
      by_cases hbad : (i = 9 ∧ b > 1) ∨ (0 < i ∧ b = 0)
      · rw [if_pos hbad] at hd; cases hd
      · rw [if_neg hbad] at hd
        by_cases h128 : b < 128
        · rw [if_pos h128] at hd
          simp only [Option.some.injEq, Prod.mk.injEq] at hd
          obtain ⟨rfl, rfl⟩ := hd
          have h5 : b * 128 ^ i ≤ 127 * 128 ^ i := Int.mul_le_mul_of_nonneg_right (by omega) (Int.le_of_lt hpw)
          refine ⟨b, b0, by rw [show b % 128 = b by omega], ?_, by omega, by omega, by omega, by omega⟩
          rw [vc_last _ _ h128, hdc]
          rfl
        · rw [if_neg h128] at hd
          have h5 : b % 128 * 128 ^ i ≤ 127 * 128 ^ i := Int.mul_le_mul_of_nonneg_right (by omega) (Int.le_of_lt hpw)
          have h6 : 0 ≤ b % 128 * 128 ^ i := Int.mul_nonneg (by omega) (Int.le_of_lt hpw)
          obtain ⟨x, x0, hr, hdr, hx, hlt, hq1, hq2⟩ := ih (i + 1) (u + b % 128 * 128 ^ i) r (p + 1) q (by omega) (by omega) (by rw [Int.pow_succ]; omega) hd
          have hx1 := hx (by omega)
          have e : x * 128 ^ (i + 1) = x * 128 * 128 ^ i := by
            rw [Int.pow_succ, ← Int.mul_assoc, Int.mul_right_comm]
          have e' : u + b % 128 * 128 ^ i + x * 128 ^ (i + 1) = u + (b % 128 + x * 128) * 128 ^ i := by
            rw [e, Int.add_mul]
            omega
          rw [e'] at hr hlt
          refine ⟨b % 128 + x * 128, by omega, hr, ?_, by omega, hlt, by omega, hq2⟩
          rw [vc_more _ _ (by omega), hdc, hdr, show (b % 128 + x * 128) % 128 + 128 = b by omega, show (b % 128 + x * 128) / 128 = x by omega]
          rfl
    · rw [if_neg hp] at hd; cases hd
theorem nc_back (bs : List Int) (hB : Bytes bs) (n : Int) (p q : Nat) (h : dec bs 10 0 0 p = some (n, q)) : bs.drop p = nc n ++ bs.drop q ∧ InI n ∧ p < q ∧ q ≤ bs.length := by
  obtain ⟨x, x0, hr, hdr, _, hlt, h1, h2⟩ := dec_back bs hB 9 0 0 n p q rfl (by decide) (by decide) h
  have e : (0 : Int) + x * 128 ^ 0 = x := by simp
  rw [e] at hr hlt
  subst hr
  refine ⟨?_, ?_, h1, h2⟩
  · unfold nc
    rw [zig_unz x x0]
    exact hdr
  · unfold InI unz
    split <;> omega
theorem wrap_back (y o x : Int) (hy : 0 ≤ y) (hy1 : y ≤ 1048576) (ho : InI o) (hx : 0 ≤ x) (hx1 : x ≤ 1048576) (h : wrap64 (y + o) = x) : o = x - y := by
  obtain ⟨h0, h1⟩ := ho
  unfold wrap64 at h
  omega
theorem row_back (bs : List Int) (hB : Bytes bs) (y x : S48) (p q : Nat) (h : decRow bs y p = some (x, q)) (hy : Small y) (hx : Small x) : bs.drop p = rowCode y x ++ bs.drop q ∧ q ≤ bs.length := by
  unfold decRow at h
  obtain ⟨⟨o, p1⟩, h1, h⟩ := Option.bind_eq_some_iff.1 h
  obtain ⟨⟨fi, p2⟩, h2, h⟩ := Option.bind_eq_some_iff.1 h
  obtain ⟨⟨li, p3⟩, h3, h⟩ := Option.bind_eq_some_iff.1 h
  obtain ⟨⟨si, p4⟩, h4, h⟩ := Option.bind_eq_some_iff.1 h
  simp only at h1 h2 h3 h4 h
  split at h
  · cases h
  · simp only [Option.some.injEq, Prod.mk.injEq] at h
    obtain ⟨rfl, rfl⟩ := h
    obtain ⟨d1, i1, _, _⟩ := nc_back bs hB _ _ _ h1
    obtain ⟨d2, i2, _, _⟩ := nc_back bs hB _ _ _ h2
    obtain ⟨d3, i3, _, _⟩ := nc_back bs hB _ _ _ h3
    obtain ⟨d4, i4, _, hq⟩ := nc_back bs hB _ _ _ h4
    have e1 := wrap_back y.f0 o _ hy.a0 hy.a1 i1 hx.a0 hx.a1 rfl
    refine ⟨?_, hq⟩
    simp only at e1
    have hc : rowCode y ⟨wrap64 (y.f0 + o), fi, li, si⟩ = nc o ++ (nc fi ++ (nc li ++ nc si)) := by
      simp only [rowCode, ncs]
      rw [← e1]
      simp
    rw [hc, d1, d2, d3, d4, List.append_assoc, List.append_assoc, List.append_assoc]
theorem rows_back (bs : List Int) (hB : Bytes bs) (n : Nat) : ∀ (y : S48) (p q : Nat) (l : List S48), decN bs n y p = some (l, q) → Small y → (∀ x, x ∈ l → Small x) → p ≤ bs.length → bs.drop p = codeFrom y l ++ bs.drop q ∧ q ≤ bs.length := by
  induction n with
  | zero =>
    intro y p q l h _ _ hp
    simp [decN] at h
    obtain ⟨rfl, rfl⟩ := h
    exact ⟨rfl, hp⟩
  | succ n ih =>
    intro y p q l h hy hl hp
    rw [decN] at h
    obtain ⟨⟨x, p1⟩, h1, h⟩ := Option.bind_eq_some_iff.1 h
    obtain ⟨⟨l', q'⟩, h2, h⟩ := Option.bind_eq_some_iff.1 h
    simp only [Option.some.injEq, Prod.mk.injEq] at h
    obtain ⟨rfl, rfl⟩ := h
    have hx := hl x List.mem_cons_self
    obtain ⟨d1, hp1⟩ := row_back bs hB y x p p1 h1 hy hx
    obtain ⟨d2, hq⟩ := ih x p1 q' l' h2 hx (fun z hz => hl z (List.mem_cons_of_mem _ hz)) hp1
    exact ⟨by rw [d1, d2, codeFrom, List.append_assoc], hq⟩
theorem all_back (bs : List Int) (hB : Bytes bs) (l : List S48) (h : decAll bs = some (l, bs.length)) (hV : Valid l) : nc l.length ++ codeFrom z48 l = bs := by
  unfold decAll at h
  obtain ⟨⟨n, p⟩, h1, h⟩ := Option.bind_eq_some_iff.1 h
  simp only at h
  obtain ⟨d1, hi, _, hp⟩ := nc_back bs hB n 0 p h1
  split at h
  · cases h
  · rename_i hn
    have hll := decN_len bs _ _ _ _ _ h
    obtain ⟨d2, _⟩ := rows_back bs hB _ z48 p bs.length l h small_z (fun x hx => (hV.fit x hx).s) hp
    have e : (l.length : Int) = n := by omega
    rw [e, List.drop_length, List.append_nil] at *
    rw [← d2]
    simpa using d1.symm
end Go.Proofs.Ytillcdcmhdofbaa.Un
