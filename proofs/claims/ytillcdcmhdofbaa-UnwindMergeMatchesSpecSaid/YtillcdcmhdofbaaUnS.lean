/- What codec's (*Reader).Number computes, in plain terms: the number whose bytes stand at the reader's place, or that there is none. -/
import Derived.Test.YtillcdcmhdofbaaUnC
import Derived.Test.YtillcdcmhdofbaaPUnwindUniquex6
namespace Go.Proofs.Ytillcdcmhdofbaa.Un
open Go.RowKit Go.Proofs.YtillcdcmhdofbaaW.PrintWords Go.Proofs.YtillcdcmhdofbaaW.PrintLast Go.Proofs.YtillcdcmhdofbaaW.PrintMore
open Go.Proofs.Ytillcdcmhdofbaa.PUnwindUnique
set_option linter.unusedVariables false
set_option linter.unusedSimpArgs false

theorem w64s (x : Int) (h0 : -9223372036854775808 ≤ x) (h1 : x ≤ 9223372036854775807) : wrap64 x = x := by unfold wrap64; omega
/-- The whole number of a natural one. -/
def unz (u : Int) : Int := if u % 2 = 0 then u / 2 else -(u / 2) - 1

theorem xor_zero (a : Int) (h0 : 0 ≤ a) (h1 : a < 9223372036854775808) : bits .xor .i64 a 0 = a := by
  obtain ⟨n, rfl⟩ := Int.eq_ofNat_of_zero_le h0
  show IntKind.i64.wrap ((BitVec.ofInt 64 (n : Int) ^^^ BitVec.ofInt 64 0).toNat : Int) = _
  rw [BitVec.toNat_xor, ofInt_u64 n (by omega), IntKind.wrap_i64]
  have : (BitVec.ofInt 64 0).toNat = 0 := by decide
  rw [this, Nat.xor_zero]
  omega
theorem xor_ones (a : Int) (h0 : 0 ≤ a) (h1 : a < 9223372036854775808) : bits .xor .i64 a (-1) = -a - 1 := by
  obtain ⟨n, rfl⟩ := Int.eq_ofNat_of_zero_le h0
  show IntKind.i64.wrap ((BitVec.ofInt 64 (n : Int) ^^^ BitVec.ofInt 64 (-1)).toNat : Int) = _
  have e : BitVec.ofInt 64 (-1) = BitVec.allOnes 64 := by decide
  rw [e, BitVec.xor_comm, ← BitVec.not_def, BitVec.toNat_not, ofInt_u64 n (by omega), IntKind.wrap_i64]
  have : (2 : Nat) ^ 64 = 18446744073709551616 := by decide
  omega
theorem and_one (u : Int) (h0 : 0 ≤ u) (h1 : u < 18446744073709551616) : bits .and .u64 u 1 = u % 2 := by
  rw [u64_and u 1 h0 h1 (by decide) (by decide)]
  have : (1 : Int).toNat = 1 := by decide
  rw [this, nat_mask1]
  omega
theorem rdr_unz (u : Int) (h0 : 0 ≤ u) (h1 : u < 18446744073709551616) : bits .xor .i64 (wrap64 (u / 2)) (wrap64 (-(wrap64 (bits .and .u64 u 1)))) = unz u := by
  rw [and_one u h0 h1, w64s (u / 2) (by omega) (by omega), w64s (u % 2) (by omega) (by omega), w64s (-(u % 2)) (by omega) (by omega)]
  unfold unz
  by_cases h : u % 2 = 0
  · rw [if_pos h, h]
    exact xor_zero _ (by omega) (by omega)
  · rw [if_neg h, show -(u % 2) = -1 by omega]
    exact xor_ones _ (by omega) (by omega)
theorem and_127 (b : Int) (h0 : 0 ≤ b) (h1 : b ≤ 255) : IntKind.u64.wrap (bits .and .u8 b 127) = b % 128 := by
  rw [u8_and b 127 h0 (by omega) (by decide) (by decide)]
  have : (127 : Int).toNat = 127 := by decide
  rw [this, nat_mask7, IntKind.wrap_u64]
  omega
theorem pow7 (i : Nat) : (2 : Int) ^ (7 * i) = 128 ^ i := by
  rw [Int.pow_mul]
  rfl
/-- u | (b & 127) << 7i, the bits of u below. -/
theorem or_shl (u b : Int) (i : Nat) (hu0 : 0 ≤ u) (hu1 : u < 128 ^ i) (hb0 : 0 ≤ b) (hb1 : b ≤ 255) (hi : i ≤ 9) (h9 : i = 9 → b ≤ 1) :
    bits .or .u64 u (shl .u64 (IntKind.u64.wrap (bits .and .u8 b 127)) ((7 * i : Nat) : Int)) = u + b % 128 * 128 ^ i ∧ u + b % 128 * 128 ^ i < 18446744073709551616 ∧ 0 ≤ u + b % 128 * 128 ^ i := by
  rw [and_127 b hb0 hb1]
  have hp : (0 : Int) < 128 ^ i := Int.pow_pos (by decide)
  have hs : shl .u64 (b % 128) ((7 * i : Nat) : Int) = IntKind.u64.wrap (b % 128 * 128 ^ i) := by
    unfold shl
    rw [Int.toNat_natCast, Nat.min_eq_left (by simp [IntKind.bits]; omega), pow7]
  have hle : b % 128 * 128 ^ i + 128 ^ i ≤ 18446744073709551616 := by
    rcases Nat.lt_or_ge i 9 with h | h
    · have h1 : (128 : Int) ^ i ≤ 128 ^ 8 := by
        have h := Nat.pow_le_pow_right (n := 128) (by decide) (show i ≤ 8 by omega)
        exact_mod_cast h
      have h2 : b % 128 * 128 ^ i ≤ 127 * 128 ^ i := Int.mul_le_mul_of_nonneg_right (by omega) (Int.le_of_lt hp)
      have h3 : (128 : Int) ^ 8 = 72057594037927936 := by decide
      omega
    · obtain rfl : i = 9 := by omega
      have h4 := h9 rfl
      have h3 : (128 : Int) ^ 9 = 9223372036854775808 := by decide
      rw [h3]
      omega
  have hm0 : 0 ≤ b % 128 * 128 ^ i := Int.mul_nonneg (by omega) (Int.le_of_lt hp)
  have hlt : u + b % 128 * 128 ^ i < 18446744073709551616 := by omega
  refine ⟨?_, hlt, by omega⟩
  rw [hs, IntKind.wrap_u64, show b % 128 * 128 ^ i % 18446744073709551616 = b % 128 * 128 ^ i by omega]
  rw [u64_or _ _ hu0 (by omega) hm0 (by omega)]
  obtain ⟨U, rfl⟩ := Int.eq_ofNat_of_zero_le hu0
  obtain ⟨B, hB⟩ := Int.eq_ofNat_of_zero_le (show 0 ≤ b % 128 by omega)
  have hc : ((128 ^ i : Nat) : Int) = (128 : Int) ^ i := by simp
  have e : b % 128 * 128 ^ i = ((B * 128 ^ i : Nat) : Int) := by rw [hB, Int.natCast_mul, hc]
  rw [e, Int.toNat_natCast, Int.toNat_natCast]
  have hU : U < 2 ^ (7 * i) := by
    have : (2 : Nat) ^ (7 * i) = 128 ^ i := by rw [Nat.pow_mul]
    rw [this]
    omega
  have hd : B * 128 ^ i % 2 ^ (7 * i) = 0 := by
    have : (2 : Nat) ^ (7 * i) = 128 ^ i := by rw [Nat.pow_mul]
    rw [this]
    exact Nat.mul_mod_left _ _
  rw [Nat.or_comm, nat_join (7 * i) _ _ hd hU]
  rw [Int.natCast_add]
  omega

/-- The number whose bytes stand at place p; i: how many of its bytes have been read; f: how many more at most. -/
def dec (bs : List Int) : Nat → Nat → Int → Nat → Option (Int × Nat)
  | 0, _, _, _ => none
  | f + 1, i, u, p =>
    if p < bs.length then
      if (i = 9 ∧ rd bs p > 1) ∨ (0 < i ∧ rd bs p = 0) then none
      else if rd bs p < 128 then some (unz (u + rd bs p % 128 * 128 ^ i), p + 1)
      else dec bs f (i + 1) (u + rd bs p % 128 * 128 ^ i) (p + 1)
    else none
def Bytes (bs : List Int) : Prop := ∀ p : Nat, p < bs.length → 0 ≤ rd bs p ∧ rd bs p ≤ 255
/-- What a read leaves: none, or the number and the place behind it. -/
def NumR (bs : List Int) (at_ : Nat) (isBad : Bool) (d : Option (Int × Nat)) (r1 r2 : Int) (r3 : Bool) : Prop :=
  (r3 = true ∧ r1 = 0 ∧ (isBad = true ∨ d = none) ∧ ∃ q : Nat, r2 = q ∧ at_ ≤ q ∧ q ≤ bs.length) ∨ (r3 = false ∧ isBad = false ∧ ∃ q : Nat, r2 = q ∧ d = some (r1, q) ∧ at_ < q ∧ q ≤ bs.length)

theorem next_end (bs : List Int) (p : Nat) (hp : ¬ p < bs.length) : codec_Reader_next.f bs p false = some (0, (p : Int), true) := by
  unfold codec_Reader_next.f
  rw [if_neg (by decide), if_pos (by omega)]
theorem next_byte (bs : List Int) (p : Nat) (hp : p < bs.length) (hl : bs.length ≤ 1000000000) : codec_Reader_next.f bs p false = some (rd bs p, ((p + 1 : Nat) : Int), false) := by
  unfold codec_Reader_next.f
  rw [w64s ((p : Int) + 1) (by omega) (by omega), w64s ((p : Int) + 1 - 1) (by omega) (by omega)]
  rw [if_neg (by decide), if_neg (by omega), if_pos (by omega), if_pos (by omega)]
  rw [show (p : Int) + 1 - 1 = p by omega, show ((p + 1 : Nat) : Int) = (p : Int) + 1 by omega]
theorem j2_bad (k : Nat) (u s b : Int) (bs : List Int) (q : Int) : codec_Reader_Number.j2 (k + 1) u s b bs q true = some (0, q, true) := by
  rw [codec_Reader_Number.j2, if_pos rfl]
theorem j1_true (k : Nat) (u s b : Int) (bs : List Int) (q : Int) (z : Bool) : codec_Reader_Number.j1 (k + 2) u s b true bs q z = some (0, q, true) := by
  rw [codec_Reader_Number.j1, if_pos rfl, j2_bad]
theorem j1_bad (k : Nat) (u s b : Int) (bs : List Int) (q : Int) (x : Bool) : codec_Reader_Number.j1 (k + 2) u s b x bs q true = some (0, q, true) := by
  rw [codec_Reader_Number.j1]
  cases x
  · rw [if_neg (by decide), j2_bad]
  · rw [if_pos rfl, j2_bad]

theorem num_loop (bs : List Int) (hB : Bytes bs) (hl : bs.length ≤ 1000000000) (f : Nat) : ∀ (i : Nat) (u : Int) (p : Nat), i + f = 10 → 0 < f → 0 ≤ u → u < 128 ^ i → p ≤ bs.length →
    ∃ k r1 r2 r3, codec_Reader_Number.l0 k u ((7 * i : Nat) : Int) bs p false = some (r1, r2, r3) ∧ NumR bs p false (dec bs f i u p) r1 r2 r3 := by
  induction f with
  | zero => intro i u p _ h; omega
  | succ f ih =>
    intro i u p hif _ hu0 hu1 hp
    by_cases hpl : p < bs.length
    · obtain ⟨hb0, hb1⟩ := hB p hpl
      obtain ⟨b, hb⟩ : ∃ b, rd bs p = b := ⟨_, rfl⟩
      rw [hb] at hb0 hb1
      by_cases hbad : (i = 9 ∧ b > 1) ∨ (0 < i ∧ b = 0)
      · refine ⟨3, 0, ((p + 1 : Nat) : Int), true, ?_, .inl ⟨rfl, rfl, .inr ?_, p + 1, rfl, by omega, by omega⟩⟩
        · rw [codec_Reader_Number.l0, next_byte bs p hpl hl, hb]
          simp only [Option.bind_some]
          by_cases h9 : (((7 * i : Nat)) : Int) = 63
          · rw [if_pos h9]
            by_cases hb2 : b > 1
            · rw [if_pos hb2, j1_true]
            · rw [if_neg hb2, if_pos (by omega), show (b == 0) = true by simp; omega, j1_true]
          · rw [if_neg h9, if_pos (by omega), show (b == 0) = true by simp; omega, j1_true]
        · rw [dec, if_pos hpl, hb, if_pos hbad]
      · obtain ⟨e1, e2, e3⟩ := or_shl u b i hu0 hu1 hb0 hb1 (by omega) (by omega)
        have step : ∀ k, codec_Reader_Number.l0 (k + 3) u ((7 * i : Nat) : Int) bs p false = if b < 128 then some (unz (u + b % 128 * 128 ^ i), ((p + 1 : Nat) : Int), false) else codec_Reader_Number.l0 k (u + b % 128 * 128 ^ i) ((7 * (i + 1) : Nat) : Int) bs ((p + 1 : Nat) : Int) false := by
          intro k
          have hj : codec_Reader_Number.j1 (k + 2) u ((7 * i : Nat) : Int) b false bs ((p + 1 : Nat) : Int) false = if b < 128 then some (unz (u + b % 128 * 128 ^ i), ((p + 1 : Nat) : Int), false) else codec_Reader_Number.l0 k (u + b % 128 * 128 ^ i) ((7 * (i + 1) : Nat) : Int) bs ((p + 1 : Nat) : Int) false := by
            rw [codec_Reader_Number.j1, if_neg (by decide), codec_Reader_Number.j2, if_neg (by decide), if_pos (by omega), e1, rdr_unz _ e3 e2, w64s _ (by omega) (by omega)]
            rw [show ((7 * i : Nat) : Int) + 7 = ((7 * (i + 1) : Nat) : Int) by omega]
          rw [codec_Reader_Number.l0, next_byte bs p hpl hl, hb]
          simp only [Option.bind_some]
          by_cases h9 : (((7 * i : Nat)) : Int) = 63
          · rw [if_pos h9, if_neg (by omega), if_pos (by omega), show (b == 0) = false by simp; omega, hj]
          · rw [if_neg h9]
            by_cases h0 : (((7 * i : Nat)) : Int) > 0
            · rw [if_pos h0, show (b == 0) = false by simp; omega, hj]
            · rw [if_neg h0, hj]
        by_cases h128 : b < 128
        · refine ⟨3, unz (u + b % 128 * 128 ^ i), ((p + 1 : Nat) : Int), false, ?_, .inr ⟨rfl, rfl, p + 1, rfl, ?_, by omega, by omega⟩⟩
          · rw [step 0, if_pos h128]
          · rw [dec, if_pos hpl, hb, if_neg hbad, if_pos h128]
        · have hi9 : i ≠ 9 := by omega
          have hu' : u + b % 128 * 128 ^ i < 128 ^ (i + 1) := by
            have hp : (0 : Int) < 128 ^ i := Int.pow_pos (by decide)
            have h2 : b % 128 * 128 ^ i ≤ 127 * 128 ^ i := Int.mul_le_mul_of_nonneg_right (by omega) (Int.le_of_lt hp)
            rw [Int.pow_succ]
            omega
          obtain ⟨k, r1, r2, r3, h1, h2⟩ := ih (i + 1) (u + b % 128 * 128 ^ i) (p + 1) (by omega) (by omega) e3 hu' (by omega)
          refine ⟨k + 3, r1, r2, r3, by rw [step k, if_neg h128]; exact h1, ?_⟩
          rw [dec, if_pos hpl, hb, if_neg hbad, if_neg h128]
          rcases h2 with ⟨a1, a2, a3, q, a4, a5, a6⟩ | ⟨a1, a2, q, a4, a5, a6, a7⟩
          · exact .inl ⟨a1, a2, a3, q, a4, by omega, a6⟩
          · exact .inr ⟨a1, a2, q, a4, a5, by omega, a7⟩
    · refine ⟨3, 0, (p : Int), true, ?_, .inl ⟨rfl, rfl, .inr ?_, p, rfl, Nat.le_refl _, hp⟩⟩
      · rw [codec_Reader_Number.l0, next_end bs p hpl]
        simp only [Option.bind_some]
        by_cases h9 : (((7 * i : Nat)) : Int) = 63
        · rw [if_pos h9, if_neg (by decide)]
          by_cases h0 : (((7 * i : Nat)) : Int) > 0
          · rw [if_pos h0, j1_bad]
          · rw [if_neg h0, j1_bad]
        · rw [if_neg h9]
          by_cases h0 : (((7 * i : Nat)) : Int) > 0
          · rw [if_pos h0, j1_bad]
          · rw [if_neg h0, j1_bad]
      · rw [dec, if_neg hpl]
theorem num_is (bs : List Int) (hB : Bytes bs) (hl : bs.length ≤ 1000000000) (p : Nat) (hp : p ≤ bs.length) (isBad : Bool) :
    ∃ k r1 r2 r3, codec_Reader_Number.f k bs p isBad = some (r1, r2, r3) ∧ NumR bs p isBad (dec bs 10 0 0 p) r1 r2 r3 := by
  cases isBad with
  | false => exact num_loop bs hB hl 10 0 0 p rfl (by decide) (by decide) (by decide) hp
  | true =>
    refine ⟨3, 0, p, true, ?_, .inl ⟨rfl, rfl, .inl rfl, p, rfl, Nat.le_refl _, hp⟩⟩
    unfold codec_Reader_Number.f
    rw [codec_Reader_Number.l0]
    unfold codec_Reader_next.f
    rw [if_pos rfl]
    simp only [Option.bind_some]
    rw [if_neg (by decide), if_neg (by decide), j1_bad]
end Go.Proofs.Ytillcdcmhdofbaa.Un
