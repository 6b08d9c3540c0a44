/- The statement's own helpers lineOffsets and row: the offsets, and the number of the last one that is not greater; conditions: the rows are read as a list. -/
import Derived.Test.YtillcdcmhdofbaaUnF
import Derived.Test.YtillcdcmhdofbaaUnP
namespace Go.Proofs.Ytillcdcmhdofbaa.Un
open Go.RowKit Go.Proofs.YtillcdcmhdofbaaW.PrintWords Go.Proofs.YtillcdcmhdofbaaW.PrintLast Go.Proofs.YtillcdcmhdofbaaW.PrintMore
open Go.Proofs.Ytillcdcmhdofbaa.PUnwindUnique
set_option linter.unusedVariables false
set_option linter.unusedSimpArgs false

theorem Valid.small {l : List S48} (h : Valid l) : ∀ k : Nat, k < l.length → Small (rd_T48 l k) := by
  intro k hk
  obtain ⟨a0, a1, _, h1⟩ := bad_zero (h.ok k hk)
  rcases h1 with ⟨b0, b1, c0, c1, d0, d1⟩ | ⟨b, c, d⟩ <;> exact ⟨by omega, by omega, by omega, by omega, by omega, by omega, by omega, by omega⟩
theorem info3' : (Try.prog.info? 3).map (fun i => (i.zero, i.size, i.bytes)) = some (some (.int .i64 0), 1, 8) := by kernel_rfl
theorem ints_C {W : World} {base c : Nat} {A : Option Addr} {bs : List Int} (h : W.ownsRow base 3 1 (.slice A bs.length c) bs.length (nums .i64 bs)) : Kd.C (Kd.int .i64) W A bs.length bs :=
  Kd.C_of_reads (d := (0 : Int)) (h1 := fun _ => rfl) (own_reads_of' (enc := Value.int .i64) h)
def offs (l : List S48) (k : Nat) : List Int := (List.range k).map fun (i : Nat) => (rd_T48 l (i : Int)).f0
theorem offs_len (l : List S48) (k : Nat) : (offs l k).length = k := by simp [offs]
theorem offs_succ (l : List S48) (k : Nat) : offs l (k + 1) = offs l k ++ [(rd_T48 l (k : Int)).f0] := by simp [offs, List.range_succ]
theorem rd_offs (l : List S48) (n k : Nat) (h : k < n) : rd (offs l n) (k : Int) = (rd_T48 l (k : Int)).f0 := by
  unfold rd
  rw [Int.toNat_natCast, List.getD_eq_getElem?_getD]
  simp [offs, h]
/-- A row of whole numbers of the call's own. -/
def IntsPost (xs : List Int) (w : World) (e : Ending) (w' : World) : Prop :=
  ∃ A C, e = .returned (.slice A xs.length C) ∧ xs.length ≤ C ∧ Kd.C (Kd.int .i64) w' A xs.length xs ∧ Below w.heap.size w w'

set_option maxHeartbeats 1000000 in
set_option maxRecDepth 100000 in
theorem f31_any (A : Option Addr) (c : Nat) (l : List S48) (w : World) (hr : Kd.C k48 w A l.length l) (hn : l.length ≤ 100000) :
    Calls Try.prog 31 #[.slice A l.length c] w (IntsPost (offs l l.length) w) := by
  have HR := Aside0.mk hr
  clear hr
  go_enter Try.func31, Try.ntmps31
  go_wp2_with fail
  go_loopg [3, 4] l.length (fun kq v i w' => ∃ k : Nat, i = .int .i64 k ∧ k ≤ l.length ∧ Aside0 (l.length - k ≤ kq) ∧ Aside0 (w'.ownsRow w.heap.size 3 1 v (offs l k).length (nums .i64 (offs l k))) ∧ Aside0 (Below w.heap.size w w'))
  case atStart => exact ⟨0, rfl, Nat.zero_le _, ⟨by omega⟩, ⟨own_nil _ _ _ _⟩, ⟨Below.refl _ _⟩⟩
  case round =>
    obtain ⟨k, rfl, hk, HM, HO, HB⟩ := hrel
    have hol := offs_len l k
    have HOL := Aside0.mk hol
    by_cases hlt : k < l.length
    · obtain ⟨ad, hA, hx0, hx1, hx2, hx3⟩ := at_T48 (Kd.C_below HR.out HB.out) (k : Int) (by omega) (by omega)
      cases hA
      rw [Int.toNat_natCast] at hx0 hx1 hx2 hx3
      obtain ⟨x, hx⟩ : ∃ x, rd_T48 l (k : Int) = x := ⟨_, rfl⟩
      rw [hx] at hx0 hx1 hx2 hx3
      have HX := Aside0.mk hx
      clear hx hol
      go_wp2_with (at_builtin; refine print_append_num (w0 := w) w.heap.size rfl (.tmp 11) (.tmp 17) 32 3 .i64 8 rfl Try.underlying32 info3' (by decide) u3 (offs l k) x.f0 rfl rfl HO.out HB.out HB.out.size ?cA ?_; (case cA => rw [HOL.out]; omega); intro v1 w1 hown1 hB1 hg1 hat1; have HO1 := Aside0.mk hown1; have HB1 := Aside0.mk hB1; clear hown1 hB1 hg1 hat1)
      go_roundg (l.length - (k + 1))
      case measure => have := HM.out; omega
      case rel => exact ⟨k + 1, by go_num, by omega, ⟨Nat.le_refl _⟩, ⟨by rw [offs_succ, HX.out]; exact HO1.out⟩, HB1⟩
    · obtain rfl : k = l.length := by omega
      have ho := HO.out
      obtain ⟨A3, C3, rfl⟩ := own_slice ho
      have HC3 := Aside0.mk (ints_C ho)
      have HE3 := Aside0.mk (own_le ho)
      clear ho hol
      go_wp2_with fail
      go_ret
      exact ⟨A3, C3, rfl, HE3.out, HC3.out, HB.out⟩

/-- The number of the last of the first n that is not greater, or -1. -/
def rowTo (xs : List Int) (off : Int) : Nat → Int
  | 0 => -1
  | k + 1 => if rd xs k ≤ off then k else rowTo xs off k
theorem rowTo_lt (xs : List Int) (off : Int) (k : Nat) : -1 ≤ rowTo xs off k ∧ rowTo xs off k < k := by
  induction k with
  | zero => rw [rowTo]; omega
  | succ k ih =>
    rw [rowTo]
    split <;> omega

set_option maxHeartbeats 1000000 in
set_option maxRecDepth 100000 in
theorem f19_any (A : Option Addr) (c : Nat) (xs : List Int) (off : Int) (w : World) (hr : Kd.C (Kd.int .i64) w A xs.length xs) (hn : xs.length ≤ 100000) :
    Calls Try.prog 19 #[.slice A xs.length c, .int .i64 off] w fun e w' => e = .returned (.int .i64 (rowTo xs off xs.length)) ∧ w = w' := by
  have HR := Aside0.mk hr
  clear hr
  go_enter Try.func19, Try.ntmps19
  go_wp2_with fail
  go_loopg [5, 6] xs.length (fun kq b i w' => ∃ k : Nat, i = .int .i64 k ∧ b = .int .i64 (rowTo xs off k) ∧ k ≤ xs.length ∧ Aside0 (xs.length - k ≤ kq) ∧ Aside0 (w = w'))
  case atStart => exact ⟨0, rfl, rfl, Nat.zero_le _, ⟨by omega⟩, ⟨rfl⟩⟩
  case round =>
    obtain ⟨k, rfl, rfl, hk, HM, ⟨rfl⟩⟩ := hrel
    by_cases hlt : k < xs.length
    · obtain ⟨ad, hA, hx⟩ := Kd.at_int HR.out (k : Int) (by omega) (by omega)
      cases hA
      rw [Int.toNat_natCast] at hx
      obtain ⟨x, hx'⟩ : ∃ x, rd xs (k : Int) = x := ⟨_, rfl⟩
      rw [hx'] at hx
      have HX := Aside0.mk hx'
      clear hx'
      by_cases hle : x ≤ off
      · have HE := Aside0.mk (show rowTo xs off (k + 1) = k by rw [rowTo, HX.out, if_pos hle])
        go_wp2_with fail
        go_roundg (xs.length - (k + 1))
        case measure => have := HM.out; omega
        case rel => exact ⟨k + 1, by go_num, by rw [HE.out], by omega, ⟨Nat.le_refl _⟩, ⟨rfl⟩⟩
      · have HE := Aside0.mk (show rowTo xs off (k + 1) = rowTo xs off k by rw [rowTo, HX.out, if_neg hle])
        go_wp2_with fail
        go_roundg (xs.length - (k + 1))
        case measure => have := HM.out; omega
        case rel => exact ⟨k + 1, by go_num, by rw [HE.out], by omega, ⟨Nat.le_refl _⟩, ⟨rfl⟩⟩
    · obtain rfl : k = xs.length := by omega
      go_wp2_with fail
      go_ret
      exact ⟨rfl, rfl⟩
end Go.Proofs.Ytillcdcmhdofbaa.Un
