/- The statement on lines.Places, walked: the call returns true for every list of rows, every file and line. -/
import Derived.Test.YtillcdcmhdofbaaLnF
import Derived.Test.YtillcdcmhdofbaaLnQ
namespace Go.Proofs.Ytillcdcmhdofbaa.Ln
open Go.RowKit Go.Proofs.YtillcdcmhdofbaaW.PrintWords Go.Proofs.YtillcdcmhdofbaaW.PrintLast Go.Proofs.YtillcdcmhdofbaaW.PrintMore
open Go.Proofs.Ytillcdcmhdofbaa.PLinesUnique
set_option linter.unusedVariables false
set_option linter.unusedSimpArgs false
attribute [local go_sem high] eqA27

set_option maxHeartbeats 2000000 in
set_option maxRecDepth 100000 in
theorem f4_bad (A : Option Addr) (c : Nat) (l : List S25) (a b : Int) (w : World) (hr : Kd.C k25 w A l.length l) (hcl : l.length ≤ c) (hv : (vFault l).1 ≠ 0) :
    Calls Try.prog 4 #[.slice A l.length c, .int .i64 a, .int .i64 b] w fun e w' => e = .returned (.bool true) ∧ Below w.heap.size w w' := by
  obtain ⟨k, hk⟩ := places_bad l a b hv
  obtain ⟨k', hk'⟩ := fault_is l
  have HV := Aside0.mk hk
  have HV' := Aside0.mk (show linkhouseref2_LinesFault.f k' l = some ((vFault l).1, (vFault l).2) from hk')
  clear hk hk'
  generalize (vFault l).1 = r1 at hv HV HV'
  generalize (vFault l).2 = r2 at HV HV'
  have hne : (r1 == 0) = false := by simpa using hv
  have HR := Aside0.mk hr
  clear hr hv
  have hu27 := Try.underlying27
  go_enter Try.func4, Try.ntmps4
  go_wp2_with fail
  refine (f15_any w).mono ?_
  rintro e w1 ⟨rfl, hb⟩
  have HB1 := Aside0.mk hb
  have HR1 := Aside0.mk (Kd.C_below HR.out hb)
  clear hb
  go_wp2_with fail
  refine (lines_Places.calls k A c l a b [] r1 r2 _ HR1.out hcl HV.out).mono ?_
  rintro e w2 ⟨v, rfl, hp, hb⟩
  obtain ⟨A2, C2, rfl, _, _⟩ := Kd.R_reads hp
  have HB2 := Aside0.mk (below_then HB1.out HB1.out.size hb)
  have HR2 := Aside0.mk (Kd.C_below HR1.out hb)
  clear hb hp
  go_wp2_with fail
  have HB3 := Aside0.mk (below_alloc' HB2.out (.cells #[.int .i64 r1, .int .i64 r2] 27))
  have HR3 := Aside0.mk (Kd.C_below HR2.out (below_alloc (Below.refl _ _) (.cells #[.int .i64 r1, .int .i64 r2] 27)))
  have HK3 := Aside0.mk (blk_new w2 (.cells #[.int .i64 r1, .int .i64 r2] 27))
  refine (linkhouseref2_LinesFault.calls k' A c l r1 r2 _ HR3.out hcl HV'.out).mono ?_
  rintro e w3 ⟨rfl, hb⟩
  have HB4 := Aside0.mk (below_then HB3.out HB3.out.size hb)
  have HK4 := Aside0.mk (blk_below HK3.out hb)
  clear hb HB1 HB2 HB3 HK3
  have hq0 : w3.cell? ⟨w2.heap.size, 0, none⟩ = some (.int .i64 r1) := (blk_cell HK4.out 0).trans rfl
  have hq1 : w3.cell? ⟨w2.heap.size, 1, none⟩ = some (.int .i64 r2) := (blk_cell HK4.out 1).trans rfl
  have hlt : w2.heap.size < w3.heap.size := blk_lt HK4.out
  go_wp2_with fail
  go_ret
  exact ⟨by simp, below_alloc' HB4.out _⟩

theorem ints_C {W : World} {base c : Nat} {A : Option Addr} {bs : List Int} (h : W.ownsRow base 3 1 (.slice A bs.length c) bs.length (nums .i64 bs)) : Kd.C (Kd.int .i64) W A bs.length bs :=
  Kd.C_of_reads (d := (0 : Int)) (h1 := fun _ => rfl) (own_reads_of' (enc := Value.int .i64) h)
theorem ints_l0 (l : List Int) (hn : l.length ≤ 1000000) (d : Nat) : ∀ (i k : Nat), i + d = l.length → d < k → linkhouseref1_Ints.l0 k l l i = some true := by
  induction d with
  | zero =>
    intro i k hi hk
    obtain ⟨k, rfl⟩ : ∃ m, k = m + 1 := ⟨k - 1, by omega⟩
    rw [linkhouseref1_Ints.l0, if_neg (by omega)]
  | succ d ih =>
    intro i k hi hk
    obtain ⟨k, rfl⟩ : ∃ m, k = m + 1 := ⟨k - 1, by omega⟩
    have hrec := ih (i + 1) k (by omega) (by omega)
    rw [show (((i + 1 : Nat)) : Int) = (i : Int) + 1 by omega] at hrec
    rw [linkhouseref1_Ints.l0, if_pos (by omega), w64 _ (by omega) (by omega), hrec]
    simp
    omega
theorem ints_same' (l : List Int) (hn : l.length ≤ 1000000) : ∃ k, linkhouseref1_Ints.f k l l = some true := by
  refine ⟨l.length + 1, ?_⟩
  unfold linkhouseref1_Ints.f
  rw [if_pos rfl]
  exact ints_l0 l hn l.length 0 _ (by omega) (by omega)

def LawPost (w : World) (e : Ending) (w' : World) : Prop := e = .returned (.bool true) ∧ Below w.heap.size w w'

theorem info3' : (Try.prog.info? 3).map (fun i => (i.zero, i.size, i.bytes)) = some (some (.int .i64 0), 1, 8) := by kernel_rfl

set_option maxHeartbeats 4000000 in
set_option maxRecDepth 100000 in
theorem f4_ok (A : Option Addr) (c : Nat) (l : List S25) (a b : Int) (w : World) (hr : Kd.C k25 w A l.length l) (hcl : l.length ≤ c) (hv : (vFault l).1 = 0) :
    Calls Try.prog 4 #[.slice A l.length c, .int .i64 a, .int .i64 b] w (LawPost w) := by
  obtain ⟨hv0, hV⟩ := valid_of l hv
  obtain ⟨k, hk⟩ := places_ok l a b hV hv0
  obtain ⟨k', hk'⟩ := fault_is l
  rw [hv0] at hk'
  have HV := Aside0.mk hk
  have HV' := Aside0.mk hk'
  have HVal := Aside0.mk hV
  have hlen := hV.len
  clear hk hk' hv hv0 hV
  have HR := Aside0.mk hr
  clear hr
  have hu27 := Try.underlying27
  go_enter Try.func4, Try.ntmps4
  go_wp2_with fail
  refine (f15_any w).mono ?_
  rintro e w1 ⟨rfl, hb⟩
  have HB1 := Aside0.mk hb
  have HR1 := Aside0.mk (Kd.C_below HR.out hb)
  clear hb
  go_wp2_with fail
  refine (lines_Places.calls k A c l a b (plc l a b l.length) 0 0 _ HR1.out hcl HV.out).mono ?_
  rintro e w2 ⟨v, rfl, hp, hb⟩
  obtain ⟨A2, C2, rfl, hle2, hc2⟩ := Kd.R_reads hp
  have HB2 := Aside0.mk (below_then HB1.out HB1.out.size hb)
  have HR2 := Aside0.mk (Kd.C_below HR1.out hb)
  have HP2 := Aside0.mk hc2
  have HL2 := Aside0.mk hle2
  clear hb hp hle2 hc2
  go_wp2_with fail
  have HB3 := Aside0.mk (below_alloc' HB2.out (.cells #[.int .i64 0, .int .i64 0] 27))
  have HR3 := Aside0.mk (Kd.C_below HR2.out (below_alloc (Below.refl _ _) (.cells #[.int .i64 0, .int .i64 0] 27)))
  have HP3 := Aside0.mk (Kd.C_below HP2.out (below_alloc (Below.refl _ _) (.cells #[.int .i64 0, .int .i64 0] 27)))
  have HK3 := Aside0.mk (blk_new w2 (.cells #[.int .i64 0, .int .i64 0] 27))
  refine (linkhouseref2_LinesFault.calls k' A c l 0 0 _ HR3.out hcl HV'.out).mono ?_
  rintro e w3 ⟨rfl, hb⟩
  have HB4 := Aside0.mk (below_alloc' (below_then HB3.out HB3.out.size hb) (.cells #[.int .i64 0, .int .i64 0] 27))
  have HR4 := Aside0.mk (Kd.C_below (Kd.C_below HR3.out hb) (below_alloc (Below.refl _ _) (.cells #[.int .i64 0, .int .i64 0] 27)))
  have HP4 := Aside0.mk (Kd.C_below (Kd.C_below HP3.out hb) (below_alloc (Below.refl _ _) (.cells #[.int .i64 0, .int .i64 0] 27)))
  have HK4 := Aside0.mk (blk_alloc (blk_below HK3.out hb) (.cells #[.int .i64 0, .int .i64 0] 27))
  clear hb HB1 HB2 HB3 HK3 HR1 HR2 HR3 HP2 HP3
  go_wp2_with fail
  generalize w3.alloc (.cells #[.int .i64 0, .int .i64 0] 27) = wS at HB4 HR4 HP4 HK4 ⊢
  go_loopg [10, 11] l.length (fun kq v i w' => ∃ k : Nat, i = .int .i64 k ∧ k ≤ l.length ∧ Aside0 (l.length - k ≤ kq) ∧ Aside0 (w'.ownsRow wS.heap.size 3 1 v (plc l a b k).length (nums .i64 (plc l a b k))) ∧ Aside0 (Below wS.heap.size wS w'))
  case atStart => exact ⟨0, rfl, Nat.zero_le _, ⟨by omega⟩, ⟨own_nil _ _ _ _⟩, ⟨Below.refl _ _⟩⟩
  case round =>
    obtain ⟨k, rfl, hk, HM, HO, HB⟩ := hrel
    have hpl := plc_len l a b k
    by_cases hlt : k < l.length
    · obtain ⟨ad, hA, hx0, hx1, hx2⟩ := at_T25 (Kd.C_below HR4.out HB.out) (k : Int) (by omega) (by omega)
      cases hA
      rw [Int.toNat_natCast] at hx0 hx1 hx2
      obtain ⟨x, hx⟩ : ∃ x, rd_T25 l (k : Int) = x := ⟨_, rfl⟩
      rw [hx] at hx0 hx1 hx2
      have HX := Aside0.mk hx
      clear hx
      rcases Nat.eq_zero_or_pos k with h0 | h0
      · have hk0 : decide (0 < k) = false := by simp [h0]
        have hk1 : decide (0 < (k : Int)) = false := by simp [h0]
        clear h0
        cases c1 : (x.f1 == a) with
        | true =>
          cases c2 : (x.f2 == b) with
          | true =>
            have HE := Aside0.mk (show plc l a b (k + 1) = plc l a b k ++ [x.f0] by rw [plc, HX.out, if_pos (by unfold begins isAt; rw [HX.out, c1, c2, hk0]; simp)])
            go_wp2_with (at_builtin; refine print_append_num (w0 := wS) wS.heap.size rfl (.tmp 85) (.tmp 91) 32 3 .i64 8 rfl Try.underlying32 info3' (by decide) u10 (plc l a b k) x.f0 rfl rfl HO.out HB.out HB.out.size ?cA ?_; (case cA => omega); intro v1 w1 hown1 hB1 hg1 hat1; have HO1 := Aside0.mk hown1; have HB1 := Aside0.mk hB1; clear hown1 hB1 hg1 hat1)
            go_roundg (l.length - (k + 1))
            case measure => have := HM.out; omega
            case rel => exact ⟨k + 1, by go_num, by omega, ⟨Nat.le_refl _⟩, ⟨by rw [HE.out]; exact HO1.out⟩, HB1⟩
          | false =>
            have HE := Aside0.mk (show plc l a b (k + 1) = plc l a b k by rw [plc, if_neg (by unfold begins isAt; rw [HX.out, c1, c2]; simp)])
            go_wp2_with fail
            go_roundg (l.length - (k + 1))
            case measure => have := HM.out; omega
            case rel => exact ⟨k + 1, by go_num, by omega, ⟨Nat.le_refl _⟩, ⟨by rw [HE.out]; exact HO.out⟩, HB⟩
        | false =>
          have HE := Aside0.mk (show plc l a b (k + 1) = plc l a b k by rw [plc, if_neg (by unfold begins isAt; rw [HX.out, c1]; simp)])
          go_wp2_with fail
          go_roundg (l.length - (k + 1))
          case measure => have := HM.out; omega
          case rel => exact ⟨k + 1, by go_num, by omega, ⟨Nat.le_refl _⟩, ⟨by rw [HE.out]; exact HO.out⟩, HB⟩
      · have hk0 : decide (0 < k) = true := by simp [h0]
        have hk1 : decide (0 < (k : Int)) = true := by simp [h0]
        obtain ⟨ad', hA, hy0, hy1, hy2⟩ := at_T25 (Kd.C_below HR4.out HB.out) ((k : Int) - 1) (by omega) (by omega)
        cases hA
        rw [show ((k : Int) - 1).toNat = k - 1 by omega] at hy0 hy1 hy2
        obtain ⟨y, hy⟩ : ∃ y, rd_T25 l ((k : Int) - 1) = y := ⟨_, rfl⟩
        rw [hy] at hy0 hy1 hy2
        have HY := Aside0.mk hy
        clear hy
        cases c1 : (x.f1 == a) with
        | true =>
          cases c2 : (x.f2 == b) with
          | true =>
            cases c3 : (y.f1 == a) with
            | true =>
              cases c4 : (y.f2 == b) with
              | true =>
                have HE := Aside0.mk (show plc l a b (k + 1) = plc l a b k by rw [plc, if_neg (by unfold begins isAt; rw [HX.out, c1, c2, hk0, show (((k - 1 : Nat)) : Int) = (k : Int) - 1 by omega, HY.out, c3, c4]; simp)])
                go_wp2_with fail
                go_roundg (l.length - (k + 1))
                case measure => have := HM.out; omega
                case rel => exact ⟨k + 1, by go_num, by omega, ⟨Nat.le_refl _⟩, ⟨by rw [HE.out]; exact HO.out⟩, HB⟩
              | false =>
                have HE := Aside0.mk (show plc l a b (k + 1) = plc l a b k ++ [x.f0] by rw [plc, HX.out, if_pos (by unfold begins isAt; rw [HX.out, c1, c2, hk0, show (((k - 1 : Nat)) : Int) = (k : Int) - 1 by omega, HY.out, c3, c4]; simp)])
                go_wp2_with (at_builtin; refine print_append_num (w0 := wS) wS.heap.size rfl (.tmp 85) (.tmp 91) 32 3 .i64 8 rfl Try.underlying32 info3' (by decide) u10 (plc l a b k) x.f0 rfl rfl HO.out HB.out HB.out.size ?cA ?_; (case cA => omega); intro v1 w1 hown1 hB1 hg1 hat1; have HO1 := Aside0.mk hown1; have HB1 := Aside0.mk hB1; clear hown1 hB1 hg1 hat1)
                go_roundg (l.length - (k + 1))
                case measure => have := HM.out; omega
                case rel => exact ⟨k + 1, by go_num, by omega, ⟨Nat.le_refl _⟩, ⟨by rw [HE.out]; exact HO1.out⟩, HB1⟩
            | false =>
              have HE := Aside0.mk (show plc l a b (k + 1) = plc l a b k ++ [x.f0] by rw [plc, HX.out, if_pos (by unfold begins isAt; rw [HX.out, c1, c2, hk0, show (((k - 1 : Nat)) : Int) = (k : Int) - 1 by omega, HY.out, c3]; simp)])
              go_wp2_with (at_builtin; refine print_append_num (w0 := wS) wS.heap.size rfl (.tmp 85) (.tmp 91) 32 3 .i64 8 rfl Try.underlying32 info3' (by decide) u10 (plc l a b k) x.f0 rfl rfl HO.out HB.out HB.out.size ?cA ?_; (case cA => omega); intro v1 w1 hown1 hB1 hg1 hat1; have HO1 := Aside0.mk hown1; have HB1 := Aside0.mk hB1; clear hown1 hB1 hg1 hat1)
              go_roundg (l.length - (k + 1))
              case measure => have := HM.out; omega
              case rel => exact ⟨k + 1, by go_num, by omega, ⟨Nat.le_refl _⟩, ⟨by rw [HE.out]; exact HO1.out⟩, HB1⟩
          | false =>
            cases c3 : (y.f1 == a) with
            | true =>
              cases c4 : (y.f2 == b) with
              | true =>
                have HE := Aside0.mk (show plc l a b (k + 1) = plc l a b k by rw [plc, if_neg (by unfold begins isAt; rw [HX.out, c1, c2]; simp)])
                go_wp2_with fail
                go_roundg (l.length - (k + 1))
                case measure => have := HM.out; omega
                case rel => exact ⟨k + 1, by go_num, by omega, ⟨Nat.le_refl _⟩, ⟨by rw [HE.out]; exact HO.out⟩, HB⟩
              | false =>
                have HE := Aside0.mk (show plc l a b (k + 1) = plc l a b k by rw [plc, if_neg (by unfold begins isAt; rw [HX.out, c1, c2]; simp)])
                go_wp2_with fail
                go_roundg (l.length - (k + 1))
                case measure => have := HM.out; omega
                case rel => exact ⟨k + 1, by go_num, by omega, ⟨Nat.le_refl _⟩, ⟨by rw [HE.out]; exact HO.out⟩, HB⟩
            | false =>
              have HE := Aside0.mk (show plc l a b (k + 1) = plc l a b k by rw [plc, if_neg (by unfold begins isAt; rw [HX.out, c1, c2]; simp)])
              go_wp2_with fail
              go_roundg (l.length - (k + 1))
              case measure => have := HM.out; omega
              case rel => exact ⟨k + 1, by go_num, by omega, ⟨Nat.le_refl _⟩, ⟨by rw [HE.out]; exact HO.out⟩, HB⟩
        | false =>
          cases c3 : (y.f1 == a) with
          | true =>
            cases c4 : (y.f2 == b) with
            | true =>
              have HE := Aside0.mk (show plc l a b (k + 1) = plc l a b k by rw [plc, if_neg (by unfold begins isAt; rw [HX.out, c1]; simp)])
              go_wp2_with fail
              go_roundg (l.length - (k + 1))
              case measure => have := HM.out; omega
              case rel => exact ⟨k + 1, by go_num, by omega, ⟨Nat.le_refl _⟩, ⟨by rw [HE.out]; exact HO.out⟩, HB⟩
            | false =>
              have HE := Aside0.mk (show plc l a b (k + 1) = plc l a b k by rw [plc, if_neg (by unfold begins isAt; rw [HX.out, c1]; simp)])
              go_wp2_with fail
              go_roundg (l.length - (k + 1))
              case measure => have := HM.out; omega
              case rel => exact ⟨k + 1, by go_num, by omega, ⟨Nat.le_refl _⟩, ⟨by rw [HE.out]; exact HO.out⟩, HB⟩
          | false =>
            have HE := Aside0.mk (show plc l a b (k + 1) = plc l a b k by rw [plc, if_neg (by unfold begins isAt; rw [HX.out, c1]; simp)])
            go_wp2_with fail
            go_roundg (l.length - (k + 1))
            case measure => have := HM.out; omega
            case rel => exact ⟨k + 1, by go_num, by omega, ⟨Nat.le_refl _⟩, ⟨by rw [HE.out]; exact HO.out⟩, HB⟩
    · obtain rfl : k = l.length := by omega
      have hq0 : wr.cell? ⟨w2.heap.size, 0, none⟩ = some (.int .i64 0) := (blk_cell (blk_below HK4.out HB.out) 0).trans rfl
      have HP5 := Aside0.mk (Kd.C_below HP4.out HB.out)
      have HB5 := Aside0.mk (below_then HB4.out HB4.out.size HB.out)
      have ho := HO.out
      obtain ⟨A3, C3, rfl⟩ := own_slice ho
      have HC3 := Aside0.mk (ints_C ho)
      have HE3 := Aside0.mk (own_le ho)
      clear ho
      go_wp2_with fail
      obtain ⟨kk, hkk⟩ := ints_same' (plc l a b l.length) (by omega)
      refine (linkhouseref1_Ints.calls kk A2 C2 _ A3 C3 _ true _ HP5.out HL2.out HC3.out HE3.out hkk).mono ?_
      rintro e w5 ⟨rfl, hd⟩
      have HB6 := Aside0.mk (below_then HB5.out HB5.out.size hd.below)
      clear hd hq0 hkk
      go_wp2_with fail
      go_ret
      exact ⟨rfl, HB6.out⟩
end Go.Proofs.Ytillcdcmhdofbaa.Ln
