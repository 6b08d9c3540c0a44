/- codec.Read over unwind rows, and unwind.Unpack: the rows whose bytes stand in the argument; conditions: the bytes are read as a list. -/
import Derived.Test.YtillcdcmhdofbaaUnT
import Derived.Test.YtillcdcmhdofbaaUnE
import Derived.Test.YtillcdcmhdofbaaUnP
import Derived.IntWalk
import Derived.BigQuiet
namespace Go.Proofs.Ytillcdcmhdofbaa.Un
open Go.RowKit Go.Proofs.YtillcdcmhdofbaaW.PrintWords Go.Proofs.YtillcdcmhdofbaaW.PrintLast Go.Proofs.YtillcdcmhdofbaaW.PrintMore
open Go.Proofs.Ytillcdcmhdofbaa.PUnwindUnique
set_option linter.unusedVariables false
set_option linter.unusedSimpArgs false

/-- n rows behind row y, at place p. -/
def decN (bs : List Int) : Nat → S48 → Nat → Option (List S48 × Nat)
  | 0, _, p => some ([], p)
  | n + 1, y, p => (decRow bs y p).bind fun a => (decN bs n a.1 a.2).bind fun b => some (a.1 :: b.1, b.2)
/-- All rows. -/
def decAll (bs : List Int) : Option (List S48 × Nat) :=
  (dec bs 10 0 0 0).bind fun a => if a.1 < 0 ∨ a.1 > (bs.length : Int) - a.2 then none else decN bs a.1.toNat z48 a.2
theorem decN_len (bs : List Int) (n : Nat) : ∀ y p l q, decN bs n y p = some (l, q) → l.length = n := by
  induction n with
  | zero => intro y p l q h; simp [decN] at h; simp [← h.1]
  | succ n ih =>
    intro y p l q h
    rw [decN] at h
    obtain ⟨a, _, h⟩ := Option.bind_eq_some_iff.1 h
    obtain ⟨b, hb, h⟩ := Option.bind_eq_some_iff.1 h
    simp only [Option.some.injEq, Prod.mk.injEq] at h
    rw [← h.1, List.length_cons, ih _ _ _ _ hb]
theorem keepG_drewN {w w1 : World} {g pl : Nat} (h : KeepG w w1 g pl) (n : Nat) : KeepG w (w1.drewN n) g pl := ⟨h.1, h.2⟩
theorem KeepG.grow {w w1 w2 : World} {g pl : Nat} {v : Value} (h : KeepG w w1 g pl) (ho : ∀ k, v.ownBlock = some k → w.heap.size ≤ k) (hg : w1.grownBy w2 v.ownBlock) : KeepG w w2 g pl :=
  ⟨Nat.le_trans h.1 hg.size, fun i hi h1 h2 => (hg.block i (Nat.lt_of_lt_of_le hi h.1) (fun e => by have := ho i e.symm; omega)).trans (h.2 i hi h1 h2)⟩
section
variable {ops : Array Oper} {rest : List Oper} {o : Oper} {a : Act} {Q : Exit → Act → World → Prop}
theorem append48 {w0 W : World} (base : Nat) (hgd : o.guard = none) (s x : Operand) (ho : o.op = .call { callee := .builtin .append, args := #[s, x], argTypes := #[46, 46] })
    (v : Value) (acc : List S48) (r : S48) (ok : Nat → Prop) (b : Nat) (hb : W.heap.size = b) (hs : a.eval s = v) (hx : a.eval x = .slice (some ⟨b, 0, none⟩) 1 1) (hfresh : ∀ k, W.heap.size ≤ k → ok k)
    (HO : Kd.R k48 48 W base ok v acc) (HB : Below base w0 W) (hbase : base ≤ W.heap.size) (hl : acc.length ≤ 1000000)
    (h : ∀ v1 w1, Kd.R k48 48 w1 base ok v1 (acc ++ [r]) → Below base w0 w1 → W.grownBy w1 v.ownBlock → wpList Try.prog ops Q rest (a.put o.dst v1) w1) :
    wpList Try.prog ops Q (o :: rest) a (W.alloc (.cells #[.int .i64 r.f0, .int .i64 r.f1, .int .i64 r.f2, .int .i64 r.f3] 48)) :=
  Kd.R_append k48 (w0 := w0) base hgd s x 46 48 (.agg #[.int .i64 0, .int .i64 0, .int .i64 0, .int .i64 0]) 32 ho Try.underlying46 info48 rfl (by decide) (by decide) v acc r [.int .i64 r.f0, .int .i64 r.f1, .int .i64 r.f2, .int .i64 r.f3] ok (fun _ => False) hs (by rw [hb]; exact hx) (k48_mkM _ _ _ _) (fun _ h => h.elim) hfresh HO HB hbase (by omega)
    (fun v1 w1 h1 h2 h3 _ => h v1 w1 h1 h2 h3)
end
/-- What Read leaves: the rows, or a bad reader. -/
def ReadR (bs : List Int) (l : List S48) (q : Nat) (b : Bool) : Prop := (b = true ∧ decAll bs = none) ∨ (b = false ∧ decAll bs = some (l, q))
def ReadPost (w0 w : World) (g pl : Nat) (bs : List Int) (e : Ending) (w' : World) : Prop :=
  ∃ (v : Value) (l : List S48) (q : Nat) (b : Bool), e = .returned v ∧ Kd.R k48 48 w' w0.heap.size (fun k => w.heap.size ≤ k) v l ∧ ReadR bs l q b ∧ IsS83 w0 w' g bs q b ∧ Below w0.heap.size w0 w' ∧ KeepG w w' g pl

set_option maxHeartbeats 2000000 in
set_option maxRecDepth 100000 in
theorem f53_any (g pr pl : Nat) (bs : List Int) (w0 w : World) (hI : IsS83 w0 w g bs 0 false) (hB : Below w0.heap.size w0 w) (hb : Bytes bs) (hl : bs.length ≤ 200000)
    (hpr : w.heap[pr]? = some (.cells #[.pointer (some ⟨g, 0, none⟩)] 81 (0, 0))) (hpl : w.heap[pl]? = some (.cells (cl1 z48) 3 (0, 0))) (hpl0 : w0.heap.size ≤ pl) (hgl : g ≠ pl) (hgr : g ≠ pr) (hrl : pr ≠ pl) :
    Calls Try.prog 53 #[.pointer (some ⟨g, 0, none⟩), .func (.func 54) #[] #[.pointer (some ⟨pr, 0, none⟩), .pointer (some ⟨pl, 0, none⟩)]] w (ReadPost w0 w g pl bs) := by
  have hu48 := Try.underlying48
  have HI := Aside0.mk hI
  have HB := Aside0.mk hB
  have HBs := Aside0.mk hb
  have HPR := Aside0.mk hpr
  have HPL := Aside0.mk hpl
  have H0 := Aside0.mk hpl0
  have H1 := Aside0.mk hgl
  have H2 := Aside0.mk hgr
  have H3 := Aside0.mk hrl
  have HG := Aside0.mk (blk_lt hpl)
  clear hI hB hb hpr hpl hpl0 hgl hgr hrl
  go_enter Try.func53, Try.ntmps53
  go_wp2_with fail
  refine (num_any g bs 0 false w0 _ HI.out HB.out HBs.out (by omega) (Nat.zero_le _)).mono ?_
  rintro e w1 ⟨n, p, b, rfl, hn, hi, hb, hk⟩
  have HN := Aside0.mk hn
  have hp := numr_le hn
  have HI1 := Aside0.mk hi
  have HB1 := Aside0.mk hb
  have HK1 := Aside0.mk ((KeepG.refl w g pl).but hk)
  have HPR1 := Aside0.mk (but_blk hk HPR.out H2.out.symm)
  have HPL1 := Aside0.mk (but_blk hk HPL.out H1.out.symm)
  clear hn hi hb hk
  obtain ⟨A3, c3, hG3, hg3, hS3⟩ := HI1.out
  have hc0 : w1.cell? ⟨g, 0, none⟩ = some (.slice A3 bs.length c3) := (blk_cell hG3 0).trans rfl
  have hc1 : w1.cell? ⟨g, 1, none⟩ = some (.int .i64 p) := (blk_cell hG3 1).trans rfl
  have hc2 : w1.cell? ⟨g, 2, none⟩ = some (.bool b) := (blk_cell hG3 2).trans rfl
  have hf2 := blk_frozen hG3 2
  have hf3 := blk_frozen hG3 2
  clear hG3 hg3 hS3
  have he := IntWalk.i64_in ((bs.length : Int) - (p : Int)) (by omega)
  have hN := HN.out
  have HL := Aside0.mk hl
  have HPB := Aside0.mk hp
  by_cases h1 : n < 0
  · have hnone : decAll bs = none := by
      rcases hN with ⟨_, h, _⟩ | ⟨_, _, q, hq, h, _⟩
      · omega
      · unfold decAll
        rw [h]
        simp only [Option.bind_some]
        rw [if_pos (Or.inl h1)]
    have HNO := Aside0.mk hnone
    clear hnone hN hl hp
    go_wp2_with fail
    go_quiet (fail)
    clear he
    go_wp2_with fail
    go_loopg [6, 30] 1 (fun kq v i w' => v = .slice none 0 0 ∧ i = .int .i64 0 ∧ Aside0 (IsS83 w0 w' g bs p true) ∧ Aside0 (Below w0.heap.size w0 w') ∧ Aside0 (KeepG w w' g pl))
    case atStart => exact ⟨rfl, rfl, ⟨(HI1.out.drewN _).set_2 true⟩, ⟨below_set (pw_below_drewN HB1.out _) HI1.out.ge⟩, ⟨KeepG.setG (keepG_drewN HK1.out _) 2 _⟩⟩
    case round =>
      obtain ⟨rfl, rfl, HI2, HB2, HK2⟩ := hrel
      go_wp2_with fail
      go_ret
      exact ⟨_, [], p, true, rfl, Kd.R_nil _ _ _ _ _, .inl ⟨rfl, HNO.out⟩, HI2.out, HB2.out, HK2.out⟩
  · by_cases h2 : n > (bs.length : Int) - (p : Int)
    · have hnone : decAll bs = none := by
        rcases hN with ⟨_, h, _⟩ | ⟨_, _, q, hq, h, _⟩
        · omega
        · unfold decAll
          rw [h]
          simp only [Option.bind_some]
          rw [if_pos (Or.inr (by omega))]
      have HNO := Aside0.mk hnone
      have hn1 : 0 < n := by omega
      clear hnone hN hl hp
      go_wp2_with fail
      go_quiet (fail)
      clear he
      go_wp2_with fail
      go_loopg [30] 1 (fun kq i w' => i = .int .i64 0 ∧ Aside0 (IsS83 w0 w' g bs p true) ∧ Aside0 (Below w0.heap.size w0 w') ∧ Aside0 (KeepG w w' g pl) ∧ Aside0 (w'.heap[pl]? = some (.cells (cl1 z48) 3 (0, 0))) ∧ Aside0 (w'.heap[pr]? = some (.cells #[.pointer (some ⟨g, 0, none⟩)] 81 (0, 0))))
      case atStart => exact ⟨rfl, ⟨(HI1.out.drewN _).set_2 true⟩, ⟨below_set (pw_below_drewN HB1.out _) HI1.out.ge⟩, ⟨KeepG.setG (keepG_drewN HK1.out _) 2 _⟩, ⟨blk_far (blk_drewN HPL1.out _) H1.out.symm _⟩, ⟨blk_far (blk_drewN HPR1.out _) H2.out.symm _⟩⟩
      case round =>
        obtain ⟨rfl, HI2, HB2, HK2, HPL2, HPR2⟩ := hrel
        go_wp2_with fail
        refine (f54_any g pr pl z48 bs p true w0 _ HI2.out HB2.out HBs.out (by have := HL.out; omega) HPB.out HPR2.out HPL2.out H0.out H1.out H2.out H3.out).mono ?_
        rintro e w2 ⟨x, q, b', rfl, hrow, hi, hb, hk, hpl⟩
        have hb' : b' = true := by
          rcases hrow with ⟨h, _⟩ | ⟨_, h, _⟩
          · exact h
          · exact absurd h (by decide)
        subst hb'
        have HI3 := Aside0.mk hi
        have HB3 := Aside0.mk (below_alloc' hb (.cells #[.int .i64 x.f0, .int .i64 x.f1, .int .i64 x.f2, .int .i64 x.f3] 48))
        have HK3 := Aside0.mk ((HK2.out.trans hk).alloc (.cells #[.int .i64 x.f0, .int .i64 x.f1, .int .i64 x.f2, .int .i64 x.f3] 48))
        obtain ⟨A4, c4, hG4, hg4, hS4⟩ := HI3.out
        have hc4 : w2.cell? ⟨g, 2, none⟩ = some (.bool true) := (blk_cell hG4 2).trans rfl
        have hlt4 : g < w2.heap.size := blk_lt hG4
        clear hG4 hg4 hS4 hrow hi hb hk hpl
        unfold ag
        go_wp2_with fail
        go_ret
        exact ⟨_, [], q, true, rfl, Kd.R_nil _ _ _ _ _, .inl ⟨rfl, HNO.out⟩, HI3.out.alloc _, HB3.out, HK3.out⟩
    · cases b with
      | true =>
        have hn0 : n = 0 ∧ decAll bs = none := by
          rcases hN with ⟨_, h, h', _⟩ | ⟨h, _⟩
          · refine ⟨h, ?_⟩
            rcases h' with h' | h'
            · exact absurd h' (by decide)
            · unfold decAll
              rw [h']
              rfl
          · exact absurd h (by decide)
        have HNO := Aside0.mk hn0.2
        obtain rfl := hn0.1
        clear hN hl hp hn0
        go_wp2_with fail
        go_quiet (fail)
        clear he
        go_wp2_with fail
        go_loopg [6, 30] 1 (fun kq v i w' => v = .slice none 0 0 ∧ i = .int .i64 0 ∧ Aside0 (IsS83 w0 w' g bs p true) ∧ Aside0 (Below w0.heap.size w0 w') ∧ Aside0 (KeepG w w' g pl))
        case atStart => exact ⟨rfl, rfl, ⟨HI1.out.drewN _⟩, ⟨pw_below_drewN HB1.out _⟩, ⟨keepG_drewN HK1.out _⟩⟩
        case round =>
          obtain ⟨rfl, rfl, HI2, HB2, HK2⟩ := hrel
          go_wp2_with fail
          go_ret
          exact ⟨_, [], p, true, rfl, Kd.R_nil _ _ _ _ _, .inl ⟨rfl, HNO.out⟩, HI2.out, HB2.out, HK2.out⟩
      | false =>
        have hall : decAll bs = decN bs n.toNat z48 p := by
          rcases hN with ⟨h, _⟩ | ⟨_, _, q, hq, h, _⟩
          · exact absurd h (by decide)
          · obtain rfl : p = q := by omega
            unfold decAll
            rw [h]
            simp only [Option.bind_some]
            rw [if_neg (by omega)]
        obtain ⟨m, rfl⟩ := Int.eq_ofNat_of_zero_le (show 0 ≤ n by omega)
        rw [Int.toNat_natCast] at hall
        have HALL := Aside0.mk hall
        have hm : m ≤ 200000 := by omega
        have hd1 : decide ((m : Int) < 0) = false := by simp
        have hd2 : decide ((bs.length : Int) - (p : Int) < (m : Int)) = false := by rw [decide_eq_false_iff_not]; omega
        have HG2 := Aside0.mk (show g < w.heap.size from HI.out.lt)
        clear hN hl hall h1 h2
        go_wp2_with fail
        go_quiet (fail)
        clear he hd1 hd2 hc0 hc1 hc2 hf2
        go_wp2_with fail
        go_loopg [6, 30] m (fun kq v i w' => ∃ (k : Nat) (y : S48) (q : Nat) (acc : List S48), i = .int .i64 k ∧ k ≤ m ∧ Aside0 (m - k ≤ kq) ∧ Aside0 (acc.length = k) ∧ Aside0 (decN bs m z48 p = (decN bs (m - k) y q).map fun a => (acc ++ a.1, a.2)) ∧ Aside0 (q ≤ bs.length) ∧ Aside0 (IsS83 w0 w' g bs q false) ∧ Aside0 (Below w0.heap.size w0 w') ∧ Aside0 (KeepG w w' g pl) ∧ Aside0 (w'.heap[pl]? = some (.cells (cl1 y) 3 (0, 0))) ∧ Aside0 (Kd.R k48 48 w' w0.heap.size (fun k => w.heap.size ≤ k) v acc))
        case atStart => exact ⟨0, z48, p, [], rfl, Nat.zero_le _, ⟨by omega⟩, ⟨rfl⟩, ⟨by simp⟩, HPB, ⟨HI1.out.drewN _⟩, ⟨pw_below_drewN HB1.out _⟩, ⟨keepG_drewN HK1.out _⟩, ⟨blk_drewN HPL1.out _⟩, ⟨Kd.R_nil _ _ _ _ _⟩⟩
        case round =>
          obtain ⟨k, y, q, acc, rfl, hk, HM, HA, HD, HQ, HI2, HB2, HK2, HPL2, HO⟩ := hrel
          by_cases hlt : k < m
          · have HPR2 := Aside0.mk (HK2.out.blk HPR.out H2.out.symm H3.out)
            go_wp2_with fail
            refine (f54_any g pr pl y bs q false w0 _ HI2.out HB2.out HBs.out (by have := HL.out; omega) HQ.out HPR2.out HPL2.out H0.out H1.out H2.out H3.out).mono ?_
            rintro e w2 ⟨x, q', b', rfl, hrow, hi, hb, hk', hpl⟩
            have HI3 := Aside0.mk hi
            have HB3 := Aside0.mk (below_alloc' hb (.cells #[.int .i64 x.f0, .int .i64 x.f1, .int .i64 x.f2, .int .i64 x.f3] 48))
            have HO3 := Aside0.mk (Kd.R_alloc (Kd.R_step HO.out (fun j hj hjl => hk'.2 j hjl (by have := HG2.out; omega) (by have := HG.out; omega))) (.cells #[.int .i64 x.f0, .int .i64 x.f1, .int .i64 x.f2, .int .i64 x.f3] 48))
            have HK3 := Aside0.mk ((HK2.out.trans hk').alloc (.cells #[.int .i64 x.f0, .int .i64 x.f1, .int .i64 x.f2, .int .i64 x.f3] 48))
            have HPL3 := Aside0.mk (blk_alloc hpl (.cells #[.int .i64 x.f0, .int .i64 x.f1, .int .i64 x.f2, .int .i64 x.f3] 48))
            obtain ⟨A4, c4, hG4, hg4, hS4⟩ := HI3.out
            have hc4 : w2.cell? ⟨g, 2, none⟩ = some (.bool b') := (blk_cell hG4 2).trans rfl
            have hlt4 : g < w2.heap.size := blk_lt hG4
            have HRW := Aside0.mk hrow
            clear hG4 hg4 hS4 hrow hi hb hk' hpl
            unfold ag
            cases b' with
            | true =>
              have hnone : decAll bs = none := by
                rcases HRW.out with ⟨_, h, _⟩ | ⟨h, _⟩
                · rcases h with h | h
                  · exact absurd h (by decide)
                  · rw [HALL.out, HD.out, show m - k = (m - k - 1) + 1 by omega, decN, h]
                    rfl
                · exact absurd h (by decide)
              have HNO := Aside0.mk hnone
              clear hnone
              go_wp2_with fail
              go_ret
              exact ⟨_, [], q', true, rfl, Kd.R_nil _ _ _ _ _, .inl ⟨rfl, HNO.out⟩, HI3.out.alloc _, HB3.out, HK3.out⟩
            | false =>
              have hrw : decRow bs y q = some (x, q') ∧ q' ≤ bs.length := by
                rcases HRW.out with ⟨h, _⟩ | ⟨_, _, h, h'⟩
                · exact absurd h (by decide)
                · exact ⟨h, h'⟩
              have HRW' := Aside0.mk hrw
              clear hrw
              go_wp2_with (at_builtin; refine append48 (w0 := w0) w0.heap.size rfl (.tmp 38) (.tmp 40) rfl u6 acc x (fun k => w.heap.size ≤ k) (w2.heap.size + 1) (World.size_alloc _ _) rfl rfl (fun j hj => Nat.le_trans HK3.out.1 hj) HO3.out HB3.out HB3.out.size ?cA ?_; (case cA => rw [HA.out]; omega); intro v1 w4 hown1 hB1 hg1; have hob := HO3.out.1; have HI5 := Aside0.mk ((HI3.out.alloc (.cells #[.int .i64 x.f0, .int .i64 x.f1, .int .i64 x.f2, .int .i64 x.f3] 48)).grown hg1 (fun e => by have h1 := hob g e.symm; have h2 := HG2.out; omega)); have HB5 := Aside0.mk hB1; have HK5 := Aside0.mk (HK3.out.grow hob hg1); have HPL5 := Aside0.mk (blk_grown HPL3.out hg1 (fun e => by have h1 := hob pl e.symm; have h2 := HG.out; omega)); have HO5 := Aside0.mk hown1; clear hown1 hB1 hg1 hob)
              go_roundg (m - (k + 1))
              case measure => have := HM.out; omega
              case rel =>
                refine ⟨k + 1, x, q', acc ++ [x], by go_num, by omega, ⟨Nat.le_refl _⟩, ⟨by rw [List.length_append, HA.out]; rfl⟩, ⟨?_⟩, ⟨HRW'.out.2⟩, HI5, HB5, HK5, HPL5, HO5⟩
                rw [HD.out, show m - k = (m - (k + 1)) + 1 by omega, decN, HRW'.out.1]
                simp only [Option.bind_some]
                cases decN bs (m - (k + 1)) x q' with
                | none => rfl
                | some a => simp
          · obtain rfl : k = m := by omega
            have hfin : decAll bs = some (acc, q) := by
              rw [HALL.out, HD.out, Nat.sub_self, decN]
              simp
            have HFN := Aside0.mk hfin
            clear hfin
            have ho := HO.out
            obtain ⟨A5, C5, rfl⟩ := Kd.R_slice ho
            have HO5 := Aside0.mk ho
            clear ho
            go_wp2_with fail
            go_ret
            exact ⟨_, acc, q, false, rfl, HO5.out, .inr ⟨rfl, HFN.out⟩, HI2.out, HB2.out, HK2.out⟩
end Go.Proofs.Ytillcdcmhdofbaa.Un
