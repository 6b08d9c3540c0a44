/- The reference's LinesCode returns the bytes of valid rows; conditions: the rows are read as a list, and are valid. -/
import Derived.Test.YtillcdcmhdofbaaLnN
import Derived.Test.YtillcdcmhdofbaaLnE
import Derived.Test.YtillcdcmhdofbaaLnG
import Derived.IntWalk
namespace Go.Proofs.Ytillcdcmhdofbaa.Ln
open Go.RowKit Go.Proofs.YtillcdcmhdofbaaW.PrintWords Go.Proofs.YtillcdcmhdofbaaW.PrintLast Go.Proofs.YtillcdcmhdofbaaW.PrintMore
open Go.Proofs.Ytillcdcmhdofbaa.PLinesUnique
set_option linter.unusedVariables false
set_option linter.unusedSimpArgs false

theorem app_len {xs ys : List Int} {n : Nat} (h : xs.length ≤ n) (k : ys.length ≤ 10) : (xs ++ ys).length ≤ n + 10 := by
  rw [List.length_append]
  omega
theorem app_fit {xs : List Int} {n : Nat} (h : xs.length ≤ n) (hn : n ≤ 1000000) (d : Int) : (xs.length + (nc d).length) * 1 ≤ 140737488355328 := by
  have := nc_len d
  omega
/-- Bytes in a row of the call's own. -/
def BytesPost (bs : List Int) (w : World) (e : Ending) (w' : World) : Prop :=
  ∃ v, e = .returned v ∧ Kd.R (Kd.int .u8) 5 w' w.heap.size (fun _ => True) v bs ∧ Below w.heap.size w w'

set_option maxHeartbeats 4000000 in
set_option maxRecDepth 100000 in
theorem f25_any (A : Option Addr) (c : Nat) (l : List S25) (w : World) (hr : Kd.C k25 w A l.length l) (hn : l.length ≤ 8000) (hs : ∀ k : Nat, k < l.length → Small (rd_T25 l k)) :
    Calls Try.prog 25 #[.slice A l.length c] w (BytesPost (nc l.length ++ codeFrom z25 l) w) := by
  have hu25 := Try.underlying25
  have HR := Aside0.mk hr
  have HS := Aside0.mk hs
  clear hr hs
  go_enter Try.func25, Try.ntmps25
  go_wp2_with fail
  refine (linkhouseref1_NumberCode.calls 12 l.length (nc l.length) _ (nc_is _ ⟨by omega, by omega⟩)).mono ?_
  rintro e w1 ⟨v1, rfl, ho, hb⟩
  have HO1 := Aside0.mk ho
  have HB1 := Aside0.mk hb
  clear ho hb
  go_wp2_with fail
  go_loopg [3, 4] l.length (fun kq v i w' => ∃ k : Nat, i = .int .i64 k ∧ k ≤ l.length ∧ Aside0 (l.length - k ≤ kq) ∧ Aside0 (Kd.R (Kd.int .u8) 5 w' w.heap.size (fun _ => True) v (nc l.length ++ codeFrom z25 (l.take k))) ∧ Aside0 (Below w.heap.size w w'))
  case atStart => exact ⟨0, rfl, Nat.zero_le _, ⟨by omega⟩, ⟨by simpa [codeFrom] using HO1.out⟩, HB1⟩
  case round =>
    obtain ⟨k, rfl, hk, HM, HO, HB⟩ := hrel
    by_cases hlt : k < l.length
    · have hcl : (nc l.length ++ codeFrom z25 (l.take k)).length ≤ 250000 := by
        have h1 := codeFrom_len (l.take k) z25
        have h2 : (l.take k).length ≤ k := List.length_take_le _ _
        have h3 := nc_len l.length
        rw [List.length_append]
        omega
      obtain ⟨bs, hbs⟩ : ∃ bs, nc l.length ++ codeFrom z25 (l.take k) = bs := ⟨_, rfl⟩
      rw [hbs] at hcl HO
      have HBS := Aside0.mk hbs
      clear hbs
      obtain ⟨ad, hA, hw0, hw1, hw2⟩ := at_T25 HR.out (k : Int) (by omega) (by omega)
      cases hA
      rw [Int.toNat_natCast] at hw0 hw1 hw2
      obtain ⟨x, hx⟩ : ∃ x, rd_T25 l (k : Int) = x := ⟨_, rfl⟩
      have hsx := HS.out k hlt
      rw [hx] at hw0 hw1 hw2 hsx
      have HX := Aside0.mk hx
      clear hx
      have a1 := hsx.a0
      have a2 := hsx.a1
      have a3 := hsx.b0
      have a4 := hsx.b1
      have a5 := hsx.c0
      have a6 := hsx.c1
      clear hsx
      obtain ⟨y, hy⟩ : ∃ y, before z25 l k = y := ⟨_, rfl⟩
      have hsy : Small y := by
        rw [← hy]
        unfold before
        split
        · exact small_z
        · have h1 := HS.out (k - 1) (by omega)
          rwa [show (((k - 1 : Nat)) : Int) = (k : Int) - 1 by omega] at h1
      have HY := Aside0.mk hy
      clear hy
      have b1 := hsy.a0
      have b2 := hsy.a1
      have b3 := hsy.b0
      have b4 := hsy.b1
      have b5 := hsy.c0
      have b6 := hsy.c1
      clear hsy
      have HLc := Aside0.mk hcl
      clear hcl
      rcases Nat.eq_zero_or_pos k with h0 | h0
      case' inl =>
        have hyz : y = z25 := by rw [← HY.out]; unfold before; rw [if_pos h0]
        have hBw := Aside0.mk (below_alloc' HB.out (.cells #[.int .i64 0, .int .i64 0, .int .i64 0] 25))
        have HKc := Aside0.mk (show (wr.alloc (.cells #[.int .i64 0, .int .i64 0, .int .i64 0] 25)).heap[wr.heap.size]? = some (.cells (cl y) 25 (0, 0)) by rw [hyz]; exact blk_new wr _)
        have HOc := Aside0.mk (Kd.R_alloc HO.out (.cells #[.int .i64 0, .int .i64 0, .int .i64 0] 25))
        have hk0 : k ≤ 0 := by omega
        clear h0 hyz
        go_wp2_with fail
        generalize wr.alloc (.cells #[.int .i64 0, .int .i64 0, .int .i64 0] 25) = W3 at hBw HKc HOc ⊢
        generalize wr.heap.size = gb at HKc ⊢
        clear hk0
      case' inr =>
        obtain ⟨ad', hA, hy0, hy1, hy2⟩ := at_T25 (Kd.C_below HR.out HB.out) ((k : Int) - 1) (by omega) (by omega)
        cases hA
        rw [show ((k : Int) - 1).toNat = k - 1 by omega, show rd_T25 l ((k : Int) - 1) = y by rw [← HY.out]; unfold before; rw [if_neg (by omega)]] at hy0 hy1 hy2
        have hbx : (ad.add ((k - 1) * 3)).block < wr.heap.size := World.block_lt_of_cell? wr _ hy0
        have hBw := Aside0.mk (below_alloc' HB.out (.cells #[.int .i64 y.f0, .int .i64 y.f1, .int .i64 y.f2] 25))
        have HKc := Aside0.mk (show (wr.alloc (.cells #[.int .i64 y.f0, .int .i64 y.f1, .int .i64 y.f2] 25)).heap[wr.heap.size]? = some (.cells (cl y) 25 (0, 0)) from blk_new wr _)
        have HOc := Aside0.mk (Kd.R_alloc HO.out (.cells #[.int .i64 y.f0, .int .i64 y.f1, .int .i64 y.f2] 25))
        go_wp2_with fail
        clear hy0 hy1 hy2
        generalize wr.alloc (.cells #[.int .i64 y.f0, .int .i64 y.f1, .int .i64 y.f2] 25) = W3 at hBw HKc HOc ⊢
        clear hbx
        generalize wr.heap.size = gb at HKc ⊢
        clear h0
      all_goals (
        clear HB HO
        have hx0 := pw_cell_below hBw.out hw0
        have hz0 : W3.cell? ⟨gb, 0, none⟩ = some (.int .i64 y.f0) := (blk_cell HKc.out 0).trans rfl
        have HN0 := Aside0.mk (nc_is (x.f0 - y.f0) ⟨by omega, by omega⟩)
        have he := IntWalk.i64_in (x.f0 - y.f0) (by omega)
        go_region_held3 (fun w' => w'.cell? (ad.add (k * 3)) = some (.int .i64 x.f0) ∧ w'.cell? ⟨gb, 0, none⟩ = some (.int .i64 y.f0)) (first | go_keep | exact ⟨pw_cell_below hBw.out hw0, (blk_cell HKc.out 0).trans rfl⟩) (first | (go_at_call 45; refine (linkhouseref1_NumberCode.calls 12 (x.f0 - y.f0) (nc (x.f0 - y.f0)) _ HN0.out).mono ?_; rintro e w4 ⟨v4, rfl, ho4, hbk⟩; have n0 := Aside0.mk (below_then (below_drew1 hBw.out) (below_drew1 hBw.out).size hbk); have n1 := Aside0.mk (blk_below (blk_drew HKc.out) hbk); have n2 := Aside0.mk (Kd.R_below (Kd.R_drew HOc.out) hbk); obtain ⟨A4, C4, rfl, hle4, hc4⟩ := Kd.R_reads ho4; have hc4' := Aside0.mk hc4; clear hBw HKc HOc hc4; have hBw := n0; have HKc := n1; have HOc := n2; clear n0 n1 n2 hbk ho4 hle4) | (refine Kd.R_append_rows_step (Kd.int .u8) (w0 := w) w.heap.size (by rfl) (.tmp 23) (.tmp 32) 39 5 (.int .u8 0) 1 rfl Try.underlying39 info5 rfl (by decide) (by decide) u3 bs (nc (x.f0 - y.f0)) _ _ _ (fun _ => True) (fun _ => False) rfl rfl HOc.out hc4'.out (fun _ _ h => h) (fun _ h => h.elim) (fun _ _ => trivial) hBw.out hBw.out.size (app_fit HLc.out (by decide) _) ?_; intro v5 w5 ho5 hb5 hg5 hat5; have n0 := Aside0.mk hb5; have n1 := Aside0.mk (blk_grown HKc.out hg5 (Kd.R_ne HOc.out HKc.out (by decide))); have n2 := Aside0.mk ho5; have n3 := Aside0.mk (app_len HLc.out (nc_len (x.f0 - y.f0))); clear hBw HKc HOc HLc hc4' ho5 hb5 hg5 hat5; have hBw := n0; have HKc := n1; have HOc := n2; have HLc := n3; clear n0 n1 n2 n3))
        clear he
        go_wp2_with fail
        clear hx0 hz0
        have hx1 := pw_cell_below hBw.out hw1
        have hz1 : w5.cell? ⟨gb, 1, none⟩ = some (.int .i64 y.f1) := (blk_cell HKc.out 1).trans rfl
        have HN1 := Aside0.mk (nc_is (x.f1 - y.f1) ⟨by omega, by omega⟩)
        have he := IntWalk.i64_in (x.f1 - y.f1) (by omega)
        go_region_held3 (fun w' => w'.cell? ⟨(ad.add (k * 3)).block, (ad.add (k * 3)).off + 1, none⟩ = some (.int .i64 x.f1) ∧ w'.cell? ⟨gb, 1, none⟩ = some (.int .i64 y.f1)) (first | go_keep | exact ⟨pw_cell_below hBw.out hw1, (blk_cell HKc.out 1).trans rfl⟩) (first | (go_at_call 45; refine (linkhouseref1_NumberCode.calls 12 (x.f1 - y.f1) (nc (x.f1 - y.f1)) _ HN1.out).mono ?_; rintro e w6 ⟨v4, rfl, ho4, hbk⟩; have n0 := Aside0.mk (below_then (below_drew1 hBw.out) (below_drew1 hBw.out).size hbk); have n1 := Aside0.mk (blk_below (blk_drew HKc.out) hbk); have n2 := Aside0.mk (Kd.R_below (Kd.R_drew HOc.out) hbk); obtain ⟨A4, C4, rfl, hle4, hc4⟩ := Kd.R_reads ho4; have hc4' := Aside0.mk hc4; clear hBw HKc HOc hc4; have hBw := n0; have HKc := n1; have HOc := n2; clear n0 n1 n2 hbk ho4 hle4) | (refine Kd.R_append_rows_step (Kd.int .u8) (w0 := w) w.heap.size (by rfl) (.tmp 34) (.tmp 43) 39 5 (.int .u8 0) 1 rfl Try.underlying39 info5 rfl (by decide) (by decide) v5 (bs ++ nc (x.f0 - y.f0)) (nc (x.f1 - y.f1)) _ _ _ (fun _ => True) (fun _ => False) rfl rfl HOc.out hc4'.out (fun _ _ h => h) (fun _ h => h.elim) (fun _ _ => trivial) hBw.out hBw.out.size (app_fit HLc.out (by decide) _) ?_; intro v6 w7 ho5 hb5 hg5 hat5; have n0 := Aside0.mk hb5; have n1 := Aside0.mk (blk_grown HKc.out hg5 (Kd.R_ne HOc.out HKc.out (by decide))); have n2 := Aside0.mk ho5; have n3 := Aside0.mk (app_len HLc.out (nc_len (x.f1 - y.f1))); clear hBw HKc HOc HLc hc4' ho5 hb5 hg5 hat5; have hBw := n0; have HKc := n1; have HOc := n2; have HLc := n3; clear n0 n1 n2 n3))
        clear he
        go_wp2_with fail
        clear hx1 hz1
        have hx2 := pw_cell_below hBw.out hw2
        have hz2 : w7.cell? ⟨gb, 2, none⟩ = some (.int .i64 y.f2) := (blk_cell HKc.out 2).trans rfl
        have HN2 := Aside0.mk (nc_is (x.f2 - y.f2) ⟨by omega, by omega⟩)
        have he := IntWalk.i64_in (x.f2 - y.f2) (by omega)
        go_region_held3 (fun w' => w'.cell? ⟨(ad.add (k * 3)).block, (ad.add (k * 3)).off + 2, none⟩ = some (.int .i64 x.f2) ∧ w'.cell? ⟨gb, 2, none⟩ = some (.int .i64 y.f2)) (first | go_keep | exact ⟨pw_cell_below hBw.out hw2, (blk_cell HKc.out 2).trans rfl⟩) (first | (go_at_call 45; refine (linkhouseref1_NumberCode.calls 12 (x.f2 - y.f2) (nc (x.f2 - y.f2)) _ HN2.out).mono ?_; rintro e w8 ⟨v4, rfl, ho4, hbk⟩; have n0 := Aside0.mk (below_then (below_drew1 hBw.out) (below_drew1 hBw.out).size hbk); have n1 := Aside0.mk (blk_below (blk_drew HKc.out) hbk); have n2 := Aside0.mk (Kd.R_below (Kd.R_drew HOc.out) hbk); obtain ⟨A4, C4, rfl, hle4, hc4⟩ := Kd.R_reads ho4; have hc4' := Aside0.mk hc4; clear hBw HKc HOc hc4; have hBw := n0; have HKc := n1; have HOc := n2; clear n0 n1 n2 hbk ho4 hle4) | (refine Kd.R_append_rows_step (Kd.int .u8) (w0 := w) w.heap.size (by rfl) (.tmp 45) (.tmp 54) 39 5 (.int .u8 0) 1 rfl Try.underlying39 info5 rfl (by decide) (by decide) v6 (bs ++ nc (x.f0 - y.f0) ++ nc (x.f1 - y.f1)) (nc (x.f2 - y.f2)) _ _ _ (fun _ => True) (fun _ => False) rfl rfl HOc.out hc4'.out (fun _ _ h => h) (fun _ h => h.elim) (fun _ _ => trivial) hBw.out hBw.out.size (app_fit HLc.out (by decide) _) ?_; intro v7 w9 ho5 hb5 hg5 hat5; have n0 := Aside0.mk hb5; have n1 := Aside0.mk (blk_grown HKc.out hg5 (Kd.R_ne HOc.out HKc.out (by decide))); have n2 := Aside0.mk ho5; have n3 := Aside0.mk (app_len HLc.out (nc_len (x.f2 - y.f2))); clear hBw HKc HOc HLc hc4' ho5 hb5 hg5 hat5; have hBw := n0; have HKc := n1; have HOc := n2; have HLc := n3; clear n0 n1 n2 n3))
        clear he
        go_wp2_with fail
        clear hx2 hz2
        go_roundg (l.length - (k + 1))
        case measure => have := HM.out; omega
        case rel =>
          have hfin := HOc.out
          refine ⟨k + 1, by go_num, by omega, ⟨Nat.le_refl _⟩, ⟨?_⟩, hBw⟩
          rw [codeFrom_take _ _ _ hlt, HX.out, HY.out, ← List.append_assoc, HBS.out]
          simpa [rowCode, ncs] using hfin)
    · obtain rfl : k = l.length := by omega
      have ho := HO.out
      rw [List.take_length] at ho
      obtain ⟨A3, C3, rfl⟩ := Kd.R_slice ho
      have HO3 := Aside0.mk ho
      clear ho
      go_wp2_with fail
      go_ret
      exact ⟨_, rfl, HO3.out, HB.out⟩
end Go.Proofs.Ytillcdcmhdofbaa.Ln
