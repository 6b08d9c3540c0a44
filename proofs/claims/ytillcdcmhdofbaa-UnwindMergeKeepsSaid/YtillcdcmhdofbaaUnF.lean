/- The example of the document on unwind rows, as the statements check it, holds: it returns true. -/
import Derived.Test.YtillcdcmhdofbaaUnE
import Derived.Test.YtillcdcmhdofbaaPUnwindUniquex4
namespace Go.Proofs.Ytillcdcmhdofbaa.Un
open Go.RowKit Go.Proofs.YtillcdcmhdofbaaW.PrintWords Go.Proofs.YtillcdcmhdofbaaW.PrintLast Go.Proofs.YtillcdcmhdofbaaW.PrintMore
open Go.Proofs.Ytillcdcmhdofbaa.PUnwindUnique
set_option linter.unusedVariables false
set_option linter.unusedSimpArgs false

theorem bytes_C {W : World} {base c : Nat} {A : Option Addr} {bs : List Int} (h : W.ownsRow base 5 1 (.slice A bs.length c) bs.length (nums .u8 bs)) : Kd.C (Kd.int .u8) W A bs.length bs :=
  Kd.C_of_reads (d := (0 : Int)) (h1 := fun _ => rfl) (own_reads_of' (enc := Value.int .u8) h)
theorem lit_C (W : World) (e : TypeId) (k : IntKind) (xs : List Int) (hm : xs.length ≤ 1000) : Kd.C (Kd.int k) (W.alloc (.cells (nums k xs).toArray e)) (some ⟨W.heap.size, 0, none⟩) xs.length xs :=
  Kd.C_of_reads (d := (0 : Int)) (h1 := fun _ => rfl) (own_reads_of' (enc := Value.int k) (own_lit W 0 e k xs (Nat.zero_le _) (by omega)))

def exl : List S48 := [⟨1, 7, 4, 0⟩]
theorem ex_valid : unwind_Validate.f 10 exl = some (0, 0) := by decide +kernel
theorem ex_merge : ∃ y, unwind_Merge.f 10 exl = some ([y], 0, 0) := ⟨⟨1, 7, 4, 0⟩, by kernel_rfl⟩
theorem ex_code : nc (exl.length : Nat) ++ codeFrom z48 exl = [2, 2, 14, 8, 0] := by decide +kernel
theorem ex_rises : Rises exl := by
  intro a b h1 h2
  simp [exl] at h2
  omega
theorem ex_small : ∀ k : Nat, k < exl.length → Small (rd_T48 exl k) := by
  intro k hk
  obtain rfl : k = 0 := by simpa [exl] using hk
  exact ⟨by decide, by decide, by decide, by decide, by decide, by decide, by decide, by decide⟩
theorem ex_found {x : S48} {b : Bool} (h : Found exl 3 x b) : b = true ∧ x.f2 = 4 := by
  rcases h with ⟨rfl, rfl, h⟩ | ⟨rfl, k, hk, rfl, _⟩
  · exact absurd (h 0 (by decide)) (by decide)
  · obtain rfl : k = 0 := by simpa [exl] using hk
    exact ⟨rfl, rfl⟩
theorem one_C {W : World} {b : Nat} (x : S48) (h : W.heap[b]? = some (.cells (cl x) 48 (0, 0))) : Kd.C k48 W (some ⟨b, 0, none⟩) 1 [x] := by
  refine ⟨rfl, by decide, fun _ => ⟨_, rfl, fun j p hj => ?_⟩⟩
  have hj0 : j = 0 := by have := (List.getElem?_eq_some_iff.1 hj).1; simp at this; exact this
  subst hj0
  have hp : x = p := by simpa using hj
  subst hp
  refine ⟨[.int .i64 x.f0, .int .i64 x.f1, .int .i64 x.f2, .int .i64 x.f3], rfl, k48_mk _ _, fun i u hu => ?_⟩
  rw [add_plain, blk_cell h]
  rw [show 0 * k48.sz + i = i by omega]
  simpa [cl] using hu
theorem ex_C (w : World) : Kd.C k48 (w.alloc (.cells #[.int .i64 1, .int .i64 7, .int .i64 4, .int .i64 0] 48)) (some ⟨w.heap.size, 0, none⟩) 1 exl := one_C (⟨1, 7, 4, 0⟩ : S48) (blk_new w _)

set_option maxHeartbeats 1000000 in
set_option maxRecDepth 100000 in
theorem f27_any (w : World) : Calls Try.prog 27 #[] w fun e w' => e = .returned (.bool true) ∧ Below w.heap.size w w' := by
  have hu48 := Try.underlying48
  have hu27 := Try.underlying27
  have HB := Aside0.mk (below_alloc (Below.refl w.heap.size w) (.cells #[.int .i64 1, .int .i64 7, .int .i64 4, .int .i64 0] 48))
  have HR := Aside0.mk (ex_C w)
  go_enter Try.func27, Try.ntmps27
  go_wp2_with fail
  refine (f28_ok 10 _ 1 exl 3 _ HR.out (by decide) ex_valid (by decide) ex_rises).mono ?_
  rintro e w1 ⟨x, b, rfl, hf, hb⟩
  obtain ⟨rfl, hx2⟩ := ex_found hf
  obtain ⟨x0, x1, x2, x3⟩ := x
  obtain rfl : x2 = 4 := hx2
  have HB1 := Aside0.mk (below_then HB.out HB.out.size hb)
  have HR1 := Aside0.mk (Kd.C_below HR.out hb)
  clear hf hb
  unfold ag
  go_wp2_with fail
  have HB2 := Aside0.mk (below_alloc' (below_alloc' HB1.out (.cells #[.int .i64 x0, .int .i64 x1, .int .i64 4, .int .i64 x3] 48)) (.cells #[.int .i64 0, .int .i64 0] 27))
  have HR2 := Aside0.mk (Kd.C_below HR1.out (below_alloc (below_alloc (Below.refl _ _) (.cells #[.int .i64 x0, .int .i64 x1, .int .i64 4, .int .i64 x3] 48)) (.cells #[.int .i64 0, .int .i64 0] 27)))
  have HX2 := Aside0.mk (blk_alloc (blk_new w1 (.cells #[.int .i64 x0, .int .i64 x1, .int .i64 4, .int .i64 x3] 48)) (.cells #[.int .i64 0, .int .i64 0] 27))
  have HF2 := Aside0.mk (new_snd w1 (.cells #[.int .i64 x0, .int .i64 x1, .int .i64 4, .int .i64 x3] 48) #[.int .i64 0, .int .i64 0] (t := 27))
  refine (f35_ok 10 _ 1 exl _ HR2.out (by decide) ex_valid (by decide) ex_small).mono ?_
  rintro e w2 ⟨v, rfl, ho, hb⟩
  rw [ex_code] at ho
  obtain ⟨A2, C2, rfl⟩ := own_slice ho
  have HB3 := Aside0.mk (below_then HB2.out HB2.out.size hb)
  have HR3 := Aside0.mk (Kd.C_below HR2.out hb)
  have HX3 := Aside0.mk (blk_below HX2.out hb)
  have HF3 := Aside0.mk (blk_below HF2.out hb)
  have HO3 := Aside0.mk ho
  clear hb ho HB HB1 HB2 HR HR1 HR2 HX2 HF2
  go_wp2_with fail
  have HB4 := Aside0.mk (below_alloc' HB3.out (.cells #[.int .i64 0, .int .i64 0] 27))
  have HR4 := Aside0.mk (Kd.C_below HR3.out (below_alloc (Below.refl _ _) (.cells #[.int .i64 0, .int .i64 0] 27)))
  have HX4 := Aside0.mk (blk_alloc HX3.out (.cells #[.int .i64 0, .int .i64 0] 27))
  have HF4 := Aside0.mk (blk_alloc HF3.out (.cells #[.int .i64 0, .int .i64 0] 27))
  have HG4 := Aside0.mk (blk_new w2 (.cells #[.int .i64 0, .int .i64 0] 27))
  have HO4 := Aside0.mk (HO3.out.alloc (.cells #[.int .i64 0, .int .i64 0] 27))
  obtain ⟨ym, hym⟩ := ex_merge
  refine (unwind_Merge.calls 10 _ 1 exl [ym] 0 0 _ HR4.out (by decide) hym).mono ?_
  rintro e w3 ⟨v, rfl, hp, hb⟩
  obtain ⟨A3, C3, rfl, hle3, hc3⟩ := Kd.R_reads hp
  have HB5 := Aside0.mk (below_then HB4.out HB4.out.size hb)
  have HX5 := Aside0.mk (blk_below HX4.out hb)
  have HF5 := Aside0.mk (blk_below HF4.out hb)
  have HG5 := Aside0.mk (blk_below HG4.out hb)
  have ho5 := pw_own_below HO4.out hb
  have HO5 := Aside0.mk ho5
  have HP5 := Aside0.mk hc3
  have HL5 := Aside0.mk hle3
  have HC6 := Aside0.mk (own_le ho5)
  clear ho5 hb hp hle3 hc3 HB3 HB4 HR3 HR4 HX3 HX4 HF3 HF4 HG4 HO3 HO4
  have hx2 : w3.cell? ⟨w1.heap.size, 2, none⟩ = some (.int .i64 4) := (blk_cell HX5.out 2).trans rfl
  have hf0 : w3.cell? ⟨w1.heap.size + 1, 0, none⟩ = some (.int .i64 0) := (blk_cell HF5.out 0).trans rfl
  have hg0 : w3.cell? ⟨w2.heap.size, 0, none⟩ = some (.int .i64 0) := (blk_cell HG5.out 0).trans rfl
  have hl1 : w1.heap.size < w3.heap.size := blk_lt HX5.out
  have hl2 : w1.heap.size + 1 < w3.heap.size := blk_lt HF5.out
  have hl3 : w2.heap.size < w3.heap.size := blk_lt HG5.out
  go_wp2_with fail
  have hB6 := below_alloc (Below.refl w3.heap.size w3) (.cells #[.int .i64 0, .int .i64 0] 27)
  have HB6 := Aside0.mk (below_alloc' (below_alloc' HB5.out (.cells #[.int .i64 0, .int .i64 0] 27)) (.cells #[.int .u8 2, .int .u8 2, .int .u8 14, .int .u8 8, .int .u8 0] 5))
  have HP6 := Aside0.mk (Kd.C_below HP5.out (below_alloc hB6 (.cells #[.int .u8 2, .int .u8 2, .int .u8 14, .int .u8 8, .int .u8 0] 5)))
  have HO6 := Aside0.mk (bytes_C ((HO5.out.alloc (.cells #[.int .i64 0, .int .i64 0] 27)).alloc (.cells #[.int .u8 2, .int .u8 2, .int .u8 14, .int .u8 8, .int .u8 0] 5)))
  have HL6 := Aside0.mk (lit_C (w3.alloc (.cells #[.int .i64 0, .int .i64 0] 27)) 5 .u8 [2, 2, 14, 8, 0] (by decide))
  clear hB6
  refine (linkhouseref1_Bytes.calls A2 C2 [2, 2, 14, 8, 0] (some ⟨w3.heap.size + 1, 0, none⟩) 5 [2, 2, 14, 8, 0] true _ HO6.out HC6.out (by have h := HL6.out; rwa [World.size_alloc] at h) (by decide) (by unfold linkhouseref1_Bytes.f; simp)).mono ?_
  rintro e w4 ⟨rfl, hd⟩
  have HB7 := Aside0.mk (below_then HB6.out HB6.out.size hd.below)
  have HP7 := Aside0.mk (Kd.C_below HP6.out hd.below)
  clear hd hx2 hf0 hg0 HB6 HP6 HO6 HL6 HP5 HO5 HB5 HX5 HF5 HG5
  go_wp2_with fail
  go_ret
  exact ⟨rfl, HB7.out⟩
end Go.Proofs.Ytillcdcmhdofbaa.Un
