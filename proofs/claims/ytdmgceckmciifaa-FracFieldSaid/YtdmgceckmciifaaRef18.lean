/- The reference: Neg, Add, Sub, Mul. -/
import Derived.Test.YtdmgceckmciifaaRef17
set_option linter.unusedVariables false
set_option linter.unusedSimpArgs false
namespace Go.Proofs.Ytdmgceckmciifaa
open Go.RowKit

theorem Held1.box {w w1 : World} {tb tr : Nat} {a0 a1 a2 : Value} (h : Held1 w tb tr a0 a1 a2 w1) (y0 y1 y2 : Value) : Held1 w tb tr y0 y1 y2 (((w1.setCell ⟨w.heap.size, 0, none⟩ y0).setCell ⟨w.heap.size, 1, none⟩ y1).setCell ⟨w.heap.size, 2, none⟩ y2) := by
  obtain ⟨h0, h1, x0, x1, x2, h3, h4⟩ := h
  exact ⟨three_below h0 (Nat.le_refl _) _ _ _, blk3 h1 _ _ _, x0, x1, x2, h3, ((h4.other _ _ (by simp)).other _ _ (by simp)).other _ _ (by simp)⟩
theorem FrV.neg {w : World} {v1 v2 : Value} {q : Rat} {b : Bool} (h0 : q.num.natAbs ≠ 0) (hb : b = decide (q.num < 0)) (r1 : RdI .u32 w v1 (dg q.num.natAbs)) (r2 : RdI .u32 w v2 (dg q.den)) : FrV w (.agg #[.bool (!b), v1, v2]) (-q) := by
  refine ⟨v1, v2, ?_, by rw [Rat.neg_num, Int.natAbs_neg]; exact r1, by rw [Rat.neg_den]; exact r2, Wd_dg _, Wd_dg _⟩
  rw [hb, Rat.neg_num]
  by_cases h : q.num < 0
  · simp [h]; omega
  · simp [h]; omega
theorem rneg_calls (w : World) (va : Value) (na : Bool) (lna lda : List Int) (ha : FrIn w va na lna lda) (hsa : lna.length + lda.length ≤ 4096) :
    Calls Try.prog 35 #[va] w (FrPost (-(fixq na lna lda)) w) := by
  have hf := ha
  obtain ⟨A, c, A2, c2, rfl, _, _, _, _⟩ := ha.shape
  have H := held1_new w 24 24 (.bool na) (.slice A lna.length c) (.slice A2 lda.length c2) (.bool false) (.slice none 0 0) (.slice none 0 0) (boolne _) (slne _ _ _) (slne _ _ _)
  obtain ⟨_, ⟨j0, j1, j2⟩⟩ := H.cells
  obtain ⟨q, hq⟩ : ∃ q, q = fixq na lna lda := ⟨_, rfl⟩
  have HQ := Lib.hid hq
  rw [← hq]
  clear hq
  go_enter Try.func35, Try.ntmps35
  go_wp2_with fail
  refine (rfix_calls _ _ na lna lda (hf.below H.bl) hsa).mono ?_
  rintro e w1 ⟨v, rfl, hfr, hb1⟩
  rw [← HQ.out] at hfr
  have H1 := Held1.next hb1 H
  clear j0 j1 j2
  obtain ⟨_, ⟨j0, j1, j2⟩⟩ := H1.cells
  have jf := H1.2.1.free
  obtain ⟨⟨x0, x1, x2, m0, m1, m2⟩, f1⟩ := H1.store
  obtain ⟨B1, d1, B2, d2, rfl, r1, r2, r3, r4⟩ := FrIn.shape hfr
  obtain ⟨b, hb⟩ : ∃ b, b = decide (q.num < 0) := ⟨_, rfl⟩
  rw [← hb] at hfr ⊢
  have HB := Lib.hid hb
  clear hb
  by_cases h0 : (dg q.num.natAbs).length = 0
  · have H0 := Lib.hid h0
    rw [h0] at hfr ⊢
    clear h0
    go_wp2
    have H2 := H1.box (.bool b) (.slice B1 0 d1) (.slice B2 (dg q.den).length d2)
    have hz : q.num.natAbs = 0 := dg_len_zero.1 H0.out
    have hq : -q = q := by rw [show q = 0 from Rat.num_eq_zero.1 (by omega)]; rfl
    rw [H0.out] at r1
    obtain ⟨t1, t2⟩ := H2.res (.bool b) (.slice B1 0 d1) (.slice B2 (dg q.den).length d2)
    refine bodyPost_ret (results_cell_row rfl _ _ (w.heap.size + 1) 24 _ (0, 0) _ rfl t2 Try.underlying24 rfl (by kernel_rfl)) rfl ⟨_, rfl, ?_, t1⟩
    rw [hq]
    exact ⟨_, _, by rw [← HB.out], H2.kept (r1.three j0 j1 j2 (boolne _) (slne _ _ _) (slne _ _ _) _ _ _) _ _ _, H2.kept (r2.three j0 j1 j2 (boolne _) (slne _ _ _) (slne _ _ _) _ _ _) _ _ _, r3, r4⟩
  · have g0 : (((dg q.num.natAbs).length : Int) == 0) = false := int_ne0 (by omega)
    have H0 := Lib.hid h0
    clear h0
    go_wp2
    have H2 := H1.box (.bool b) (.slice B1 (dg q.num.natAbs).length d1) (.slice B2 (dg q.den).length d2)
    obtain ⟨t1, t2⟩ := H2.res (.bool (!b)) (.slice B1 (dg q.num.natAbs).length d1) (.slice B2 (dg q.den).length d2)
    exact bodyPost_ret (results_cell_row rfl _ _ (w.heap.size + 1) 24 _ (0, 0) _ rfl t2 Try.underlying24 rfl (by kernel_rfl)) rfl ⟨_, rfl, FrV.neg (fun h => H0.out (dg_len_zero.2 h)) HB.out (H2.kept (r1.three j0 j1 j2 (boolne _) (slne _ _ _) (slne _ _ _) _ _ _) _ _ _) (H2.kept (r2.three j0 j1 j2 (boolne _) (slne _ _ _) (slne _ _ _) _ _ _) _ _ _), t1⟩
theorem radd_calls (w : World) (va vb : Value) (na nb : Bool) (lna lda lnb ldb : List Int) (ha : FrIn w va na lna lda) (hb : FrIn w vb nb lnb ldb) (hsa : lna.length + lda.length ≤ 4096) (hsb : lnb.length + ldb.length ≤ 4096) (hres : Short ((fixq na lna lda) + (fixq nb lnb ldb))) :
    Calls Try.prog 31 #[va, vb] w (FrPost ((fixq na lna lda) + (fixq nb lnb ldb)) w) := by
  obtain ⟨s, hse⟩ : ∃ s, s = (fixq na lna lda) + (fixq nb lnb ldb) := ⟨_, rfl⟩
  rw [← hse]
  have HE := Lib.hid hse
  clear hse
  have s1 : Szq 500000000 (fixq na lna lda) := (szq_fix (k := 4097) ha.wd.1 ha.wd.2 (by omega) (by omega) (by omega)).big (by omega)
  have s2 : Szq 500000000 (fixq nb lnb ldb) := (szq_fix (k := 4097) hb.wd.1 hb.wd.2 (by omega) (by omega) (by omega)).big (by omega)
  obtain ⟨A, c, A2, c2, rfl, _, _, _, _⟩ := ha.shape
  obtain ⟨A3, c3, A4, c4, rfl, _, _, _, _⟩ := hb.shape
  have H := heldB_new w 24 24 (.bool na) (.slice A lna.length c) (.slice A2 lda.length c2) (.bool nb) (.slice A3 lnb.length c3) (.slice A4 ldb.length c4) (.bool false) (.slice none 0 0) (.slice none 0 0) (boolne _) (slne _ _ _) (slne _ _ _)
  go_enter Try.func31, Try.ntmps31
  go_wp2_with fail
  have hs := (HeldB.next (bl_drew _) H).cells
  go_region_held3 (fun w' => HeldB w 24 24 (.bool na) (.slice A lna.length c) (.slice A2 lda.length c2) (.bool nb) (.slice A3 lnb.length c3) (.slice A4 ldb.length c4) w' ∧ (w'.cell? ⟨w.heap.size, 0, none⟩ = some (.bool na) ∧ w'.cell? ⟨w.heap.size, 1, none⟩ = some (.slice A lna.length c) ∧ w'.cell? ⟨w.heap.size, 2, none⟩ = some (.slice A2 lda.length c2)) ∧ (w'.cell? ⟨w.heap.size + 1, 0, none⟩ = some (.bool nb) ∧ w'.cell? ⟨w.heap.size + 1, 1, none⟩ = some (.slice A3 lnb.length c3) ∧ w'.cell? ⟨w.heap.size + 1, 2, none⟩ = some (.slice A4 ldb.length c4)))
    ((first | exact hs | exact (HeldB.set H1 _ _ _ (boolne _) (slne _ _ _) (slne _ _ _)).cells | exact (HeldB.next hbN (And.left (by assumption))).cells))
    (first
    | (go_at_call 22; (with_reducible refine (rfix_calls _ _ na lna lda ?_ hsa).mono ?_); (exact ha.below (HeldB.bl (And.left (by assumption)))); (rintro e w' ⟨v, rfl, hva, hbN⟩))
    | (go_at_call 22; (with_reducible refine (rfix_calls _ _ nb lnb ldb ?_ hsb).mono ?_); (exact hb.below (HeldB.bl (And.left (by assumption)))); (rintro e w' ⟨v, rfl, hvb, hbN⟩))
    | (go_at_call 80; (with_reducible refine (rsum_calls _ _ _ (fixq na lna lda) (fixq nb lnb ldb) (FrV.below hva hbN) hvb s1 s2 hres).mono ?_); (rintro e w' ⟨v, rfl, hfr, hbN⟩); (rw [← HE.out] at hfr); (obtain ⟨B1, d1, B2, d2, rfl, r1, r2, r3, r4⟩ := FrIn.shape hfr); (have H1 := HeldB.next hbN (And.left (by assumption))); (obtain ⟨⟨x0, x1, x2, m0, m1, m2⟩, f1⟩ := H1.store))
    )
  go_wp2
  obtain ⟨t1, t2⟩ := H1.res (.bool (decide (s.num < 0))) (.slice B1 (dg s.num.natAbs).length d1) (.slice B2 (dg s.den).length d2)
  exact bodyPost_ret (results_cell_row rfl _ _ (w.heap.size + 2) 24 _ (0, 0) _ rfl t2 Try.underlying24 rfl (by kernel_rfl)) rfl ⟨_, rfl, ⟨_, _, rfl, H1.kept r1 _ _ _, H1.kept r2 _ _ _, r3, r4⟩, t1⟩
theorem rsub_calls (w : World) (va vb : Value) (na nb : Bool) (lna lda lnb ldb : List Int) (ha : FrIn w va na lna lda) (hb : FrIn w vb nb lnb ldb) (hsa : lna.length + lda.length ≤ 4096) (hsb : lnb.length + ldb.length ≤ 4096) (hres : Short ((fixq na lna lda) + -(fixq nb lnb ldb))) :
    Calls Try.prog 32 #[va, vb] w (FrPost ((fixq na lna lda) + -(fixq nb lnb ldb)) w) := by
  obtain ⟨s, hse⟩ : ∃ s, s = (fixq na lna lda) + -(fixq nb lnb ldb) := ⟨_, rfl⟩
  rw [← hse]
  have HE := Lib.hid hse
  clear hse
  have s1 : Szq 500000000 (fixq na lna lda) := (szq_fix (k := 4097) ha.wd.1 ha.wd.2 (by omega) (by omega) (by omega)).big (by omega)
  have s2 : Szq 500000000 (fixq nb lnb ldb) := (szq_fix (k := 4097) hb.wd.1 hb.wd.2 (by omega) (by omega) (by omega)).big (by omega)
  obtain ⟨A, c, A2, c2, rfl, _, _, _, _⟩ := ha.shape
  obtain ⟨A3, c3, A4, c4, rfl, _, _, _, _⟩ := hb.shape
  have H := heldB_new w 24 24 (.bool na) (.slice A lna.length c) (.slice A2 lda.length c2) (.bool nb) (.slice A3 lnb.length c3) (.slice A4 ldb.length c4) (.bool false) (.slice none 0 0) (.slice none 0 0) (boolne _) (slne _ _ _) (slne _ _ _)
  go_enter Try.func32, Try.ntmps32
  go_wp2_with fail
  have hs := (HeldB.next (bl_drew _) H).cells
  go_region_held3 (fun w' => HeldB w 24 24 (.bool na) (.slice A lna.length c) (.slice A2 lda.length c2) (.bool nb) (.slice A3 lnb.length c3) (.slice A4 ldb.length c4) w' ∧ (w'.cell? ⟨w.heap.size, 0, none⟩ = some (.bool na) ∧ w'.cell? ⟨w.heap.size, 1, none⟩ = some (.slice A lna.length c) ∧ w'.cell? ⟨w.heap.size, 2, none⟩ = some (.slice A2 lda.length c2)) ∧ (w'.cell? ⟨w.heap.size + 1, 0, none⟩ = some (.bool nb) ∧ w'.cell? ⟨w.heap.size + 1, 1, none⟩ = some (.slice A3 lnb.length c3) ∧ w'.cell? ⟨w.heap.size + 1, 2, none⟩ = some (.slice A4 ldb.length c4)))
    ((first | exact hs | exact (HeldB.set H1 _ _ _ (boolne _) (slne _ _ _) (slne _ _ _)).cells | exact (HeldB.next hbN (And.left (by assumption))).cells))
    (first
    | (go_at_call 22; (with_reducible refine (rfix_calls _ _ na lna lda ?_ hsa).mono ?_); (exact ha.below (HeldB.bl (And.left (by assumption)))); (rintro e w' ⟨v, rfl, hva, hbN⟩))
    | (go_at_call 35; (with_reducible refine (rneg_calls _ _ nb lnb ldb ?_ hsb).mono ?_); (exact hb.below (HeldB.bl (And.left (by assumption)))); (rintro e w' ⟨v, rfl, hvb, hbN⟩))
    | (go_at_call 80; (with_reducible refine (rsum_calls _ _ _ (fixq na lna lda) (-(fixq nb lnb ldb)) (FrV.below hva hbN) hvb s1 (szq_neg s2) hres).mono ?_); (rintro e w' ⟨v, rfl, hfr, hbN⟩); (rw [← HE.out] at hfr); (obtain ⟨B1, d1, B2, d2, rfl, r1, r2, r3, r4⟩ := FrIn.shape hfr); (have H1 := HeldB.next hbN (And.left (by assumption))); (obtain ⟨⟨x0, x1, x2, m0, m1, m2⟩, f1⟩ := H1.store))
    )
  go_wp2
  obtain ⟨t1, t2⟩ := H1.res (.bool (decide (s.num < 0))) (.slice B1 (dg s.num.natAbs).length d1) (.slice B2 (dg s.den).length d2)
  exact bodyPost_ret (results_cell_row rfl _ _ (w.heap.size + 2) 24 _ (0, 0) _ rfl t2 Try.underlying24 rfl (by kernel_rfl)) rfl ⟨_, rfl, ⟨_, _, rfl, H1.kept r1 _ _ _, H1.kept r2 _ _ _, r3, r4⟩, t1⟩
theorem rmul_calls (w : World) (va vb : Value) (na nb : Bool) (lna lda lnb ldb : List Int) (ha : FrIn w va na lna lda) (hb : FrIn w vb nb lnb ldb) (hsa : lna.length + lda.length ≤ 4096) (hsb : lnb.length + ldb.length ≤ 4096) (hres : Short ((fixq na lna lda) * (fixq nb lnb ldb))) :
    Calls Try.prog 33 #[va, vb] w (FrPost ((fixq na lna lda) * (fixq nb lnb ldb)) w) := by
  obtain ⟨s, hse⟩ : ∃ s, s = (fixq na lna lda) * (fixq nb lnb ldb) := ⟨_, rfl⟩
  rw [← hse]
  have HE := Lib.hid hse
  clear hse
  have s1 : Szq 500000000 (fixq na lna lda) := (szq_fix (k := 4097) ha.wd.1 ha.wd.2 (by omega) (by omega) (by omega)).big (by omega)
  have s2 : Szq 500000000 (fixq nb lnb ldb) := (szq_fix (k := 4097) hb.wd.1 hb.wd.2 (by omega) (by omega) (by omega)).big (by omega)
  obtain ⟨A, c, A2, c2, rfl, _, _, _, _⟩ := ha.shape
  obtain ⟨A3, c3, A4, c4, rfl, _, _, _, _⟩ := hb.shape
  have H := heldB_new w 24 24 (.bool na) (.slice A lna.length c) (.slice A2 lda.length c2) (.bool nb) (.slice A3 lnb.length c3) (.slice A4 ldb.length c4) (.bool false) (.slice none 0 0) (.slice none 0 0) (boolne _) (slne _ _ _) (slne _ _ _)
  go_enter Try.func33, Try.ntmps33
  go_wp2_with fail
  have hs := (HeldB.next (bl_drew _) H).cells
  go_region_held3 (fun w' => HeldB w 24 24 (.bool na) (.slice A lna.length c) (.slice A2 lda.length c2) (.bool nb) (.slice A3 lnb.length c3) (.slice A4 ldb.length c4) w' ∧ (w'.cell? ⟨w.heap.size, 0, none⟩ = some (.bool na) ∧ w'.cell? ⟨w.heap.size, 1, none⟩ = some (.slice A lna.length c) ∧ w'.cell? ⟨w.heap.size, 2, none⟩ = some (.slice A2 lda.length c2)) ∧ (w'.cell? ⟨w.heap.size + 1, 0, none⟩ = some (.bool nb) ∧ w'.cell? ⟨w.heap.size + 1, 1, none⟩ = some (.slice A3 lnb.length c3) ∧ w'.cell? ⟨w.heap.size + 1, 2, none⟩ = some (.slice A4 ldb.length c4)))
    ((first | exact hs | exact (HeldB.set H1 _ _ _ (boolne _) (slne _ _ _) (slne _ _ _)).cells | exact (HeldB.next hbN (And.left (by assumption))).cells))
    (first
    | (go_at_call 22; (with_reducible refine (rfix_calls _ _ na lna lda ?_ hsa).mono ?_); (exact ha.below (HeldB.bl (And.left (by assumption)))); (rintro e w' ⟨v, rfl, hva, hbN⟩))
    | (go_at_call 22; (with_reducible refine (rfix_calls _ _ nb lnb ldb ?_ hsb).mono ?_); (exact hb.below (HeldB.bl (And.left (by assumption)))); (rintro e w' ⟨v, rfl, hvb, hbN⟩))
    | (go_at_call 79; (with_reducible refine (rproduct_calls _ _ _ (fixq na lna lda) (fixq nb lnb ldb) (FrV.below hva hbN) hvb s1 s2 hres).mono ?_); (rintro e w' ⟨v, rfl, hfr, hbN⟩); (rw [← HE.out] at hfr); (obtain ⟨B1, d1, B2, d2, rfl, r1, r2, r3, r4⟩ := FrIn.shape hfr); (have H1 := HeldB.next hbN (And.left (by assumption))); (obtain ⟨⟨x0, x1, x2, m0, m1, m2⟩, f1⟩ := H1.store))
    )
  go_wp2
  obtain ⟨t1, t2⟩ := H1.res (.bool (decide (s.num < 0))) (.slice B1 (dg s.num.natAbs).length d1) (.slice B2 (dg s.den).length d2)
  exact bodyPost_ret (results_cell_row rfl _ _ (w.heap.size + 2) 24 _ (0, 0) _ rfl t2 Try.underlying24 rfl (by kernel_rfl)) rfl ⟨_, rfl, ⟨_, _, rfl, H1.kept r1 _ _ _, H1.kept r2 _ _ _, r3, r4⟩, t1⟩
end Go.Proofs.Ytdmgceckmciifaa
