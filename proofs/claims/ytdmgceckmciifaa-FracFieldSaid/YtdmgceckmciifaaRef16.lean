/- The reference: Fix, product, sum. -/
import Derived.Test.YtdmgceckmciifaaRef15
set_option linter.unusedVariables false
set_option linter.unusedSimpArgs false
namespace Go.Proofs.Ytdmgceckmciifaa
open Go.RowKit

theorem FrV.fix {w : World} {v : Value} {neg : Bool} {ln ld : List Int} (h : FrIn w v neg ln ld) (hr : RightP neg ln ld) : FrV w v (fixq neg ln ld) := by
  obtain ⟨p1, p2, p3⟩ := fixq_parts hr h.wd.1 h.wd.2
  show FrIn _ _ _ _ _
  rw [p1, p2, p3]
  exact h
theorem rfix_calls (w : World) (va : Value) (na : Bool) (lna lda : List Int) (ha : FrIn w va na lna lda) (hsa : lna.length + lda.length ≤ 4096) :
    Calls Try.prog 22 #[va] w (FrPost (fixq na lna lda) w) := by
  obtain ⟨s, hse⟩ : ∃ s, s = fixq na lna lda := ⟨_, rfl⟩
  rw [← hse]
  have HE := Lib.hid hse
  clear hse
  have hf := ha
  obtain ⟨A, c, A2, c2, rfl, _, _, _, _⟩ := ha.shape
  have H := held1_new w 24 24 (.bool na) (.slice A lna.length c) (.slice A2 lda.length c2) (.bool false) (.slice none 0 0) (.slice none 0 0) (boolne _) (slne _ _ _) (slne _ _ _)
  obtain ⟨_, ⟨j0, j1, j2⟩⟩ := H.cells
  by_cases hR : RightP na lna lda
  · have HR := Lib.hid hR
    have e0 : decide (RightP na lna lda) = true := decide_eq_true hR
    go_enter Try.func22, Try.ntmps22
    go_wp2_with fail
    refine (rright_calls _ _ na lna lda (hf.below H.bl) hsa).mono ?_
    rintro e w1 ⟨rfl, hb1⟩
    rw [e0]
    have H1 := Held1.next hb1 H
    clear j0 j1 j2
    obtain ⟨_, ⟨j0, j1, j2⟩⟩ := H1.cells
    obtain ⟨⟨x0, x1, x2, m0, m1, m2⟩, f1⟩ := H1.store
    have hf1 := FrV.fix (hf.below H1.bl) HR.out
    rw [← HE.out] at hf1
    have HF1 := Lib.hid hf1
    clear hR e0 hf1
    go_wp2
    obtain ⟨v1, v2, hv, r1, r2, r3, r4⟩ := HF1.out
    obtain ⟨t1, t2⟩ := H1.res (.bool na) (.slice A lna.length c) (.slice A2 lda.length c2)
    exact bodyPost_ret (results_cell_row rfl _ _ (w.heap.size + 1) 24 _ (0, 0) _ rfl t2 Try.underlying24 rfl (by kernel_rfl)) rfl ⟨_, rfl, ⟨_, _, hv, H1.kept r1 _ _ _, H1.kept r2 _ _ _, r3, r4⟩, t1⟩
  · have HR := Lib.hid hR
    have hz : 0 = s := by rw [HE.out, fixq, if_neg hR]
    have HZ := Lib.hid hz
    have e0 : decide (RightP na lna lda) = false := decide_eq_false hR
    clear hz
    go_enter Try.func22, Try.ntmps22
    go_wp2_with fail
    refine (rright_calls _ _ na lna lda (hf.below H.bl) hsa).mono ?_
    rintro e w1 ⟨rfl, hb1⟩
    rw [e0]
    clear hR e0 j0 j1 j2
    go_wp2_with fail
    refine (rzero_calls _).mono ?_
    rintro e w2 ⟨v, rfl, hfr, hb2⟩
    rw [HZ.out] at hfr
    obtain ⟨B1, d1, B2, d2, rfl, r1, r2, r3, r4⟩ := FrIn.shape hfr
    have H1 := Held1.next hb2 (Held1.next hb1 H)
    obtain ⟨⟨x0, x1, x2, m0, m1, m2⟩, f1⟩ := H1.store
    go_wp2
    obtain ⟨t1, t2⟩ := H1.res (.bool (decide (s.num < 0))) (.slice B1 (dg s.num.natAbs).length d1) (.slice B2 (dg s.den).length d2)
    exact bodyPost_ret (results_cell_row rfl _ _ (w.heap.size + 1) 24 _ (0, 0) _ rfl t2 Try.underlying24 rfl (by kernel_rfl)) rfl ⟨_, rfl, ⟨_, _, rfl, H1.kept r1 _ _ _, H1.kept r2 _ _ _, r3, r4⟩, t1⟩
/-- product, of what is not right, too: a denominator that is a numerator. -/
theorem rproduct_any (w : World) (va vb : Value) (n1 n2 : Bool) (p1 d1 p2 d2 : Nat) (ha : FrIn w va n1 (dg p1) (dg d1)) (hb : FrIn w vb n2 (dg p2) (dg d2)) (h1 : 0 < d1) (h2 : 0 < d2) (ya : (dg p1).length ≤ 500000000) (yb : (dg d1).length ≤ 500000000) (yc : (dg p2).length ≤ 500000000) (yd : (dg d2).length ≤ 500000000)
    (s : Rat) (hse : mkRat (sgn (!(n1 == n2)) (p1 * p2)) (d1 * d2) = s) (hs : Short s) :
    Calls Try.prog 79 #[va, vb] w (FrPost s w) := by
  have HE := Lib.hid hse
  have hs' := hs
  rw [← hse] at hs'
  have HS := Lib.hid hs'
  obtain ⟨A, c, A2, c2, rfl, hn1', hd1', _, _⟩ := FrIn.shape ha
  obtain ⟨A3, c3, A4, c4, rfl, hn2', hd2', _, _⟩ := FrIn.shape hb
  have hn1 : Nm w (.slice A (dg p1).length c) p1 := hn1'
  have hd1 : Nm w (.slice A2 (dg d1).length c2) d1 := hd1'
  have hn2 : Nm w (.slice A3 (dg p2).length c3) p2 := hn2'
  have hd2 : Nm w (.slice A4 (dg d2).length c4) d2 := hd2'
  have yn := Nat.le_trans (dg_mul_le ya yc) (show 500000000 + 500000000 ≤ 1073741823 by omega)
  have yd' := Nat.le_trans (dg_mul_le yb yd) (show 500000000 + 500000000 ≤ 1073741823 by omega)
  have hD := Nat.mul_pos h1 h2
  have H := heldB_new w 24 24 (.bool n1) (.slice A (dg p1).length c) (.slice A2 (dg d1).length c2) (.bool n2) (.slice A3 (dg p2).length c3) (.slice A4 (dg d2).length c4) (.bool false) (.slice none 0 0) (.slice none 0 0) (boolne _) (slne _ _ _) (slne _ _ _)
  clear hn1' hd1' hn2' hd2' hse hs' ha hb
  go_enter Try.func79, Try.ntmps79
  go_wp2_with fail
  have hs := (HeldB.next (bl_drew _) H).cells
  go_region_held3 (fun w' => HeldB w 24 24 (.bool n1) (.slice A (dg p1).length c) (.slice A2 (dg d1).length c2) (.bool n2) (.slice A3 (dg p2).length c3) (.slice A4 (dg d2).length c4) w' ∧ (w'.cell? ⟨w.heap.size, 0, none⟩ = some (.bool n1) ∧ w'.cell? ⟨w.heap.size, 1, none⟩ = some (.slice A (dg p1).length c) ∧ w'.cell? ⟨w.heap.size, 2, none⟩ = some (.slice A2 (dg d1).length c2)) ∧ (w'.cell? ⟨w.heap.size + 1, 0, none⟩ = some (.bool n2) ∧ w'.cell? ⟨w.heap.size + 1, 1, none⟩ = some (.slice A3 (dg p2).length c3) ∧ w'.cell? ⟨w.heap.size + 1, 2, none⟩ = some (.slice A4 (dg d2).length c4)))
    ((first | exact hs | exact (HeldB.set H1 _ _ _ (boolne _) (slne _ _ _) (slne _ _ _)).cells | exact (HeldB.next hbN (And.left (by assumption))).cells))
    (first
    | (go_at_call 86; (with_reducible refine (rtimes_calls _ _ _ p1 p2 ?_ ?_ (by omega) (by omega)).mono ?_); (exact hn1.below (HeldB.bl (And.left (by assumption)))); (exact hn2.below (HeldB.bl (And.left (by assumption)))); (rintro e w' ⟨v, rfl, hv1, hbN⟩))
    | (go_at_call 86; (with_reducible refine (rtimes_calls _ _ _ d1 d2 ?_ ?_ (by omega) (by omega)).mono ?_); (exact hd1.below (HeldB.bl (And.left (by assumption)))); (exact hd2.below (HeldB.bl (And.left (by assumption)))); (rintro e w' ⟨v, rfl, hv2, hbN⟩); (have hb2 := hbN))
    | (go_at_call 82; (with_reducible refine (rlowest_calls _ _ _ (p1 * p2) (d1 * d2) (!(n1 == n2)) (Nm.next hb2 hv1) hv2 hD yn yd' HS.out).mono ?_); (rintro e w' ⟨v, rfl, hfr, hbN⟩); (rw [HE.out] at hfr); (obtain ⟨B1, k1, B2, k2, rfl, r1, r2, r3, r4⟩ := FrIn.shape hfr); (have H1 := HeldB.next hbN (And.left (by assumption))); (obtain ⟨⟨x0, x1, x2, m0, m1, m2⟩, f1⟩ := H1.store))
    )
  go_wp2
  obtain ⟨t1, t2⟩ := H1.res (.bool (decide (s.num < 0))) (.slice B1 (dg s.num.natAbs).length k1) (.slice B2 (dg s.den).length k2)
  exact bodyPost_ret (results_cell_row rfl _ _ (w.heap.size + 2) 24 _ (0, 0) _ rfl t2 Try.underlying24 rfl (by kernel_rfl)) rfl ⟨_, rfl, ⟨_, _, rfl, H1.kept r1 _ _ _, H1.kept r2 _ _ _, r3, r4⟩, t1⟩
theorem rproduct_calls (w : World) (va vb : Value) (q r : Rat) (ha : FrV w va q) (hb : FrV w vb r) (s1 : Szq 500000000 q) (s2 : Szq 500000000 r) (hs : Short (q * r)) :
    Calls Try.prog 79 #[va, vb] w (FrPost (q * r) w) :=
  rproduct_any w va vb _ _ _ _ _ _ ha hb q.den_pos r.den_pos s1.1 s1.2 s2.1 s2.2 _ (mk_mul q r) hs
end Go.Proofs.Ytdmgceckmciifaa
