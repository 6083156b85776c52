/- The reference: Fix, product, sum. -/
import Derived.Test.YtajckdheecgceaaRef15
set_option linter.unusedVariables false
set_option linter.unusedSimpArgs false
namespace Go.Proofs.Ytajckdheecgceaa
open Go.RowKit

theorem FrV.fix {w : World} {v : Value} {neg : Bool} {ln ld : List Int} (h : FrIn w v neg ln ld) (hr : RightP neg ln ld) : FrV w v (fixq neg ln ld) := by
  obtain ⟨p1, p2, p3⟩ := fixq_parts hr h.wd.1 h.wd.2
  show FrIn _ _ _ _ _
  rw [p1, p2, p3]
  exact h
theorem rfix_calls (w : World) (va : Value) (na : Bool) (lna lda : List Int) (ha : FrIn w va na lna lda) (hsa : lna.length + lda.length ≤ 4096) :
    Calls Try.prog 62 #[va] w (FrPost (fixq na lna lda) w) := by
  obtain ⟨s, hse⟩ : ∃ s, s = fixq na lna lda := ⟨_, rfl⟩
  rw [← hse]
  have HE := Lib.hid hse
  clear hse
  have hf := ha
  obtain ⟨A, c, A2, c2, rfl, _, _, _, _⟩ := ha.shape
  have H := held1_new w 38 38 (.bool na) (.slice A lna.length c) (.slice A2 lda.length c2) (.bool false) (.slice none 0 0) (.slice none 0 0) (boolne _) (slne _ _ _) (slne _ _ _)
  obtain ⟨_, ⟨j0, j1, j2⟩⟩ := H.cells
  by_cases hR : RightP na lna lda
  · have HR := Lib.hid hR
    have e0 : decide (RightP na lna lda) = true := decide_eq_true hR
    go_enter Try.func62, Try.ntmps62
    go_wp2_with fail
    refine (rright_calls _ _ na lna lda (hf.below H.bl) hsa).mono ?_
    rintro e w1 ⟨rfl, hb1⟩
    rw [e0]
    have H1 := Held1.next hb1 H
    clear j0 j1 j2
    obtain ⟨_, ⟨j0, j1, j2⟩⟩ := H1.cells
    obtain ⟨⟨x0, x1, x2, m0, m1, m2⟩, f1⟩ := H1.store
    have hf1 := FrV.fix (hf.below H1.bl) HR.out
    rw [← HE.out] at hf1
    have HF1 := Lib.hid hf1
    clear hR e0 hf1
    go_wp2
    obtain ⟨v1, v2, hv, r1, r2, r3, r4⟩ := HF1.out
    obtain ⟨t1, t2⟩ := H1.res (.bool na) (.slice A lna.length c) (.slice A2 lda.length c2)
    exact bodyPost_ret (results_cell_row rfl _ _ (w.heap.size + 1) 38 _ (0, 0) _ rfl t2 Try.underlying38 rfl (by kernel_rfl)) rfl ⟨_, rfl, ⟨_, _, hv, H1.kept r1 _ _ _, H1.kept r2 _ _ _, r3, r4⟩, t1⟩
  · have HR := Lib.hid hR
    have hz : 0 = s := by rw [HE.out, fixq, if_neg hR]
    have HZ := Lib.hid hz
    have e0 : decide (RightP na lna lda) = false := decide_eq_false hR
    clear hz
    go_enter Try.func62, Try.ntmps62
    go_wp2_with fail
    refine (rright_calls _ _ na lna lda (hf.below H.bl) hsa).mono ?_
    rintro e w1 ⟨rfl, hb1⟩
    rw [e0]
    clear hR e0 j0 j1 j2
    go_wp2_with fail
    refine (rzero_calls _).mono ?_
    rintro e w2 ⟨v, rfl, hfr, hb2⟩
    rw [HZ.out] at hfr
    obtain ⟨B1, d1, B2, d2, rfl, r1, r2, r3, r4⟩ := FrIn.shape hfr
    have H1 := Held1.next hb2 (Held1.next hb1 H)
    obtain ⟨⟨x0, x1, x2, m0, m1, m2⟩, f1⟩ := H1.store
    go_wp2
    obtain ⟨t1, t2⟩ := H1.res (.bool (decide (s.num < 0))) (.slice B1 (dg s.num.natAbs).length d1) (.slice B2 (dg s.den).length d2)
    exact bodyPost_ret (results_cell_row rfl _ _ (w.heap.size + 1) 38 _ (0, 0) _ rfl t2 Try.underlying38 rfl (by kernel_rfl)) rfl ⟨_, rfl, ⟨_, _, rfl, H1.kept r1 _ _ _, H1.kept r2 _ _ _, r3, r4⟩, t1⟩
/-- product, of what is not right, too: a denominator that is a numerator. -/
theorem rproduct_any (w : World) (va vb : Value) (n1 n2 : Bool) (p1 d1 p2 d2 : Nat) (ha : FrIn w va n1 (dg p1) (dg d1)) (hb : FrIn w vb n2 (dg p2) (dg d2)) (h1 : 0 < d1) (h2 : 0 < d2) (ya : (dg p1).length ≤ 500000000) (yb : (dg d1).length ≤ 500000000) (yc : (dg p2).length ≤ 500000000) (yd : (dg d2).length ≤ 500000000)
    (s : Rat) (hse : mkRat (sgn (!(n1 == n2)) (p1 * p2)) (d1 * d2) = s) (hs : Short s) :
    Calls Try.prog 105 #[va, vb] w (FrPost s w) := by
  have HE := Lib.hid hse
  have hs' := hs
  rw [← hse] at hs'
  have HS := Lib.hid hs'
  obtain ⟨A, c, A2, c2, rfl, hn1', hd1', _, _⟩ := FrIn.shape ha
  obtain ⟨A3, c3, A4, c4, rfl, hn2', hd2', _, _⟩ := FrIn.shape hb
  have hn1 : Nm w (.slice A (dg p1).length c) p1 := hn1'
  have hd1 : Nm w (.slice A2 (dg d1).length c2) d1 := hd1'
  have hn2 : Nm w (.slice A3 (dg p2).length c3) p2 := hn2'
  have hd2 : Nm w (.slice A4 (dg d2).length c4) d2 := hd2'
  have yn := Nat.le_trans (dg_mul_le ya yc) (show 500000000 + 500000000 ≤ 1073741823 by omega)
  have yd' := Nat.le_trans (dg_mul_le yb yd) (show 500000000 + 500000000 ≤ 1073741823 by omega)
  have hD := Nat.mul_pos h1 h2
  have H := heldB_new w 38 38 (.bool n1) (.slice A (dg p1).length c) (.slice A2 (dg d1).length c2) (.bool n2) (.slice A3 (dg p2).length c3) (.slice A4 (dg d2).length c4) (.bool false) (.slice none 0 0) (.slice none 0 0) (boolne _) (slne _ _ _) (slne _ _ _)
  clear hn1' hd1' hn2' hd2' hse hs' ha hb
  go_enter Try.func105, Try.ntmps105
  go_wp2_with fail
  have hs := (HeldB.next (bl_drew _) H).cells
  go_region_held3 (fun w' => HeldB w 38 38 (.bool n1) (.slice A (dg p1).length c) (.slice A2 (dg d1).length c2) (.bool n2) (.slice A3 (dg p2).length c3) (.slice A4 (dg d2).length c4) w' ∧ (w'.cell? ⟨w.heap.size, 0, none⟩ = some (.bool n1) ∧ w'.cell? ⟨w.heap.size, 1, none⟩ = some (.slice A (dg p1).length c) ∧ w'.cell? ⟨w.heap.size, 2, none⟩ = some (.slice A2 (dg d1).length c2)) ∧ (w'.cell? ⟨w.heap.size + 1, 0, none⟩ = some (.bool n2) ∧ w'.cell? ⟨w.heap.size + 1, 1, none⟩ = some (.slice A3 (dg p2).length c3) ∧ w'.cell? ⟨w.heap.size + 1, 2, none⟩ = some (.slice A4 (dg d2).length c4)))
    ((first | exact hs | exact (HeldB.set H1 _ _ _ (boolne _) (slne _ _ _) (slne _ _ _)).cells | exact (HeldB.next hbN (And.left (by assumption))).cells))
    (first
    | (go_at_call 64; (with_reducible refine (rtimes_calls _ _ _ p1 p2 ?_ ?_ (by omega) (by omega)).mono ?_); (exact hn1.below (HeldB.bl (And.left (by assumption)))); (exact hn2.below (HeldB.bl (And.left (by assumption)))); (rintro e w' ⟨v, rfl, hv1, hbN⟩))
    | (go_at_call 64; (with_reducible refine (rtimes_calls _ _ _ d1 d2 ?_ ?_ (by omega) (by omega)).mono ?_); (exact hd1.below (HeldB.bl (And.left (by assumption)))); (exact hd2.below (HeldB.bl (And.left (by assumption)))); (rintro e w' ⟨v, rfl, hv2, hbN⟩); (have hb2 := hbN))
    | (go_at_call 85; (with_reducible refine (rlowest_calls _ _ _ (p1 * p2) (d1 * d2) (!(n1 == n2)) (Nm.next hb2 hv1) hv2 hD yn yd' HS.out).mono ?_); (rintro e w' ⟨v, rfl, hfr, hbN⟩); (rw [HE.out] at hfr); (obtain ⟨B1, k1, B2, k2, rfl, r1, r2, r3, r4⟩ := FrIn.shape hfr); (have H1 := HeldB.next hbN (And.left (by assumption))); (obtain ⟨⟨x0, x1, x2, m0, m1, m2⟩, f1⟩ := H1.store))
    )
  go_wp2
  obtain ⟨t1, t2⟩ := H1.res (.bool (decide (s.num < 0))) (.slice B1 (dg s.num.natAbs).length k1) (.slice B2 (dg s.den).length k2)
  exact bodyPost_ret (results_cell_row rfl _ _ (w.heap.size + 2) 38 _ (0, 0) _ rfl t2 Try.underlying38 rfl (by kernel_rfl)) rfl ⟨_, rfl, ⟨_, _, rfl, H1.kept r1 _ _ _, H1.kept r2 _ _ _, r3, r4⟩, t1⟩
theorem rproduct_calls (w : World) (va vb : Value) (q r : Rat) (ha : FrV w va q) (hb : FrV w vb r) (s1 : Szq 500000000 q) (s2 : Szq 500000000 r) (hs : Short (q * r)) :
    Calls Try.prog 105 #[va, vb] w (FrPost (q * r) w) :=
  rproduct_any w va vb _ _ _ _ _ _ ha hb q.den_pos r.den_pos s1.1 s1.2 s2.1 s2.2 _ (mk_mul q r) hs

set_option maxHeartbeats 4000000 in
theorem rsum_calls (w : World) (va vb : Value) (q r : Rat) (ha : FrV w va q) (hb : FrV w vb r) (s1 : Szq 500000000 q) (s2 : Szq 500000000 r) (hsh : Short (q + r)) :
    Calls Try.prog 80 #[va, vb] w (FrPost (q + r) w) := by
  obtain ⟨s, hse⟩ : ∃ s, s = q + r := ⟨_, rfl⟩
  rw [← hse] at hsh ⊢
  have HSE := Lib.hid hse
  obtain ⟨A, c, A2, c2, rfl, hn1', hd1', _, _⟩ := FrIn.shape ha
  obtain ⟨A3, c3, A4, c4, rfl, hn2', hd2', _, _⟩ := FrIn.shape hb
  have hn1 : Nm w (.slice A (dg q.num.natAbs).length c) q.num.natAbs := hn1'
  have hd1 : Nm w (.slice A2 (dg q.den).length c2) q.den := hd1'
  have hn2 : Nm w (.slice A3 (dg r.num.natAbs).length c3) r.num.natAbs := hn2'
  have hd2 : Nm w (.slice A4 (dg r.den).length c4) r.den := hd2'
  have ya : (dg q.num.natAbs).length ≤ 1073741824 := Nat.le_trans s1.1 (by omega)
  have yb : (dg q.den).length ≤ 1073741824 := Nat.le_trans s1.2 (by omega)
  have yc : (dg r.num.natAbs).length ≤ 1073741824 := Nat.le_trans s2.1 (by omega)
  have yd : (dg r.den).length ≤ 1073741824 := Nat.le_trans s2.2 (by omega)
  clear hn1' hd1' hn2' hd2'
  obtain ⟨n1, e1⟩ : ∃ n, n = decide (q.num < 0) := ⟨_, rfl⟩
  obtain ⟨n2, e2⟩ : ∃ n, n = decide (r.num < 0) := ⟨_, rfl⟩
  rw [← e1, ← e2]
  have H := heldB_new w 38 38 (.bool n1) (.slice A (dg q.num.natAbs).length c) (.slice A2 (dg q.den).length c2) (.bool n2) (.slice A3 (dg r.num.natAbs).length c3) (.slice A4 (dg r.den).length c4) (.bool false) (.slice none 0 0) (.slice none 0 0) (boolne _) (slne _ _ _) (slne _ _ _)
  have o2 : q.den ≠ r.den → OneDen q r n1 n2 (q.num.natAbs * r.den) (r.num.natAbs * q.den) (q.den * r.den) := fun _ =>
    ⟨Nat.mul_pos q.den_pos r.den_pos, mk_self_mul q n1 e1 _ r.den_pos, by rw [Nat.mul_comm q.den]; exact mk_self_mul r n2 e2 _ q.den_pos, dg_mul_le s1.1 s2.2, dg_mul_le s2.1 s1.2, dg_mul_le s1.2 s2.2⟩
  have o1 : q.den = r.den → OneDen q r n1 n2 q.num.natAbs r.num.natAbs q.den := fun h =>
    ⟨q.den_pos, mk_self q n1 e1, by rw [h]; exact mk_self r n2 e2, Nat.le_trans s1.1 (by omega), Nat.le_trans s2.1 (by omega), Nat.le_trans s1.2 (by omega)⟩
  have O1 := Lib.hid o1
  have O2 := Lib.hid o2
  have SH := Lib.hid hsh
  clear s1 s2 o1 o2 e1 e2 hsh hse ha hb
  go_enter Try.func80, Try.ntmps80
  go_wp2_with fail
  have hs := (HeldB.next (bl_drew _) H).cells
  go_region_held3 (fun w' => HeldB w 38 38 (.bool n1) (.slice A (dg q.num.natAbs).length c) (.slice A2 (dg q.den).length c2) (.bool n2) (.slice A3 (dg r.num.natAbs).length c3) (.slice A4 (dg r.den).length c4) w' ∧ (w'.cell? ⟨w.heap.size, 0, none⟩ = some (.bool n1) ∧ w'.cell? ⟨w.heap.size, 1, none⟩ = some (.slice A (dg q.num.natAbs).length c) ∧ w'.cell? ⟨w.heap.size, 2, none⟩ = some (.slice A2 (dg q.den).length c2)) ∧ (w'.cell? ⟨w.heap.size + 1, 0, none⟩ = some (.bool n2) ∧ w'.cell? ⟨w.heap.size + 1, 1, none⟩ = some (.slice A3 (dg r.num.natAbs).length c3) ∧ w'.cell? ⟨w.heap.size + 1, 2, none⟩ = some (.slice A4 (dg r.den).length c4)))
    ((first | exact hs | exact (HeldB.set H1 _ _ _ (boolne _) (slne _ _ _) (slne _ _ _)).cells | exact (HeldB.next hbN (And.left (by assumption))).cells))
    (fail)
  go_wp2_with fail
  refine (rorder_calls _ _ _ q.den r.den (hd1.below (HeldB.bl (HeldB.next (bl_drew _) H))) (hd2.below (HeldB.bl (HeldB.next (bl_drew _) H)))).mono ?_
  rintro e w1 ⟨rfl, hb1⟩
  have H1 := HeldB.next hb1 (HeldB.next (bl_drew _) H)
  go_upto_if 19 with fail
  go_cut [5, 6, 7] (fun s5 s6 s7 wx => PlusRel (HeldB w 38 38 (.bool n1) (.slice A (dg q.num.natAbs).length c) (.slice A2 (dg q.den).length c2) (.bool n2) (.slice A3 (dg r.num.natAbs).length c3) (.slice A4 (dg r.den).length c4)) q r n1 n2 s5 s6 s7 wx)
  case first =>
    by_cases hd : q.den = r.den
    · have e0 := ncmp_eq hd
      go_wp2
      go_meet
      case rel => exact ⟨_, _, _, hn1.below H1.bl, hn2.below H1.bl, hd1.below H1.bl, O1.out hd, H1⟩
    · have e0 := ncmp_ne hd
      go_wp2_with fail
      have hs := (HeldB.next (bl_drew _) H1).cells
      go_region_held3 (fun w' => HeldB w 38 38 (.bool n1) (.slice A (dg q.num.natAbs).length c) (.slice A2 (dg q.den).length c2) (.bool n2) (.slice A3 (dg r.num.natAbs).length c3) (.slice A4 (dg r.den).length c4) w' ∧ (w'.cell? ⟨w.heap.size, 0, none⟩ = some (.bool n1) ∧ w'.cell? ⟨w.heap.size, 1, none⟩ = some (.slice A (dg q.num.natAbs).length c) ∧ w'.cell? ⟨w.heap.size, 2, none⟩ = some (.slice A2 (dg q.den).length c2)) ∧ (w'.cell? ⟨w.heap.size + 1, 0, none⟩ = some (.bool n2) ∧ w'.cell? ⟨w.heap.size + 1, 1, none⟩ = some (.slice A3 (dg r.num.natAbs).length c3) ∧ w'.cell? ⟨w.heap.size + 1, 2, none⟩ = some (.slice A4 (dg r.den).length c4)))
        ((first | exact hs | exact (HeldB.set H1 _ _ _ (boolne _) (slne _ _ _) (slne _ _ _)).cells | exact (HeldB.next hbN (And.left (by assumption))).cells))
        (first
          | (go_at_call 64; (with_reducible refine (rtimes_calls _ _ _ q.num.natAbs r.den ?_ ?_ ya yd).mono ?_); (exact hn1.below (HeldB.bl (And.left (by assumption)))); (exact hd2.below (HeldB.bl (And.left (by assumption)))); (rintro e w' ⟨v, rfl, hv1, hbN⟩); (have hb1 := hbN))
          | (go_at_call 64; (with_reducible refine (rtimes_calls _ _ _ r.num.natAbs q.den ?_ ?_ yc yb).mono ?_); (exact hn2.below (HeldB.bl (And.left (by assumption)))); (exact hd1.below (HeldB.bl (And.left (by assumption)))); (rintro e w' ⟨v, rfl, hv2, hbN⟩); (have hb2 := hbN))
          | (go_at_call 64; (with_reducible refine (rtimes_calls _ _ _ q.den r.den ?_ ?_ yb yd).mono ?_); (exact hd1.below (HeldB.bl (And.left (by assumption)))); (exact hd2.below (HeldB.bl (And.left (by assumption)))); (rintro e w' ⟨v, rfl, hv3, hbN⟩); (have H3 := HeldB.next hbN (And.left (by assumption)))))
      go_wp2
      go_meet
      case rel => exact ⟨_, _, _, Nm.next hbN (Nm.next hb2 hv1), Nm.next hbN hv2, hv3, O2.out hd, H3⟩
  case rest =>
    obtain ⟨X, Y, D, hX, hY, hD, hO, HW⟩ := hcut
    obtain ⟨B5, k5, rfl⟩ := hX.shape
    obtain ⟨B6, k6, rfl⟩ := hY.shape
    obtain ⟨B7, k7, rfl⟩ := hD.shape
    clear hs H H1 O1 O2 ya yb yc yd hn1 hn2 hd1 hd2
    obtain ⟨_, ⟨p0, p1, p2⟩, ⟨p3, p4, p5⟩⟩ := HW.cells
    have hD0 := hO.1
    have sX := hO.2.2.2.1
    have sY := hO.2.2.2.2.1
    have sD := hO.2.2.2.2.2
    by_cases hn : n1 = n2
    · have hE := (hO.same hn).symm.trans HSE.out.symm
      have HE := Lib.hid hE
      have HS := Lib.hid (show Short (mkRat (sgn n1 (X + Y)) D) by rw [hE]; exact SH.out)
      have e1 : (n1 == n2) = true := by rw [hn]; exact beq_self_eq_true _
      have sS := dg_add_le sX sY
      clear hO hn hE
      go_wp2_with fail
      have hs := (HeldB.next (bl_drew _) HW).cells
      go_region_held3 (fun w' => HeldB w 38 38 (.bool n1) (.slice A (dg q.num.natAbs).length c) (.slice A2 (dg q.den).length c2) (.bool n2) (.slice A3 (dg r.num.natAbs).length c3) (.slice A4 (dg r.den).length c4) w' ∧ (w'.cell? ⟨w.heap.size, 0, none⟩ = some (.bool n1) ∧ w'.cell? ⟨w.heap.size, 1, none⟩ = some (.slice A (dg q.num.natAbs).length c) ∧ w'.cell? ⟨w.heap.size, 2, none⟩ = some (.slice A2 (dg q.den).length c2)) ∧ (w'.cell? ⟨w.heap.size + 1, 0, none⟩ = some (.bool n2) ∧ w'.cell? ⟨w.heap.size + 1, 1, none⟩ = some (.slice A3 (dg r.num.natAbs).length c3) ∧ w'.cell? ⟨w.heap.size + 1, 2, none⟩ = some (.slice A4 (dg r.den).length c4)))
        ((first | exact hs | exact (HeldB.set H1 _ _ _ (boolne _) (slne _ _ _) (slne _ _ _)).cells | exact (HeldB.next hbN (And.left (by assumption))).cells))
        (first
          | (go_at_call 107; (with_reducible refine (rplus_calls _ _ _ X Y (Nm.next (bl_drew _) hX) (Nm.next (bl_drew _) hY) (by omega) (by omega)).mono ?_); (rintro e w' ⟨v, rfl, hv, hbN⟩))
          | (go_at_call 85; (with_reducible refine (rlowest_calls _ _ _ (X + Y) D n1 hv (Nm.next hbN (Nm.next (bl_drew _) hD)) hD0 (by omega) (by omega) HS.out).mono ?_); (rintro e w' ⟨v, rfl, hfr, hbN⟩); (rw [HE.out] at hfr); (obtain ⟨B1, d1, B2, d2, rfl, r1, r2, r3, r4⟩ := FrIn.shape hfr); (have H1 := HeldB.next hbN (And.left (by assumption))); (obtain ⟨⟨x0, x1, x2, m0, m1, m2⟩, f1⟩ := H1.store)))
      go_wp2
      obtain ⟨t1, t2⟩ := H1.res (.bool (decide (s.num < 0))) (.slice B1 (dg s.num.natAbs).length d1) (.slice B2 (dg s.den).length d2)
      exact bodyPost_ret (results_cell_row rfl _ _ (w.heap.size + 2) 38 _ (0, 0) _ rfl t2 Try.underlying38 rfl (by kernel_rfl)) rfl ⟨_, rfl, ⟨_, _, rfl, H1.kept r1 _ _ _, H1.kept r2 _ _ _, r3, r4⟩, t1⟩
    · have e1 : (n1 == n2) = false := beq_eq_false_iff_ne.2 hn
      have HO := Lib.hid hO
      have HN := Lib.hid hn
      clear hO hn
      go_wp2_with fail
      refine (rorder_calls _ _ _ X Y hX hY).mono ?_
      rintro e wd ⟨rfl, hbd⟩
      replace HW := HeldB.next hbd HW
      replace hX := hX.below hbd
      replace hY := hY.below hbd
      replace hD := hD.below hbd
      clear p0 p1 p2 p3 p4 p5
      obtain ⟨_, ⟨p0, p1, p2⟩, ⟨p3, p4, p5⟩⟩ := HW.cells
      by_cases hc : X < Y
      · have e0 := ncmp_lt hc
        have hE := (HO.out.less HN.out (Nat.le_of_lt hc)).symm.trans HSE.out.symm
        have HE := Lib.hid hE
        have HS := Lib.hid (show Short (mkRat (sgn n2 (Y - X)) D) by rw [hE]; exact SH.out)
        have sS : (dg (Y - X)).length ≤ 1000000000 := Nat.le_trans (dg_len_mono (Nat.sub_le _ _)) sY
        rw [e0]
        clear hE
        go_wp2_with fail
        have hs := (HeldB.next (bl_drew _) HW).cells
        go_region_held3 (fun w' => HeldB w 38 38 (.bool n1) (.slice A (dg q.num.natAbs).length c) (.slice A2 (dg q.den).length c2) (.bool n2) (.slice A3 (dg r.num.natAbs).length c3) (.slice A4 (dg r.den).length c4) w' ∧ (w'.cell? ⟨w.heap.size, 0, none⟩ = some (.bool n1) ∧ w'.cell? ⟨w.heap.size, 1, none⟩ = some (.slice A (dg q.num.natAbs).length c) ∧ w'.cell? ⟨w.heap.size, 2, none⟩ = some (.slice A2 (dg q.den).length c2)) ∧ (w'.cell? ⟨w.heap.size + 1, 0, none⟩ = some (.bool n2) ∧ w'.cell? ⟨w.heap.size + 1, 1, none⟩ = some (.slice A3 (dg r.num.natAbs).length c3) ∧ w'.cell? ⟨w.heap.size + 1, 2, none⟩ = some (.slice A4 (dg r.den).length c4)))
          ((first | exact hs | exact (HeldB.set H1 _ _ _ (boolne _) (slne _ _ _) (slne _ _ _)).cells | exact (HeldB.next hbN (And.left (by assumption))).cells))
          (first
          | (go_at_call 108; (with_reducible refine (rminus_calls _ _ _ Y X (Nm.next (bl_drew _) hY) (Nm.next (bl_drew _) hX) (Nat.le_of_lt hc) (by omega)).mono ?_); (rintro e w' ⟨v, rfl, hv, hbN⟩))
          | (go_at_call 85; (with_reducible refine (rlowest_calls _ _ _ (Y - X) D n2 hv (Nm.next hbN (Nm.next (bl_drew _) hD)) hD0 (by omega) (by omega) HS.out).mono ?_); (rintro e w' ⟨v, rfl, hfr, hbN⟩); (rw [HE.out] at hfr); (obtain ⟨B1, d1, B2, d2, rfl, r1, r2, r3, r4⟩ := FrIn.shape hfr); (have H1 := HeldB.next hbN (And.left (by assumption))); (obtain ⟨⟨x0, x1, x2, m0, m1, m2⟩, f1⟩ := H1.store)))
        go_wp2
        obtain ⟨t1, t2⟩ := H1.res (.bool (decide (s.num < 0))) (.slice B1 (dg s.num.natAbs).length d1) (.slice B2 (dg s.den).length d2)
        exact bodyPost_ret (results_cell_row rfl _ _ (w.heap.size + 2) 38 _ (0, 0) _ rfl t2 Try.underlying38 rfl (by kernel_rfl)) rfl ⟨_, rfl, ⟨_, _, rfl, H1.kept r1 _ _ _, H1.kept r2 _ _ _, r3, r4⟩, t1⟩
      · have e0 := ncmp_nonneg (Nat.le_of_not_lt hc)
        have hE := (HO.out.more HN.out (Nat.le_of_not_lt hc)).symm.trans HSE.out.symm
        have HE := Lib.hid hE
        have HS := Lib.hid (show Short (mkRat (sgn n1 (X - Y)) D) by rw [hE]; exact SH.out)
        have sS : (dg (X - Y)).length ≤ 1000000000 := Nat.le_trans (dg_len_mono (Nat.sub_le _ _)) sX
        clear hE
        go_wp2_with fail
        have hs := (HeldB.next (bl_drew _) HW).cells
        go_region_held3 (fun w' => HeldB w 38 38 (.bool n1) (.slice A (dg q.num.natAbs).length c) (.slice A2 (dg q.den).length c2) (.bool n2) (.slice A3 (dg r.num.natAbs).length c3) (.slice A4 (dg r.den).length c4) w' ∧ (w'.cell? ⟨w.heap.size, 0, none⟩ = some (.bool n1) ∧ w'.cell? ⟨w.heap.size, 1, none⟩ = some (.slice A (dg q.num.natAbs).length c) ∧ w'.cell? ⟨w.heap.size, 2, none⟩ = some (.slice A2 (dg q.den).length c2)) ∧ (w'.cell? ⟨w.heap.size + 1, 0, none⟩ = some (.bool n2) ∧ w'.cell? ⟨w.heap.size + 1, 1, none⟩ = some (.slice A3 (dg r.num.natAbs).length c3) ∧ w'.cell? ⟨w.heap.size + 1, 2, none⟩ = some (.slice A4 (dg r.den).length c4)))
          ((first | exact hs | exact (HeldB.set H1 _ _ _ (boolne _) (slne _ _ _) (slne _ _ _)).cells | exact (HeldB.next hbN (And.left (by assumption))).cells))
          (first
          | (go_at_call 108; (with_reducible refine (rminus_calls _ _ _ X Y (Nm.next (bl_drew _) hX) (Nm.next (bl_drew _) hY) (Nat.le_of_not_lt hc) (by omega)).mono ?_); (rintro e w' ⟨v, rfl, hv, hbN⟩))
          | (go_at_call 85; (with_reducible refine (rlowest_calls _ _ _ (X - Y) D n1 hv (Nm.next hbN (Nm.next (bl_drew _) hD)) hD0 (by omega) (by omega) HS.out).mono ?_); (rintro e w' ⟨v, rfl, hfr, hbN⟩); (rw [HE.out] at hfr); (obtain ⟨B1, d1, B2, d2, rfl, r1, r2, r3, r4⟩ := FrIn.shape hfr); (have H1 := HeldB.next hbN (And.left (by assumption))); (obtain ⟨⟨x0, x1, x2, m0, m1, m2⟩, f1⟩ := H1.store)))
        go_wp2
        obtain ⟨t1, t2⟩ := H1.res (.bool (decide (s.num < 0))) (.slice B1 (dg s.num.natAbs).length d1) (.slice B2 (dg s.den).length d2)
        exact bodyPost_ret (results_cell_row rfl _ _ (w.heap.size + 2) 38 _ (0, 0) _ rfl t2 Try.underlying38 rfl (by kernel_rfl)) rfl ⟨_, rfl, ⟨_, _, rfl, H1.kept r1 _ _ _, H1.kept r2 _ _ _, r3, r4⟩, t1⟩

theorem Held1.box {w w1 : World} {tb tr : Nat} {a0 a1 a2 : Value} (h : Held1 w tb tr a0 a1 a2 w1) (y0 y1 y2 : Value) : Held1 w tb tr y0 y1 y2 (((w1.setCell ⟨w.heap.size, 0, none⟩ y0).setCell ⟨w.heap.size, 1, none⟩ y1).setCell ⟨w.heap.size, 2, none⟩ y2) := by
  obtain ⟨h0, h1, x0, x1, x2, h3, h4⟩ := h
  exact ⟨three_below h0 (Nat.le_refl _) _ _ _, blk3 h1 _ _ _, x0, x1, x2, h3, ((h4.other _ _ (by simp)).other _ _ (by simp)).other _ _ (by simp)⟩
theorem FrV.neg {w : World} {v1 v2 : Value} {q : Rat} {b : Bool} (h0 : q.num.natAbs ≠ 0) (hb : b = decide (q.num < 0)) (r1 : RdI .u32 w v1 (dg q.num.natAbs)) (r2 : RdI .u32 w v2 (dg q.den)) : FrV w (.agg #[.bool (!b), v1, v2]) (-q) := by
  refine ⟨v1, v2, ?_, by rw [Rat.neg_num, Int.natAbs_neg]; exact r1, by rw [Rat.neg_den]; exact r2, Wd_dg _, Wd_dg _⟩
  rw [hb, Rat.neg_num]
  by_cases h : q.num < 0
  · simp [h]; omega
  · simp [h]; omega
theorem rneg_calls (w : World) (va : Value) (na : Bool) (lna lda : List Int) (ha : FrIn w va na lna lda) (hsa : lna.length + lda.length ≤ 4096) :
    Calls Try.prog 97 #[va] w (FrPost (-(fixq na lna lda)) w) := by
  have hf := ha
  obtain ⟨A, c, A2, c2, rfl, _, _, _, _⟩ := ha.shape
  have H := held1_new w 38 38 (.bool na) (.slice A lna.length c) (.slice A2 lda.length c2) (.bool false) (.slice none 0 0) (.slice none 0 0) (boolne _) (slne _ _ _) (slne _ _ _)
  obtain ⟨_, ⟨j0, j1, j2⟩⟩ := H.cells
  obtain ⟨q, hq⟩ : ∃ q, q = fixq na lna lda := ⟨_, rfl⟩
  have HQ := Lib.hid hq
  rw [← hq]
  clear hq
  go_enter Try.func97, Try.ntmps97
  go_wp2_with fail
  refine (rfix_calls _ _ na lna lda (hf.below H.bl) hsa).mono ?_
  rintro e w1 ⟨v, rfl, hfr, hb1⟩
  rw [← HQ.out] at hfr
  have H1 := Held1.next hb1 H
  clear j0 j1 j2
  obtain ⟨_, ⟨j0, j1, j2⟩⟩ := H1.cells
  have jf := H1.2.1.free
  obtain ⟨⟨x0, x1, x2, m0, m1, m2⟩, f1⟩ := H1.store
  obtain ⟨B1, d1, B2, d2, rfl, r1, r2, r3, r4⟩ := FrIn.shape hfr
  obtain ⟨b, hb⟩ : ∃ b, b = decide (q.num < 0) := ⟨_, rfl⟩
  rw [← hb] at hfr ⊢
  have HB := Lib.hid hb
  clear hb
  by_cases h0 : (dg q.num.natAbs).length = 0
  · have H0 := Lib.hid h0
    rw [h0] at hfr ⊢
    clear h0
    go_wp2
    have H2 := H1.box (.bool b) (.slice B1 0 d1) (.slice B2 (dg q.den).length d2)
    have hz : q.num.natAbs = 0 := dg_len_zero.1 H0.out
    have hq : -q = q := by rw [show q = 0 from Rat.num_eq_zero.1 (by omega)]; rfl
    rw [H0.out] at r1
    obtain ⟨t1, t2⟩ := H2.res (.bool b) (.slice B1 0 d1) (.slice B2 (dg q.den).length d2)
    refine bodyPost_ret (results_cell_row rfl _ _ (w.heap.size + 1) 38 _ (0, 0) _ rfl t2 Try.underlying38 rfl (by kernel_rfl)) rfl ⟨_, rfl, ?_, t1⟩
    rw [hq]
    exact ⟨_, _, by rw [← HB.out], H2.kept (r1.three j0 j1 j2 (boolne _) (slne _ _ _) (slne _ _ _) _ _ _) _ _ _, H2.kept (r2.three j0 j1 j2 (boolne _) (slne _ _ _) (slne _ _ _) _ _ _) _ _ _, r3, r4⟩
  · have g0 : (((dg q.num.natAbs).length : Int) == 0) = false := int_ne0 (by omega)
    have H0 := Lib.hid h0
    clear h0
    go_wp2
    have H2 := H1.box (.bool b) (.slice B1 (dg q.num.natAbs).length d1) (.slice B2 (dg q.den).length d2)
    obtain ⟨t1, t2⟩ := H2.res (.bool (!b)) (.slice B1 (dg q.num.natAbs).length d1) (.slice B2 (dg q.den).length d2)
    exact bodyPost_ret (results_cell_row rfl _ _ (w.heap.size + 1) 38 _ (0, 0) _ rfl t2 Try.underlying38 rfl (by kernel_rfl)) rfl ⟨_, rfl, FrV.neg (fun h => H0.out (dg_len_zero.2 h)) HB.out (H2.kept (r1.three j0 j1 j2 (boolne _) (slne _ _ _) (slne _ _ _) _ _ _) _ _ _) (H2.kept (r2.three j0 j1 j2 (boolne _) (slne _ _ _) (slne _ _ _) _ _ _) _ _ _), t1⟩
theorem radd_calls (w : World) (va vb : Value) (na nb : Bool) (lna lda lnb ldb : List Int) (ha : FrIn w va na lna lda) (hb : FrIn w vb nb lnb ldb) (hsa : lna.length + lda.length ≤ 4096) (hsb : lnb.length + ldb.length ≤ 4096) (hres : Short ((fixq na lna lda) + (fixq nb lnb ldb))) :
    Calls Try.prog 41 #[va, vb] w (FrPost ((fixq na lna lda) + (fixq nb lnb ldb)) w) := by
  obtain ⟨s, hse⟩ : ∃ s, s = (fixq na lna lda) + (fixq nb lnb ldb) := ⟨_, rfl⟩
  rw [← hse]
  have HE := Lib.hid hse
  clear hse
  have s1 : Szq 500000000 (fixq na lna lda) := (szq_fix (k := 4097) ha.wd.1 ha.wd.2 (by omega) (by omega) (by omega)).big (by omega)
  have s2 : Szq 500000000 (fixq nb lnb ldb) := (szq_fix (k := 4097) hb.wd.1 hb.wd.2 (by omega) (by omega) (by omega)).big (by omega)
  obtain ⟨A, c, A2, c2, rfl, _, _, _, _⟩ := ha.shape
  obtain ⟨A3, c3, A4, c4, rfl, _, _, _, _⟩ := hb.shape
  have H := heldB_new w 38 38 (.bool na) (.slice A lna.length c) (.slice A2 lda.length c2) (.bool nb) (.slice A3 lnb.length c3) (.slice A4 ldb.length c4) (.bool false) (.slice none 0 0) (.slice none 0 0) (boolne _) (slne _ _ _) (slne _ _ _)
  go_enter Try.func41, Try.ntmps41
  go_wp2_with fail
  have hs := (HeldB.next (bl_drew _) H).cells
  go_region_held3 (fun w' => HeldB w 38 38 (.bool na) (.slice A lna.length c) (.slice A2 lda.length c2) (.bool nb) (.slice A3 lnb.length c3) (.slice A4 ldb.length c4) w' ∧ (w'.cell? ⟨w.heap.size, 0, none⟩ = some (.bool na) ∧ w'.cell? ⟨w.heap.size, 1, none⟩ = some (.slice A lna.length c) ∧ w'.cell? ⟨w.heap.size, 2, none⟩ = some (.slice A2 lda.length c2)) ∧ (w'.cell? ⟨w.heap.size + 1, 0, none⟩ = some (.bool nb) ∧ w'.cell? ⟨w.heap.size + 1, 1, none⟩ = some (.slice A3 lnb.length c3) ∧ w'.cell? ⟨w.heap.size + 1, 2, none⟩ = some (.slice A4 ldb.length c4)))
    ((first | exact hs | exact (HeldB.set H1 _ _ _ (boolne _) (slne _ _ _) (slne _ _ _)).cells | exact (HeldB.next hbN (And.left (by assumption))).cells))
    (first
    | (go_at_call 62; (with_reducible refine (rfix_calls _ _ na lna lda ?_ hsa).mono ?_); (exact ha.below (HeldB.bl (And.left (by assumption)))); (rintro e w' ⟨v, rfl, hva, hbN⟩))
    | (go_at_call 62; (with_reducible refine (rfix_calls _ _ nb lnb ldb ?_ hsb).mono ?_); (exact hb.below (HeldB.bl (And.left (by assumption)))); (rintro e w' ⟨v, rfl, hvb, hbN⟩))
    | (go_at_call 80; (with_reducible refine (rsum_calls _ _ _ (fixq na lna lda) (fixq nb lnb ldb) (FrV.below hva hbN) hvb s1 s2 hres).mono ?_); (rintro e w' ⟨v, rfl, hfr, hbN⟩); (rw [← HE.out] at hfr); (obtain ⟨B1, d1, B2, d2, rfl, r1, r2, r3, r4⟩ := FrIn.shape hfr); (have H1 := HeldB.next hbN (And.left (by assumption))); (obtain ⟨⟨x0, x1, x2, m0, m1, m2⟩, f1⟩ := H1.store))
    )
  go_wp2
  obtain ⟨t1, t2⟩ := H1.res (.bool (decide (s.num < 0))) (.slice B1 (dg s.num.natAbs).length d1) (.slice B2 (dg s.den).length d2)
  exact bodyPost_ret (results_cell_row rfl _ _ (w.heap.size + 2) 38 _ (0, 0) _ rfl t2 Try.underlying38 rfl (by kernel_rfl)) rfl ⟨_, rfl, ⟨_, _, rfl, H1.kept r1 _ _ _, H1.kept r2 _ _ _, r3, r4⟩, t1⟩
theorem rsub_calls (w : World) (va vb : Value) (na nb : Bool) (lna lda lnb ldb : List Int) (ha : FrIn w va na lna lda) (hb : FrIn w vb nb lnb ldb) (hsa : lna.length + lda.length ≤ 4096) (hsb : lnb.length + ldb.length ≤ 4096) (hres : Short ((fixq na lna lda) + -(fixq nb lnb ldb))) :
    Calls Try.prog 66 #[va, vb] w (FrPost ((fixq na lna lda) + -(fixq nb lnb ldb)) w) := by
  obtain ⟨s, hse⟩ : ∃ s, s = (fixq na lna lda) + -(fixq nb lnb ldb) := ⟨_, rfl⟩
  rw [← hse]
  have HE := Lib.hid hse
  clear hse
  have s1 : Szq 500000000 (fixq na lna lda) := (szq_fix (k := 4097) ha.wd.1 ha.wd.2 (by omega) (by omega) (by omega)).big (by omega)
  have s2 : Szq 500000000 (fixq nb lnb ldb) := (szq_fix (k := 4097) hb.wd.1 hb.wd.2 (by omega) (by omega) (by omega)).big (by omega)
  obtain ⟨A, c, A2, c2, rfl, _, _, _, _⟩ := ha.shape
  obtain ⟨A3, c3, A4, c4, rfl, _, _, _, _⟩ := hb.shape
  have H := heldB_new w 38 38 (.bool na) (.slice A lna.length c) (.slice A2 lda.length c2) (.bool nb) (.slice A3 lnb.length c3) (.slice A4 ldb.length c4) (.bool false) (.slice none 0 0) (.slice none 0 0) (boolne _) (slne _ _ _) (slne _ _ _)
  go_enter Try.func66, Try.ntmps66
  go_wp2_with fail
  have hs := (HeldB.next (bl_drew _) H).cells
  go_region_held3 (fun w' => HeldB w 38 38 (.bool na) (.slice A lna.length c) (.slice A2 lda.length c2) (.bool nb) (.slice A3 lnb.length c3) (.slice A4 ldb.length c4) w' ∧ (w'.cell? ⟨w.heap.size, 0, none⟩ = some (.bool na) ∧ w'.cell? ⟨w.heap.size, 1, none⟩ = some (.slice A lna.length c) ∧ w'.cell? ⟨w.heap.size, 2, none⟩ = some (.slice A2 lda.length c2)) ∧ (w'.cell? ⟨w.heap.size + 1, 0, none⟩ = some (.bool nb) ∧ w'.cell? ⟨w.heap.size + 1, 1, none⟩ = some (.slice A3 lnb.length c3) ∧ w'.cell? ⟨w.heap.size + 1, 2, none⟩ = some (.slice A4 ldb.length c4)))
    ((first | exact hs | exact (HeldB.set H1 _ _ _ (boolne _) (slne _ _ _) (slne _ _ _)).cells | exact (HeldB.next hbN (And.left (by assumption))).cells))
    (first
    | (go_at_call 62; (with_reducible refine (rfix_calls _ _ na lna lda ?_ hsa).mono ?_); (exact ha.below (HeldB.bl (And.left (by assumption)))); (rintro e w' ⟨v, rfl, hva, hbN⟩))
    | (go_at_call 97; (with_reducible refine (rneg_calls _ _ nb lnb ldb ?_ hsb).mono ?_); (exact hb.below (HeldB.bl (And.left (by assumption)))); (rintro e w' ⟨v, rfl, hvb, hbN⟩))
    | (go_at_call 80; (with_reducible refine (rsum_calls _ _ _ (fixq na lna lda) (-(fixq nb lnb ldb)) (FrV.below hva hbN) hvb s1 (szq_neg s2) hres).mono ?_); (rintro e w' ⟨v, rfl, hfr, hbN⟩); (rw [← HE.out] at hfr); (obtain ⟨B1, d1, B2, d2, rfl, r1, r2, r3, r4⟩ := FrIn.shape hfr); (have H1 := HeldB.next hbN (And.left (by assumption))); (obtain ⟨⟨x0, x1, x2, m0, m1, m2⟩, f1⟩ := H1.store))
    )
  go_wp2
  obtain ⟨t1, t2⟩ := H1.res (.bool (decide (s.num < 0))) (.slice B1 (dg s.num.natAbs).length d1) (.slice B2 (dg s.den).length d2)
  exact bodyPost_ret (results_cell_row rfl _ _ (w.heap.size + 2) 38 _ (0, 0) _ rfl t2 Try.underlying38 rfl (by kernel_rfl)) rfl ⟨_, rfl, ⟨_, _, rfl, H1.kept r1 _ _ _, H1.kept r2 _ _ _, r3, r4⟩, t1⟩
theorem rmul_calls (w : World) (va vb : Value) (na nb : Bool) (lna lda lnb ldb : List Int) (ha : FrIn w va na lna lda) (hb : FrIn w vb nb lnb ldb) (hsa : lna.length + lda.length ≤ 4096) (hsb : lnb.length + ldb.length ≤ 4096) (hres : Short ((fixq na lna lda) * (fixq nb lnb ldb))) :
    Calls Try.prog 76 #[va, vb] w (FrPost ((fixq na lna lda) * (fixq nb lnb ldb)) w) := by
  obtain ⟨s, hse⟩ : ∃ s, s = (fixq na lna lda) * (fixq nb lnb ldb) := ⟨_, rfl⟩
  rw [← hse]
  have HE := Lib.hid hse
  clear hse
  have s1 : Szq 500000000 (fixq na lna lda) := (szq_fix (k := 4097) ha.wd.1 ha.wd.2 (by omega) (by omega) (by omega)).big (by omega)
  have s2 : Szq 500000000 (fixq nb lnb ldb) := (szq_fix (k := 4097) hb.wd.1 hb.wd.2 (by omega) (by omega) (by omega)).big (by omega)
  obtain ⟨A, c, A2, c2, rfl, _, _, _, _⟩ := ha.shape
  obtain ⟨A3, c3, A4, c4, rfl, _, _, _, _⟩ := hb.shape
  have H := heldB_new w 38 38 (.bool na) (.slice A lna.length c) (.slice A2 lda.length c2) (.bool nb) (.slice A3 lnb.length c3) (.slice A4 ldb.length c4) (.bool false) (.slice none 0 0) (.slice none 0 0) (boolne _) (slne _ _ _) (slne _ _ _)
  go_enter Try.func76, Try.ntmps76
  go_wp2_with fail
  have hs := (HeldB.next (bl_drew _) H).cells
  go_region_held3 (fun w' => HeldB w 38 38 (.bool na) (.slice A lna.length c) (.slice A2 lda.length c2) (.bool nb) (.slice A3 lnb.length c3) (.slice A4 ldb.length c4) w' ∧ (w'.cell? ⟨w.heap.size, 0, none⟩ = some (.bool na) ∧ w'.cell? ⟨w.heap.size, 1, none⟩ = some (.slice A lna.length c) ∧ w'.cell? ⟨w.heap.size, 2, none⟩ = some (.slice A2 lda.length c2)) ∧ (w'.cell? ⟨w.heap.size + 1, 0, none⟩ = some (.bool nb) ∧ w'.cell? ⟨w.heap.size + 1, 1, none⟩ = some (.slice A3 lnb.length c3) ∧ w'.cell? ⟨w.heap.size + 1, 2, none⟩ = some (.slice A4 ldb.length c4)))
    ((first | exact hs | exact (HeldB.set H1 _ _ _ (boolne _) (slne _ _ _) (slne _ _ _)).cells | exact (HeldB.next hbN (And.left (by assumption))).cells))
    (first
    | (go_at_call 62; (with_reducible refine (rfix_calls _ _ na lna lda ?_ hsa).mono ?_); (exact ha.below (HeldB.bl (And.left (by assumption)))); (rintro e w' ⟨v, rfl, hva, hbN⟩))
    | (go_at_call 62; (with_reducible refine (rfix_calls _ _ nb lnb ldb ?_ hsb).mono ?_); (exact hb.below (HeldB.bl (And.left (by assumption)))); (rintro e w' ⟨v, rfl, hvb, hbN⟩))
    | (go_at_call 105; (with_reducible refine (rproduct_calls _ _ _ (fixq na lna lda) (fixq nb lnb ldb) (FrV.below hva hbN) hvb s1 s2 hres).mono ?_); (rintro e w' ⟨v, rfl, hfr, hbN⟩); (rw [← HE.out] at hfr); (obtain ⟨B1, d1, B2, d2, rfl, r1, r2, r3, r4⟩ := FrIn.shape hfr); (have H1 := HeldB.next hbN (And.left (by assumption))); (obtain ⟨⟨x0, x1, x2, m0, m1, m2⟩, f1⟩ := H1.store))
    )
  go_wp2
  obtain ⟨t1, t2⟩ := H1.res (.bool (decide (s.num < 0))) (.slice B1 (dg s.num.natAbs).length d1) (.slice B2 (dg s.den).length d2)
  exact bodyPost_ret (results_cell_row rfl _ _ (w.heap.size + 2) 38 _ (0, 0) _ rfl t2 Try.underlying38 rfl (by kernel_rfl)) rfl ⟨_, rfl, ⟨_, _, rfl, H1.kept r1 _ _ _, H1.kept r2 _ _ _, r3, r4⟩, t1⟩

end Go.Proofs.Ytajckdheecgceaa
