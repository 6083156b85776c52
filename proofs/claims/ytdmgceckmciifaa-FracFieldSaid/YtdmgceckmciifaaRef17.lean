/- The reference: sum. -/
import Derived.Test.YtdmgceckmciifaaRef16
set_option linter.unusedVariables false
set_option linter.unusedSimpArgs false
namespace Go.Proofs.Ytdmgceckmciifaa
open Go.RowKit

set_option maxHeartbeats 4000000 in
theorem rsum_calls (w : World) (va vb : Value) (q r : Rat) (ha : FrV w va q) (hb : FrV w vb r) (s1 : Szq 500000000 q) (s2 : Szq 500000000 r) (hsh : Short (q + r)) :
    Calls Try.prog 80 #[va, vb] w (FrPost (q + r) w) := by
  obtain ⟨s, hse⟩ : ∃ s, s = q + r := ⟨_, rfl⟩
  rw [← hse] at hsh ⊢
  have HSE := Lib.hid hse
  obtain ⟨A, c, A2, c2, rfl, hn1', hd1', _, _⟩ := FrIn.shape ha
  obtain ⟨A3, c3, A4, c4, rfl, hn2', hd2', _, _⟩ := FrIn.shape hb
  have hn1 : Nm w (.slice A (dg q.num.natAbs).length c) q.num.natAbs := hn1'
  have hd1 : Nm w (.slice A2 (dg q.den).length c2) q.den := hd1'
  have hn2 : Nm w (.slice A3 (dg r.num.natAbs).length c3) r.num.natAbs := hn2'
  have hd2 : Nm w (.slice A4 (dg r.den).length c4) r.den := hd2'
  have ya : (dg q.num.natAbs).length ≤ 1073741824 := Nat.le_trans s1.1 (by omega)
  have yb : (dg q.den).length ≤ 1073741824 := Nat.le_trans s1.2 (by omega)
  have yc : (dg r.num.natAbs).length ≤ 1073741824 := Nat.le_trans s2.1 (by omega)
  have yd : (dg r.den).length ≤ 1073741824 := Nat.le_trans s2.2 (by omega)
  clear hn1' hd1' hn2' hd2'
  obtain ⟨n1, e1⟩ : ∃ n, n = decide (q.num < 0) := ⟨_, rfl⟩
  obtain ⟨n2, e2⟩ : ∃ n, n = decide (r.num < 0) := ⟨_, rfl⟩
  rw [← e1, ← e2]
  have H := heldB_new w 24 24 (.bool n1) (.slice A (dg q.num.natAbs).length c) (.slice A2 (dg q.den).length c2) (.bool n2) (.slice A3 (dg r.num.natAbs).length c3) (.slice A4 (dg r.den).length c4) (.bool false) (.slice none 0 0) (.slice none 0 0) (boolne _) (slne _ _ _) (slne _ _ _)
  have o2 : q.den ≠ r.den → OneDen q r n1 n2 (q.num.natAbs * r.den) (r.num.natAbs * q.den) (q.den * r.den) := fun _ =>
    ⟨Nat.mul_pos q.den_pos r.den_pos, mk_self_mul q n1 e1 _ r.den_pos, by rw [Nat.mul_comm q.den]; exact mk_self_mul r n2 e2 _ q.den_pos, dg_mul_le s1.1 s2.2, dg_mul_le s2.1 s1.2, dg_mul_le s1.2 s2.2⟩
  have o1 : q.den = r.den → OneDen q r n1 n2 q.num.natAbs r.num.natAbs q.den := fun h =>
    ⟨q.den_pos, mk_self q n1 e1, by rw [h]; exact mk_self r n2 e2, Nat.le_trans s1.1 (by omega), Nat.le_trans s2.1 (by omega), Nat.le_trans s1.2 (by omega)⟩
  have O1 := Lib.hid o1
  have O2 := Lib.hid o2
  have SH := Lib.hid hsh
  clear s1 s2 o1 o2 e1 e2 hsh hse ha hb
  go_enter Try.func80, Try.ntmps80
  go_wp2_with fail
  have hs := (HeldB.next (bl_drew _) H).cells
  go_region_held3 (fun w' => HeldB w 24 24 (.bool n1) (.slice A (dg q.num.natAbs).length c) (.slice A2 (dg q.den).length c2) (.bool n2) (.slice A3 (dg r.num.natAbs).length c3) (.slice A4 (dg r.den).length c4) w' ∧ (w'.cell? ⟨w.heap.size, 0, none⟩ = some (.bool n1) ∧ w'.cell? ⟨w.heap.size, 1, none⟩ = some (.slice A (dg q.num.natAbs).length c) ∧ w'.cell? ⟨w.heap.size, 2, none⟩ = some (.slice A2 (dg q.den).length c2)) ∧ (w'.cell? ⟨w.heap.size + 1, 0, none⟩ = some (.bool n2) ∧ w'.cell? ⟨w.heap.size + 1, 1, none⟩ = some (.slice A3 (dg r.num.natAbs).length c3) ∧ w'.cell? ⟨w.heap.size + 1, 2, none⟩ = some (.slice A4 (dg r.den).length c4)))
    ((first | exact hs | exact (HeldB.set H1 _ _ _ (boolne _) (slne _ _ _) (slne _ _ _)).cells | exact (HeldB.next hbN (And.left (by assumption))).cells))
    (fail)
  go_wp2_with fail
  refine (rorder_calls _ _ _ q.den r.den (hd1.below (HeldB.bl (HeldB.next (bl_drew _) H))) (hd2.below (HeldB.bl (HeldB.next (bl_drew _) H)))).mono ?_
  rintro e w1 ⟨rfl, hb1⟩
  have H1 := HeldB.next hb1 (HeldB.next (bl_drew _) H)
  go_upto_if 19 with fail
  go_cut [5, 6, 7] (fun s5 s6 s7 wx => PlusRel (HeldB w 24 24 (.bool n1) (.slice A (dg q.num.natAbs).length c) (.slice A2 (dg q.den).length c2) (.bool n2) (.slice A3 (dg r.num.natAbs).length c3) (.slice A4 (dg r.den).length c4)) q r n1 n2 s5 s6 s7 wx)
  case first =>
    by_cases hd : q.den = r.den
    · have e0 := ncmp_eq hd
      go_wp2
      go_meet
      case rel => exact ⟨_, _, _, hn1.below H1.bl, hn2.below H1.bl, hd1.below H1.bl, O1.out hd, H1⟩
    · have e0 := ncmp_ne hd
      go_wp2_with fail
      have hs := (HeldB.next (bl_drew _) H1).cells
      go_region_held3 (fun w' => HeldB w 24 24 (.bool n1) (.slice A (dg q.num.natAbs).length c) (.slice A2 (dg q.den).length c2) (.bool n2) (.slice A3 (dg r.num.natAbs).length c3) (.slice A4 (dg r.den).length c4) w' ∧ (w'.cell? ⟨w.heap.size, 0, none⟩ = some (.bool n1) ∧ w'.cell? ⟨w.heap.size, 1, none⟩ = some (.slice A (dg q.num.natAbs).length c) ∧ w'.cell? ⟨w.heap.size, 2, none⟩ = some (.slice A2 (dg q.den).length c2)) ∧ (w'.cell? ⟨w.heap.size + 1, 0, none⟩ = some (.bool n2) ∧ w'.cell? ⟨w.heap.size + 1, 1, none⟩ = some (.slice A3 (dg r.num.natAbs).length c3) ∧ w'.cell? ⟨w.heap.size + 1, 2, none⟩ = some (.slice A4 (dg r.den).length c4)))
        ((first | exact hs | exact (HeldB.set H1 _ _ _ (boolne _) (slne _ _ _) (slne _ _ _)).cells | exact (HeldB.next hbN (And.left (by assumption))).cells))
        (first
          | (go_at_call 86; (with_reducible refine (rtimes_calls _ _ _ q.num.natAbs r.den ?_ ?_ ya yd).mono ?_); (exact hn1.below (HeldB.bl (And.left (by assumption)))); (exact hd2.below (HeldB.bl (And.left (by assumption)))); (rintro e w' ⟨v, rfl, hv1, hbN⟩); (have hb1 := hbN))
          | (go_at_call 86; (with_reducible refine (rtimes_calls _ _ _ r.num.natAbs q.den ?_ ?_ yc yb).mono ?_); (exact hn2.below (HeldB.bl (And.left (by assumption)))); (exact hd1.below (HeldB.bl (And.left (by assumption)))); (rintro e w' ⟨v, rfl, hv2, hbN⟩); (have hb2 := hbN))
          | (go_at_call 86; (with_reducible refine (rtimes_calls _ _ _ q.den r.den ?_ ?_ yb yd).mono ?_); (exact hd1.below (HeldB.bl (And.left (by assumption)))); (exact hd2.below (HeldB.bl (And.left (by assumption)))); (rintro e w' ⟨v, rfl, hv3, hbN⟩); (have H3 := HeldB.next hbN (And.left (by assumption)))))
      go_wp2
      go_meet
      case rel => exact ⟨_, _, _, Nm.next hbN (Nm.next hb2 hv1), Nm.next hbN hv2, hv3, O2.out hd, H3⟩
  case rest =>
    obtain ⟨X, Y, D, hX, hY, hD, hO, HW⟩ := hcut
    obtain ⟨B5, k5, rfl⟩ := hX.shape
    obtain ⟨B6, k6, rfl⟩ := hY.shape
    obtain ⟨B7, k7, rfl⟩ := hD.shape
    clear hs H H1 O1 O2 ya yb yc yd hn1 hn2 hd1 hd2
    obtain ⟨_, ⟨p0, p1, p2⟩, ⟨p3, p4, p5⟩⟩ := HW.cells
    have hD0 := hO.1
    have sX := hO.2.2.2.1
    have sY := hO.2.2.2.2.1
    have sD := hO.2.2.2.2.2
    by_cases hn : n1 = n2
    · have hE := (hO.same hn).symm.trans HSE.out.symm
      have HE := Lib.hid hE
      have HS := Lib.hid (show Short (mkRat (sgn n1 (X + Y)) D) by rw [hE]; exact SH.out)
      have e1 : (n1 == n2) = true := by rw [hn]; exact beq_self_eq_true _
      have sS := dg_add_le sX sY
      clear hO hn hE
      go_wp2_with fail
      have hs := (HeldB.next (bl_drew _) HW).cells
      go_region_held3 (fun w' => HeldB w 24 24 (.bool n1) (.slice A (dg q.num.natAbs).length c) (.slice A2 (dg q.den).length c2) (.bool n2) (.slice A3 (dg r.num.natAbs).length c3) (.slice A4 (dg r.den).length c4) w' ∧ (w'.cell? ⟨w.heap.size, 0, none⟩ = some (.bool n1) ∧ w'.cell? ⟨w.heap.size, 1, none⟩ = some (.slice A (dg q.num.natAbs).length c) ∧ w'.cell? ⟨w.heap.size, 2, none⟩ = some (.slice A2 (dg q.den).length c2)) ∧ (w'.cell? ⟨w.heap.size + 1, 0, none⟩ = some (.bool n2) ∧ w'.cell? ⟨w.heap.size + 1, 1, none⟩ = some (.slice A3 (dg r.num.natAbs).length c3) ∧ w'.cell? ⟨w.heap.size + 1, 2, none⟩ = some (.slice A4 (dg r.den).length c4)))
        ((first | exact hs | exact (HeldB.set H1 _ _ _ (boolne _) (slne _ _ _) (slne _ _ _)).cells | exact (HeldB.next hbN (And.left (by assumption))).cells))
        (first
          | (go_at_call 83; (with_reducible refine (rplus_calls _ _ _ X Y (Nm.next (bl_drew _) hX) (Nm.next (bl_drew _) hY) (by omega) (by omega)).mono ?_); (rintro e w' ⟨v, rfl, hv, hbN⟩))
          | (go_at_call 82; (with_reducible refine (rlowest_calls _ _ _ (X + Y) D n1 hv (Nm.next hbN (Nm.next (bl_drew _) hD)) hD0 (by omega) (by omega) HS.out).mono ?_); (rintro e w' ⟨v, rfl, hfr, hbN⟩); (rw [HE.out] at hfr); (obtain ⟨B1, d1, B2, d2, rfl, r1, r2, r3, r4⟩ := FrIn.shape hfr); (have H1 := HeldB.next hbN (And.left (by assumption))); (obtain ⟨⟨x0, x1, x2, m0, m1, m2⟩, f1⟩ := H1.store)))
      go_wp2
      obtain ⟨t1, t2⟩ := H1.res (.bool (decide (s.num < 0))) (.slice B1 (dg s.num.natAbs).length d1) (.slice B2 (dg s.den).length d2)
      exact bodyPost_ret (results_cell_row rfl _ _ (w.heap.size + 2) 24 _ (0, 0) _ rfl t2 Try.underlying24 rfl (by kernel_rfl)) rfl ⟨_, rfl, ⟨_, _, rfl, H1.kept r1 _ _ _, H1.kept r2 _ _ _, r3, r4⟩, t1⟩
    · have e1 : (n1 == n2) = false := beq_eq_false_iff_ne.2 hn
      have HO := Lib.hid hO
      have HN := Lib.hid hn
      clear hO hn
      go_wp2_with fail
      refine (rorder_calls _ _ _ X Y hX hY).mono ?_
      rintro e wd ⟨rfl, hbd⟩
      replace HW := HeldB.next hbd HW
      replace hX := hX.below hbd
      replace hY := hY.below hbd
      replace hD := hD.below hbd
      clear p0 p1 p2 p3 p4 p5
      obtain ⟨_, ⟨p0, p1, p2⟩, ⟨p3, p4, p5⟩⟩ := HW.cells
      by_cases hc : X < Y
      · have e0 := ncmp_lt hc
        have hE := (HO.out.less HN.out (Nat.le_of_lt hc)).symm.trans HSE.out.symm
        have HE := Lib.hid hE
        have HS := Lib.hid (show Short (mkRat (sgn n2 (Y - X)) D) by rw [hE]; exact SH.out)
        have sS : (dg (Y - X)).length ≤ 1000000000 := Nat.le_trans (dg_len_mono (Nat.sub_le _ _)) sY
        rw [e0]
        clear hE
        go_wp2_with fail
        have hs := (HeldB.next (bl_drew _) HW).cells
        go_region_held3 (fun w' => HeldB w 24 24 (.bool n1) (.slice A (dg q.num.natAbs).length c) (.slice A2 (dg q.den).length c2) (.bool n2) (.slice A3 (dg r.num.natAbs).length c3) (.slice A4 (dg r.den).length c4) w' ∧ (w'.cell? ⟨w.heap.size, 0, none⟩ = some (.bool n1) ∧ w'.cell? ⟨w.heap.size, 1, none⟩ = some (.slice A (dg q.num.natAbs).length c) ∧ w'.cell? ⟨w.heap.size, 2, none⟩ = some (.slice A2 (dg q.den).length c2)) ∧ (w'.cell? ⟨w.heap.size + 1, 0, none⟩ = some (.bool n2) ∧ w'.cell? ⟨w.heap.size + 1, 1, none⟩ = some (.slice A3 (dg r.num.natAbs).length c3) ∧ w'.cell? ⟨w.heap.size + 1, 2, none⟩ = some (.slice A4 (dg r.den).length c4)))
          ((first | exact hs | exact (HeldB.set H1 _ _ _ (boolne _) (slne _ _ _) (slne _ _ _)).cells | exact (HeldB.next hbN (And.left (by assumption))).cells))
          (first
          | (go_at_call 116; (with_reducible refine (rminus_calls _ _ _ Y X (Nm.next (bl_drew _) hY) (Nm.next (bl_drew _) hX) (Nat.le_of_lt hc) (by omega)).mono ?_); (rintro e w' ⟨v, rfl, hv, hbN⟩))
          | (go_at_call 82; (with_reducible refine (rlowest_calls _ _ _ (Y - X) D n2 hv (Nm.next hbN (Nm.next (bl_drew _) hD)) hD0 (by omega) (by omega) HS.out).mono ?_); (rintro e w' ⟨v, rfl, hfr, hbN⟩); (rw [HE.out] at hfr); (obtain ⟨B1, d1, B2, d2, rfl, r1, r2, r3, r4⟩ := FrIn.shape hfr); (have H1 := HeldB.next hbN (And.left (by assumption))); (obtain ⟨⟨x0, x1, x2, m0, m1, m2⟩, f1⟩ := H1.store)))
        go_wp2
        obtain ⟨t1, t2⟩ := H1.res (.bool (decide (s.num < 0))) (.slice B1 (dg s.num.natAbs).length d1) (.slice B2 (dg s.den).length d2)
        exact bodyPost_ret (results_cell_row rfl _ _ (w.heap.size + 2) 24 _ (0, 0) _ rfl t2 Try.underlying24 rfl (by kernel_rfl)) rfl ⟨_, rfl, ⟨_, _, rfl, H1.kept r1 _ _ _, H1.kept r2 _ _ _, r3, r4⟩, t1⟩
      · have e0 := ncmp_nonneg (Nat.le_of_not_lt hc)
        have hE := (HO.out.more HN.out (Nat.le_of_not_lt hc)).symm.trans HSE.out.symm
        have HE := Lib.hid hE
        have HS := Lib.hid (show Short (mkRat (sgn n1 (X - Y)) D) by rw [hE]; exact SH.out)
        have sS : (dg (X - Y)).length ≤ 1000000000 := Nat.le_trans (dg_len_mono (Nat.sub_le _ _)) sX
        clear hE
        go_wp2_with fail
        have hs := (HeldB.next (bl_drew _) HW).cells
        go_region_held3 (fun w' => HeldB w 24 24 (.bool n1) (.slice A (dg q.num.natAbs).length c) (.slice A2 (dg q.den).length c2) (.bool n2) (.slice A3 (dg r.num.natAbs).length c3) (.slice A4 (dg r.den).length c4) w' ∧ (w'.cell? ⟨w.heap.size, 0, none⟩ = some (.bool n1) ∧ w'.cell? ⟨w.heap.size, 1, none⟩ = some (.slice A (dg q.num.natAbs).length c) ∧ w'.cell? ⟨w.heap.size, 2, none⟩ = some (.slice A2 (dg q.den).length c2)) ∧ (w'.cell? ⟨w.heap.size + 1, 0, none⟩ = some (.bool n2) ∧ w'.cell? ⟨w.heap.size + 1, 1, none⟩ = some (.slice A3 (dg r.num.natAbs).length c3) ∧ w'.cell? ⟨w.heap.size + 1, 2, none⟩ = some (.slice A4 (dg r.den).length c4)))
          ((first | exact hs | exact (HeldB.set H1 _ _ _ (boolne _) (slne _ _ _) (slne _ _ _)).cells | exact (HeldB.next hbN (And.left (by assumption))).cells))
          (first
          | (go_at_call 116; (with_reducible refine (rminus_calls _ _ _ X Y (Nm.next (bl_drew _) hX) (Nm.next (bl_drew _) hY) (Nat.le_of_not_lt hc) (by omega)).mono ?_); (rintro e w' ⟨v, rfl, hv, hbN⟩))
          | (go_at_call 82; (with_reducible refine (rlowest_calls _ _ _ (X - Y) D n1 hv (Nm.next hbN (Nm.next (bl_drew _) hD)) hD0 (by omega) (by omega) HS.out).mono ?_); (rintro e w' ⟨v, rfl, hfr, hbN⟩); (rw [HE.out] at hfr); (obtain ⟨B1, d1, B2, d2, rfl, r1, r2, r3, r4⟩ := FrIn.shape hfr); (have H1 := HeldB.next hbN (And.left (by assumption))); (obtain ⟨⟨x0, x1, x2, m0, m1, m2⟩, f1⟩ := H1.store)))
        go_wp2
        obtain ⟨t1, t2⟩ := H1.res (.bool (decide (s.num < 0))) (.slice B1 (dg s.num.natAbs).length d1) (.slice B2 (dg s.den).length d2)
        exact bodyPost_ret (results_cell_row rfl _ _ (w.heap.size + 2) 24 _ (0, 0) _ rfl t2 Try.underlying24 rfl (by kernel_rfl)) rfl ⟨_, rfl, ⟨_, _, rfl, H1.kept r1 _ _ _, H1.kept r2 _ _ _, r3, r4⟩, t1⟩
end Go.Proofs.Ytdmgceckmciifaa
