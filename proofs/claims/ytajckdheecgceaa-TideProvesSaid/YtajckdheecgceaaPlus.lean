/- Fractions: plus. -/
import Derived.Test.YtajckdheecgceaaRat
set_option linter.unusedVariables false
set_option linter.unusedSimpArgs false
namespace Go.Proofs.Ytajckdheecgceaa
open Go.RowKit

theorem dg_add_le {a b k : Nat} (ha : (dg a).length ≤ k) (hb : (dg b).length ≤ k) : (dg (a + b)).length ≤ k + 1 := by
  rw [dg_len] at *
  rw [Nat.pow_succ]
  omega
theorem mk_add (x y : Int) {D : Nat} (hD : 0 < D) : mkRat x D + mkRat y D = mkRat (x + y) D := by
  have h0 : (D : Int) ≠ 0 := by omega
  rw [← Rat.divInt_ofNat, ← Rat.divInt_ofNat, Rat.divInt_add_divInt _ _ h0 h0, ← Int.add_mul, Rat.divInt_mul_right h0, Rat.divInt_ofNat]
theorem sgn_mul (n : Bool) (a k : Nat) : sgn n (a * k) = sgn n a * k := by
  cases n <;> simp [sgn, Int.neg_mul]
theorem mk_self (q : Rat) (n : Bool) (hn : n = decide (q.num < 0)) : mkRat (sgn n q.num.natAbs) q.den = q := by
  rw [hn, sgn_num, Rat.mkRat_self]
theorem mk_self_mul (q : Rat) (n : Bool) (hn : n = decide (q.num < 0)) (k : Nat) (hk : 0 < k) : mkRat (sgn n (q.num.natAbs * k)) (q.den * k) = q := by
  rw [sgn_mul, hn, sgn_num, Rat.mkRat_mul_right (by omega), Rat.mkRat_self]
theorem sgn_add (n : Bool) (X Y : Nat) : sgn n X + sgn n Y = sgn n (X + Y) := by cases n <;> simp [sgn] <;> omega
theorem sgn_sub {n1 n2 : Bool} (h : n1 ≠ n2) {X Y : Nat} (hle : Y ≤ X) : sgn n1 X + sgn n2 Y = sgn n1 (X - Y) := by
  cases n1 <;> cases n2 <;> simp_all [sgn] <;> omega
theorem sgn_sub' {n1 n2 : Bool} (h : n1 ≠ n2) {X Y : Nat} (hle : X ≤ Y) : sgn n1 X + sgn n2 Y = sgn n2 (Y - X) := by
  cases n1 <;> cases n2 <;> simp_all [sgn] <;> omega
/-- Both on one denominator. -/
def OneDen (q r : Rat) (n1 n2 : Bool) (X Y D : Nat) : Prop := 0 < D ∧ mkRat (sgn n1 X) D = q ∧ mkRat (sgn n2 Y) D = r ∧ (dg X).length ≤ 1000000000 ∧ (dg Y).length ≤ 1000000000 ∧ (dg D).length ≤ 1000000000
theorem OneDen.same {q r : Rat} {n1 n2 : Bool} {X Y D : Nat} (h : OneDen q r n1 n2 X Y D) (he : n1 = n2) : q + r = mkRat (sgn n1 (X + Y)) D := by
  obtain ⟨h0, h1, h2, _⟩ := h
  subst he
  rw [← h1, ← h2, mk_add _ _ h0, sgn_add]
theorem OneDen.more {q r : Rat} {n1 n2 : Bool} {X Y D : Nat} (h : OneDen q r n1 n2 X Y D) (he : n1 ≠ n2) (hle : Y ≤ X) : q + r = mkRat (sgn n1 (X - Y)) D := by
  obtain ⟨h0, h1, h2, _⟩ := h
  rw [← h1, ← h2, mk_add _ _ h0, sgn_sub he hle]
theorem OneDen.less {q r : Rat} {n1 n2 : Bool} {X Y D : Nat} (h : OneDen q r n1 n2 X Y D) (he : n1 ≠ n2) (hle : X ≤ Y) : q + r = mkRat (sgn n2 (Y - X)) D := by
  obtain ⟨h0, h1, h2, _⟩ := h
  rw [← h1, ← h2, mk_add _ _ h0, sgn_sub' he hle]

/-- Where the two ways meet. -/
def PlusRel (H : World → Prop) (q r : Rat) (n1 n2 : Bool) (s5 s6 s7 : Value) (w : World) : Prop := ∃ X Y D, Nm w s5 X ∧ Nm w s6 Y ∧ Nm w s7 D ∧ OneDen q r n1 n2 X Y D ∧ H w
theorem ncmp_ne {a b : Nat} (h : a ≠ b) : ncmp a b ≠ 0 := by
  rcases Nat.lt_or_gt_of_ne h with h | h
  · rw [ncmp_lt h]; decide
  · rw [ncmp_gt h]; decide
theorem plus_calls (w : World) (v1 v2 : Value) (q r : Rat) (h1 : RtV w v1 q) (h2 : RtV w v2 r) (s1 : Szq 500000000 q) (s2 : Szq 500000000 r) :
    Calls Try.prog 98 #[v1, v2] w (RtPost (q + r) w) := by
  obtain ⟨A, c, A2, c2, rfl, hn1, hd1⟩ := h1.open
  obtain ⟨A3, c3, A4, c4, rfl, hn2, hd2⟩ := h2.open
  obtain ⟨n1, e1⟩ : ∃ n, n = decide (q.num < 0) := ⟨_, rfl⟩
  obtain ⟨n2, e2⟩ : ∃ n, n = decide (r.num < 0) := ⟨_, rfl⟩
  rw [← e1, ← e2]
  have H := held2_new w (.slice A (dg q.num.natAbs).length c) (.slice A2 (dg q.den).length c2) (.bool n1) (.slice A3 (dg r.num.natAbs).length c3) (.slice A4 (dg r.den).length c4) (.bool n2)
  have ya : (dg q.num.natAbs).length ≤ 1073741824 := Nat.le_trans s1.1 (by omega)
  have yb : (dg q.den).length ≤ 1073741824 := Nat.le_trans s1.2 (by omega)
  have yc : (dg r.num.natAbs).length ≤ 1073741824 := Nat.le_trans s2.1 (by omega)
  have yd : (dg r.den).length ≤ 1073741824 := Nat.le_trans s2.2 (by omega)
  have o2 : q.den ≠ r.den → OneDen q r n1 n2 (q.num.natAbs * r.den) (r.num.natAbs * q.den) (q.den * r.den) := fun _ =>
    ⟨Nat.mul_pos q.den_pos r.den_pos, mk_self_mul q n1 e1 _ r.den_pos, by rw [Nat.mul_comm q.den]; exact mk_self_mul r n2 e2 _ q.den_pos, dg_mul_le s1.1 s2.2, dg_mul_le s2.1 s1.2, dg_mul_le s1.2 s2.2⟩
  have o1 : q.den = r.den → OneDen q r n1 n2 q.num.natAbs r.num.natAbs q.den := fun h =>
    ⟨q.den_pos, mk_self q n1 e1, by rw [h]; exact mk_self r n2 e2, Nat.le_trans s1.1 (by omega), Nat.le_trans s2.1 (by omega), Nat.le_trans s1.2 (by omega)⟩
  have O1 := Lib.hid o1
  have O2 := Lib.hid o2
  clear h1 h2 s1 s2 o1 o2 e1 e2
  go_enter Try.func98, Try.ntmps98
  go_wp2_with fail
  have hs := (Held2.next (bl_drew _) H).cells
  go_region_held3 (fun w' => Held2 w (.slice A (dg q.num.natAbs).length c) (.slice A2 (dg q.den).length c2) (.bool n1) (.slice A3 (dg r.num.natAbs).length c3) (.slice A4 (dg r.den).length c4) (.bool n2) w' ∧ (w'.cell? ⟨w.heap.size, 0, none⟩ = some (.slice A (dg q.num.natAbs).length c) ∧ w'.cell? ⟨w.heap.size, 1, none⟩ = some (.slice A2 (dg q.den).length c2) ∧ w'.cell? ⟨w.heap.size, 2, none⟩ = some (.bool n1)) ∧ (w'.cell? ⟨w.heap.size + 1, 0, none⟩ = some (.slice A3 (dg r.num.natAbs).length c3) ∧ w'.cell? ⟨w.heap.size + 1, 1, none⟩ = some (.slice A4 (dg r.den).length c4) ∧ w'.cell? ⟨w.heap.size + 1, 2, none⟩ = some (.bool n2)))
    ((first | exact hs | exact (Held2.set H1 _ _ _ _ _ _ _).cells | exact (Held2.next hbN (And.left (by assumption))).cells))
    (fail)
  go_wp2_with fail
  refine (cmp_calls _ _ _ q.den r.den (hd1.held (Held2.next (bl_drew _) H)) (hd2.held (Held2.next (bl_drew _) H))).mono ?_
  rintro e w1 ⟨rfl, hb1⟩
  have H1 := Held2.next hb1 (Held2.next (bl_drew _) H)
  go_upto_if 19 with fail
  go_cut [5, 6, 7] (fun s5 s6 s7 wx => PlusRel (Held2 w (.slice A (dg q.num.natAbs).length c) (.slice A2 (dg q.den).length c2) (.bool n1) (.slice A3 (dg r.num.natAbs).length c3) (.slice A4 (dg r.den).length c4) (.bool n2)) q r n1 n2 s5 s6 s7 wx)
  case first =>
    by_cases hd : q.den = r.den
    · have e0 := ncmp_eq hd
      go_wp2
      go_meet
      case rel => exact ⟨_, _, _, hn1.held H1, hn2.held H1, hd1.held H1, O1.out hd, H1⟩
    · have e0 := ncmp_ne hd
      go_wp2_with fail
      have hs := (Held2.next (bl_drew _) H1).cells
      go_region_held3 (fun w' => Held2 w (.slice A (dg q.num.natAbs).length c) (.slice A2 (dg q.den).length c2) (.bool n1) (.slice A3 (dg r.num.natAbs).length c3) (.slice A4 (dg r.den).length c4) (.bool n2) w' ∧ (w'.cell? ⟨w.heap.size, 0, none⟩ = some (.slice A (dg q.num.natAbs).length c) ∧ w'.cell? ⟨w.heap.size, 1, none⟩ = some (.slice A2 (dg q.den).length c2) ∧ w'.cell? ⟨w.heap.size, 2, none⟩ = some (.bool n1)) ∧ (w'.cell? ⟨w.heap.size + 1, 0, none⟩ = some (.slice A3 (dg r.num.natAbs).length c3) ∧ w'.cell? ⟨w.heap.size + 1, 1, none⟩ = some (.slice A4 (dg r.den).length c4) ∧ w'.cell? ⟨w.heap.size + 1, 2, none⟩ = some (.bool n2)))
        ((first | exact hs | exact (Held2.set H1 _ _ _ _ _ _ _).cells | exact (Held2.next hbN (And.left (by assumption))).cells))
        (first
          | (go_at_call 116; (with_reducible refine (mul_calls _ _ _ q.num.natAbs r.den ?_ ?_ ya yd).mono ?_); (exact hn1.held (And.left (by assumption))); (exact hd2.held (And.left (by assumption))); (rintro e w' ⟨v, rfl, hv1, hbN⟩); (have hb1 := hbN))
          | (go_at_call 116; (with_reducible refine (mul_calls _ _ _ r.num.natAbs q.den ?_ ?_ yc yb).mono ?_); (exact hn2.held (And.left (by assumption))); (exact hd1.held (And.left (by assumption))); (rintro e w' ⟨v, rfl, hv2, hbN⟩); (have hb2 := hbN))
          | (go_at_call 116; (with_reducible refine (mul_calls _ _ _ q.den r.den ?_ ?_ yb yd).mono ?_); (exact hd1.held (And.left (by assumption))); (exact hd2.held (And.left (by assumption))); (rintro e w' ⟨v, rfl, hv3, hbN⟩); (have H3 := Held2.next hbN (And.left (by assumption)))))
      go_wp2
      go_meet
      case rel => exact ⟨_, _, _, Nm.next hbN (Nm.next hb2 hv1), Nm.next hbN hv2, hv3, O2.out hd, H3⟩
  case rest =>
    obtain ⟨X, Y, D, hX, hY, hD, hO, HW⟩ := hcut
    obtain ⟨B5, k5, rfl⟩ := hX.shape
    obtain ⟨B6, k6, rfl⟩ := hY.shape
    obtain ⟨B7, k7, rfl⟩ := hD.shape
    clear hs H H1 O1 O2 ya yb yc yd hn1 hn2 hd1 hd2
    obtain ⟨_, ⟨p0, p1, p2⟩, ⟨p3, p4, p5⟩⟩ := HW.cells
    have hD0 := hO.1
    have sX := hO.2.2.2.1
    have sY := hO.2.2.2.2.1
    have sD := hO.2.2.2.2.2
    by_cases hn : n1 = n2
    · have HE := Lib.hid (hO.same hn)
      have e1 : (n1 == n2) = true := by rw [hn]; exact beq_self_eq_true _
      have sS := dg_add_le sX sY
      clear hO hn
      go_wp2_with fail
      have hs := (Held2.next (bl_drew _) HW).cells
      go_region_held3 (fun w' => Held2 w (.slice A (dg q.num.natAbs).length c) (.slice A2 (dg q.den).length c2) (.bool n1) (.slice A3 (dg r.num.natAbs).length c3) (.slice A4 (dg r.den).length c4) (.bool n2) w' ∧ (w'.cell? ⟨w.heap.size, 0, none⟩ = some (.slice A (dg q.num.natAbs).length c) ∧ w'.cell? ⟨w.heap.size, 1, none⟩ = some (.slice A2 (dg q.den).length c2) ∧ w'.cell? ⟨w.heap.size, 2, none⟩ = some (.bool n1)) ∧ (w'.cell? ⟨w.heap.size + 1, 0, none⟩ = some (.slice A3 (dg r.num.natAbs).length c3) ∧ w'.cell? ⟨w.heap.size + 1, 1, none⟩ = some (.slice A4 (dg r.den).length c4) ∧ w'.cell? ⟨w.heap.size + 1, 2, none⟩ = some (.bool n2)))
        ((first | exact hs | exact (Held2.set H1 _ _ _ _ _ _ _).cells | exact (Held2.next hbN (And.left (by assumption))).cells))
        (first
          | (go_at_call 118; (with_reducible refine (add_calls _ _ _ X Y (Nm.next (bl_drew _) hX) (Nm.next (bl_drew _) hY) (by omega) (by omega)).mono ?_); (rintro e w' ⟨v, rfl, hv, hbN⟩))
          | (go_at_call 117; (with_reducible refine (reduced_calls _ _ _ (X + Y) D _ hv (Nm.next hbN (Nm.next (bl_drew _) hD)) hD0 (by omega) (by omega)).mono ?_); (rintro e w' ⟨v, rfl, hrt, hbN⟩); (obtain ⟨B, d, B2, d2, rfl, _, _⟩ := hrt.open); (have H1 := Held2.next hbN (And.left (by assumption))); (obtain ⟨⟨x0, x1, x2, m0, m1, m2⟩, f1⟩ := H1.store)))
      go_wp2
      obtain ⟨t1, t2, t3⟩ := H1.done hrt
      exact bodyPost_ret (results_cell_row rfl _ _ (w.heap.size + 2) 113 _ (0, 0) _ rfl t3 Try.underlying113 rfl (by kernel_rfl)) rfl ⟨_, rfl, by rw [HE.out]; exact t1, t2⟩
    · have e1 : (n1 == n2) = false := beq_eq_false_iff_ne.2 hn
      have HO := Lib.hid hO
      have HN := Lib.hid hn
      clear hO hn
      go_wp2_with fail
      refine (cmp_calls _ _ _ X Y hX hY).mono ?_
      rintro e wd ⟨rfl, hbd⟩
      replace HW := Held2.next hbd HW
      replace hX := hX.below hbd
      replace hY := hY.below hbd
      replace hD := hD.below hbd
      clear p0 p1 p2 p3 p4 p5
      obtain ⟨_, ⟨p0, p1, p2⟩, ⟨p3, p4, p5⟩⟩ := HW.cells
      obtain ⟨⟨x0, x1, x2, m0, m1, m2⟩, f1⟩ := HW.store
      rcases Nat.lt_trichotomy X Y with hc | hc | hc
      · have e0 := ncmp_lt hc
        have HE := Lib.hid (HO.out.less HN.out (Nat.le_of_lt hc))
        have sS : (dg (Y - X)).length ≤ 1000000000 := Nat.le_trans (dg_len_mono (Nat.sub_le _ _)) sY
        rw [e0]
        clear m0 m1 m2 f1
        go_wp2_with fail
        have hs := (Held2.next (bl_drew _) HW).cells
        go_region_held3 (fun w' => Held2 w (.slice A (dg q.num.natAbs).length c) (.slice A2 (dg q.den).length c2) (.bool n1) (.slice A3 (dg r.num.natAbs).length c3) (.slice A4 (dg r.den).length c4) (.bool n2) w' ∧ (w'.cell? ⟨w.heap.size, 0, none⟩ = some (.slice A (dg q.num.natAbs).length c) ∧ w'.cell? ⟨w.heap.size, 1, none⟩ = some (.slice A2 (dg q.den).length c2) ∧ w'.cell? ⟨w.heap.size, 2, none⟩ = some (.bool n1)) ∧ (w'.cell? ⟨w.heap.size + 1, 0, none⟩ = some (.slice A3 (dg r.num.natAbs).length c3) ∧ w'.cell? ⟨w.heap.size + 1, 1, none⟩ = some (.slice A4 (dg r.den).length c4) ∧ w'.cell? ⟨w.heap.size + 1, 2, none⟩ = some (.bool n2)))
          ((first | exact hs | exact (Held2.set H1 _ _ _ _ _ _ _).cells | exact (Held2.next hbN (And.left (by assumption))).cells))
          (first
            | (go_at_call 119; (with_reducible refine (sub_calls _ _ _ Y X (Nm.next (bl_drew _) hY) (Nm.next (bl_drew _) hX) (Nat.le_of_lt hc) (by omega)).mono ?_); (rintro e w' ⟨v, rfl, hv, hbN⟩))
            | (go_at_call 117; (with_reducible refine (reduced_calls _ _ _ (Y - X) D _ hv (Nm.next hbN (Nm.next (bl_drew _) hD)) hD0 (by omega) (by omega)).mono ?_); (rintro e w' ⟨v, rfl, hrt, hbN⟩); (obtain ⟨B, d, B2, d2, rfl, _, _⟩ := hrt.open); (have H1 := Held2.next hbN (And.left (by assumption))); (obtain ⟨⟨x0, x1, x2, m0, m1, m2⟩, f1⟩ := H1.store)))
        go_wp2
        obtain ⟨t1, t2, t3⟩ := H1.done hrt
        exact bodyPost_ret (results_cell_row rfl _ _ (w.heap.size + 2) 113 _ (0, 0) _ rfl t3 Try.underlying113 rfl (by kernel_rfl)) rfl ⟨_, rfl, by rw [HE.out]; exact t1, t2⟩
      · have e0 := ncmp_eq hc
        have HE := Lib.hid (HO.out.more HN.out (Nat.le_of_eq hc.symm))
        rw [e0]
        clear m0 m1 m2 f1 x0 x1 x2
        have hz : mkRat (sgn n1 (X - Y)) D = 0 := by rw [hc, Nat.sub_self, mk_zero]
        have HZ := Lib.hid hz
        clear hz
        go_wp2_with fail
        refine (whole_calls _ 0 (by omega) (by omega)).mono ?_
        rintro e w1 ⟨v, rfl, hv, hb1⟩
        have H1 := Held2.next hb1 HW
        obtain ⟨⟨x0, x1, x2, m0, m1, m2⟩, f1⟩ := H1.store
        obtain ⟨B, d, B2, d2, rfl, _, _⟩ := hv.open
        clear p0 p1 p2 p3 p4 p5
        go_wp2
        obtain ⟨t1, t2, t3⟩ := H1.done hv
        exact bodyPost_ret (results_cell_row rfl _ _ (w.heap.size + 2) 113 _ (0, 0) _ rfl t3 Try.underlying113 rfl (by kernel_rfl)) rfl ⟨_, rfl, by rw [HE.out, HZ.out]; exact t1, t2⟩
      · have e0 := ncmp_gt hc
        have HE := Lib.hid (HO.out.more HN.out (Nat.le_of_lt hc))
        have sS : (dg (X - Y)).length ≤ 1000000000 := Nat.le_trans (dg_len_mono (Nat.sub_le _ _)) sX
        rw [e0]
        clear m0 m1 m2 f1
        go_wp2_with fail
        have hs := (Held2.next (bl_drew _) HW).cells
        go_region_held3 (fun w' => Held2 w (.slice A (dg q.num.natAbs).length c) (.slice A2 (dg q.den).length c2) (.bool n1) (.slice A3 (dg r.num.natAbs).length c3) (.slice A4 (dg r.den).length c4) (.bool n2) w' ∧ (w'.cell? ⟨w.heap.size, 0, none⟩ = some (.slice A (dg q.num.natAbs).length c) ∧ w'.cell? ⟨w.heap.size, 1, none⟩ = some (.slice A2 (dg q.den).length c2) ∧ w'.cell? ⟨w.heap.size, 2, none⟩ = some (.bool n1)) ∧ (w'.cell? ⟨w.heap.size + 1, 0, none⟩ = some (.slice A3 (dg r.num.natAbs).length c3) ∧ w'.cell? ⟨w.heap.size + 1, 1, none⟩ = some (.slice A4 (dg r.den).length c4) ∧ w'.cell? ⟨w.heap.size + 1, 2, none⟩ = some (.bool n2)))
          ((first | exact hs | exact (Held2.set H1 _ _ _ _ _ _ _).cells | exact (Held2.next hbN (And.left (by assumption))).cells))
          (first
            | (go_at_call 119; (with_reducible refine (sub_calls _ _ _ X Y (Nm.next (bl_drew _) hX) (Nm.next (bl_drew _) hY) (Nat.le_of_lt hc) (by omega)).mono ?_); (rintro e w' ⟨v, rfl, hv, hbN⟩))
            | (go_at_call 117; (with_reducible refine (reduced_calls _ _ _ (X - Y) D _ hv (Nm.next hbN (Nm.next (bl_drew _) hD)) hD0 (by omega) (by omega)).mono ?_); (rintro e w' ⟨v, rfl, hrt, hbN⟩); (obtain ⟨B, d, B2, d2, rfl, _, _⟩ := hrt.open); (have H1 := Held2.next hbN (And.left (by assumption))); (obtain ⟨⟨x0, x1, x2, m0, m1, m2⟩, f1⟩ := H1.store)))
        go_wp2
        obtain ⟨t1, t2, t3⟩ := H1.done hrt
        exact bodyPost_ret (results_cell_row rfl _ _ (w.heap.size + 2) 113 _ (0, 0) _ rfl t3 Try.underlying113 rfl (by kernel_rfl)) rfl ⟨_, rfl, by rw [HE.out]; exact t1, t2⟩

end Go.Proofs.Ytajckdheecgceaa
