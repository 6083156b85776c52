/- The reference: Sign, Floor; frac.Div. -/
import Derived.Test.YtdmgceckmciifaaRef19
set_option linter.unusedVariables false
set_option linter.unusedSimpArgs false
namespace Go.Proofs.Ytdmgceckmciifaa
open Go.RowKit

theorem sgn_sign (n : Int) : n.sign = if n.natAbs = 0 then 0 else if decide (n < 0) = true then -1 else 1 := by
  rcases Int.lt_trichotomy n 0 with h | h | h
  · rw [Int.sign_eq_neg_one_of_neg h]; simp [h]; omega
  · rw [h]; rfl
  · rw [Int.sign_eq_one_of_pos h]
    have h1 : ¬ n.natAbs = 0 := by omega
    have h2 : ¬ n < 0 := by omega
    simp [h2]; omega
theorem rsign_calls (w : World) (va : Value) (na : Bool) (lna lda : List Int) (ha : FrIn w va na lna lda) (hsa : lna.length + lda.length ≤ 4096) :
    Calls Try.prog 38 #[va] w fun e w' => e = .returned (.int .i64 (fixq na lna lda).num.sign) ∧ Below w.heap.size w w' := by
  have hf := ha
  obtain ⟨A, c, A2, c2, rfl, _, _, _, _⟩ := ha.shape
  have hbl0 := below_alloc0 w (.cells #[.bool na, .slice A lna.length c, .slice A2 lda.length c2] 24)
  have K := Blk.new w 24 #[.bool na, .slice A lna.length c, .slice A2 lda.length c2]
  obtain ⟨q, hq⟩ : ∃ q, q = fixq na lna lda := ⟨_, rfl⟩
  have HQ := Lib.hid hq
  have HS := Lib.hid (sgn_sign q.num)
  rw [← hq]
  clear hq
  go_enter Try.func38, Try.ntmps38
  go_wp2_with fail
  refine (rfix_calls _ _ na lna lda (hf.below hbl0) hsa).mono ?_
  rintro e w1 ⟨v, rfl, hfr, hb1⟩
  rw [← HQ.out] at hfr
  have K1 := K.below hb1
  have hbw := bl_trans hbl0 hb1
  have j0 := K1.cell 0
  have j1 := K1.cell 1
  have j2 := K1.cell 2
  have jf := K1.free
  obtain ⟨B1, d1, B2, d2, rfl, r1, r2, r3, r4⟩ := FrIn.shape hfr
  obtain ⟨b, hb⟩ : ∃ b, b = decide (q.num < 0) := ⟨_, rfl⟩
  have HB := Lib.hid hb
  rw [← hb] at hfr ⊢
  have hfin := Lib.hid (three_below hbw (Nat.le_refl _) (.bool b) (.slice B1 (dg q.num.natAbs).length d1) (.slice B2 (dg q.den).length d2))
  clear hb hfr r1 r2 r3 r4 K K1 hbl0 hb1 hbw
  by_cases h0 : (dg q.num.natAbs).length = 0
  · have H0 := Lib.hid h0
    have HE := Lib.hid (show q.num.sign = 0 by rw [HS.out, if_pos (dg_len_zero.1 h0)])
    have hfin2 := hfin.out
    rw [h0] at hfin2 ⊢
    have HF2 := Lib.hid hfin2
    clear h0 hfin2
    go_wp2
    go_ret
    exact ⟨by rw [HE.out]; rfl, HF2.out⟩
  · have g0 : (((dg q.num.natAbs).length : Int) == 0) = false := int_ne0 (by omega)
    have hn0 : ¬ q.num.natAbs = 0 := fun h => h0 (dg_len_zero.2 h)
    have HE := Lib.hid (show q.num.sign = if b = true then -1 else 1 by rw [HS.out, if_neg hn0, HB.out])
    clear h0 hn0
    cases b
    · go_wp2
      go_ret
      exact ⟨by rw [HE.out]; rfl, hfin.out⟩
    · go_wp2
      go_ret
      exact ⟨by rw [HE.out]; rfl, hfin.out⟩
/-- A box, a cell for the result, and the parts. -/
def HoldF (w : World) (a0 a1 a2 : Value) (g : Nat) (q r : Value) (w' : World) : Prop := Below w.heap.size w w' ∧ Blk w' w.heap.size 24 #[a0, a1, a2] ∧ Blk w' g 74 #[q, r] ∧ ∃ x0 x1 x2, ((∀ n, x0 ≠ .int .u32 n) ∧ (∀ n, x1 ≠ .int .u32 n) ∧ ∀ n, x2 ≠ .int .u32 n) ∧ Blk w' (w.heap.size + 1) 24 #[x0, x1, x2]
theorem HoldF.cells {w w' : World} {a0 a1 a2 : Value} {g : Nat} {q r : Value} (h : HoldF w a0 a1 a2 g q r w') : HoldF w a0 a1 a2 g q r w' ∧ (w'.cell? ⟨w.heap.size, 0, none⟩ = some a0 ∧ w'.cell? ⟨w.heap.size, 1, none⟩ = some a1 ∧ w'.cell? ⟨w.heap.size, 2, none⟩ = some a2) ∧ (w'.cell? ⟨g, 0, none⟩ = some q ∧ w'.cell? ⟨g, 1, none⟩ = some r) :=
  ⟨h, ⟨h.2.1.cell 0, h.2.1.cell 1, h.2.1.cell 2⟩, ⟨h.2.2.1.cell 0, h.2.2.1.cell 1⟩⟩
theorem HoldF.next {w w1 w2 : World} {a0 a1 a2 : Value} {g : Nat} {q r : Value} (k : Below w1.heap.size w1 w2) (h : HoldF w a0 a1 a2 g q r w1) : HoldF w a0 a1 a2 g q r w2 := by
  obtain ⟨h0, h1, h2, x0, x1, x2, h3, h4⟩ := h
  exact ⟨bl_trans h0 k, h1.below k, h2.below k, x0, x1, x2, h3, h4.below k⟩
theorem HoldF.held {w w1 : World} {a0 a1 a2 : Value} {g : Nat} {q r : Value} (h : HoldF w a0 a1 a2 g q r w1) : Held1 w 24 24 a0 a1 a2 w1 := by
  obtain ⟨h0, h1, h2, h3⟩ := h
  exact ⟨h0, h1, h3⟩
theorem HoldF.set {w w1 : World} {a0 a1 a2 : Value} {g : Nat} {q r : Value} (h : HoldF w a0 a1 a2 g q r w1) (hg : g ≠ w.heap.size + 1) (y0 y1 y2 : Value) (n0 : ∀ n, y0 ≠ .int .u32 n) (n1 : ∀ n, y1 ≠ .int .u32 n) (n2 : ∀ n, y2 ≠ .int .u32 n) : HoldF w a0 a1 a2 g q r (((w1.setCell ⟨w.heap.size + 1, 0, none⟩ y0).setCell ⟨w.heap.size + 1, 1, none⟩ y1).setCell ⟨w.heap.size + 1, 2, none⟩ y2) := by
  obtain ⟨h0, h1, h2, x0, x1, x2, h3, h4⟩ := h
  exact ⟨three_below h0 (by omega) _ _ _, ((h1.other _ _ (by simp)).other _ _ (by simp)).other _ _ (by simp), ((h2.other _ _ (by simpa using hg)).other _ _ (by simpa using hg)).other _ _ (by simpa using hg), _, _, _, ⟨n0, n1, n2⟩, blk3 h4 _ _ _⟩
theorem mk1 (z : Int) : mkRat z 1 = (z : Rat) := Rat.mkRat_one z
set_option maxHeartbeats 4000000 in
theorem rfloor_calls (w : World) (va : Value) (na : Bool) (lna lda : List Int) (ha : FrIn w va na lna lda) (hsa : lna.length + lda.length ≤ 4096) (hres : Short (rfloor (fixq na lna lda) : Int)) :
    Calls Try.prog 36 #[va] w (FrPost (rfloor (fixq na lna lda) : Int) w) := by
  have sz : Szq 500000000 (fixq na lna lda) := (szq_fix (k := 4097) ha.wd.1 ha.wd.2 (by omega) (by omega) (by omega)).big (by omega)
  have hf := ha
  obtain ⟨A, c, A2, c2, rfl, _, _, _, _⟩ := ha.shape
  have H := held1_new w 24 24 (.bool na) (.slice A lna.length c) (.slice A2 lda.length c2) (.bool false) (.slice none 0 0) (.slice none 0 0) (boolne _) (slne _ _ _) (slne _ _ _)
  obtain ⟨_, ⟨j0, j1, j2⟩⟩ := H.cells
  obtain ⟨q, hq⟩ : ∃ q, q = fixq na lna lda := ⟨_, rfl⟩
  have HQ := Lib.hid hq
  rw [← hq] at hres sz ⊢
  obtain ⟨s, hs⟩ : ∃ s : Rat, s = (rfloor q : Int) := ⟨_, rfl⟩
  rw [← hs] at hres ⊢
  have HSE := Lib.hid hs
  have HRES := Lib.hid hres
  clear hq hs hres
  go_enter Try.func36, Try.ntmps36
  go_wp2_with fail
  refine (rfix_calls _ _ na lna lda (hf.below H.bl) hsa).mono ?_
  rintro e w1 ⟨v, rfl, hfr, hb1⟩
  rw [← HQ.out] at hfr
  have H1 := Held1.next hb1 H
  clear j0 j1 j2
  obtain ⟨_, ⟨j0, j1, j2⟩⟩ := H1.cells
  have jf := H1.2.1.free
  obtain ⟨B1, d1, B2, d2, rfl, r1, r2, r3, r4⟩ := FrIn.shape hfr
  obtain ⟨b, hb⟩ : ∃ b, b = decide (q.num < 0) := ⟨_, rfl⟩
  have HB := Lib.hid hb
  rw [← hb] at hfr ⊢
  have H2 := H1.box (.bool b) (.slice B1 (dg q.num.natAbs).length d1) (.slice B2 (dg q.den).length d2)
  have m1 : Nm _ _ q.num.natAbs := r1.three j0 j1 j2 (boolne _) (slne _ _ _) (slne _ _ _) (.bool b) (.slice B1 (dg q.num.natAbs).length d1) (.slice B2 (dg q.den).length d2)
  have m2 : Nm _ _ q.den := r2.three j0 j1 j2 (boolne _) (slne _ _ _) (slne _ _ _) (.bool b) (.slice B1 (dg q.num.natAbs).length d1) (.slice B2 (dg q.den).length d2)
  have M1 := Lib.hid m1
  have M2 := Lib.hid m2
  have HH2 := Lib.hid H2
  have hd := q.den_pos
  have ya : (dg q.num.natAbs).length ≤ 1073741823 := Nat.le_trans sz.1 (by omega)
  clear hb hfr r1 r2 r3 r4 H H1 m1 m2 H2 hb1
  go_wp2_with fail
  refine (rparts_calls _ _ _ q.num.natAbs q.den M1.out M2.out hd ya).mono ?_
  rintro e w3 ⟨vq, vr, rfl, hvq, hvr, hb3⟩
  have H3 := Held1.next hb3 HH2.out
  clear j0 j1 j2 jf HH2 hb3 M1 M2
  have hyb : (dg (q.num.natAbs / q.den)).length ≤ 1073741822 := Nat.le_trans (dg_len_mono (Nat.div_le_self _ _)) (Nat.le_trans sz.1 (by omega))
  obtain ⟨Q, hQ⟩ : ∃ Q, Q = q.num.natAbs / q.den := ⟨_, rfl⟩
  obtain ⟨R, hR⟩ : ∃ R, R = q.num.natAbs % q.den := ⟨_, rfl⟩
  rw [← hQ] at hvq hyb
  rw [← hR] at hvr
  have EQ := Lib.hid hQ
  have ER := Lib.hid hR
  obtain ⟨A5, c5, rfl⟩ := hvq.shape
  obtain ⟨A6, c6, rfl⟩ := hvr.shape
  have hal := below_alloc0 w3 (.cells #[.slice A5 (dg Q).length c5, .slice A6 (dg R).length c6] 74)
  have H4 : HoldF w (.bool b) (.slice B1 (dg q.num.natAbs).length d1) (.slice B2 (dg q.den).length d2) w3.heap.size (.slice A5 (dg Q).length c5) (.slice A6 (dg R).length c6) (w3.alloc (.cells #[.slice A5 (dg Q).length c5, .slice A6 (dg R).length c6] 74)) := by
    obtain ⟨t0, t1, x0, x1, x2, t2, t3⟩ := H3
    exact ⟨bl_trans t0 hal, t1.below hal, Blk.new w3 _ _, x0, x1, x2, t2, t3.below hal⟩
  have hgs : w3.heap.size ≠ w.heap.size + 1 := by
    obtain ⟨t0, t1, x0, x1, x2, t2, t3⟩ := H3
    have := t3.lt
    omega
  have hq4 := hvq.below hal
  have HQ4 := Lib.hid hq4
  clear H3 hvq hvr hal hQ hR hq4
  obtain ⟨_, ⟨j0, j1, j2⟩, ⟨j3, j4⟩⟩ := H4.cells
  by_cases hR0 : R = 0
  · have l0 : (dg R).length = 0 := dg_len_zero.2 hR0
    rw [l0] at H4 j0 j1 j2 j3 j4 HQ4
    rw [l0]
    cases b
    · have hval : mkRat (sgn false Q) 1 = s := by
        rw [mk1, HSE.out, EQ.out, floor_pos (of_decide_eq_false HB.out.symm)]; rfl
      have HE := Lib.hid hval
      have HS := Lib.hid (show Short (mkRat (sgn false Q) 1) by rw [hval]; exact HRES.out)
      clear hval hR0 l0
      go_wp2_with fail
      have hs := (HoldF.next (bl_drew _) H4).cells
      have HQ5 := Lib.hid (Nm.next (bl_drew _) HQ4.out)
      go_region_held3 (fun w' => HoldF w (.bool false) (.slice B1 (dg q.num.natAbs).length d1) (.slice B2 (dg q.den).length d2) w3.heap.size (.slice A5 (dg Q).length c5) (.slice A6 0 c6) w' ∧ (w'.cell? ⟨w.heap.size, 0, none⟩ = some (.bool false) ∧ w'.cell? ⟨w.heap.size, 1, none⟩ = some (.slice B1 (dg q.num.natAbs).length d1) ∧ w'.cell? ⟨w.heap.size, 2, none⟩ = some (.slice B2 (dg q.den).length d2)) ∧ (w'.cell? ⟨w3.heap.size, 0, none⟩ = some (.slice A5 (dg Q).length c5) ∧ w'.cell? ⟨w3.heap.size, 1, none⟩ = some (.slice A6 0 c6)))
        ((first | exact hs | exact (HoldF.set H6 hgs _ _ _ (boolne _) (slne _ _ _) (slne _ _ _)).cells | exact (HoldF.next hbN (And.left (by assumption))).cells))
        (first
          | (go_at_call 84; (with_reducible refine (rone_calls _).mono ?_); (rintro e w' ⟨v, rfl, hv1, hbN⟩); (have HQ6 := Nm.next hbN HQ5.out))
          | (go_at_call 82; (with_reducible refine (rlowest_calls _ _ _ Q 1 false HQ6 hv1 (by omega) (by omega) (by rw [dg_one]; simp) HS.out).mono ?_); (rintro e w' ⟨v, rfl, hfr, hbN⟩); (rw [HE.out] at hfr); (obtain ⟨C1, k1, C2, k2, rfl, r1, r2, r3, r4⟩ := FrIn.shape hfr); (have H6 := HoldF.next hbN (And.left (by assumption))); (obtain ⟨⟨x0, x1, x2, m0, m1, m2⟩, f1⟩ := H6.held.store)))
      go_wp2
      obtain ⟨t1, t2⟩ := H6.held.res (.bool (decide (s.num < 0))) (.slice C1 (dg s.num.natAbs).length k1) (.slice C2 (dg s.den).length k2)
      exact bodyPost_ret (results_cell_row rfl _ _ (w.heap.size + 1) 24 _ (0, 0) _ rfl t2 Try.underlying24 rfl (by kernel_rfl)) rfl ⟨_, rfl, ⟨_, _, rfl, H6.held.kept r1 _ _ _, H6.held.kept r2 _ _ _, r3, r4⟩, t1⟩
    · have hval : mkRat (sgn true Q) 1 = s := by
        rw [mk1, HSE.out, EQ.out, (floor_neg (of_decide_eq_true HB.out.symm) (by rw [← ER.out]; exact hR0)).1]; rfl
      have HE := Lib.hid hval
      have HS := Lib.hid (show Short (mkRat (sgn true Q) 1) by rw [hval]; exact HRES.out)
      clear hval hR0 l0
      go_wp2_with fail
      have hs := (HoldF.next (bl_drew _) H4).cells
      have HQ5 := Lib.hid (Nm.next (bl_drew _) HQ4.out)
      go_region_held3 (fun w' => HoldF w (.bool true) (.slice B1 (dg q.num.natAbs).length d1) (.slice B2 (dg q.den).length d2) w3.heap.size (.slice A5 (dg Q).length c5) (.slice A6 0 c6) w' ∧ (w'.cell? ⟨w.heap.size, 0, none⟩ = some (.bool true) ∧ w'.cell? ⟨w.heap.size, 1, none⟩ = some (.slice B1 (dg q.num.natAbs).length d1) ∧ w'.cell? ⟨w.heap.size, 2, none⟩ = some (.slice B2 (dg q.den).length d2)) ∧ (w'.cell? ⟨w3.heap.size, 0, none⟩ = some (.slice A5 (dg Q).length c5) ∧ w'.cell? ⟨w3.heap.size, 1, none⟩ = some (.slice A6 0 c6)))
        ((first | exact hs | exact (HoldF.set H6 hgs _ _ _ (boolne _) (slne _ _ _) (slne _ _ _)).cells | exact (HoldF.next hbN (And.left (by assumption))).cells))
        (first
          | (go_at_call 84; (with_reducible refine (rone_calls _).mono ?_); (rintro e w' ⟨v, rfl, hv1, hbN⟩); (have HQ6 := Nm.next hbN HQ5.out))
          | (go_at_call 82; (with_reducible refine (rlowest_calls _ _ _ Q 1 true HQ6 hv1 (by omega) (by omega) (by rw [dg_one]; simp) HS.out).mono ?_); (rintro e w' ⟨v, rfl, hfr, hbN⟩); (rw [HE.out] at hfr); (obtain ⟨C1, k1, C2, k2, rfl, r1, r2, r3, r4⟩ := FrIn.shape hfr); (have H6 := HoldF.next hbN (And.left (by assumption))); (obtain ⟨⟨x0, x1, x2, m0, m1, m2⟩, f1⟩ := H6.held.store)))
      go_wp2
      obtain ⟨t1, t2⟩ := H6.held.res (.bool (decide (s.num < 0))) (.slice C1 (dg s.num.natAbs).length k1) (.slice C2 (dg s.den).length k2)
      exact bodyPost_ret (results_cell_row rfl _ _ (w.heap.size + 1) 24 _ (0, 0) _ rfl t2 Try.underlying24 rfl (by kernel_rfl)) rfl ⟨_, rfl, ⟨_, _, rfl, H6.held.kept r1 _ _ _, H6.held.kept r2 _ _ _, r3, r4⟩, t1⟩
  · have l0 : 0 < (dg R).length := Nat.pos_of_ne_zero (fun h => hR0 (dg_len_zero.1 h))
    cases b
    · have hval : mkRat (sgn false Q) 1 = s := by
        rw [mk1, HSE.out, EQ.out, floor_pos (of_decide_eq_false HB.out.symm)]; rfl
      have HE := Lib.hid hval
      have HS := Lib.hid (show Short (mkRat (sgn false Q) 1) by rw [hval]; exact HRES.out)
      clear hval hR0
      go_wp2_with fail
      have hs := (HoldF.next (bl_drew _) H4).cells
      have HQ5 := Lib.hid (Nm.next (bl_drew _) HQ4.out)
      go_region_held3 (fun w' => HoldF w (.bool false) (.slice B1 (dg q.num.natAbs).length d1) (.slice B2 (dg q.den).length d2) w3.heap.size (.slice A5 (dg Q).length c5) (.slice A6 (dg R).length c6) w' ∧ (w'.cell? ⟨w.heap.size, 0, none⟩ = some (.bool false) ∧ w'.cell? ⟨w.heap.size, 1, none⟩ = some (.slice B1 (dg q.num.natAbs).length d1) ∧ w'.cell? ⟨w.heap.size, 2, none⟩ = some (.slice B2 (dg q.den).length d2)) ∧ (w'.cell? ⟨w3.heap.size, 0, none⟩ = some (.slice A5 (dg Q).length c5) ∧ w'.cell? ⟨w3.heap.size, 1, none⟩ = some (.slice A6 (dg R).length c6)))
        ((first | exact hs | exact (HoldF.set H6 hgs _ _ _ (boolne _) (slne _ _ _) (slne _ _ _)).cells | exact (HoldF.next hbN (And.left (by assumption))).cells))
        (first
          | (go_at_call 84; (with_reducible refine (rone_calls _).mono ?_); (rintro e w' ⟨v, rfl, hv1, hbN⟩); (have HQ6 := Nm.next hbN HQ5.out))
          | (go_at_call 82; (with_reducible refine (rlowest_calls _ _ _ Q 1 false HQ6 hv1 (by omega) (by omega) (by rw [dg_one]; simp) HS.out).mono ?_); (rintro e w' ⟨v, rfl, hfr, hbN⟩); (rw [HE.out] at hfr); (obtain ⟨C1, k1, C2, k2, rfl, r1, r2, r3, r4⟩ := FrIn.shape hfr); (have H6 := HoldF.next hbN (And.left (by assumption))); (obtain ⟨⟨x0, x1, x2, m0, m1, m2⟩, f1⟩ := H6.held.store)))
      go_wp2
      obtain ⟨t1, t2⟩ := H6.held.res (.bool (decide (s.num < 0))) (.slice C1 (dg s.num.natAbs).length k1) (.slice C2 (dg s.den).length k2)
      exact bodyPost_ret (results_cell_row rfl _ _ (w.heap.size + 1) 24 _ (0, 0) _ rfl t2 Try.underlying24 rfl (by kernel_rfl)) rfl ⟨_, rfl, ⟨_, _, rfl, H6.held.kept r1 _ _ _, H6.held.kept r2 _ _ _, r3, r4⟩, t1⟩
    · have hval : mkRat (sgn true (Q + 1)) 1 = s := by
        rw [mk1, HSE.out, EQ.out, floor_neg2 (of_decide_eq_true HB.out.symm) (by rw [← ER.out]; omega)]; rfl
      have HE := Lib.hid hval
      have HS := Lib.hid (show Short (mkRat (sgn true (Q + 1)) 1) by rw [hval]; exact HRES.out)
      have sQ := dg_add_le hyb (show (dg 1).length ≤ 1073741822 by rw [dg_one]; simp)
      clear hval hR0
      go_wp2_with fail
      have hs := (HoldF.next (bl_drew _) H4).cells
      have HQ5 := Lib.hid (Nm.next (bl_drew _) HQ4.out)
      go_region_held3 (fun w' => HoldF w (.bool true) (.slice B1 (dg q.num.natAbs).length d1) (.slice B2 (dg q.den).length d2) w3.heap.size (.slice A5 (dg Q).length c5) (.slice A6 (dg R).length c6) w' ∧ (w'.cell? ⟨w.heap.size, 0, none⟩ = some (.bool true) ∧ w'.cell? ⟨w.heap.size, 1, none⟩ = some (.slice B1 (dg q.num.natAbs).length d1) ∧ w'.cell? ⟨w.heap.size, 2, none⟩ = some (.slice B2 (dg q.den).length d2)) ∧ (w'.cell? ⟨w3.heap.size, 0, none⟩ = some (.slice A5 (dg Q).length c5) ∧ w'.cell? ⟨w3.heap.size, 1, none⟩ = some (.slice A6 (dg R).length c6)))
        ((first | exact hs | exact (HoldF.set H6 hgs _ _ _ (boolne _) (slne _ _ _) (slne _ _ _)).cells | exact (HoldF.next hbN (And.left (by assumption))).cells))
        (first
          | (go_at_call 84; (with_reducible refine (rone_calls _).mono ?_); (rintro e w' ⟨v, rfl, hv1, hbN⟩); (first | (have HZ := HQ6; have hbB := hbN; have hp2 := Nm.next hbB hp1) | (have HQ6 := Nm.next hbN HQ5.out)))
          | (go_at_call 83; (with_reducible refine (rplus_calls _ _ _ Q 1 HQ6 hv1 (by omega) (by rw [dg_one]; simp)).mono ?_); (rintro e w' ⟨v, rfl, hp1, hbN⟩))
          | (go_at_call 82; (with_reducible refine (rlowest_calls _ _ _ (Q + 1) 1 true hp2 hv1 (by omega) (by omega) (by rw [dg_one]; simp) HS.out).mono ?_); (rintro e w' ⟨v, rfl, hfr, hbN⟩); (rw [HE.out] at hfr); (obtain ⟨C1, k1, C2, k2, rfl, r1, r2, r3, r4⟩ := FrIn.shape hfr); (have H6 := HoldF.next hbN (And.left (by assumption))); (obtain ⟨⟨x0, x1, x2, m0, m1, m2⟩, f1⟩ := H6.held.store)))
      go_wp2
      obtain ⟨t1, t2⟩ := H6.held.res (.bool (decide (s.num < 0))) (.slice C1 (dg s.num.natAbs).length k1) (.slice C2 (dg s.den).length k2)
      exact bodyPost_ret (results_cell_row rfl _ _ (w.heap.size + 1) 24 _ (0, 0) _ rfl t2 Try.underlying24 rfl (by kernel_rfl)) rfl ⟨_, rfl, ⟨_, _, rfl, H6.held.kept r1 _ _ _, H6.held.kept r2 _ _ _, r3, r4⟩, t1⟩
/-- Two boxes, a cell for the result, and a ratio. -/
def HoldV (w : World) (a0 a1 a2 b0 b1 b2 : Value) (g : Nat) (r0 r1 r2 : Value) (w' : World) : Prop := HeldB w 24 24 a0 a1 a2 b0 b1 b2 w' ∧ Blk w' g 59 #[r0, r1, r2]
theorem HoldV.cells {w w' : World} {a0 a1 a2 b0 b1 b2 r0 r1 r2 : Value} {g : Nat} (h : HoldV w a0 a1 a2 b0 b1 b2 g r0 r1 r2 w') : HoldV w a0 a1 a2 b0 b1 b2 g r0 r1 r2 w' ∧ (w'.cell? ⟨w.heap.size, 0, none⟩ = some a0 ∧ w'.cell? ⟨w.heap.size, 1, none⟩ = some a1 ∧ w'.cell? ⟨w.heap.size, 2, none⟩ = some a2) ∧ (w'.cell? ⟨g, 0, none⟩ = some r0 ∧ w'.cell? ⟨g, 1, none⟩ = some r1 ∧ w'.cell? ⟨g, 2, none⟩ = some r2) :=
  ⟨h, h.1.cells.2.1, ⟨h.2.cell 0, h.2.cell 1, h.2.cell 2⟩⟩
theorem HoldV.next {w w1 w2 : World} {a0 a1 a2 b0 b1 b2 r0 r1 r2 : Value} {g : Nat} (k : Below w1.heap.size w1 w2) (h : HoldV w a0 a1 a2 b0 b1 b2 g r0 r1 r2 w1) : HoldV w a0 a1 a2 b0 b1 b2 g r0 r1 r2 w2 := ⟨HeldB.next k h.1, h.2.below k⟩
theorem HoldV.set {w w1 : World} {a0 a1 a2 b0 b1 b2 r0 r1 r2 : Value} {g : Nat} (h : HoldV w a0 a1 a2 b0 b1 b2 g r0 r1 r2 w1) (hg : g ≠ w.heap.size + 2) (y0 y1 y2 : Value) (n0 : ∀ n, y0 ≠ .int .u32 n) (n1 : ∀ n, y1 ≠ .int .u32 n) (n2 : ∀ n, y2 ≠ .int .u32 n) : HoldV w a0 a1 a2 b0 b1 b2 g r0 r1 r2 (((w1.setCell ⟨w.heap.size + 2, 0, none⟩ y0).setCell ⟨w.heap.size + 2, 1, none⟩ y1).setCell ⟨w.heap.size + 2, 2, none⟩ y2) :=
  ⟨HeldB.set h.1 y0 y1 y2 n0 n1 n2, ((h.2.other _ _ (by simpa using hg)).other _ _ (by simpa using hg)).other _ _ (by simpa using hg)⟩
theorem frac_div_zero (w : World) (va vb : Value) (na nb : Bool) (lna lda lnb ldb : List Int) (ha : FrIn w va na lna lda) (hb : FrIn w vb nb lnb ldb) (hsa : lna.length + lda.length ≤ 4096) (hsb : lnb.length + ldb.length ≤ 4096) (hz : fixq nb lnb ldb = 0) :
    Calls Try.prog 29 #[va, vb] w (NonePost 11 w) := by
  have s1 : Szq 500000000 (fixq na lna lda) := (szq_fix (k := 4097) ha.wd.1 ha.wd.2 (by omega) (by omega) (by omega)).big (by omega)
  have s2 : Szq 500000000 (fixq nb lnb ldb) := (szq_fix (k := 4097) hb.wd.1 hb.wd.2 (by omega) (by omega) (by omega)).big (by omega)
  obtain ⟨q, hq⟩ : ∃ q, q = fixq na lna lda := ⟨_, rfl⟩
  obtain ⟨r, hr⟩ : ∃ q, q = fixq nb lnb ldb := ⟨_, rfl⟩
  have EQ := Lib.hid hq
  have ER := Lib.hid hr
  rw [← hr] at hz
  have HZ := Lib.hid hz
  clear hq hr hz s1 s2
  obtain ⟨A, c, A2, c2, rfl, _, _, _, _⟩ := ha.shape
  obtain ⟨A3, c3, A4, c4, rfl, _, _, _, _⟩ := hb.shape
  have H := heldB_new w 24 24 (.bool na) (.slice A lna.length c) (.slice A2 lda.length c2) (.bool nb) (.slice A3 lnb.length c3) (.slice A4 ldb.length c4) (.bool false) (.slice none 0 0) (.slice none 0 0) (boolne _) (slne _ _ _) (slne _ _ _)
  obtain ⟨_, ⟨j0, j1, j2⟩, ⟨j3, j4, j5⟩⟩ := H.cells
  go_enter Try.func29, Try.ntmps29
  go_wp2_with fail
  refine (taken_calls _ _ nb lnb ldb (hb.below H.bl) hsb).mono ?_
  rintro e w1 ⟨v, rfl, hvb, hb1⟩
  rw [← ER.out] at hvb
  have H1 := HeldB.next hb1 H
  obtain ⟨B1, d1, B2, d2, rfl, n1, n2⟩ := hvb.open
  obtain ⟨b, hbb⟩ : ∃ b, b = decide (r.num < 0) := ⟨_, rfl⟩
  rw [← hbb] at hvb ⊢
  have hal := below_alloc0 w1 (.cells #[.slice B1 (dg r.num.natAbs).length d1, .slice B2 (dg r.den).length d2, .bool b] 59)
  have HV : HoldV w (.bool na) (.slice A lna.length c) (.slice A2 lda.length c2) (.bool nb) (.slice A3 lnb.length c3) (.slice A4 ldb.length c4) w1.heap.size (.slice B1 (dg r.num.natAbs).length d1) (.slice B2 (dg r.den).length d2) (.bool b) (w1.alloc (.cells #[.slice B1 (dg r.num.natAbs).length d1, .slice B2 (dg r.den).length d2, .bool b] 59)) := ⟨HeldB.next hal H1, Blk.new w1 _ _⟩
  have hgs : w1.heap.size ≠ w.heap.size + 2 := by
    obtain ⟨_, _, _, x0, x1, x2, _, t⟩ := H1
    have := t.lt
    omega
  have hvb2 := RtV.below hvb hal
  clear j0 j1 j2 j3 j4 j5 hbb H H1 hb1 hal n1 n2 hvb
  obtain ⟨_, ⟨j0, j1, j2⟩, ⟨j3, j4, j5⟩⟩ := HV.cells
  go_wp2_with fail
  refine (sign_calls _ _ r hvb2).mono ?_
  rintro e w2 ⟨rfl, hb2⟩
  replace HV := HoldV.next hb2 HV
  have hvb3 := RtV.below hvb2 hb2
  clear j0 j1 j2 j3 j4 j5 hvb2 hb2
  have hsg : r.num.sign = 0 := by rw [HZ.out]; rfl
  obtain ⟨⟨x0, x1, x2, m0, m1, m2⟩, fz⟩ := HV.1.store
  clear hvb3
  go_wp2
  obtain ⟨t1, t2⟩ := HV.1.res (.bool false) (.slice none 0 0) (.slice none 0 0)
  exact bodyPost_ret (results_fe rfl _ _ (w.heap.size + 2) 24 _ (0, 0) _ rfl t2 Try.underlying24 rfl (by kernel_rfl)) rfl ⟨rfl, t1⟩
theorem frac_div_calls (w : World) (va vb : Value) (na nb : Bool) (lna lda lnb ldb : List Int) (ha : FrIn w va na lna lda) (hb : FrIn w vb nb lnb ldb) (hsa : lna.length + lda.length ≤ 4096) (hsb : lnb.length + ldb.length ≤ 4096) (hz : fixq nb lnb ldb ≠ 0) (hres : Short (fixq na lna lda * (fixq nb lnb ldb)⁻¹)) :
    Calls Try.prog 29 #[va, vb] w (FrePost (fixq na lna lda * (fixq nb lnb ldb)⁻¹) w) := by
  have s1 : Szq 500000000 (fixq na lna lda) := (szq_fix (k := 4097) ha.wd.1 ha.wd.2 (by omega) (by omega) (by omega)).big (by omega)
  have s2 : Szq 500000000 (fixq nb lnb ldb) := (szq_fix (k := 4097) hb.wd.1 hb.wd.2 (by omega) (by omega) (by omega)).big (by omega)
  obtain ⟨q, hq⟩ : ∃ q, q = fixq na lna lda := ⟨_, rfl⟩
  obtain ⟨r, hr⟩ : ∃ q, q = fixq nb lnb ldb := ⟨_, rfl⟩
  have EQ := Lib.hid hq
  have ER := Lib.hid hr
  rw [← hq, ← hr] at hres ⊢
  rw [← hr] at hz s2
  rw [← hq] at s1
  have HZ := Lib.hid hz
  obtain ⟨s, hse⟩ : ∃ s, s = q * r⁻¹ := ⟨_, rfl⟩
  rw [← hse] at hres ⊢
  have HSE := Lib.hid hse.symm
  have s3 := szq_inv s2 (by omega)
  clear hq hr hz hse
  obtain ⟨A, c, A2, c2, rfl, _, _, _, _⟩ := ha.shape
  obtain ⟨A3, c3, A4, c4, rfl, _, _, _, _⟩ := hb.shape
  have H := heldB_new w 24 24 (.bool na) (.slice A lna.length c) (.slice A2 lda.length c2) (.bool nb) (.slice A3 lnb.length c3) (.slice A4 ldb.length c4) (.bool false) (.slice none 0 0) (.slice none 0 0) (boolne _) (slne _ _ _) (slne _ _ _)
  obtain ⟨_, ⟨j0, j1, j2⟩, ⟨j3, j4, j5⟩⟩ := H.cells
  go_enter Try.func29, Try.ntmps29
  go_wp2_with fail
  refine (taken_calls _ _ nb lnb ldb (hb.below H.bl) hsb).mono ?_
  rintro e w1 ⟨v, rfl, hvb, hb1⟩
  rw [← ER.out] at hvb
  have H1 := HeldB.next hb1 H
  obtain ⟨B1, d1, B2, d2, rfl, n1, n2⟩ := hvb.open
  obtain ⟨b, hbb⟩ : ∃ b, b = decide (r.num < 0) := ⟨_, rfl⟩
  rw [← hbb] at hvb ⊢
  have hal := below_alloc0 w1 (.cells #[.slice B1 (dg r.num.natAbs).length d1, .slice B2 (dg r.den).length d2, .bool b] 59)
  have HV : HoldV w (.bool na) (.slice A lna.length c) (.slice A2 lda.length c2) (.bool nb) (.slice A3 lnb.length c3) (.slice A4 ldb.length c4) w1.heap.size (.slice B1 (dg r.num.natAbs).length d1) (.slice B2 (dg r.den).length d2) (.bool b) (w1.alloc (.cells #[.slice B1 (dg r.num.natAbs).length d1, .slice B2 (dg r.den).length d2, .bool b] 59)) := ⟨HeldB.next hal H1, Blk.new w1 _ _⟩
  have hgs : w1.heap.size ≠ w.heap.size + 2 := by
    obtain ⟨_, _, _, x0, x1, x2, _, t⟩ := H1
    have := t.lt
    omega
  have hvb2 := RtV.below hvb hal
  clear j0 j1 j2 j3 j4 j5 hbb H H1 hb1 hal n1 n2 hvb
  obtain ⟨_, ⟨j0, j1, j2⟩, ⟨j3, j4, j5⟩⟩ := HV.cells
  go_wp2_with fail
  refine (sign_calls _ _ r hvb2).mono ?_
  rintro e w2 ⟨rfl, hb2⟩
  replace HV := HoldV.next hb2 HV
  have hvb3 := RtV.below hvb2 hb2
  clear j0 j1 j2 j3 j4 j5 hvb2 hb2
  have hsg : (r.num.sign == 0) = false := beq_eq_false_iff_ne.2 (fun h => HZ.out (Rat.num_eq_zero.1 (Int.sign_eq_zero_iff_zero.1 h)))
  have HVB3 := Lib.hid hvb3
  clear hvb3
  go_wp2_with fail
  have hs := (HoldV.next (bl_drew _) HV).cells
  have ha0 := Lib.hid (FrIn.below (FrIn.below ha HV.1.1) (bl_drew _))
  have hv0 := Lib.hid (RtV.below HVB3.out (bl_drew _))
  go_region_held3 (fun w' => HoldV w (.bool na) (.slice A lna.length c) (.slice A2 lda.length c2) (.bool nb) (.slice A3 lnb.length c3) (.slice A4 ldb.length c4) w1.heap.size (.slice B1 (dg r.num.natAbs).length d1) (.slice B2 (dg r.den).length d2) (.bool b) w' ∧ (w'.cell? ⟨w.heap.size, 0, none⟩ = some (.bool na) ∧ w'.cell? ⟨w.heap.size, 1, none⟩ = some (.slice A lna.length c) ∧ w'.cell? ⟨w.heap.size, 2, none⟩ = some (.slice A2 lda.length c2)) ∧ (w'.cell? ⟨w1.heap.size, 0, none⟩ = some (.slice B1 (dg r.num.natAbs).length d1) ∧ w'.cell? ⟨w1.heap.size, 1, none⟩ = some (.slice B2 (dg r.den).length d2) ∧ w'.cell? ⟨w1.heap.size, 2, none⟩ = some (.bool b)))
    ((first | exact hs | exact (HoldV.set H6 hgs _ _ _ (boolne _) (slne _ _ _) (slne _ _ _)).cells | exact (HoldV.next hbN (And.left (by assumption))).cells))
    (first
      | (go_at_call 71; (with_reducible refine (taken_calls _ _ na lna lda ha0.out hsa).mono ?_); (rintro e w' ⟨v, rfl, hva, hbN⟩); (rw [← EQ.out] at hva); (have hv1 := RtV.below hv0.out hbN))
      | (go_at_call 64; (with_reducible refine (over_calls _ _ r hv1 HZ.out).mono ?_); (rintro e w' ⟨v, rfl, hvo, hbN⟩); (have hva2 := RtV.below hva hbN))
      | (go_at_call 63; (with_reducible refine (times_calls _ _ _ q r⁻¹ hva2 hvo s1 s3).mono ?_); (rintro e w' ⟨v, rfl, hvt, hbN⟩); (rw [HSE.out] at hvt))
      | (go_at_call 65; (with_reducible refine (told_calls _ _ s hvt (Short.ok hres)).mono ?_); (rintro e w' ⟨v, rfl, hfr, hbN⟩); (obtain ⟨C1, k1, C2, k2, rfl, r1, r2, r3, r4⟩ := FrIn.shape hfr); (have H6 := HoldV.next hbN (And.left (by assumption))); (obtain ⟨⟨x0, x1, x2, m0, m1, m2⟩, f1⟩ := H6.1.store)))
  go_wp2
  obtain ⟨t1, t2⟩ := H6.1.res (.bool (decide (s.num < 0))) (.slice C1 (dg s.num.natAbs).length k1) (.slice C2 (dg s.den).length k2)
  exact bodyPost_ret (results_fe rfl _ _ (w.heap.size + 2) 24 _ (0, 0) _ rfl t2 Try.underlying24 rfl (by kernel_rfl)) rfl ⟨_, rfl, ⟨_, _, rfl, H6.1.kept r1 _ _ _, H6.1.kept r2 _ _ _, r3, r4⟩, t1⟩
end Go.Proofs.Ytdmgceckmciifaa
