/- The reference: Right. -/
import Derived.Test.YtajckdheecgceaaRef13
set_option linter.unusedVariables false
set_option linter.unusedSimpArgs false
namespace Go.Proofs.Ytajckdheecgceaa
open Go.RowKit

theorem sum_fits3 {b : Nat} (h : b + 1 ≤ 4096) : decide (4096 < (b : Int) + 1) = false := decide_eq_false (by omega)
theorem sum_fits4 {a b : Nat} (h : a + 1 + (b + 1) ≤ 4096) : decide (4096 < (a : Int) + 1 + ((b : Int) + 1)) = false := decide_eq_false (by omega)
theorem one_iff {l : List Int} (h : l.length = 1) : l = [1] ↔ wat l 0 = 1 := by
  obtain ⟨x, rfl⟩ := List.length_eq_one_iff.1 h
  simp [wat]
set_option maxRecDepth 100000 in
set_option maxHeartbeats 4000000 in
theorem rright_calls (w : World) (v : Value) (neg : Bool) (ln ld : List Int) (h : FrIn w v neg ln ld) (hs : ln.length + ld.length ≤ 4096) :
    Calls Try.prog 94 #[v] w fun e w' => e = .returned (.bool (decide (RightP neg ln ld))) ∧ Below w.heap.size w w' := by
  obtain ⟨v1, v2, rfl, hn, hd, w1, w2⟩ := h
  have hn' := hn
  have hd' := hd
  obtain ⟨A, c, rfl, hl, hc, hr⟩ := hn
  obtain ⟨A2, c2, rfl, hl2, hc2, hr2⟩ := hd
  have hb0 := below_alloc0 w (.cells #[.bool neg, .slice A ln.length c, .slice A2 ld.length c2] 38)
  by_cases d0 : ld = []
  · have HR := Lib.hid (show decide (RightP neg ln ld) = false from decide_eq_false (fun h => h.1 d0))
    have e1 : ld.length = 0 := by rw [d0]; rfl
    rw [e1] at hb0 ⊢
    clear hn' hd' hr hr2 d0 hs
    go_enter Try.func94, Try.ntmps94
    go_wp2_with fail
    go_quiet (fail)
    go_wp2
    go_ret
    exact ⟨by rw [HR.out]; rfl, bl_trans hb0 (bl_drewN _ _)⟩
  have p0 : 0 < ld.length := List.length_pos_iff.2 d0
  obtain ⟨jd, ej⟩ : ∃ j, ld.length = j + 1 := ⟨ld.length - 1, by omega⟩
  obtain ⟨ad, rfl, hcell⟩ := hr2 p0
  have m1 := hcell jd (by omega)
  have m1' := (cell_below hb0 m1)
  have RX : RightP neg ln ld → wat ld jd ≠ 0 := fun h => by
    have := h.2.1
    rwa [ej, Nat.add_sub_cancel] at this
  have RX0 : wat ld jd ≠ 0 → ln = [] → (RightP neg ln ld ↔ (ld = [1] ∧ neg = false)) := fun h1 h2 => by
    unfold RightP
    rw [ej, if_pos h2, Nat.add_sub_cancel]
    exact ⟨fun h => h.2.2, fun h => ⟨d0, h1, h⟩⟩
  have RX1 : wat ld jd ≠ 0 → ln ≠ [] → ∀ jn, ln.length = jn + 1 → (RightP neg ln ld ↔ (wat ln jn ≠ 0 ∧ (ld = [1] ∨ Nat.gcd (nv ln) (nv ld) = 1))) := fun h1 h2 jn h3 => by
    unfold RightP
    rw [ej, if_neg h2, Nat.add_sub_cancel, h3, Nat.add_sub_cancel]
    exact ⟨fun h => h.2.2, fun h => ⟨d0, h1, h⟩⟩
  have ONE0 : ¬ jd = 0 → ¬ ld = [1] := fun h h2 => by
    rw [h2] at ej; simp at ej; omega
  have ONE1 : jd = 0 → (ld = [1] ↔ wat ld 0 = 1) := fun h => one_iff (by omega)
  clear hcell hr2 d0 p0
  rw [ej] at hb0 hl2 hs m1' hd' ⊢
  have q1 := sum_fits3 (b := jd) (by omega)
  by_cases z1 : wat ld jd = 0
  · have HR := Lib.hid (show decide (RightP neg ln ld) = false from decide_eq_false (fun h => RX h z1))
    have g1 : (wat ld jd == 0) = true := by simp [z1]
    have g4 : (((ln.length : Nat) : Int) + ((jd : Int) + 1) ≤ 4096) := by omega
    have g5 : decide (4096 < ((ln.length : Nat) : Int) + ((jd : Int) + 1)) = false := decide_eq_false (by omega)
    clear RX RX0 RX1 ONE0 ONE1 hn' hd' hr m1 z1 ej
    go_enter Try.func94, Try.ntmps94
    go_wp2_with fail
    go_quiet (fail)
    have m1' := cell_below (bl_drewN _ nq) m1'
    have K := (Blk.new w 38 #[.bool neg, .slice A ln.length c, .slice (some ad) (jd + 1) c2]).below (bl_drewN _ nq)
    have k2 := K.cell 2
    go_wp2
    go_ret
    exact ⟨by rw [HR.out]; rfl, bl_trans hb0 (bl_drewN _ _)⟩
  have g1 : (wat ld jd == 0) = false := by simp [z1]
  by_cases n0 : ln = []
  · have en : ln.length = 0 := by rw [n0]; rfl
    have RX2 := RX0 z1 n0
    clear RX RX0 RX1 hn' hd' hr m1 ej hs hl
    rw [en] at hb0 m1' ⊢
    cases neg
    · by_cases hj : jd = 0
      · subst hj
        have O1 := ONE1 rfl
        rw [add0] at m1'
        simp only [Nat.zero_add] at hb0 m1' ⊢
        by_cases x1 : wat ld 0 = 1
        · have HR := Lib.hid (show decide (RightP false ln ld) = true from decide_eq_true (RX2.2 ⟨O1.2 x1, rfl⟩))
          rw [x1] at m1'
          clear RX2 ONE0 ONE1 O1 z1 g1 x1 n0 en
          go_enter Try.func94, Try.ntmps94
          go_wp2_with fail
          go_quiet (fail)
          have hbq := bl_trans hb0 (bl_drewN _ nq)
          have m1'' := cell_below (bl_drewN _ nq) m1'
          have K := (Blk.new w 38 #[.bool false, .slice A 0 c, .slice (some ad) 1 c2]).below (bl_drewN _ nq)
          have k0 := K.cell 0
          have k1 := K.cell 1
          have k2 := K.cell 2
          go_wp2
          go_ret
          exact ⟨by rw [HR.out]; rfl, hbq⟩
        · have HR := Lib.hid (show decide (RightP false ln ld) = false from decide_eq_false (fun h => x1 (O1.1 (RX2.1 h).1)))
          have g2 : (wat ld 0 == 1) = false := by simp [x1]
          clear RX2 ONE0 ONE1 O1 z1 x1 n0 en
          go_enter Try.func94, Try.ntmps94
          go_wp2_with fail
          go_quiet (fail)
          have hbq := bl_trans hb0 (bl_drewN _ nq)
          have m1'' := cell_below (bl_drewN _ nq) m1'
          have K := (Blk.new w 38 #[.bool false, .slice A 0 c, .slice (some ad) 1 c2]).below (bl_drewN _ nq)
          have k0 := K.cell 0
          have k1 := K.cell 1
          have k2 := K.cell 2
          go_wp2
          go_ret
          exact ⟨by rw [HR.out]; rfl, hbq⟩
      · have HR := Lib.hid (show decide (RightP false ln ld) = false from decide_eq_false (fun h => ONE0 hj (RX2.1 h).1))
        have g2 : (((jd : Int) + 1) == 1) = false := beq_eq_false_iff_ne.2 (by omega)
        clear RX2 ONE0 ONE1 z1 n0 en
        go_enter Try.func94, Try.ntmps94
        go_wp2_with fail
        go_quiet (fail)
        have hbq := bl_trans hb0 (bl_drewN _ nq)
        have m1'' := cell_below (bl_drewN _ nq) m1'
        have K := (Blk.new w 38 #[.bool false, .slice A 0 c, .slice (some ad) (jd + 1) c2]).below (bl_drewN _ nq)
        have k0 := K.cell 0
        have k1 := K.cell 1
        have k2 := K.cell 2
        go_wp2
        go_ret
        exact ⟨by rw [HR.out]; rfl, hbq⟩
    · have HR := Lib.hid (show decide (RightP true ln ld) = false from decide_eq_false (fun h => by have := (RX2.1 h).2; cases this))
      clear RX2 ONE0 ONE1 z1 n0 en
      go_enter Try.func94, Try.ntmps94
      go_wp2_with fail
      go_quiet (fail)
      have hbq := bl_trans hb0 (bl_drewN _ nq)
      have m1'' := cell_below (bl_drewN _ nq) m1'
      have K := (Blk.new w 38 #[.bool true, .slice A 0 c, .slice (some ad) (jd + 1) c2]).below (bl_drewN _ nq)
      have k0 := K.cell 0
      have k1 := K.cell 1
      have k2 := K.cell 2
      go_wp2
      go_ret
      exact ⟨by rw [HR.out]; rfl, hbq⟩
  have p0 : 0 < ln.length := List.length_pos_iff.2 n0
  obtain ⟨jn, en⟩ : ∃ j, ln.length = j + 1 := ⟨ln.length - 1, by omega⟩
  obtain ⟨an, rfl, hcell⟩ := hr p0
  have m2 := hcell jn (by omega)
  have m2' := cell_below hb0 m2
  have RX2 := RX1 z1 n0 jn en
  have D2 : wat ln jn ≠ 0 → Nm w (.slice (some an) (jn + 1) c) (nv ln) := fun h => by
    unfold Nm; rw [dg_nv w1 (fun _ => by rw [show ln.length - 1 = jn by omega]; exact h), ← en]; exact hn'
  have D3 : Nm w (.slice (some ad) (jd + 1) c2) (nv ld) := by
    unfold Nm; rw [dg_nv w2 (fun _ => by rw [show ld.length - 1 = jd by omega]; exact z1)]; exact hd'
  have S2 : wat ln jn ≠ 0 → (dg (nv ln)).length ≤ 1073741823 := fun h => by
    rw [dg_nv w1 (fun _ => by rw [show ln.length - 1 = jn by omega]; exact h)]; omega
  have S3 : (dg (nv ld)).length ≤ 1073741823 := by
    rw [dg_nv w2 (fun _ => by rw [show ld.length - 1 = jd by omega]; exact z1)]; omega
  have P3 : 0 < nv ld := nv_pos w2 (fun h => by rw [h] at ej; simp at ej) (by rw [show ld.length - 1 = jd by omega]; exact z1)
  have q2 := sum_fits4 (a := jn) (b := jd) (by omega)
  have q3 := sum_fits3 (b := jn) (by omega)
  have q4 := sum_fits2 (a := jn) (b := jd) (by omega)
  have q5 : ((jd : Int) + 1 == 0) = false := beq_eq_false_iff_ne.2 (by omega)
  have q6 : ((jn : Int) + 1 == 0) = false := beq_eq_false_iff_ne.2 (by omega)
  have q7 : jn ≤ 4096 := by omega
  rw [en] at hb0 hl m1' m2' ⊢
  clear RX RX0 RX1 hn' hd' hr m1 m2 ej hs hcell p0 n0 en z1
  by_cases z2 : wat ln jn = 0
  · have HR := Lib.hid (show decide (RightP neg ln ld) = false from decide_eq_false (fun h => (RX2.1 h).1 z2))
    have g2 : (wat ln jn == 0) = true := by simp [z2]
    clear RX2 ONE0 ONE1 D2 D3 S2 S3 P3 z2
    go_enter Try.func94, Try.ntmps94
    go_wp2_with fail
    go_quiet (fail)
    have hbq := bl_trans hb0 (bl_drewN _ nq)
    have m1'' := cell_below (bl_drewN _ nq) m1'
    have K := (Blk.new w 38 #[.bool neg, .slice (some an) (jn + 1) c, .slice (some ad) (jd + 1) c2]).below (bl_drewN _ nq)
    have k0 := K.cell 0
    have k1 := K.cell 1
    have k2 := K.cell 2
    have m2'' := cell_below (bl_drewN _ nq) m2'
    go_wp2
    go_ret
    exact ⟨by rw [HR.out]; rfl, hbq⟩
  have g2 : (wat ln jn == 0) = false := by simp [z2]
  have D2' := (D2 z2).below hb0
  have D3' := D3.below hb0
  have S2' := S2 z2
  obtain ⟨G, hG⟩ : ∃ G, G = Nat.gcd (nv ln) (nv ld) := ⟨_, rfl⟩
  have hG0 : 0 < G := by rw [hG]; exact Nat.gcd_pos_of_pos_right _ P3
  rw [← hG] at RX2
  have HG := Lib.hid hG
  clear hG D2 D3 S2 P3
  by_cases hj : jd = 0
  · subst hj
    have O1 := ONE1 rfl
    rw [add0] at m1'
    simp only [Nat.zero_add, Int.natCast_zero, Int.zero_add] at hb0 m1' m2' D2' D3' q4 q2 ⊢
    clear q5 q1
    by_cases x1 : wat ld 0 = 1
    · have HR := Lib.hid (show decide (RightP neg ln ld) = true from decide_eq_true (RX2.2 ⟨z2, .inl (O1.2 x1)⟩))
      rw [x1] at m1'
      clear RX2 ONE0 ONE1 O1 g1 x1 D2' D3' z2
      go_enter Try.func94, Try.ntmps94
      go_wp2_with fail
      go_quiet (fail)
      have hbq := bl_trans hb0 (bl_drewN _ nq)
      have m1'' := cell_below (bl_drewN _ nq) m1'
      have K := (Blk.new w 38 #[.bool neg, .slice (some an) (jn + 1) c, .slice (some ad) 1 c2]).below (bl_drewN _ nq)
      have k0 := K.cell 0
      have k1 := K.cell 1
      have k2 := K.cell 2
      have m2'' := cell_below (bl_drewN _ nq) m2'
      go_wp2
      go_ret
      exact ⟨by rw [HR.out]; rfl, hbq⟩
    · have HRR := Lib.hid (show decide (RightP neg ln ld) = decide (G = 1) from decide_eq_decide.2 ⟨fun h => (RX2.1 h).2.resolve_left (fun h2 => x1 (O1.1 h2)), fun h => RX2.2 ⟨z2, .inr h⟩⟩)
      have n2 : (wat ld 0 == 1) = false := by simp [x1]
      clear RX2 ONE0 ONE1 O1 x1 z2
      go_enter Try.func94, Try.ntmps94
      go_wp2_with fail
      go_quiet (fail)
      have hbq := bl_trans hb0 (bl_drewN _ nq)
      have m1'' := cell_below (bl_drewN _ nq) m1'
      have K := (Blk.new w 38 #[.bool neg, .slice (some an) (jn + 1) c, .slice (some ad) 1 c2]).below (bl_drewN _ nq)
      have k0 := K.cell 0
      have k1 := K.cell 1
      have k2 := K.cell 2
      have m2'' := cell_below (bl_drewN _ nq) m2'
      go_wp2_with fail
      refine (rcommon_calls _ _ _ _ _ (D2'.below (bl_drewN _ _)) (D3'.below (bl_drewN _ _)) S2' S3).mono ?_
      rintro e w4 ⟨v, rfl, hv, hb4⟩
      rw [← HG.out] at hv
      have hbw := bl_trans hbq hb4
      by_cases gl : (dg G).length = 1
      · obtain ⟨ad1, c1, rfl, e1, _⟩ := word_of hv gl
        by_cases o1 : G = 1
        · have HR := Lib.hid (show decide (RightP neg ln ld) = true from HRR.out.trans (decide_eq_true o1))
          rw [o1] at e1
          clear hv gl o1 D2' D3' HRR
          go_wp2
          go_ret
          exact ⟨by rw [HR.out]; rfl, hbw⟩
        · have HR := Lib.hid (show decide (RightP neg ln ld) = false from HRR.out.trans (decide_eq_false o1))
          have n1 : ((G : Int) == 1) = false := beq_eq_false_iff_ne.2 (by omega)
          clear hv gl D2' D3' HRR
          go_wp2
          go_ret
          exact ⟨by rw [HR.out]; rfl, hbw⟩
      · have gl2 : (((dg G).length : Int) == 1) = false := beq_eq_false_iff_ne.2 (by omega)
        obtain ⟨A1, c1, rfl⟩ := hv.shape
        have HR := Lib.hid (show decide (RightP neg ln ld) = false from HRR.out.trans (decide_eq_false (fun h => by rw [h, dg_one] at gl; exact gl rfl)))
        clear hv D2' D3' HRR
        go_wp2
        go_ret
        exact ⟨by rw [HR.out]; rfl, hbw⟩
  · have HRR := Lib.hid (show decide (RightP neg ln ld) = decide (G = 1) from decide_eq_decide.2 ⟨fun h => (RX2.1 h).2.resolve_left (ONE0 hj), fun h => RX2.2 ⟨z2, .inr h⟩⟩)
    have n2 : (((jd : Int) + 1) == 1) = false := beq_eq_false_iff_ne.2 (by omega)
    clear RX2 ONE0 ONE1 z2
    go_enter Try.func94, Try.ntmps94
    go_wp2_with fail
    go_quiet (fail)
    have hbq := bl_trans hb0 (bl_drewN _ nq)
    have m1'' := cell_below (bl_drewN _ nq) m1'
    have K := (Blk.new w 38 #[.bool neg, .slice (some an) (jn + 1) c, .slice (some ad) (jd + 1) c2]).below (bl_drewN _ nq)
    have k0 := K.cell 0
    have k1 := K.cell 1
    have k2 := K.cell 2
    have m2'' := cell_below (bl_drewN _ nq) m2'
    go_wp2_with fail
    refine (rcommon_calls _ _ _ _ _ (D2'.below (bl_drewN _ _)) (D3'.below (bl_drewN _ _)) S2' S3).mono ?_
    rintro e w4 ⟨v, rfl, hv, hb4⟩
    rw [← HG.out] at hv
    have hbw := bl_trans hbq hb4
    by_cases gl : (dg G).length = 1
    · obtain ⟨ad1, c1, rfl, e1, _⟩ := word_of hv gl
      by_cases o1 : G = 1
      · have HR := Lib.hid (show decide (RightP neg ln ld) = true from HRR.out.trans (decide_eq_true o1))
        rw [o1] at e1
        clear hv gl o1 D2' D3' HRR
        go_wp2
        go_ret
        exact ⟨by rw [HR.out]; rfl, hbw⟩
      · have HR := Lib.hid (show decide (RightP neg ln ld) = false from HRR.out.trans (decide_eq_false o1))
        have n1 : ((G : Int) == 1) = false := beq_eq_false_iff_ne.2 (by omega)
        clear hv gl D2' D3' HRR
        go_wp2
        go_ret
        exact ⟨by rw [HR.out]; rfl, hbw⟩
    · have gl2 : (((dg G).length : Int) == 1) = false := beq_eq_false_iff_ne.2 (by omega)
      obtain ⟨A1, c1, rfl⟩ := hv.shape
      have HR := Lib.hid (show decide (RightP neg ln ld) = false from HRR.out.trans (decide_eq_false (fun h => by rw [h, dg_one] at gl; exact gl rfl)))
      clear hv D2' D3' HRR
      go_wp2
      go_ret
      exact ⟨by rw [HR.out]; rfl, hbw⟩

end Go.Proofs.Ytajckdheecgceaa
