/- The reference: parts, common. -/
import Derived.Test.YtajckdheecgceaaRef12
set_option linter.unusedVariables false
set_option linter.unusedSimpArgs false
namespace Go.Proofs.Ytajckdheecgceaa
open Go.RowKit

theorem rparts_calls (w : World) (va vb : Value) (a b : Nat) (ha : Nm w va a) (hb : Nm w vb b) (hb0 : 0 < b) (sm : (dg a).length ≤ 1073741823) :
    Calls Try.prog 112 #[va, vb] w (PartsPost a b w) := by
  by_cases hlt : a < b
  · exact rparts_less w va vb a b ha hb hlt
  · have hb1 : (dg b).length ≠ 0 := fun h => by have := dg_len_zero.1 h; omega
    by_cases s1 : (dg b).length = 1
    · exact rparts_one w va vb a b ha hb (by omega) hb0 s1 (by omega)
    · exact rparts_long w va vb a b ha hb (by omega) hb0 (by omega) sm

theorem rcommon_calls (w : World) (va vb : Value) (a b : Nat) (ha : Nm w va a) (hb : Nm w vb b) (sa : (dg a).length ≤ 1073741823) (sb : (dg b).length ≤ 1073741823) :
    Calls Try.prog 111 #[va, vb] w (NumPost (Nat.gcd a b) w) := by
  go_enter Try.func111, Try.ntmps111
  go_wp2
  go_loopg [0, 1] b (fun g s0 s1 wr => GcdRel w a b g s0 s1 wr)
  case atStart => exact ⟨a, b, ha, hb, rfl, sa, sb, Nat.le_refl _, Below.refl _ _⟩
  case round =>
    clear ha hb
    obtain ⟨x, y, hx, hy, hg, sx, sy, hle, hbl⟩ := hrel
    have HG := Lib.hid hg
    clear hg
    obtain ⟨A, c, rfl⟩ := hx.shape
    obtain ⟨A2, c2, rfl⟩ := hy.shape
    by_cases hy0 : (dg y).length = 0
    · have hy1 : y = 0 := dg_len_zero.1 hy0
      rw [hy0]
      have HY := Lib.hid hy1
      clear hy hy0 hy1
      by_cases hx2 : 2 < (dg x).length
      · go_wp2
        go_ret
        exact ⟨_, rfl, by rw [← HG.out, HY.out, Nat.gcd_zero_right]; exact hx, hbl⟩
      · go_wp2
        go_ret
        exact ⟨_, rfl, by rw [← HG.out, HY.out, Nat.gcd_zero_right]; exact hx, hbl⟩
    · have ly : 0 < (dg y).length := by omega
      have ly0 : ¬ y = 0 := fun h => hy0 (dg_len_zero.2 h)
      by_cases hs : (dg x).length ≤ 2 ∧ (dg y).length ≤ 2
      · obtain ⟨hs1, hs2⟩ := hs
        have g1 : ((dg y).length == 0) = false := beq_eq_false_iff_ne.2 (by omega)
        have g2 : (((dg y).length : Int) == 0) = false := int_ne0 ly
        go_wp2_with fail
        refine (rsmall_calls _ _ _ hx hs1).mono ?_
        rintro e w1 ⟨rfl, hb1⟩
        go_wp2_with fail
        refine (rsmall_calls _ _ _ (hy.below hb1) hs2).mono ?_
        rintro e w2 ⟨rfl, hb2⟩
        have hbw := bl_trans (bl_trans hbl hb1) hb2
        have S1 := Lib.hid (dg_len.1 hs1)
        have S2 := Lib.hid (dg_len.1 hs2)
        clear hs1 hs2 g1 g2
        go_wp2
        go_loopw [6, 7] (fun s t wr => ∃ p q : Nat, s = .int .u64 (p : Int) ∧ t = .int .u64 (q : Int) ∧ Nat.gcd p q = Nat.gcd a b ∧ p < 18446744073709551616 ∧ q < 18446744073709551616 ∧ Below w.heap.size w wr)
          (fun _ t _ => (intOf t).toNat)
        case atStart => exact ⟨x, y, rfl, rfl, HG.out, S1.out, S2.out, hbw⟩
        case round =>
          clear S1 S2 hbw hb1 hb2 HG
          obtain ⟨p, q, rfl, rfl, hg, hp, hq, hbl⟩ := hrel
          have HG := Lib.hid hg
          clear hg
          by_cases hq0 : q = 0
          · subst hq0
            have hg := HG.out
            rw [Nat.gcd_zero_right] at hg
            have HG2 := Lib.hid hg
            have HP := Lib.hid hp
            clear hg hp
            go_wp2_with fail
            refine (rwide_calls _ _ p ⟨rfl, HP.out⟩).mono ?_
            rintro e w3 ⟨v, rfl, hv, hb3⟩
            go_wp2
            go_ret
            exact ⟨_, rfl, by rw [← HG2.out]; exact hv, bl_trans hbl hb3⟩
          · have g1 : ((q : Int) == 0) = false := int_ne0 (by omega)
            have g2 : ((q : Int) != 0) = true := by rw [bne, g1]; rfl
            have HM := Lib.hid (Nat.mod_lt p (show 0 < q by omega))
            have HQ := Lib.hid hq
            clear hq
            go_wp2
            go_quiet (fail)
            go_wp2
            refine ⟨⟨q, p % q, rfl, by simp, ?_, HQ.out, Nat.lt_trans HM.out HQ.out, bl_trans hbl (bl_drewN _ _)⟩, ?_⟩
            · rw [← HG.out, Nat.gcd_comm p q, Nat.gcd_rec q p, Nat.gcd_comm]
            · have := HM.out
              simp only [intOf]
              rw [← Int.natCast_emod]
              omega
      · have HM := Lib.hid (Nat.mod_lt x (show 0 < y by omega))
        have hyp : 0 < y := by omega
        have fin : ∀ (w5 : World) (r : Value), Nm w5 r (x % y) → Below wr.heap.size wr w5 → GcdRel w a b (x % y) (.slice A2 (dg y).length c2) r w5 := fun w5 r h1 h2 =>
          ⟨y, x % y, hy.below h2, h1, by rw [← HG.out, Nat.gcd_comm x y, Nat.gcd_rec y x, Nat.gcd_comm], sy, Nat.le_trans (dg_len_mono (Nat.mod_le x y)) sx, Nat.le_refl _, bl_trans hbl h2⟩
        have FIN := Lib.hid fin
        clear fin
        by_cases hs2 : 2 < (dg y).length
        · clear hs
          go_wp2_with fail
          refine (rparts_calls _ _ _ _ _ hx hy hyp sx).mono ?_
          rintro e w1 ⟨q, r, rfl, hq, hr, hb1⟩
          obtain ⟨A3, c3, rfl⟩ := hq.shape
          obtain ⟨A4, c4, rfl⟩ := hr.shape
          have K := Blk.new w1 130 #[.slice A3 (dg (x / y)).length c3, .slice A4 (dg (x % y)).length c4]
          have hbk := below_alloc0 w1 (.cells #[.slice A3 (dg (x / y)).length c3, .slice A4 (dg (x % y)).length c4] 130)
          have k1 := K.cell 1
          go_wp2
          go_quiet (fail)
          go_wp2
          go_roundg (x % y)
          case measure => have := HM.out; omega
          case rel => exact FIN.out _ _ ((hr.below hbk).below (bl_drewN _ _)) (bl_trans (bl_trans hb1 hbk) (bl_drewN _ _))
        · have hs1 : 2 < (dg x).length := by omega
          clear hs
          go_wp2_with fail
          refine (rparts_calls _ _ _ _ _ hx hy hyp sx).mono ?_
          rintro e w1 ⟨q, r, rfl, hq, hr, hb1⟩
          obtain ⟨A3, c3, rfl⟩ := hq.shape
          obtain ⟨A4, c4, rfl⟩ := hr.shape
          have K := Blk.new w1 130 #[.slice A3 (dg (x / y)).length c3, .slice A4 (dg (x % y)).length c4]
          have hbk := below_alloc0 w1 (.cells #[.slice A3 (dg (x / y)).length c3, .slice A4 (dg (x % y)).length c4] 130)
          have k1 := K.cell 1
          go_wp2
          go_quiet (fail)
          go_wp2
          go_roundg (x % y)
          case measure => have := HM.out; omega
          case rel => exact FIN.out _ _ ((hr.below hbk).below (bl_drewN _ _)) (bl_trans (bl_trans hb1 hbk) (bl_drewN _ _))

theorem rone_calls (w : World) : Calls Try.prog 87 #[] w (NmPost 1 w) := by
  go_enter Try.func87, Try.ntmps87
  go_wp2
  go_ret
  exact ⟨_, rfl, Nm.lit1 _ _ (heap_alloc_new _ _), below_alloc0 _ _⟩
theorem FrV.zero {w : World} {v1 : Value} (h : Nm w v1 1) : FrV w (.agg #[.bool false, .slice none 0 0, v1]) 0 := ⟨_, _, rfl, Nm.nil _, h, Wd_dg _, Wd_dg _⟩
theorem rzero_calls (w : World) : Calls Try.prog 95 #[] w (FrPost 0 w) := by
  have hbl0 := below_alloc0 w (.cells #[.bool false, .slice none 0 0, .slice none 0 0] 38)
  have K := Blk.new w 38 #[.bool false, .slice none 0 0, .slice none 0 0]
  go_enter Try.func95, Try.ntmps95
  go_wp2_with fail
  refine (rone_calls _).mono ?_
  rintro e w1 ⟨v, rfl, hv, hb1⟩
  have K1 := K.below hb1
  have hbw := bl_trans hbl0 hb1
  have m0 := K1.cell 0
  have m1 := K1.cell 1
  have m2 := K1.cell 2
  have f1 := K1.free
  obtain ⟨A1, c1, rfl⟩ := hv.shape
  go_wp2
  exact bodyPost_ret (results_cell_row rfl _ _ w.heap.size 38 _ (0, 0) _ rfl (blk3 K1 _ _ _) Try.underlying38 rfl (by kernel_rfl)) rfl ⟨_, rfl, FrV.zero (blk3_keep hv K1 (by simp) (by simp) (by simp) _ _ _), three_below hbw (Nat.le_refl _) _ _ _⟩
theorem FrV.mk {w : World} {v1 v2 : Value} {neg : Bool} {a d g : Nat} (ha : 0 < a) (hd : 0 < d) (hg : g = Nat.gcd a d) (h1 : Nm w v1 (a / g)) (h2 : Nm w v2 (d / g)) : FrV w (.agg #[.bool neg, v1, v2]) (mkRat (sgn neg a) d) := by
  have hg0 : 0 < g := by rw [hg]; exact Nat.gcd_pos_of_pos_left _ ha
  have hag : 0 < a / g := Nat.div_pos (by rw [hg]; exact Nat.gcd_le_left _ ha) hg0
  refine ⟨v1, v2, ?_, ?_, ?_, Wd_dg _, Wd_dg _⟩
  · rw [mk_num neg hd hg, sgn_neg neg hag]
  · rw [mk_num neg hd hg, sgn_abs]; exact h1
  · rw [mk_den neg hd hg]; exact h2
theorem Short.mk {neg : Bool} {a d g : Nat} (h : Short (mkRat (sgn neg a) d)) (hd : 0 < d) (hg : g = Nat.gcd a d) : (dg (a / g)).length + (dg (d / g)).length ≤ 4096 := by
  unfold Short at h
  rw [mk_num neg hd hg, sgn_abs, mk_den neg hd hg] at h
  exact h
/-- What lowest holds: the place of its result. -/
theorem word_of {w : World} {v : Value} {d : Nat} (h : Nm w v d) (hl : (dg d).length = 1) : ∃ ad c, v = .slice (some ad) 1 c ∧ w.cell? ad = some (.int .u32 (d : Int)) ∧ d < 4294967296 := by
  have h32 : d < 4294967296 := by have := dg_len.1 (Nat.le_of_eq hl); simpa using this
  have h0 : 0 < d := by
    rcases Nat.eq_zero_or_pos d with h0 | h0
    · rw [h0, dg_zero] at hl; simp at hl
    · exact h0
  obtain ⟨A, c, rfl, h1, h2, h3⟩ := h
  obtain ⟨ad, rfl, hc⟩ := h3 (by omega)
  have c0 := hc 0 (by omega)
  rw [add0] at c0
  refine ⟨ad, c, by rw [hl], ?_, h32⟩
  rw [c0, dg_small (by omega) h32]; rfl
theorem long_of {w : World} {v : Value} {d : Nat} (h : Nm w v d) (hl : 2 ≤ (dg d).length) : ∃ A c, v = .slice A (dg d).length c := h.shape
set_option maxRecDepth 100000 in
set_option maxHeartbeats 4000000 in
theorem rlowest_one (w : World) (va vb : Value) (a d : Nat) (neg : Bool) (ha : Nm w va a) (hb : Nm w vb d) (a0 : 0 < a) (hd : 0 < d) (hdl : d = 1) (sa : (dg a).length ≤ 1073741823) (sd : (dg d).length ≤ 1073741823) (hs : Short (mkRat (sgn neg a) d)) :
    Calls Try.prog 85 #[.bool neg, va, vb] w (FrPost (mkRat (sgn neg a) d) w) := by
  have la : 0 < (dg a).length := Nat.pos_of_ne_zero (fun h => by have := dg_len_zero.1 h; omega)
  have hbl0 := below_alloc0 w (.cells #[.bool false, .slice none 0 0, .slice none 0 0] 38)
  have K := Blk.new w 38 #[.bool false, .slice none 0 0, .slice none 0 0]
  obtain ⟨g, hg⟩ : ∃ g, g = Nat.gcd a d := ⟨_, rfl⟩
  have hg0 : 0 < g := by rw [hg]; exact Nat.gcd_pos_of_pos_right _ hd
  have hsh := hs.mk hd hg
  have HG := Lib.hid hg
  have HA := Lib.hid a0
  have sd' := sd
  obtain ⟨A, c, rfl⟩ := ha.shape
  have hdl1 : (dg d).length = 1 := by rw [hdl, dg_one]; rfl
  obtain ⟨ad, c2, rfl, d1, _⟩ := word_of hb hdl1
  have d1' := cell_below hbl0 d1
  have HD1 := Lib.hid hdl
  rw [hdl] at d1'

  clear hs a0
  go_enter Try.func85, Try.ntmps85
  have g1 : g = 1 := by rw [hg, hdl, Nat.gcd_one_right]
  have HG1 := Lib.hid g1
  rw [g1, Nat.div_one, Nat.div_one, hdl1] at hsh
  have ha' := ha.below hbl0
  have hb' := hb.below hbl0
  have m0 := K.cell 0
  have m1 := K.cell 1
  have m2 := K.cell 2
  have f1 := K.free
  clear g1 hg hdl hdl1 sd sd' d1
  go_wp2
  have hal := below_alloc0 w (.cells #[.bool neg, .slice A (dg a).length c, .slice (some ad) 1 c2] 38)
  exact bodyPost_ret (results_cell_row rfl _ _ w.heap.size 38 _ (0, 0) _ rfl (Blk.new w 38 #[.bool neg, .slice A (dg a).length c, .slice (some ad) 1 c2]) Try.underlying38 rfl (by kernel_rfl)) rfl ⟨_, rfl, FrV.mk HA.out hd HG.out (by rw [HG1.out, Nat.div_one]; exact ha.below hal) (by rw [HG1.out, Nat.div_one]; exact hb.below hal), hal⟩
set_option maxRecDepth 100000 in
set_option maxHeartbeats 4000000 in
theorem rlowest_word (w : World) (va vb : Value) (a d : Nat) (neg : Bool) (ha : Nm w va a) (hb : Nm w vb d) (a0 : 0 < a) (hd : 0 < d) (hdl : (dg d).length = 1 ∧ d ≠ 1) (sa : (dg a).length ≤ 1073741823) (sd : (dg d).length ≤ 1073741823) (hs : Short (mkRat (sgn neg a) d)) :
    Calls Try.prog 85 #[.bool neg, va, vb] w (FrPost (mkRat (sgn neg a) d) w) := by
  have la : 0 < (dg a).length := Nat.pos_of_ne_zero (fun h => by have := dg_len_zero.1 h; omega)
  have hbl0 := below_alloc0 w (.cells #[.bool false, .slice none 0 0, .slice none 0 0] 38)
  have K := Blk.new w 38 #[.bool false, .slice none 0 0, .slice none 0 0]
  obtain ⟨g, hg⟩ : ∃ g, g = Nat.gcd a d := ⟨_, rfl⟩
  have hg0 : 0 < g := by rw [hg]; exact Nat.gcd_pos_of_pos_right _ hd
  have hsh := hs.mk hd hg
  have HG := Lib.hid hg
  have HA := Lib.hid a0
  have sd' := sd
  obtain ⟨A, c, rfl⟩ := ha.shape
  obtain ⟨ad, c2, rfl, d1, _⟩ := word_of hb hdl.1
  have d1' := cell_below hbl0 d1
  have n2 : ((d : Int) != 1) = true := by have := hdl.2; simp; omega

  clear hs a0
  go_enter Try.func85, Try.ntmps85
  go_wp2_with fail
  refine (rcommon_calls _ _ _ _ _ (ha.below hbl0) (hb.below hbl0) sa sd').mono ?_
  rintro e w1 ⟨v, rfl, hv, hb1⟩
  rw [← hg] at hv
  clear hg
  have K1 := K.below hb1
  have hbw := bl_trans hbl0 hb1
  clear K hbl0
  by_cases g1 : g = 1
  · have hl1 : (dg g).length = 1 := by rw [g1, dg_one]; rfl
    obtain ⟨ad1, c1, rfl, e1, _⟩ := word_of hv hl1
    have HG1 := Lib.hid g1
    rw [g1] at e1
    have ha' := ha.below hbw
    have hb' := hb.below hbw
    have m0 := K1.cell 0
    have m1 := K1.cell 1
    have m2 := K1.cell 2
    have f1 := K1.free
    rw [g1, Nat.div_one, Nat.div_one] at hsh
    rw [hdl.1] at hsh
    have q1 : decide (4096 < ((dg a).length : Int) + 1) = false := decide_eq_false (by omega)
    clear g1 hl1
    go_wp2
    exact bodyPost_ret (results_cell_row rfl _ _ w.heap.size 38 _ (0, 0) _ rfl (blk3 K1 _ _ _) Try.underlying38 rfl (by kernel_rfl)) rfl ⟨_, rfl, FrV.mk HA.out hd HG.out (by rw [HG1.out, Nat.div_one]; exact blk3_keep ha' K1 (by simp) (by simp) (by simp) _ _ _) (by rw [HG1.out, Nat.div_one]; exact blk3_keep hb' K1 (by simp) (by simp) (by simp) _ _ _), three_below hbw (Nat.le_refl _) _ _ _⟩
  have hgv := hv
  by_cases gl : (dg g).length = 1
  · obtain ⟨ad1, c1, rfl, e1, _⟩ := word_of hv gl
    have n1 : ((g : Int) != 1) = true := by simp; omega
    clear gl
    go_wp2_with fail
    refine (rparts_calls _ _ _ _ _ (ha.below hbw) hgv hg0 sa).mono ?_
    rintro e w2 ⟨q1, r1, rfl, hq1, hr1, hb2⟩
    have hbw2 := bl_trans hbw hb2
    obtain ⟨A3, c3, rfl⟩ := hq1.shape
    obtain ⟨A4, c4, rfl⟩ := hr1.shape
    go_wp2_with fail
    refine (rparts_calls _ _ _ _ _ (hb.below hbw2) (hgv.below hb2) hg0 sd').mono ?_
    rintro e w3 ⟨q2, r2, rfl, hq2, hr2, hb3⟩
    obtain ⟨A5, c5, rfl⟩ := hq2.shape
    obtain ⟨A6, c6, rfl⟩ := hr2.shape
    have hal := bl_trans (below_alloc0 w3 (.cells #[.slice A3 (dg (a / g)).length c3, .slice A4 (dg (a % g)).length c4] 130)) (below_alloc0 _ (.cells #[.slice A5 (dg (d / g)).length c5, .slice A6 (dg (d % g)).length c6] 130))
    have k8 := ((Blk.new w3 130 #[.slice A3 (dg (a / g)).length c3, .slice A4 (dg (a % g)).length c4]).below (below_alloc0 _ (.cells #[.slice A5 (dg (d / g)).length c5, .slice A6 (dg (d % g)).length c6] 130))).cell 0
    have k9 : _ = _ := Blk.cell (show Blk _ _ _ _ from alloc_at1 w3 (.cells #[.slice A3 (dg (a / g)).length c3, .slice A4 (dg (a % g)).length c4] 130) (.cells #[.slice A5 (dg (d / g)).length c5, .slice A6 (dg (d % g)).length c6] 130)) 0
    have hq1' := ((hq1.below hb3).below hal)
    have hq2' := hq2.below hal
    have K3 := ((K1.below hb2).below hb3).below hal
    have hbw3 := bl_trans (bl_trans hbw2 hb3) hal
    have q1 : decide (4096 < ((dg (a / g)).length : Int) + ((dg (d / g)).length : Int)) = false := decide_eq_false (by omega)
    have b1 : (dg (a / g)).length ≤ 4096 := by omega
    have b2 : (dg (d / g)).length ≤ 4096 := by omega
    clear hq1 hq2 hr1 hr2 hsh sd' sa sd hgv hv ha hb K1 hb2 hb3 hbw hbw2
    go_wp2
    go_quiet (fail)
    obtain ⟨WW, hWW⟩ : ∃ W, W = (w3.alloc (.cells #[.slice A3 (dg (a / g)).length c3, .slice A4 (dg (a % g)).length c4] 130)).alloc (.cells #[.slice A5 (dg (d / g)).length c5, .slice A6 (dg (d % g)).length c6] 130) := ⟨_, rfl⟩
    rw [← hWW] at hq1' hq2' K3 hbw3 ⊢
    clear hWW k8 k9 hal
    have K4 := K3.below (bl_drewN _ nq)
    have m0 := K4.cell 0
    have m1 := K4.cell 1
    have m2 := K4.cell 2
    have f1 := K4.free
    go_wp2
    exact bodyPost_ret (results_cell_row rfl _ _ w.heap.size 38 _ (0, 0) _ rfl (blk3 K4 _ _ _) Try.underlying38 rfl (by kernel_rfl)) rfl ⟨_, rfl, FrV.mk HA.out hd HG.out (blk3_keep (hq1'.below (bl_drewN _ _)) K4 (by simp) (by simp) (by simp) _ _ _) (blk3_keep (hq2'.below (bl_drewN _ _)) K4 (by simp) (by simp) (by simp) _ _ _), three_below (bl_trans hbw3 (bl_drewN _ _)) (Nat.le_refl _) _ _ _⟩

  · have gl2 : 2 ≤ (dg g).length := by
      have : (dg g).length ≠ 0 := fun h => by have := dg_len_zero.1 h; omega
      omega
    obtain ⟨A1, c1, rfl⟩ := hv.shape
    clear gl
    go_wp2_with fail
    refine (rparts_calls _ _ _ _ _ (ha.below hbw) hgv hg0 sa).mono ?_
    rintro e w2 ⟨q1, r1, rfl, hq1, hr1, hb2⟩
    have hbw2 := bl_trans hbw hb2
    obtain ⟨A3, c3, rfl⟩ := hq1.shape
    obtain ⟨A4, c4, rfl⟩ := hr1.shape
    go_wp2_with fail
    refine (rparts_calls _ _ _ _ _ (hb.below hbw2) (hgv.below hb2) hg0 sd').mono ?_
    rintro e w3 ⟨q2, r2, rfl, hq2, hr2, hb3⟩
    obtain ⟨A5, c5, rfl⟩ := hq2.shape
    obtain ⟨A6, c6, rfl⟩ := hr2.shape
    have hal := bl_trans (below_alloc0 w3 (.cells #[.slice A3 (dg (a / g)).length c3, .slice A4 (dg (a % g)).length c4] 130)) (below_alloc0 _ (.cells #[.slice A5 (dg (d / g)).length c5, .slice A6 (dg (d % g)).length c6] 130))
    have k8 := ((Blk.new w3 130 #[.slice A3 (dg (a / g)).length c3, .slice A4 (dg (a % g)).length c4]).below (below_alloc0 _ (.cells #[.slice A5 (dg (d / g)).length c5, .slice A6 (dg (d % g)).length c6] 130))).cell 0
    have k9 : _ = _ := Blk.cell (show Blk _ _ _ _ from alloc_at1 w3 (.cells #[.slice A3 (dg (a / g)).length c3, .slice A4 (dg (a % g)).length c4] 130) (.cells #[.slice A5 (dg (d / g)).length c5, .slice A6 (dg (d % g)).length c6] 130)) 0
    have hq1' := ((hq1.below hb3).below hal)
    have hq2' := hq2.below hal
    have K3 := ((K1.below hb2).below hb3).below hal
    have hbw3 := bl_trans (bl_trans hbw2 hb3) hal
    have q1 : decide (4096 < ((dg (a / g)).length : Int) + ((dg (d / g)).length : Int)) = false := decide_eq_false (by omega)
    have b1 : (dg (a / g)).length ≤ 4096 := by omega
    have b2 : (dg (d / g)).length ≤ 4096 := by omega
    clear hq1 hq2 hr1 hr2 hsh sd' sa sd hgv hv ha hb K1 hb2 hb3 hbw hbw2
    go_wp2
    go_quiet (fail)
    obtain ⟨WW, hWW⟩ : ∃ W, W = (w3.alloc (.cells #[.slice A3 (dg (a / g)).length c3, .slice A4 (dg (a % g)).length c4] 130)).alloc (.cells #[.slice A5 (dg (d / g)).length c5, .slice A6 (dg (d % g)).length c6] 130) := ⟨_, rfl⟩
    rw [← hWW] at hq1' hq2' K3 hbw3 ⊢
    clear hWW k8 k9 hal
    have K4 := K3.below (bl_drewN _ nq)
    have m0 := K4.cell 0
    have m1 := K4.cell 1
    have m2 := K4.cell 2
    have f1 := K4.free
    go_wp2
    exact bodyPost_ret (results_cell_row rfl _ _ w.heap.size 38 _ (0, 0) _ rfl (blk3 K4 _ _ _) Try.underlying38 rfl (by kernel_rfl)) rfl ⟨_, rfl, FrV.mk HA.out hd HG.out (blk3_keep (hq1'.below (bl_drewN _ _)) K4 (by simp) (by simp) (by simp) _ _ _) (blk3_keep (hq2'.below (bl_drewN _ _)) K4 (by simp) (by simp) (by simp) _ _ _), three_below (bl_trans hbw3 (bl_drewN _ _)) (Nat.le_refl _) _ _ _⟩

set_option maxRecDepth 100000 in
set_option maxHeartbeats 4000000 in
theorem rlowest_long (w : World) (va vb : Value) (a d : Nat) (neg : Bool) (ha : Nm w va a) (hb : Nm w vb d) (a0 : 0 < a) (hd : 0 < d) (hdl : 2 ≤ (dg d).length) (sa : (dg a).length ≤ 1073741823) (sd : (dg d).length ≤ 1073741823) (hs : Short (mkRat (sgn neg a) d)) :
    Calls Try.prog 85 #[.bool neg, va, vb] w (FrPost (mkRat (sgn neg a) d) w) := by
  have la : 0 < (dg a).length := Nat.pos_of_ne_zero (fun h => by have := dg_len_zero.1 h; omega)
  have hbl0 := below_alloc0 w (.cells #[.bool false, .slice none 0 0, .slice none 0 0] 38)
  have K := Blk.new w 38 #[.bool false, .slice none 0 0, .slice none 0 0]
  obtain ⟨g, hg⟩ : ∃ g, g = Nat.gcd a d := ⟨_, rfl⟩
  have hg0 : 0 < g := by rw [hg]; exact Nat.gcd_pos_of_pos_right _ hd
  have hsh := hs.mk hd hg
  have HG := Lib.hid hg
  have HA := Lib.hid a0
  have sd' := sd
  obtain ⟨A, c, rfl⟩ := ha.shape
  obtain ⟨A2, c2, rfl⟩ := hb.shape

  clear hs a0
  go_enter Try.func85, Try.ntmps85
  go_wp2_with fail
  refine (rcommon_calls _ _ _ _ _ (ha.below hbl0) (hb.below hbl0) sa sd').mono ?_
  rintro e w1 ⟨v, rfl, hv, hb1⟩
  rw [← hg] at hv
  clear hg
  have K1 := K.below hb1
  have hbw := bl_trans hbl0 hb1
  clear K hbl0
  by_cases g1 : g = 1
  · have hl1 : (dg g).length = 1 := by rw [g1, dg_one]; rfl
    obtain ⟨ad1, c1, rfl, e1, _⟩ := word_of hv hl1
    have HG1 := Lib.hid g1
    rw [g1] at e1
    have ha' := ha.below hbw
    have hb' := hb.below hbw
    have m0 := K1.cell 0
    have m1 := K1.cell 1
    have m2 := K1.cell 2
    have f1 := K1.free
    rw [g1, Nat.div_one, Nat.div_one] at hsh
    have q1 : decide (4096 < ((dg a).length : Int) + ((dg d).length : Int)) = false := decide_eq_false (by omega)
    clear g1 hl1
    go_wp2
    exact bodyPost_ret (results_cell_row rfl _ _ w.heap.size 38 _ (0, 0) _ rfl (blk3 K1 _ _ _) Try.underlying38 rfl (by kernel_rfl)) rfl ⟨_, rfl, FrV.mk HA.out hd HG.out (by rw [HG1.out, Nat.div_one]; exact blk3_keep ha' K1 (by simp) (by simp) (by simp) _ _ _) (by rw [HG1.out, Nat.div_one]; exact blk3_keep hb' K1 (by simp) (by simp) (by simp) _ _ _), three_below hbw (Nat.le_refl _) _ _ _⟩
  have hgv := hv
  by_cases gl : (dg g).length = 1
  · obtain ⟨ad1, c1, rfl, e1, _⟩ := word_of hv gl
    have n1 : ((g : Int) != 1) = true := by simp; omega
    clear gl
    go_wp2_with fail
    refine (rparts_calls _ _ _ _ _ (ha.below hbw) hgv hg0 sa).mono ?_
    rintro e w2 ⟨q1, r1, rfl, hq1, hr1, hb2⟩
    have hbw2 := bl_trans hbw hb2
    obtain ⟨A3, c3, rfl⟩ := hq1.shape
    obtain ⟨A4, c4, rfl⟩ := hr1.shape
    go_wp2_with fail
    refine (rparts_calls _ _ _ _ _ (hb.below hbw2) (hgv.below hb2) hg0 sd').mono ?_
    rintro e w3 ⟨q2, r2, rfl, hq2, hr2, hb3⟩
    obtain ⟨A5, c5, rfl⟩ := hq2.shape
    obtain ⟨A6, c6, rfl⟩ := hr2.shape
    have hal := bl_trans (below_alloc0 w3 (.cells #[.slice A3 (dg (a / g)).length c3, .slice A4 (dg (a % g)).length c4] 130)) (below_alloc0 _ (.cells #[.slice A5 (dg (d / g)).length c5, .slice A6 (dg (d % g)).length c6] 130))
    have k8 := ((Blk.new w3 130 #[.slice A3 (dg (a / g)).length c3, .slice A4 (dg (a % g)).length c4]).below (below_alloc0 _ (.cells #[.slice A5 (dg (d / g)).length c5, .slice A6 (dg (d % g)).length c6] 130))).cell 0
    have k9 : _ = _ := Blk.cell (show Blk _ _ _ _ from alloc_at1 w3 (.cells #[.slice A3 (dg (a / g)).length c3, .slice A4 (dg (a % g)).length c4] 130) (.cells #[.slice A5 (dg (d / g)).length c5, .slice A6 (dg (d % g)).length c6] 130)) 0
    have hq1' := ((hq1.below hb3).below hal)
    have hq2' := hq2.below hal
    have K3 := ((K1.below hb2).below hb3).below hal
    have hbw3 := bl_trans (bl_trans hbw2 hb3) hal
    have q1 : decide (4096 < ((dg (a / g)).length : Int) + ((dg (d / g)).length : Int)) = false := decide_eq_false (by omega)
    have b1 : (dg (a / g)).length ≤ 4096 := by omega
    have b2 : (dg (d / g)).length ≤ 4096 := by omega
    clear hq1 hq2 hr1 hr2 hsh sd' sa sd hgv hv ha hb K1 hb2 hb3 hbw hbw2
    go_wp2
    go_quiet (fail)
    obtain ⟨WW, hWW⟩ : ∃ W, W = (w3.alloc (.cells #[.slice A3 (dg (a / g)).length c3, .slice A4 (dg (a % g)).length c4] 130)).alloc (.cells #[.slice A5 (dg (d / g)).length c5, .slice A6 (dg (d % g)).length c6] 130) := ⟨_, rfl⟩
    rw [← hWW] at hq1' hq2' K3 hbw3 ⊢
    clear hWW k8 k9 hal
    have K4 := K3.below (bl_drewN _ nq)
    have m0 := K4.cell 0
    have m1 := K4.cell 1
    have m2 := K4.cell 2
    have f1 := K4.free
    go_wp2
    exact bodyPost_ret (results_cell_row rfl _ _ w.heap.size 38 _ (0, 0) _ rfl (blk3 K4 _ _ _) Try.underlying38 rfl (by kernel_rfl)) rfl ⟨_, rfl, FrV.mk HA.out hd HG.out (blk3_keep (hq1'.below (bl_drewN _ _)) K4 (by simp) (by simp) (by simp) _ _ _) (blk3_keep (hq2'.below (bl_drewN _ _)) K4 (by simp) (by simp) (by simp) _ _ _), three_below (bl_trans hbw3 (bl_drewN _ _)) (Nat.le_refl _) _ _ _⟩

  · have gl2 : 2 ≤ (dg g).length := by
      have : (dg g).length ≠ 0 := fun h => by have := dg_len_zero.1 h; omega
      omega
    obtain ⟨A1, c1, rfl⟩ := hv.shape
    clear gl
    go_wp2_with fail
    refine (rparts_calls _ _ _ _ _ (ha.below hbw) hgv hg0 sa).mono ?_
    rintro e w2 ⟨q1, r1, rfl, hq1, hr1, hb2⟩
    have hbw2 := bl_trans hbw hb2
    obtain ⟨A3, c3, rfl⟩ := hq1.shape
    obtain ⟨A4, c4, rfl⟩ := hr1.shape
    go_wp2_with fail
    refine (rparts_calls _ _ _ _ _ (hb.below hbw2) (hgv.below hb2) hg0 sd').mono ?_
    rintro e w3 ⟨q2, r2, rfl, hq2, hr2, hb3⟩
    obtain ⟨A5, c5, rfl⟩ := hq2.shape
    obtain ⟨A6, c6, rfl⟩ := hr2.shape
    have hal := bl_trans (below_alloc0 w3 (.cells #[.slice A3 (dg (a / g)).length c3, .slice A4 (dg (a % g)).length c4] 130)) (below_alloc0 _ (.cells #[.slice A5 (dg (d / g)).length c5, .slice A6 (dg (d % g)).length c6] 130))
    have k8 := ((Blk.new w3 130 #[.slice A3 (dg (a / g)).length c3, .slice A4 (dg (a % g)).length c4]).below (below_alloc0 _ (.cells #[.slice A5 (dg (d / g)).length c5, .slice A6 (dg (d % g)).length c6] 130))).cell 0
    have k9 : _ = _ := Blk.cell (show Blk _ _ _ _ from alloc_at1 w3 (.cells #[.slice A3 (dg (a / g)).length c3, .slice A4 (dg (a % g)).length c4] 130) (.cells #[.slice A5 (dg (d / g)).length c5, .slice A6 (dg (d % g)).length c6] 130)) 0
    have hq1' := ((hq1.below hb3).below hal)
    have hq2' := hq2.below hal
    have K3 := ((K1.below hb2).below hb3).below hal
    have hbw3 := bl_trans (bl_trans hbw2 hb3) hal
    have q1 : decide (4096 < ((dg (a / g)).length : Int) + ((dg (d / g)).length : Int)) = false := decide_eq_false (by omega)
    have b1 : (dg (a / g)).length ≤ 4096 := by omega
    have b2 : (dg (d / g)).length ≤ 4096 := by omega
    clear hq1 hq2 hr1 hr2 hsh sd' sa sd hgv hv ha hb K1 hb2 hb3 hbw hbw2
    go_wp2
    go_quiet (fail)
    obtain ⟨WW, hWW⟩ : ∃ W, W = (w3.alloc (.cells #[.slice A3 (dg (a / g)).length c3, .slice A4 (dg (a % g)).length c4] 130)).alloc (.cells #[.slice A5 (dg (d / g)).length c5, .slice A6 (dg (d % g)).length c6] 130) := ⟨_, rfl⟩
    rw [← hWW] at hq1' hq2' K3 hbw3 ⊢
    clear hWW k8 k9 hal
    have K4 := K3.below (bl_drewN _ nq)
    have m0 := K4.cell 0
    have m1 := K4.cell 1
    have m2 := K4.cell 2
    have f1 := K4.free
    go_wp2
    exact bodyPost_ret (results_cell_row rfl _ _ w.heap.size 38 _ (0, 0) _ rfl (blk3 K4 _ _ _) Try.underlying38 rfl (by kernel_rfl)) rfl ⟨_, rfl, FrV.mk HA.out hd HG.out (blk3_keep (hq1'.below (bl_drewN _ _)) K4 (by simp) (by simp) (by simp) _ _ _) (blk3_keep (hq2'.below (bl_drewN _ _)) K4 (by simp) (by simp) (by simp) _ _ _), three_below (bl_trans hbw3 (bl_drewN _ _)) (Nat.le_refl _) _ _ _⟩

theorem rlowest_zero (w : World) (va vb : Value) (d : Nat) (neg : Bool) (ha : Nm w va 0) :
    Calls Try.prog 85 #[.bool neg, va, vb] w (FrPost 0 w) := by
  have hbl0 := below_alloc0 w (.cells #[.bool false, .slice none 0 0, .slice none 0 0] 38)
  have K := Blk.new w 38 #[.bool false, .slice none 0 0, .slice none 0 0]
  obtain ⟨A, c, rfl⟩ := ha.shape
  have hl : (dg 0).length = 0 := by rw [dg_zero]; rfl
  obtain ⟨q, hq⟩ : ∃ q : Rat, q = 0 := ⟨_, rfl⟩
  rw [← hq]
  have HQ := Lib.hid hq
  clear hq
  go_enter Try.func85, Try.ntmps85
  go_wp2_with fail
  refine (rzero_calls _).mono ?_
  rintro e w1 ⟨v, rfl, hv, hb1⟩
  rw [← HQ.out] at hv
  obtain ⟨B1, d1, B2, d2, rfl, r1, r2, r3, r4⟩ := FrIn.shape hv
  have K1 := K.below hb1
  have hbw := bl_trans hbl0 hb1
  have m0 := K1.cell 0
  have m1 := K1.cell 1
  have m2 := K1.cell 2
  have f1 := K1.free
  go_wp2
  exact bodyPost_ret (results_cell_row rfl _ _ w.heap.size 38 _ (0, 0) _ rfl (blk3 K1 _ _ _) Try.underlying38 rfl (by kernel_rfl)) rfl ⟨_, rfl, ⟨_, _, rfl, r1.three m0 m1 m2 (boolne _) (slne _ _ _) (slne _ _ _) _ _ _, r2.three m0 m1 m2 (boolne _) (slne _ _ _) (slne _ _ _) _ _ _, r3, r4⟩, three_below hbw (Nat.le_refl _) _ _ _⟩
/-- lowest. -/
theorem rlowest_calls (w : World) (va vb : Value) (a d : Nat) (neg : Bool) (ha : Nm w va a) (hb : Nm w vb d) (hd : 0 < d) (sa : (dg a).length ≤ 1073741823) (sd : (dg d).length ≤ 1073741823) (hs : Short (mkRat (sgn neg a) d)) :
    Calls Try.prog 85 #[.bool neg, va, vb] w (FrPost (mkRat (sgn neg a) d) w) := by
  by_cases a0 : a = 0
  · subst a0
    rw [mk_zero]
    exact rlowest_zero w va vb d neg ha
  · by_cases d1 : d = 1
    · exact rlowest_one w va vb a d neg ha hb (by omega) hd d1 sa sd hs
    · have hl : (dg d).length ≠ 0 := fun h => by have := dg_len_zero.1 h; omega
      by_cases d2 : (dg d).length = 1
      · exact rlowest_word w va vb a d neg ha hb (by omega) hd ⟨d2, d1⟩ sa sd hs
      · exact rlowest_long w va vb a d neg ha hb (by omega) hd (by omega) sa sd hs

end Go.Proofs.Ytajckdheecgceaa
