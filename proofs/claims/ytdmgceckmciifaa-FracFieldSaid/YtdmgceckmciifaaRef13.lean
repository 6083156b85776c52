/- The reference: parts, common. -/
import Derived.Test.YtdmgceckmciifaaRef12
set_option linter.unusedVariables false
set_option linter.unusedSimpArgs false
namespace Go.Proofs.Ytdmgceckmciifaa
open Go.RowKit

theorem rparts_calls (w : World) (va vb : Value) (a b : Nat) (ha : Nm w va a) (hb : Nm w vb b) (hb0 : 0 < b) (sm : (dg a).length ≤ 1073741823) :
    Calls Try.prog 81 #[va, vb] w (PartsPost a b w) := by
  by_cases hlt : a < b
  · exact rparts_less w va vb a b ha hb hlt
  · have hb1 : (dg b).length ≠ 0 := fun h => by have := dg_len_zero.1 h; omega
    by_cases s1 : (dg b).length = 1
    · exact rparts_one w va vb a b ha hb (by omega) hb0 s1 (by omega)
    · exact rparts_long w va vb a b ha hb (by omega) hb0 (by omega) sm

theorem rcommon_calls (w : World) (va vb : Value) (a b : Nat) (ha : Nm w va a) (hb : Nm w vb b) (sa : (dg a).length ≤ 1073741823) (sb : (dg b).length ≤ 1073741823) :
    Calls Try.prog 70 #[va, vb] w (NumPost (Nat.gcd a b) w) := by
  go_enter Try.func70, Try.ntmps70
  go_wp2
  go_loopg [0, 1] b (fun g s0 s1 wr => GcdRel w a b g s0 s1 wr)
  case atStart => exact ⟨a, b, ha, hb, rfl, sa, sb, Nat.le_refl _, Below.refl _ _⟩
  case round =>
    clear ha hb
    obtain ⟨x, y, hx, hy, hg, sx, sy, hle, hbl⟩ := hrel
    have HG := Lib.hid hg
    clear hg
    obtain ⟨A, c, rfl⟩ := hx.shape
    obtain ⟨A2, c2, rfl⟩ := hy.shape
    by_cases hy0 : (dg y).length = 0
    · have hy1 : y = 0 := dg_len_zero.1 hy0
      rw [hy0]
      have HY := Lib.hid hy1
      clear hy hy0 hy1
      by_cases hx2 : 2 < (dg x).length
      · go_wp2
        go_ret
        exact ⟨_, rfl, by rw [← HG.out, HY.out, Nat.gcd_zero_right]; exact hx, hbl⟩
      · go_wp2
        go_ret
        exact ⟨_, rfl, by rw [← HG.out, HY.out, Nat.gcd_zero_right]; exact hx, hbl⟩
    · have ly : 0 < (dg y).length := by omega
      have ly0 : ¬ y = 0 := fun h => hy0 (dg_len_zero.2 h)
      by_cases hs : (dg x).length ≤ 2 ∧ (dg y).length ≤ 2
      · obtain ⟨hs1, hs2⟩ := hs
        have g1 : ((dg y).length == 0) = false := beq_eq_false_iff_ne.2 (by omega)
        have g2 : (((dg y).length : Int) == 0) = false := int_ne0 ly
        go_wp2_with fail
        refine (rsmall_calls _ _ _ hx hs1).mono ?_
        rintro e w1 ⟨rfl, hb1⟩
        go_wp2_with fail
        refine (rsmall_calls _ _ _ (hy.below hb1) hs2).mono ?_
        rintro e w2 ⟨rfl, hb2⟩
        have hbw := bl_trans (bl_trans hbl hb1) hb2
        have S1 := Lib.hid (dg_len.1 hs1)
        have S2 := Lib.hid (dg_len.1 hs2)
        clear hs1 hs2 g1 g2
        go_wp2
        go_loopw [6, 7] (fun s t wr => ∃ p q : Nat, s = .int .u64 (p : Int) ∧ t = .int .u64 (q : Int) ∧ Nat.gcd p q = Nat.gcd a b ∧ p < 18446744073709551616 ∧ q < 18446744073709551616 ∧ Below w.heap.size w wr)
          (fun _ t _ => (intOf t).toNat)
        case atStart => exact ⟨x, y, rfl, rfl, HG.out, S1.out, S2.out, hbw⟩
        case round =>
          clear S1 S2 hbw hb1 hb2 HG
          obtain ⟨p, q, rfl, rfl, hg, hp, hq, hbl⟩ := hrel
          have HG := Lib.hid hg
          clear hg
          by_cases hq0 : q = 0
          · subst hq0
            have hg := HG.out
            rw [Nat.gcd_zero_right] at hg
            have HG2 := Lib.hid hg
            have HP := Lib.hid hp
            clear hg hp
            go_wp2_with fail
            refine (rwide_calls _ _ p ⟨rfl, HP.out⟩).mono ?_
            rintro e w3 ⟨v, rfl, hv, hb3⟩
            go_wp2
            go_ret
            exact ⟨_, rfl, by rw [← HG2.out]; exact hv, bl_trans hbl hb3⟩
          · have g1 : ((q : Int) == 0) = false := int_ne0 (by omega)
            have g2 : ((q : Int) != 0) = true := by rw [bne, g1]; rfl
            have HM := Lib.hid (Nat.mod_lt p (show 0 < q by omega))
            have HQ := Lib.hid hq
            clear hq
            go_wp2
            go_quiet (fail)
            go_wp2
            refine ⟨⟨q, p % q, rfl, by simp, ?_, HQ.out, Nat.lt_trans HM.out HQ.out, bl_trans hbl (bl_drewN _ _)⟩, ?_⟩
            · rw [← HG.out, Nat.gcd_comm p q, Nat.gcd_rec q p, Nat.gcd_comm]
            · have := HM.out
              simp only [intOf]
              rw [← Int.natCast_emod]
              omega
      · have HM := Lib.hid (Nat.mod_lt x (show 0 < y by omega))
        have hyp : 0 < y := by omega
        have fin : ∀ (w5 : World) (r : Value), Nm w5 r (x % y) → Below wr.heap.size wr w5 → GcdRel w a b (x % y) (.slice A2 (dg y).length c2) r w5 := fun w5 r h1 h2 =>
          ⟨y, x % y, hy.below h2, h1, by rw [← HG.out, Nat.gcd_comm x y, Nat.gcd_rec y x, Nat.gcd_comm], sy, Nat.le_trans (dg_len_mono (Nat.mod_le x y)) sx, Nat.le_refl _, bl_trans hbl h2⟩
        have FIN := Lib.hid fin
        clear fin
        by_cases hs2 : 2 < (dg y).length
        · clear hs
          go_wp2_with fail
          refine (rparts_calls _ _ _ _ _ hx hy hyp sx).mono ?_
          rintro e w1 ⟨q, r, rfl, hq, hr, hb1⟩
          obtain ⟨A3, c3, rfl⟩ := hq.shape
          obtain ⟨A4, c4, rfl⟩ := hr.shape
          have K := Blk.new w1 74 #[.slice A3 (dg (x / y)).length c3, .slice A4 (dg (x % y)).length c4]
          have hbk := below_alloc0 w1 (.cells #[.slice A3 (dg (x / y)).length c3, .slice A4 (dg (x % y)).length c4] 74)
          have k1 := K.cell 1
          go_wp2
          go_quiet (fail)
          go_wp2
          go_roundg (x % y)
          case measure => have := HM.out; omega
          case rel => exact FIN.out _ _ ((hr.below hbk).below (bl_drewN _ _)) (bl_trans (bl_trans hb1 hbk) (bl_drewN _ _))
        · have hs1 : 2 < (dg x).length := by omega
          clear hs
          go_wp2_with fail
          refine (rparts_calls _ _ _ _ _ hx hy hyp sx).mono ?_
          rintro e w1 ⟨q, r, rfl, hq, hr, hb1⟩
          obtain ⟨A3, c3, rfl⟩ := hq.shape
          obtain ⟨A4, c4, rfl⟩ := hr.shape
          have K := Blk.new w1 74 #[.slice A3 (dg (x / y)).length c3, .slice A4 (dg (x % y)).length c4]
          have hbk := below_alloc0 w1 (.cells #[.slice A3 (dg (x / y)).length c3, .slice A4 (dg (x % y)).length c4] 74)
          have k1 := K.cell 1
          go_wp2
          go_quiet (fail)
          go_wp2
          go_roundg (x % y)
          case measure => have := HM.out; omega
          case rel => exact FIN.out _ _ ((hr.below hbk).below (bl_drewN _ _)) (bl_trans (bl_trans hb1 hbk) (bl_drewN _ _))
end Go.Proofs.Ytdmgceckmciifaa
