/- Words: gcd. -/
import Derived.Test.YtdmgceckmciifaaDiv3
set_option linter.unusedVariables false
set_option linter.unusedSimpArgs false
namespace Go.Proofs.Ytdmgceckmciifaa
open Go.RowKit

/-- What is handed back reads as the number n. -/
def NumPost (n : Nat) (w : World) (e : Ending) (w' : World) : Prop := ∃ v, e = .returned v ∧ Nm w' v n ∧ Below w.heap.size w w'
/-- The two numbers of a round. -/
def GcdRel (w : World) (a b g : Nat) (va vb : Value) (wr : World) : Prop := ∃ x y, Nm wr va x ∧ Nm wr vb y ∧ Nat.gcd x y = Nat.gcd a b ∧ (dg x).length ≤ 1073741823 ∧ (dg y).length ≤ 1073741823 ∧ y ≤ g ∧ Below w.heap.size w wr

theorem gcd_calls (w : World) (va vb : Value) (a b : Nat) (ha : Nm w va a) (hb : Nm w vb b) (sa : (dg a).length ≤ 1073741823) (sb : (dg b).length ≤ 1073741823) :
    Calls Try.prog 69 #[va, vb] w (NumPost (Nat.gcd a b) w) := by
  go_enter Try.func69, Try.ntmps69
  go_wp2
  go_loopg [0, 1] b (fun g s0 s1 wr => GcdRel w a b g s0 s1 wr)
  case atStart => exact ⟨a, b, ha, hb, rfl, sa, sb, Nat.le_refl _, Below.refl _ _⟩
  case round =>
    clear ha hb
    obtain ⟨x, y, hx, hy, hg, sx, sy, hle, hbl⟩ := hrel
    have HG := Lib.hid hg
    clear hg
    by_cases hy0 : y = 0
    · have hy' := hy
      obtain ⟨A, c, hv, hl, hc, hr⟩ := hy'
      subst hy0
      rw [dg_zero] at hv
      subst hv
      clear hr hl
      go_wp2
      go_ret
      exact ⟨_, rfl, by rw [← HG.out, Nat.gcd_zero_right]; exact hx, hbl⟩
    · have ly : 0 < (dg y).length := Nat.pos_of_ne_zero (fun h => hy0 (dg_len_zero.1 h))
      have hy' := hy
      obtain ⟨A, c, rfl, hl, hc, hr⟩ := hy'
      clear hr
      by_cases hs : (dg x).length ≤ 2 ∧ (dg y).length ≤ 2
      · obtain ⟨hs1, hs2⟩ := hs
        go_wp2_with fail
        refine (small_yes _ _ _ hx hs1).mono ?_
        rintro e w1 ⟨rfl, hb1⟩
        go_wp2_with fail
        refine (small_yes _ _ _ (hy.below hb1) hs2).mono ?_
        rintro e w2 ⟨rfl, hb2⟩
        have hbw := bl_trans (bl_trans hbl hb1) hb2
        have S1 := Lib.hid (dg_len.1 hs1)
        have S2 := Lib.hid (dg_len.1 hs2)
        clear hs1 hs2
        go_wp2
        go_loopw [5, 7] (fun s t wr => ∃ p q : Nat, s = .int .u64 (p : Int) ∧ t = .int .u64 (q : Int) ∧ Nat.gcd p q = Nat.gcd a b ∧ p < 18446744073709551616 ∧ q < 18446744073709551616 ∧ Below w.heap.size w wr)
          (fun _ t _ => (intOf t).toNat)
        case atStart => exact ⟨x, y, rfl, rfl, HG.out, S1.out, S2.out, hbw⟩
        case round =>
          clear S1 S2 hbw hb1 hb2 HG
          obtain ⟨p, q, rfl, rfl, hg, hp, hq, hbl⟩ := hrel
          have HG := Lib.hid hg
          clear hg
          by_cases hq0 : q = 0
          · subst hq0
            have hg := HG.out
            rw [Nat.gcd_zero_right] at hg
            have HG2 := Lib.hid hg
            have HP := Lib.hid hp
            clear hg hp
            go_wp2_with fail
            refine (of_any _ _ p ⟨rfl, HP.out⟩).mono ?_
            rintro e w3 ⟨v, rfl, hv, hb3⟩
            go_wp2
            go_ret
            exact ⟨_, rfl, by rw [← HG2.out]; exact hv, bl_trans hbl hb3⟩
          · have g1 : ((q : Int) == 0) = false := int_ne0 (by omega)
            have g2 : ((q : Int) != 0) = true := by rw [bne, g1]; rfl
            have HM := Lib.hid (Nat.mod_lt p (show 0 < q by omega))
            have HQ := Lib.hid hq
            clear hq
            go_wp2
            go_quiet (fail)
            go_wp2
            refine ⟨⟨q, p % q, rfl, by simp, ?_, HQ.out, Nat.lt_trans HM.out HQ.out, bl_trans hbl (bl_drewN _ _)⟩, ?_⟩
            · rw [← HG.out, Nat.gcd_comm p q, Nat.gcd_rec q p, Nat.gcd_comm]
            · have := HM.out
              simp only [intOf]
              rw [← Int.natCast_emod]
              omega
      · have hd : (∀ w', Below wr.heap.size wr w' → True) := fun _ _ => trivial
        have HM := Lib.hid (Nat.mod_lt x (show 0 < y by omega))
        by_cases hs1 : (dg x).length ≤ 2
        · have hs2 : 2 < (dg y).length := by omega
          clear hs hd
          go_wp2_with fail
          refine (small_yes _ _ _ hx hs1).mono ?_
          rintro e w1 ⟨rfl, hb1⟩
          go_wp2_with fail
          refine (small_no _ _ _ (hy.below hb1) hs2).mono ?_
          rintro e w2 ⟨rfl, hb2⟩
          have hbw := bl_trans hb1 hb2
          go_wp2_with fail
          refine (div_calls _ _ _ _ _ (hx.below hbw) (hy.below hbw) (by omega) sx).mono ?_
          rintro e w3 ⟨q, r, rfl, hq, hr, hb3⟩
          go_wp2
          go_roundg (x % y)
          case measure => have := HM.out; omega
          case rel => exact ⟨y, x % y, hy.below (bl_trans hbw hb3), hr, by rw [← HG.out, Nat.gcd_comm x y, Nat.gcd_rec y x, Nat.gcd_comm], sy, Nat.le_trans (dg_len_mono (Nat.mod_le x y)) sx, Nat.le_refl _, bl_trans hbl (bl_trans hbw hb3)⟩
        · have hs1' : 2 < (dg x).length := by omega
          clear hs hd hs1
          go_wp2_with fail
          refine (small_no _ _ _ hx hs1').mono ?_
          rintro e w1 ⟨rfl, hb1⟩
          go_wp2_with fail
          refine (div_calls _ _ _ _ _ (hx.below hb1) (hy.below hb1) (by omega) sx).mono ?_
          rintro e w3 ⟨q, r, rfl, hq, hr, hb3⟩
          go_wp2
          go_roundg (x % y)
          case measure => have := HM.out; omega
          case rel => exact ⟨y, x % y, hy.below (bl_trans hb1 hb3), hr, by rw [← HG.out, Nat.gcd_comm x y, Nat.gcd_rec y x, Nat.gcd_comm], sy, Nat.le_trans (dg_len_mono (Nat.mod_le x y)) sx, Nat.le_refl _, bl_trans hbl (bl_trans hb1 hb3)⟩
end Go.Proofs.Ytdmgceckmciifaa
