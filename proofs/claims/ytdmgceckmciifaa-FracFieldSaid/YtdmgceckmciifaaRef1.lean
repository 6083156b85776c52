/- The reference: trim, order, plus. -/
import Derived.Test.YtdmgceckmciifaaFloor
set_option linter.unusedVariables false
set_option linter.unusedSimpArgs false
namespace Go.Proofs.Ytdmgceckmciifaa
open Go.RowKit

theorem rtrim (w : World) (va : Value) (l : List Int) (ha : RdI .u32 w va l) (hw : Wd l) :
    Calls Try.prog 118 #[va] w (NmPost (nv l) w) := by
  have ha0 := ha
  obtain ⟨A, c, rfl, hl, hc, hr⟩ := ha
  by_cases hl0 : l.length = 0
  · have e : l = [] := List.length_eq_zero_iff.1 hl0
    subst e
    clear hr ha0
    go_enter Try.func118, Try.ntmps118
    go_wp2
    go_loop [3] (fun i => i = .int .i64 0) (fun i => (intOf i).toNat)
    case atStart => rfl
    case round =>
      subst hrel
      go_wp2
      go_ret
      refine ⟨_, rfl, ?_, Below.refl _ _⟩
      show RdI .u32 w _ (dg 0)
      rw [dg_zero]
      exact ⟨_, c, rfl, by simp, by omega, fun h => absurd h (by simp)⟩
  · obtain ⟨ad, rfl, hcell⟩ := hr (by omega)
    go_enter Try.func118, Try.ntmps118
    go_wp2
    go_loop [3] (fun i => ∃ k : Nat, k ≤ l.length ∧ i = .int .i64 k ∧ nv (l.drop k) = 0) (fun i => (intOf i).toNat)
    case atStart => exact ⟨_, Nat.le_refl _, rfl, nv_drop_all _ (Nat.le_refl _)⟩
    case round =>
      obtain ⟨k, hk, rfl, hz⟩ := hrel
      have HZ := Lib.hid hz
      have HA := Lib.hid ha0
      clear hz hr ha0
      by_cases h0 : 0 < k
      · obtain ⟨j, rfl⟩ : ∃ j, k = j + 1 := ⟨k - 1, by omega⟩
        have e1 := hcell j (by omega)
        clear hcell
        by_cases h1 : wat l j = 0
        · have g1 : (wat l j == 0) = true := by simp [h1]
          have H1 := Lib.hid h1
          clear h1
          go_wp2
          exact ⟨⟨j, by omega, rfl, by rw [nv_drop_wat (by omega), HZ.out, H1.out]; rfl⟩, by simp [intOf]⟩
        · have g1 : (wat l j == 0) = false := by simp [h1]
          have H1 := Lib.hid h1
          clear h1
          go_wp2
          go_ret
          refine ⟨_, rfl, ?_, Below.refl _ _⟩
          have := HA.out.take (j + 1) (c' := c) hk (by omega) (by omega)
          rw [dg_trim hw hk HZ.out (fun _ => H1.out)] at this
          exact this
      · obtain rfl : k = 0 := by omega
        clear hcell
        go_wp2
        go_ret
        refine ⟨_, rfl, ?_, Below.refl _ _⟩
        have := HA.out.take 0 (c' := c) hk (by omega) (by omega)
        rw [dg_trim hw hk HZ.out (fun h => absurd h (by omega))] at this
        exact this

theorem rorder_calls (w : World) (va vb : Value) (a b : Nat) (ha : Nm w va a) (hb : Nm w vb b) :
    Calls Try.prog 85 #[va, vb] w fun e w' => e = .returned (.int .i64 (ncmp a b)) ∧ Below w.heap.size w w' := by
  obtain ⟨A, c, rfl, hl, hc, hr⟩ := ha
  obtain ⟨A2, c2, rfl, hl2, hc2, hr2⟩ := hb
  by_cases h1 : (dg a).length = (dg b).length
  · have h3 : ((dg a).length != (dg b).length) = false := by simp [h1]
    have h5 : (((dg a).length : Int) != ((dg b).length : Int)) = false := by simp [h1]
    go_enter Try.func85, Try.ntmps85
    go_wp2
    go_loopw [5] (fun i wr => ∃ x : Int, -1 ≤ x ∧ x < (dg b).length ∧ i = .int .i64 x ∧ nv ((dg a).drop (x + 1).toNat) = nv ((dg b).drop (x + 1).toNat) ∧ Below w.heap.size w wr)
      (fun i _ => (intOf i + 1).toNat)
    case atStart => exact ⟨_, by omega, by omega, rfl, by rw [nv_drop_all _ (by omega), nv_drop_all _ (by omega)], Below.refl _ _⟩
    case round =>
      obtain ⟨x, hx1, hx2, rfl, hx3, hb⟩ := hrel
      by_cases hx : 0 ≤ x
      · obtain ⟨j, rfl⟩ := Int.eq_ofNat_of_zero_le hx
        obtain ⟨ad, rfl, hcell⟩ := hr (by omega)
        obtain ⟨ad2, rfl, hcell2⟩ := hr2 (by omega)
        have e1 := cell_below hb (hcell j (by omega))
        have e2 := cell_below hb (hcell2 j (by omega))
        have l1 : (j : Int) < ((dg a).length : Int) := by omega
        have l2 : (j : Int) < ((dg b).length : Int) := by omega
        rw [show ((j : Int) + 1).toNat = j + 1 by omega] at hx3
        have HX := Lib.hid hx3
        have H1 := Lib.hid h1
        clear hcell hcell2 hr hr2 hx3 h1
        rcases Int.lt_trichotomy (wat (dg a) j) (wat (dg b) j) with h | h | h
        · have g1 : (wat (dg a) j != wat (dg b) j) = true := by simp; omega
          go_wp2
          go_quiet (fail)
          go_wp2
          go_quiet (fail)
          go_wp2
          go_ret
          exact ⟨by rw [ncmp_lt]; · rfl
                    rw [← nv_dg a, ← nv_dg b]
                    exact nv_lt_of (Wd_dg a) (Wd_dg b) HX.out H1.out (by omega) h, bl_trans hb (by rw [World.drewN_drewN]; exact bl_drewN _ _)⟩
        · have g1 : (wat (dg a) j != wat (dg b) j) = false := by simp [h]
          go_wp2
          go_quiet (fail)
          go_wp2
          go_roundw
          case rel =>
            refine ⟨_, by omega, by omega, rfl, ?_, ?_⟩
            · rw [show ((j : Int) - 1 + 1).toNat = j by omega, nv_drop_wat (by omega), nv_drop_wat (l := dg b) (by omega), HX.out, h]
            · exact bl_trans hb (bl_drewN _ _)
          case measure => simp [intOf]; try omega
        · have g1 : (wat (dg a) j != wat (dg b) j) = true := by simp; omega
          go_wp2
          go_quiet (fail)
          go_wp2
          go_quiet (fail)
          go_wp2
          go_ret
          exact ⟨by rw [ncmp_gt]; · rfl
                    rw [← nv_dg a, ← nv_dg b]
                    exact nv_lt_of (Wd_dg b) (Wd_dg a) HX.out.symm H1.out.symm (by omega) h, bl_trans hb (by rw [World.drewN_drewN]; exact bl_drewN _ _)⟩
      · obtain rfl : x = -1 := by omega
        go_wp2
        go_ret
        have e : nv (dg a) = nv (dg b) := by simpa using hx3
        rw [nv_dg, nv_dg] at e
        exact ⟨by rw [ncmp_eq e]; rfl, hb⟩
  · have h3 : ((dg a).length != (dg b).length) = true := by simp [h1]
    have h5 : (((dg a).length : Int) != ((dg b).length : Int)) = true := by simp; omega
    rcases Nat.lt_or_gt_of_ne h1 with h | h
    · go_enter Try.func85, Try.ntmps85
      go_wp2
      go_ret
      exact ⟨by rw [ncmp_lt (dg_lt_of_len h)]; rfl, Below.refl _ _⟩
    · have h' : ¬ (dg a).length < (dg b).length := by omega
      go_enter Try.func85, Try.ntmps85
      go_wp2
      go_ret
      exact ⟨by rw [ncmp_gt (dg_lt_of_len h)]; rfl, Below.refl _ _⟩

/-- What holds of plus's words, k of them done; n is the greater length. -/
structure PlusW (X Y L : List Int) (n k : Nat) (x : Int) : Prop where
  len : L.length = n + 1
  wd : Wd L
  lo : 0 ≤ x
  hi : x ≤ 1
  sum : nv (L.take k) + 4294967296 ^ k * x.toNat = nv (X.take k) + nv (Y.take k)
theorem PlusW.start (X Y : List Int) (n : Nat) : PlusW X Y (List.replicate (n + 1) 0) n 0 0 := ⟨by simp, Wd_replicate _, by omega, by omega, by simp [nv]⟩
theorem take_more {Y : List Int} (hY : Wd Y) (k : Nat) : nv (Y.take (k + 1)) = nv (Y.take k) + 4294967296 ^ k * (wat Y k).toNat := by
  by_cases hy : k < Y.length
  · exact nv_take_wat hy
  · rw [wat_over (by omega), nv_take_all _ (by omega), nv_take_all _ (by omega)]; simp
theorem PlusW.step {X Y L : List Int} {n k : Nat} {x s : Int} (h : PlusW X Y L n k x) (hX : Wd X) (hY : Wd Y) (hk : k ≤ n) (hs : s = wat X k + x + wat Y k) :
    PlusW X Y (L.set k (s % 4294967296)) n (k + 1) (s / 4294967296) := by
  have r1 := wat_range hX k
  have r2 := wat_range hY k
  obtain ⟨h1, h2, h3, h4, h5⟩ := h
  refine ⟨by simpa using h1, Wd_set h2 _ _ (by omega), by omega, by omega, ?_⟩
  rw [nv_set_take (by omega), take_more hX, take_more hY, Nat.pow_succ]
  have e3 : (s % 4294967296).toNat + 4294967296 * (s / 4294967296).toNat = (wat X k).toNat + x.toNat + (wat Y k).toNat := by omega
  have e4 := congrArg (fun z => 4294967296 ^ k * z) e3
  simp only [Nat.mul_add, ← Nat.mul_assoc] at e4
  omega
theorem carry_zero {p P q a b L P1 P2 : Nat} (h5 : L + P * q = a + b) (ha : a < P1) (hb : b < P2) (p1 : P1 ≤ p) (p2 : P2 ≤ p) (hP : P = p * 4294967296) : q = 0 := by
  rcases Nat.eq_zero_or_pos q with h0 | h0
  · exact h0
  · have h := Nat.mul_le_mul_left P h0
    generalize P * q = m at *
    omega
theorem PlusW.done {X Y L : List Int} {n : Nat} {x : Int} (h : PlusW X Y L n (n + 1) x) (hX : X.length ≤ n) (hY : Y.length ≤ n) (wX : Wd X) (wY : Wd Y) : nv L = nv X + nv Y := by
  obtain ⟨h1, h2, h3, h4, h5⟩ := h
  rw [nv_take_all L (by omega), nv_take_all X (by omega), nv_take_all Y (by omega)] at h5
  have hx0 := carry_zero h5 (nv_lt wX) (nv_lt wY) (Nat.pow_le_pow_right (by omega) hX) (Nat.pow_le_pow_right (by omega) hY) (Nat.pow_succ _ _)
  rw [hx0, Nat.mul_zero, Nat.add_zero] at h5
  exact h5
end Go.Proofs.Ytdmgceckmciifaa
