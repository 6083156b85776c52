/- The reference: trim, order, plus. -/
import Derived.Test.YtajckdheecgceaaApi
set_option linter.unusedVariables false
set_option linter.unusedSimpArgs false
namespace Go.Proofs.Ytajckdheecgceaa
open Go.RowKit

theorem rtrim (w : World) (va : Value) (l : List Int) (ha : RdI .u32 w va l) (hw : Wd l) :
    Calls Try.prog 96 #[va] w (NmPost (nv l) w) := by
  have ha0 := ha
  obtain ⟨A, c, rfl, hl, hc, hr⟩ := ha
  by_cases hl0 : l.length = 0
  · have e : l = [] := List.length_eq_zero_iff.1 hl0
    subst e
    clear hr ha0
    go_enter Try.func96, Try.ntmps96
    go_wp2
    go_loop [3] (fun i => i = .int .i64 0) (fun i => (intOf i).toNat)
    case atStart => rfl
    case round =>
      subst hrel
      go_wp2
      go_ret
      refine ⟨_, rfl, ?_, Below.refl _ _⟩
      show RdI .u32 w _ (dg 0)
      rw [dg_zero]
      exact ⟨_, c, rfl, by simp, by omega, fun h => absurd h (by simp)⟩
  · obtain ⟨ad, rfl, hcell⟩ := hr (by omega)
    go_enter Try.func96, Try.ntmps96
    go_wp2
    go_loop [3] (fun i => ∃ k : Nat, k ≤ l.length ∧ i = .int .i64 k ∧ nv (l.drop k) = 0) (fun i => (intOf i).toNat)
    case atStart => exact ⟨_, Nat.le_refl _, rfl, nv_drop_all _ (Nat.le_refl _)⟩
    case round =>
      obtain ⟨k, hk, rfl, hz⟩ := hrel
      have HZ := Lib.hid hz
      have HA := Lib.hid ha0
      clear hz hr ha0
      by_cases h0 : 0 < k
      · obtain ⟨j, rfl⟩ : ∃ j, k = j + 1 := ⟨k - 1, by omega⟩
        have e1 := hcell j (by omega)
        clear hcell
        by_cases h1 : wat l j = 0
        · have g1 : (wat l j == 0) = true := by simp [h1]
          have H1 := Lib.hid h1
          clear h1
          go_wp2
          exact ⟨⟨j, by omega, rfl, by rw [nv_drop_wat (by omega), HZ.out, H1.out]; rfl⟩, by simp [intOf]⟩
        · have g1 : (wat l j == 0) = false := by simp [h1]
          have H1 := Lib.hid h1
          clear h1
          go_wp2
          go_ret
          refine ⟨_, rfl, ?_, Below.refl _ _⟩
          have := HA.out.take (j + 1) (c' := c) hk (by omega) (by omega)
          rw [dg_trim hw hk HZ.out (fun _ => H1.out)] at this
          exact this
      · obtain rfl : k = 0 := by omega
        clear hcell
        go_wp2
        go_ret
        refine ⟨_, rfl, ?_, Below.refl _ _⟩
        have := HA.out.take 0 (c' := c) hk (by omega) (by omega)
        rw [dg_trim hw hk HZ.out (fun h => absurd h (by omega))] at this
        exact this

theorem rorder_calls (w : World) (va vb : Value) (a b : Nat) (ha : Nm w va a) (hb : Nm w vb b) :
    Calls Try.prog 63 #[va, vb] w fun e w' => e = .returned (.int .i64 (ncmp a b)) ∧ Below w.heap.size w w' := by
  obtain ⟨A, c, rfl, hl, hc, hr⟩ := ha
  obtain ⟨A2, c2, rfl, hl2, hc2, hr2⟩ := hb
  by_cases h1 : (dg a).length = (dg b).length
  · have h3 : ((dg a).length != (dg b).length) = false := by simp [h1]
    have h5 : (((dg a).length : Int) != ((dg b).length : Int)) = false := by simp [h1]
    go_enter Try.func63, Try.ntmps63
    go_wp2
    go_loopw [5] (fun i wr => ∃ x : Int, -1 ≤ x ∧ x < (dg b).length ∧ i = .int .i64 x ∧ nv ((dg a).drop (x + 1).toNat) = nv ((dg b).drop (x + 1).toNat) ∧ Below w.heap.size w wr)
      (fun i _ => (intOf i + 1).toNat)
    case atStart => exact ⟨_, by omega, by omega, rfl, by rw [nv_drop_all _ (by omega), nv_drop_all _ (by omega)], Below.refl _ _⟩
    case round =>
      obtain ⟨x, hx1, hx2, rfl, hx3, hb⟩ := hrel
      by_cases hx : 0 ≤ x
      · obtain ⟨j, rfl⟩ := Int.eq_ofNat_of_zero_le hx
        obtain ⟨ad, rfl, hcell⟩ := hr (by omega)
        obtain ⟨ad2, rfl, hcell2⟩ := hr2 (by omega)
        have e1 := cell_below hb (hcell j (by omega))
        have e2 := cell_below hb (hcell2 j (by omega))
        have l1 : (j : Int) < ((dg a).length : Int) := by omega
        have l2 : (j : Int) < ((dg b).length : Int) := by omega
        rw [show ((j : Int) + 1).toNat = j + 1 by omega] at hx3
        have HX := Lib.hid hx3
        have H1 := Lib.hid h1
        clear hcell hcell2 hr hr2 hx3 h1
        rcases Int.lt_trichotomy (wat (dg a) j) (wat (dg b) j) with h | h | h
        · have g1 : (wat (dg a) j != wat (dg b) j) = true := by simp; omega
          go_wp2
          go_quiet (fail)
          go_wp2
          go_quiet (fail)
          go_wp2
          go_ret
          exact ⟨by rw [ncmp_lt]; · rfl
                    rw [← nv_dg a, ← nv_dg b]
                    exact nv_lt_of (Wd_dg a) (Wd_dg b) HX.out H1.out (by omega) h, bl_trans hb (by rw [World.drewN_drewN]; exact bl_drewN _ _)⟩
        · have g1 : (wat (dg a) j != wat (dg b) j) = false := by simp [h]
          go_wp2
          go_quiet (fail)
          go_wp2
          go_roundw
          case rel =>
            refine ⟨_, by omega, by omega, rfl, ?_, ?_⟩
            · rw [show ((j : Int) - 1 + 1).toNat = j by omega, nv_drop_wat (by omega), nv_drop_wat (l := dg b) (by omega), HX.out, h]
            · exact bl_trans hb (bl_drewN _ _)
          case measure => simp [intOf]; try omega
        · have g1 : (wat (dg a) j != wat (dg b) j) = true := by simp; omega
          go_wp2
          go_quiet (fail)
          go_wp2
          go_quiet (fail)
          go_wp2
          go_ret
          exact ⟨by rw [ncmp_gt]; · rfl
                    rw [← nv_dg a, ← nv_dg b]
                    exact nv_lt_of (Wd_dg b) (Wd_dg a) HX.out.symm H1.out.symm (by omega) h, bl_trans hb (by rw [World.drewN_drewN]; exact bl_drewN _ _)⟩
      · obtain rfl : x = -1 := by omega
        go_wp2
        go_ret
        have e : nv (dg a) = nv (dg b) := by simpa using hx3
        rw [nv_dg, nv_dg] at e
        exact ⟨by rw [ncmp_eq e]; rfl, hb⟩
  · have h3 : ((dg a).length != (dg b).length) = true := by simp [h1]
    have h5 : (((dg a).length : Int) != ((dg b).length : Int)) = true := by simp; omega
    rcases Nat.lt_or_gt_of_ne h1 with h | h
    · go_enter Try.func63, Try.ntmps63
      go_wp2
      go_ret
      exact ⟨by rw [ncmp_lt (dg_lt_of_len h)]; rfl, Below.refl _ _⟩
    · have h' : ¬ (dg a).length < (dg b).length := by omega
      go_enter Try.func63, Try.ntmps63
      go_wp2
      go_ret
      exact ⟨by rw [ncmp_gt (dg_lt_of_len h)]; rfl, Below.refl _ _⟩

/-- What holds of plus's words, k of them done; n is the greater length. -/
structure PlusW (X Y L : List Int) (n k : Nat) (x : Int) : Prop where
  len : L.length = n + 1
  wd : Wd L
  lo : 0 ≤ x
  hi : x ≤ 1
  sum : nv (L.take k) + 4294967296 ^ k * x.toNat = nv (X.take k) + nv (Y.take k)
theorem PlusW.start (X Y : List Int) (n : Nat) : PlusW X Y (List.replicate (n + 1) 0) n 0 0 := ⟨by simp, Wd_replicate _, by omega, by omega, by simp [nv]⟩
theorem take_more {Y : List Int} (hY : Wd Y) (k : Nat) : nv (Y.take (k + 1)) = nv (Y.take k) + 4294967296 ^ k * (wat Y k).toNat := by
  by_cases hy : k < Y.length
  · exact nv_take_wat hy
  · rw [wat_over (by omega), nv_take_all _ (by omega), nv_take_all _ (by omega)]; simp
theorem PlusW.step {X Y L : List Int} {n k : Nat} {x s : Int} (h : PlusW X Y L n k x) (hX : Wd X) (hY : Wd Y) (hk : k ≤ n) (hs : s = wat X k + x + wat Y k) :
    PlusW X Y (L.set k (s % 4294967296)) n (k + 1) (s / 4294967296) := by
  have r1 := wat_range hX k
  have r2 := wat_range hY k
  obtain ⟨h1, h2, h3, h4, h5⟩ := h
  refine ⟨by simpa using h1, Wd_set h2 _ _ (by omega), by omega, by omega, ?_⟩
  rw [nv_set_take (by omega), take_more hX, take_more hY, Nat.pow_succ]
  have e3 : (s % 4294967296).toNat + 4294967296 * (s / 4294967296).toNat = (wat X k).toNat + x.toNat + (wat Y k).toNat := by omega
  have e4 := congrArg (fun z => 4294967296 ^ k * z) e3
  simp only [Nat.mul_add, ← Nat.mul_assoc] at e4
  omega
theorem carry_zero {p P q a b L P1 P2 : Nat} (h5 : L + P * q = a + b) (ha : a < P1) (hb : b < P2) (p1 : P1 ≤ p) (p2 : P2 ≤ p) (hP : P = p * 4294967296) : q = 0 := by
  rcases Nat.eq_zero_or_pos q with h0 | h0
  · exact h0
  · have h := Nat.mul_le_mul_left P h0
    generalize P * q = m at *
    omega
theorem PlusW.done {X Y L : List Int} {n : Nat} {x : Int} (h : PlusW X Y L n (n + 1) x) (hX : X.length ≤ n) (hY : Y.length ≤ n) (wX : Wd X) (wY : Wd Y) : nv L = nv X + nv Y := by
  obtain ⟨h1, h2, h3, h4, h5⟩ := h
  rw [nv_take_all L (by omega), nv_take_all X (by omega), nv_take_all Y (by omega)] at h5
  have hx0 := carry_zero h5 (nv_lt wX) (nv_lt wY) (Nat.pow_le_pow_right (by omega) hX) (Nat.pow_le_pow_right (by omega) hY) (Nat.pow_succ _ _)
  rw [hx0, Nat.mul_zero, Nat.add_zero] at h5
  exact h5

theorem and_mask (x : Int) (h0 : 0 ≤ x) (h1 : x < 18446744073709551616) : bits .and .u64 x 4294967295 = x % 4294967296 := by
  obtain ⟨n, rfl⟩ := Int.eq_ofNat_of_zero_le h0
  have h := u64_and_nat n 4294967295 (by omega) (by omega)
  have e : n &&& 4294967295 = n % 4294967296 := Nat.and_two_pow_sub_one_eq_mod n 32
  rw [e] at h
  exact h.trans (by simp)
/-- A new row of words (make), of the reference. -/
theorem mk_u32 (n : Int) (h0 : 0 ≤ n) (h : n ≤ 70368744177664) (w : World) :
    (Instr.makeSlice 36 (.int .i64 n) (.int .i64 n)).run Try.prog w = .ok (.slice (some ⟨w.heap.size, 0, none⟩) n.toNat n.toNat) (w.alloc (.cells ((List.replicate n.toNat (0 : Int)).map (Value.int .u32)).toArray 101)) :=
  mk_row _ _ 4 Try.underlying36 info_u32 n h0 (by omega) (by omega) w
theorem rplus_calls (w : World) (va vb : Value) (a b : Nat) (ha : Nm w va a) (hb : Nm w vb b) (sa : (dg a).length ≤ 1073741824) (sb : (dg b).length ≤ 1073741824) :
    Calls Try.prog 107 #[va, vb] w (NmPost (a + b) w) := by
  obtain ⟨A, c, rfl, hl, hc, hr⟩ := ha
  obtain ⟨A2, c2, rfl, hl2, hc2, hr2⟩ := hb
  by_cases h1 : (dg a).length < (dg b).length
  · have hmk := fun w => mk_u32 (((dg b).length : Int) + 1) (by omega) (by omega) w
    go_enter Try.func107, Try.ntmps107
    go_wp2
    go_loopw [7, 8] (fun s i wr => ∃ (k : Nat) (x : Int) (L : List Int), k ≤ (dg b).length + 1 ∧ s = .int .u64 x ∧ i = .int .i64 k ∧ PlusW (dg a) (dg b) L (dg b).length k x ∧ Ow wr w.heap.size L ∧ Below w.heap.size w wr)
      (fun _ i _ => (dg b).length + 1 - (intOf i).toNat)
    case atStart => exact ⟨0, 0, _, by omega, rfl, rfl, PlusW.start _ _ _, Ow.zeros _ _, (Below.refl _ _).alloc (Nat.le_refl _) _⟩
    case round =>
      obtain ⟨k, x, L, hk, rfl, rfl, ho, hg, hbl⟩ := hrel
      have HO := Lib.hid ho
      have b1 := ho.lo
      have b2 := ho.hi
      have b3 := ho.len
      clear ho hmk
      by_cases hx : k ≤ (dg b).length
      · have f1 := hg.free k
        have e3 := hg.cell (j := k) (by omega)
        have r1 := wat_range (Wd_dg a) k
        have r1a := r1.1
        have r1b := r1.2
        have r2 := wat_range (Wd_dg b) k
        have r2a := r2.1
        have r2b := r2.2
        clear r1 r2
        by_cases ka : k < (dg a).length
        · by_cases kb : k < (dg b).length
          · obtain ⟨ad, rfl, hcell⟩ := hr (by omega)
            have e1 := cell_below hbl (hcell k (by omega))
            obtain ⟨ad2, rfl, hcell2⟩ := hr2 (by omega)
            have e2 := cell_below hbl (hcell2 k (by omega))
            clear hcell hcell2 hr hr2
            have am := and_mask (x + wat (dg a) k + wat (dg b) k) (by omega) (by omega)
            go_wp2
            first | (exfalso; omega) | exact ⟨⟨k + 1, _, _, by omega, rfl, by go_num, HO.out.step (Wd_dg _) (Wd_dg _) (by omega) (by omega), hg.set _ _, hbl.setCell (Nat.le_refl _) _⟩, by simp [intOf]; try omega⟩
          · obtain ⟨ad, rfl, hcell⟩ := hr (by omega)
            have e1 := cell_below hbl (hcell k (by omega))
            have z2 := Lib.hid (wat_over (l := dg b) (k := k) (by omega))
            clear hcell hr hr2
            have am := and_mask (x + wat (dg a) k) (by omega) (by omega)
            go_wp2
            first | (exfalso; omega) | exact ⟨⟨k + 1, _, _, by omega, rfl, by go_num, HO.out.step (Wd_dg _) (Wd_dg _) (by omega) (by rw [z2.out]; omega), hg.set _ _, hbl.setCell (Nat.le_refl _) _⟩, by simp [intOf]; try omega⟩
        · by_cases kb : k < (dg b).length
          · have z1 := Lib.hid (wat_over (l := dg a) (k := k) (by omega))
            obtain ⟨ad2, rfl, hcell2⟩ := hr2 (by omega)
            have e2 := cell_below hbl (hcell2 k (by omega))
            clear hcell2 hr hr2
            have am := and_mask (x + wat (dg b) k) (by omega) (by omega)
            go_wp2
            first | (exfalso; omega) | exact ⟨⟨k + 1, _, _, by omega, rfl, by go_num, HO.out.step (Wd_dg _) (Wd_dg _) (by omega) (by rw [z1.out]; omega), hg.set _ _, hbl.setCell (Nat.le_refl _) _⟩, by simp [intOf]; try omega⟩
          · have z1 := Lib.hid (wat_over (l := dg a) (k := k) (by omega))
            have z2 := Lib.hid (wat_over (l := dg b) (k := k) (by omega))
            clear hr hr2
            have am := and_mask x (by omega) (by omega)
            go_wp2
            first | (exfalso; omega) | exact ⟨⟨k + 1, _, _, by omega, rfl, by go_num, HO.out.step (Wd_dg _) (Wd_dg _) (by omega) (by rw [z1.out, z2.out]; omega), hg.set _ _, hbl.setCell (Nat.le_refl _) _⟩, by simp [intOf]; try omega⟩
      · obtain rfl : k = (dg b).length + 1 := by omega
        have hd := HO.out.done (by omega) (by omega) (Wd_dg _) (Wd_dg _)
        have hw := HO.out.wd
        rw [nv_dg, nv_dg] at hd
        have HD := Lib.hid hd
        have hrd := hg.rd ((dg b).length + 1) ((dg b).length + 1) (by omega) (by omega) (by omega)
        rw [show L.take ((dg b).length + 1) = L by rw [← b3, List.take_length]] at hrd
        clear hd hr hr2
        go_wp2_with fail
        refine (rtrim _ _ _ hrd hw).mono ?_
        rintro e w' ⟨v, rfl, hv, hb'⟩
        rw [HD.out] at hv
        go_wp2
        go_ret
        exact ⟨_, rfl, hv, bl_trans hbl hb'⟩
  · have hmk := fun w => mk_u32 (((dg a).length : Int) + 1) (by omega) (by omega) w
    go_enter Try.func107, Try.ntmps107
    go_wp2
    go_loopw [7, 8] (fun s i wr => ∃ (k : Nat) (x : Int) (L : List Int), k ≤ (dg a).length + 1 ∧ s = .int .u64 x ∧ i = .int .i64 k ∧ PlusW (dg a) (dg b) L (dg a).length k x ∧ Ow wr w.heap.size L ∧ Below w.heap.size w wr)
      (fun _ i _ => (dg a).length + 1 - (intOf i).toNat)
    case atStart => exact ⟨0, 0, _, by omega, rfl, rfl, PlusW.start _ _ _, Ow.zeros _ _, (Below.refl _ _).alloc (Nat.le_refl _) _⟩
    case round =>
      obtain ⟨k, x, L, hk, rfl, rfl, ho, hg, hbl⟩ := hrel
      have HO := Lib.hid ho
      have b1 := ho.lo
      have b2 := ho.hi
      have b3 := ho.len
      clear ho hmk
      by_cases hx : k ≤ (dg a).length
      · have f1 := hg.free k
        have e3 := hg.cell (j := k) (by omega)
        have r1 := wat_range (Wd_dg a) k
        have r1a := r1.1
        have r1b := r1.2
        have r2 := wat_range (Wd_dg b) k
        have r2a := r2.1
        have r2b := r2.2
        clear r1 r2
        by_cases ka : k < (dg a).length
        · by_cases kb : k < (dg b).length
          · obtain ⟨ad, rfl, hcell⟩ := hr (by omega)
            have e1 := cell_below hbl (hcell k (by omega))
            obtain ⟨ad2, rfl, hcell2⟩ := hr2 (by omega)
            have e2 := cell_below hbl (hcell2 k (by omega))
            clear hcell hcell2 hr hr2
            have am := and_mask (x + wat (dg a) k + wat (dg b) k) (by omega) (by omega)
            go_wp2
            first | (exfalso; omega) | exact ⟨⟨k + 1, _, _, by omega, rfl, by go_num, HO.out.step (Wd_dg _) (Wd_dg _) (by omega) (by omega), hg.set _ _, hbl.setCell (Nat.le_refl _) _⟩, by simp [intOf]; try omega⟩
          · obtain ⟨ad, rfl, hcell⟩ := hr (by omega)
            have e1 := cell_below hbl (hcell k (by omega))
            have z2 := Lib.hid (wat_over (l := dg b) (k := k) (by omega))
            clear hcell hr hr2
            have am := and_mask (x + wat (dg a) k) (by omega) (by omega)
            go_wp2
            first | (exfalso; omega) | exact ⟨⟨k + 1, _, _, by omega, rfl, by go_num, HO.out.step (Wd_dg _) (Wd_dg _) (by omega) (by rw [z2.out]; omega), hg.set _ _, hbl.setCell (Nat.le_refl _) _⟩, by simp [intOf]; try omega⟩
        · by_cases kb : k < (dg b).length
          · have z1 := Lib.hid (wat_over (l := dg a) (k := k) (by omega))
            obtain ⟨ad2, rfl, hcell2⟩ := hr2 (by omega)
            have e2 := cell_below hbl (hcell2 k (by omega))
            clear hcell2 hr hr2
            have am := and_mask (x + wat (dg b) k) (by omega) (by omega)
            go_wp2
            first | (exfalso; omega) | exact ⟨⟨k + 1, _, _, by omega, rfl, by go_num, HO.out.step (Wd_dg _) (Wd_dg _) (by omega) (by rw [z1.out]; omega), hg.set _ _, hbl.setCell (Nat.le_refl _) _⟩, by simp [intOf]; try omega⟩
          · have z1 := Lib.hid (wat_over (l := dg a) (k := k) (by omega))
            have z2 := Lib.hid (wat_over (l := dg b) (k := k) (by omega))
            clear hr hr2
            have am := and_mask x (by omega) (by omega)
            go_wp2
            first | (exfalso; omega) | exact ⟨⟨k + 1, _, _, by omega, rfl, by go_num, HO.out.step (Wd_dg _) (Wd_dg _) (by omega) (by rw [z1.out, z2.out]; omega), hg.set _ _, hbl.setCell (Nat.le_refl _) _⟩, by simp [intOf]; try omega⟩
      · obtain rfl : k = (dg a).length + 1 := by omega
        have hd := HO.out.done (by omega) (by omega) (Wd_dg _) (Wd_dg _)
        have hw := HO.out.wd
        rw [nv_dg, nv_dg] at hd
        have HD := Lib.hid hd
        have hrd := hg.rd ((dg a).length + 1) ((dg a).length + 1) (by omega) (by omega) (by omega)
        rw [show L.take ((dg a).length + 1) = L by rw [← b3, List.take_length]] at hrd
        clear hd hr hr2
        go_wp2_with fail
        refine (rtrim _ _ _ hrd hw).mono ?_
        rintro e w' ⟨v, rfl, hv, hb'⟩
        rw [HD.out] at hv
        go_wp2
        go_ret
        exact ⟨_, rfl, hv, bl_trans hbl hb'⟩

theorem rminus_calls (w : World) (va vb : Value) (a b : Nat) (ha : Nm w va a) (hb : Nm w vb b) (hle : b ≤ a) (sa : (dg a).length ≤ 1073741824) :
    Calls Try.prog 108 #[va, vb] w (NmPost (a - b) w) := by
  obtain ⟨A, c, rfl, hl, hc, hr⟩ := ha
  obtain ⟨A2, c2, rfl, hl2, hc2, hr2⟩ := hb
  have hmk := fun w => mk_u32 ((dg a).length : Int) (by omega) (by omega) w
  have hlen := dg_len_mono hle
  go_enter Try.func108, Try.ntmps108
  go_wp2
  go_loopw [6, 7] (fun s i wr => ∃ (k : Nat) (x : Int) (L : List Int), k ≤ (dg a).length ∧ s = .int .u64 x ∧ i = .int .i64 k ∧ SubRel (dg a) (dg b) L k x ∧ Ow wr w.heap.size L ∧ Below w.heap.size w wr)
    (fun _ i _ => (dg a).length - (intOf i).toNat)
  case atStart => exact ⟨0, 0, _, by omega, rfl, rfl, SubRel.start _ _, Ow.zeros _ _, (Below.refl _ _).alloc (Nat.le_refl _) _⟩
  case round =>
    obtain ⟨k, x, L, hk, rfl, rfl, ho, hg, hbl⟩ := hrel
    have HO := Lib.hid ho
    have b1 := ho.lo
    have b2 := ho.hi
    have b3 := ho.len
    clear ho hmk
    by_cases hx : k < (dg a).length
    · have f1 := hg.free k
      obtain ⟨adx, rfl, hcellx⟩ := hr (by omega)
      have e2 := cell_below hbl (hcellx k (by omega))
      have r1 := wat_range (Wd_dg a) k
      have r1a := r1.1
      have r1b := r1.2
      have e3 := hg.cell (j := k) (by omega)
      by_cases hy : k < (dg b).length
      · obtain ⟨ad, rfl, hcell⟩ := hr2 (by omega)
        have e1 := cell_below hbl (hcell k (by omega))
        have r2 := wat_range (Wd_dg b) k
        have r2a := r2.1
        have r2b := r2.2
        clear hcell hcellx hr hr2 r1 r2
        by_cases hb : wat (dg a) k < x + wat (dg b) k
        · have am := and_mask (wat (dg a) k + 4294967296 - (x + wat (dg b) k)) (by omega) (by omega)
          go_wp2
          exact ⟨⟨k + 1, _, _, by omega, rfl, by go_num, HO.out.step (Wd_dg _) (Wd_dg _) hx (by omega) (by omega) (by omega), hg.set _ _, hbl.setCell (Nat.le_refl _) _⟩, by simp [intOf]; try omega⟩
        · have am := and_mask (wat (dg a) k - (x + wat (dg b) k)) (by omega) (by omega)
          go_wp2
          exact ⟨⟨k + 1, _, _, by omega, rfl, by go_num, HO.out.step (Wd_dg _) (Wd_dg _) hx (by omega) (by omega) (by omega), hg.set _ _, hbl.setCell (Nat.le_refl _) _⟩, by simp [intOf]; try omega⟩
      · have hy0 := wat_over (l := dg b) (k := k) (by omega)
        have HY := Lib.hid hy0
        clear hcellx hr hr2 r1 hy0
        by_cases hb : wat (dg a) k < x
        · have am := and_mask (wat (dg a) k + 4294967296 - x) (by omega) (by omega)
          go_wp2
          exact ⟨⟨k + 1, _, _, by omega, rfl, by go_num, HO.out.step (Wd_dg _) (Wd_dg _) hx (by omega) (by omega) (by rw [HY.out]; omega), hg.set _ _, hbl.setCell (Nat.le_refl _) _⟩, by simp [intOf]; try omega⟩
        · have am := and_mask (wat (dg a) k - x) (by omega) (by omega)
          go_wp2
          exact ⟨⟨k + 1, _, _, by omega, rfl, by go_num, HO.out.step (Wd_dg _) (Wd_dg _) hx (by omega) (by omega) (by rw [HY.out]; omega), hg.set _ _, hbl.setCell (Nat.le_refl _) _⟩, by simp [intOf]; try omega⟩
    · obtain rfl : k = (dg a).length := by omega
      have hd := HO.out.done (by rw [nv_dg, nv_dg]; exact hle) hlen
      rw [nv_dg, nv_dg] at hd
      have HD := Lib.hid hd
      have hrd := hg.rd (dg a).length (dg a).length (by omega) (by omega) (by omega)
      rw [show L.take (dg a).length = L by rw [← b3, List.take_length]] at hrd
      clear hd hr hr2
      go_wp2_with fail
      refine (rtrim _ _ _ hrd HO.out.wd).mono ?_
      rintro e w' ⟨v, rfl, hv, hb'⟩
      rw [HD.out] at hv
      go_wp2
      go_ret
      exact ⟨_, rfl, hv, bl_trans hbl hb'⟩

theorem rtimes_calls (w : World) (va vb : Value) (a b : Nat) (ha : Nm w va a) (hb : Nm w vb b) (sa : (dg a).length ≤ 1073741824) (sb : (dg b).length ≤ 1073741824) :
    Calls Try.prog 64 #[va, vb] w (NmPost (a * b) w) := by
  obtain ⟨A, c, rfl, hl, hc, hr⟩ := ha
  obtain ⟨A2, c2, rfl, hl2, hc2, hr2⟩ := hb
  have hmk := fun w => mk_u32 (((dg a).length : Int) + ((dg b).length : Int)) (by omega) (by omega) w
  go_enter Try.func64, Try.ntmps64
  go_wp2
  go_loopw [6] (fun i wr => ∃ (k : Nat) (L : List Int), k ≤ (dg a).length ∧ i = .int .i64 (k : Int) ∧ L.length = (dg a).length + (dg b).length ∧ Wd L ∧ nv (L.take (k + (dg b).length)) = nv ((dg a).take k) * b ∧ Ow wr w.heap.size L ∧ Below w.heap.size w wr)
    (fun i _ => (dg a).length - (intOf i).toNat)
  case atStart =>
    refine ⟨0, List.replicate ((dg a).length + (dg b).length) 0, by omega, rfl, by simp, Wd_replicate _, ?_, Ow.zeros _ _, (Below.refl _ _).alloc (Nat.le_refl _) _⟩
    rw [List.take_replicate, nv_replicate]; simp [nv]
  case round =>
    obtain ⟨i, L, hi, rfl, hL, hWL, hsum, hg, hbl⟩ := hrel
    have HS := Lib.hid hsum
    clear hsum hmk
    by_cases hx : i < (dg a).length
    · obtain ⟨ad, rfl, hcell⟩ := hr (by omega)
      have e1 := cell_below hbl (hcell i hx)
      have r1 := wat_range (Wd_dg a) i
      have r1a := r1.1
      have r1b := r1.2
      clear r1 e1
      go_wp2
      obtain ⟨wo, hwo⟩ : ∃ wo : World, wo = wr := ⟨_, rfl⟩
      subst hwo
      go_loopw [7, 8] (fun s j wr => ∃ (k : Nat) (x : Int) (L : List Int), k ≤ (dg b).length ∧ s = .int .u64 x ∧ j = .int .i64 (k : Int) ∧ MulRel (dg b) L ((dg a).length + (dg b).length) i k (nv ((dg a).take i) * b) (wat (dg a) i) x ∧ Ow wr w.heap.size L ∧ Below w.heap.size w wr)
        (fun _ j _ => (dg b).length - (intOf j).toNat)
      case atStart => exact ⟨0, 0, L, by omega, rfl, rfl, ⟨hL, hWL, by omega, by omega, by rw [HS.out]; simp [nv]⟩, hg, hbl⟩
      case round =>
        clear hg hbl HS hWL hL
        obtain ⟨k, x, L, hk, rfl, rfl, ho, hg, hbl⟩ := hrel
        have HO := Lib.hid ho
        have b1 := ho.lo
        have b2 := ho.hi
        have hL := ho.len
        clear ho
        by_cases hy : k < (dg b).length
        · obtain ⟨ad2, rfl, hcell2⟩ := hr2 (by omega)
          have e1 := cell_below hbl (hcell2 k hy)
          have e0 := cell_below hbl (hcell i hx)
          have r2 := wat_range (Wd_dg b) k
          have r2a := r2.1
          have r2b := r2.2
          have r3 := wat_range HO.out.wd (i + k)
          have r3a := r3.1
          have r3b := r3.2
          have m1 := mul_bound r1a r1b r2a r2b
          have m1a := m1.1
          have m1b := m1.2
          have f1 := hg.free (i + k)
          have e3 := hg.cell (j := i + k) (by omega)
          have am := and_mask (wat (dg a) i * wat (dg b) k + wat L (i + k) + x) (by omega) (by omega)
          have hst := HO.out.step (Wd_dg b) ⟨r1a, r1b⟩ hy (by omega) _ rfl
          have HST := Lib.hid hst
          clear hcell hcell2 hr2 hr r2 r3 m1 hst
          have q1 : IntKind.i64.wrap ((i : Int) + (k : Int)) = ((i + k : Nat) : Int) := by rw [IntWalk.i64_in _ (by omega)]; simp
          have q2 : IntKind.u64.wrap (wat (dg a) i * wat (dg b) k) = wat (dg a) i * wat (dg b) k := IntWalk.u64_in _ (by omega)
          have q3 : IntKind.u64.wrap (wat (dg a) i * wat (dg b) k + wat L (i + k)) = wat (dg a) i * wat (dg b) k + wat L (i + k) := IntWalk.u64_in _ (by omega)
          have q4 : IntKind.u64.wrap (wat (dg a) i * wat (dg b) k + wat L (i + k) + x) = wat (dg a) i * wat (dg b) k + wat L (i + k) + x := IntWalk.u64_in _ (by omega)
          go_wp2
          go_quiet (fail)
          go_wp2
          exact ⟨⟨k + 1, _, _, by omega, rfl, by go_num, (by rw [show wat (dg a) i * wat (dg b) k + wat L (i + k) + x = x + (wat (dg a) i * wat (dg b) k + wat L (i + k)) by omega]; exact HST.out), (hg.below (bl_drewN _ _)).set _ _, (bl_trans hbl (bl_drewN _ _)).setCell (Nat.le_refl _) _⟩, by simp [intOf]; try omega⟩
        · obtain rfl : k = (dg b).length := by omega
          have f1 := hg.free (i + (dg b).length)
          have e3 := hg.cell (j := i + (dg b).length) (by omega)
          have HD := Lib.hid (HO.out.done (by omega))
          clear hr2 hr
          go_wp2
          refine ⟨⟨i + 1, _, by omega, by go_num, HD.out.1, HD.out.2.1, ?_, hg.set _ _, hbl.setCell (Nat.le_refl _) _⟩, by simp [intOf]; try omega⟩
          rw [HD.out.2.2, nv_take_wat hx, Nat.add_mul, nv_dg, Nat.mul_assoc]
    · obtain rfl : i = (dg a).length := by omega
      have hs := HS.out
      rw [nv_take_all _ (by omega), nv_take_all _ (Nat.le_refl _), nv_dg] at hs
      have HQ := Lib.hid hs
      clear hs hr hr2
      have hrd := hg.rd ((dg a).length + (dg b).length) ((dg a).length + (dg b).length) (by omega) (by omega) (by omega)
      rw [show L.take ((dg a).length + (dg b).length) = L by rw [← hL, List.take_length]] at hrd
      go_wp2_with fail
      refine (rtrim _ _ _ hrd hWL).mono ?_
      rintro e w' ⟨v, rfl, hv, hb'⟩
      rw [HQ.out] at hv
      go_wp2
      go_ret
      exact ⟨_, rfl, hv, bl_trans hbl hb'⟩

theorem rwide_calls (w : World) (n : Int) (m : Nat) (h : Is64 n m) : Calls Try.prog 86 #[.int .u64 n] w (NmPost m w) := by
  obtain ⟨rfl, hm⟩ := h
  have hw : Wd [(m : Int) % 4294967296, (m : Int) / 4294967296] := by
    rw [Wd_cons, Wd_cons]
    exact ⟨by omega, by omega, Wd_nil⟩
  have hv : nv [(m : Int) % 4294967296, (m : Int) / 4294967296] = m := by
    simp only [nv]; omega
  have am := and_mask (m : Int) (by omega) (by omega)
  have HV := Lib.hid hv
  clear hv
  go_enter Try.func86, Try.ntmps86
  go_wp2_with fail
  have ho := Ow.made w [(m : Int) % 4294967296, (m : Int) / 4294967296]
  have hrd := ho.rd 2 2 (by simp) (by omega) (by omega)
  refine (rtrim _ _ _ hrd hw).mono ?_
  rintro e w' ⟨v, rfl, hv', hb'⟩
  rw [show ([(m : Int) % 4294967296, (m : Int) / 4294967296].take 2) = [(m : Int) % 4294967296, (m : Int) / 4294967296] from rfl, HV.out] at hv'
  go_wp2
  go_ret
  exact ⟨_, rfl, hv', bl_trans (below_alloc0 _ _) hb'⟩

theorem rsmall_calls (w : World) (va : Value) (a : Nat) (ha : Nm w va a) (h2 : (dg a).length ≤ 2) :
    Calls Try.prog 121 #[va] w fun e w' => e = .returned (.int .u64 (a : Int)) ∧ Below w.heap.size w w' := by
  obtain ⟨A, c, rfl, hl, hc, hr⟩ := ha
  go_enter Try.func121, Try.ntmps121
  go_wp2
  go_loopw [3, 4] (fun s i wr => ∃ k : Nat, k ≤ (dg a).length ∧ s = .int .u64 ((nv ((dg a).drop k) : Nat) : Int) ∧ i = .int .i64 ((k : Int) - 1) ∧ Below w.heap.size w wr)
    (fun _ i _ => (intOf i + 1).toNat)
  case atStart => exact ⟨(dg a).length, Nat.le_refl _, by rw [nv_drop_all _ (Nat.le_refl _)]; rfl, by go_num, Below.refl _ _⟩
  case round =>
    obtain ⟨k, hk, rfl, rfl, hb⟩ := hrel
    by_cases h0 : 0 < k
    · obtain ⟨j, rfl⟩ : ∃ j, k = j + 1 := ⟨k - 1, by omega⟩
      obtain ⟨ad, rfl, hcell⟩ := hr (by omega)
      have e1 := cell_below hb (hcell j (by omega))
      have r := wat_range (Wd_dg a) j
      have ra := r.1
      have rb := r.2
      have hx : nv ((dg a).drop (j + 1)) < 4294967296 := by
        have h := nv_lt (Wd_drop (Wd_dg a) (j + 1))
        have h3 : ((dg a).drop (j + 1)).length ≤ 1 := by rw [List.length_drop]; omega
        have h4 := Nat.pow_le_pow_right (show 0 < 4294967296 by omega) h3
        rw [Nat.pow_one] at h4
        omega
      have hst := nv_drop_wat (l := dg a) (k := j) (by omega)
      obtain ⟨x, hxx⟩ : ∃ x, x = nv ((dg a).drop (j + 1)) := ⟨_, rfl⟩
      rw [← hxx] at hx hst ⊢
      have ho := or_shl64 (x : Int) (wat (dg a) j) (by omega) (by omega) ra rb
      have HS := Lib.hid hst
      clear hst hxx hcell hr r
      go_wp2
      exact ⟨⟨j, by omega, by rw [HS.out]; go_num, by go_num, hb⟩, by simp [intOf]⟩
    · obtain rfl : k = 0 := by omega
      have e : nv ((dg a).drop 0) = a := by rw [List.drop_zero, nv_dg]
      rw [e]
      clear hr
      go_wp2
      go_ret
      exact ⟨rfl, hb⟩

def HalfPost (a d : Nat) (w : World) (e : Ending) (w' : World) : Prop := ∃ v, e = .returned (.tuple #[v, .int .u32 ((a % d : Nat) : Int)]) ∧ Nm w' v (a / d) ∧ Below w.heap.size w w'
theorem rhalves_calls (w : World) (va : Value) (a : Nat) (d : Int) (dn : Nat) (hdn : d = (dn : Int)) (ha : Nm w va a) (h0 : 0 < dn) (h1 : dn < 4294967296) (sa : (dg a).length ≤ 1073741824) :
    Calls Try.prog 122 #[va, .int .u32 d] w (HalfPost a dn w) := by
  subst hdn
  obtain ⟨A, c, rfl, hl, hc, hr⟩ := ha
  have hmk := fun w => mk_u32 ((dg a).length : Int) (by omega) (by omega) w
  go_enter Try.func122, Try.ntmps122
  go_wp2
  go_loopw [7, 8] (fun s i wr => ∃ (k : Nat) (x : Int) (L : List Int), k ≤ (dg a).length ∧ s = .int .u64 x ∧ i = .int .i64 ((k : Int) - 1) ∧ ShortRel (dg a) L dn k x ∧ Ow wr w.heap.size L ∧ Below w.heap.size w wr)
    (fun _ i _ => (intOf i + 1).toNat)
  case atStart => exact ⟨(dg a).length, 0, _, Nat.le_refl _, rfl, rfl, ShortRel.start _ _ h0, Ow.zeros _ _, (Below.refl _ _).alloc (Nat.le_refl _) _⟩
  case round =>
    obtain ⟨k, x, L, hk, rfl, rfl, ho, hg, hbl⟩ := hrel
    have HO := Lib.hid ho
    have b1 := ho.lo
    have b2 := ho.hi
    have b3 := ho.len
    clear ho hmk
    by_cases hx : 0 < k
    · obtain ⟨j, rfl⟩ : ∃ j, k = j + 1 := ⟨k - 1, by omega⟩
      obtain ⟨ad, rfl, hcell⟩ := hr (by omega)
      have e1 := cell_below hbl (hcell j (by omega))
      have r1 := wat_range (Wd_dg a) j
      have r1a := r1.1
      have r1b := r1.2
      have f1 := hg.free j
      have e3 := hg.cell (j := j) (by omega)
      have ho := or_shl64 x (wat (dg a) j) b1 (by omega) r1a r1b
      rw [show ((j + 1 : Nat) : Int) - 1 = (j : Int) by omega]
      clear hcell hr r1
      go_wp2
      have hst := HO.out.step (Wd_dg _) hk (by omega) _ rfl
      refine ⟨⟨j, _, _, by omega, rfl, rfl, hst, ?_, hbl.setCell (Nat.le_refl _) _⟩, by simp [intOf]; try omega⟩
      have hlt := Wd_getD hst.wd j
      rw [show (L.set j ((x * 4294967296 + wat (dg a) j) / dn)).getD j 0 = (x * 4294967296 + wat (dg a) j) / dn by simp [List.getD_eq_getElem?_getD, show j < L.length by omega]] at hlt
      rw [show ∀ z : Int, 0 ≤ z ∧ z < 4294967296 → z % 4294967296 = z from fun z hz => by omega] <;> first | exact hlt | exact hg.set _ _
    · obtain rfl : k = 0 := by omega
      have hs := HO.out.sum
      simp only [List.drop_zero, nv_dg] at hs
      have hq : nv L = a / dn := by
        rw [hs, Nat.add_comm, Nat.add_mul_div_right _ _ h0, Nat.div_eq_of_lt (by omega)]; omega
      have hm : x = ((a % dn : Nat) : Int) := by
        rw [hs, Nat.add_comm, Nat.add_mul_mod_self_right, Nat.mod_eq_of_lt (by omega)]; omega
      have HQ := Lib.hid hq
      have HM := Lib.hid hm
      clear hs hq hm
      have hrd := hg.rd (dg a).length (dg a).length (by omega) (by omega) (by omega)
      rw [show L.take (dg a).length = L by rw [← b3, List.take_length]] at hrd
      clear hr
      go_wp2_with fail
      refine (rtrim _ _ _ hrd HO.out.wd).mono ?_
      rintro e w' ⟨v, rfl, hv, hb'⟩
      rw [HQ.out] at hv
      go_wp2
      go_ret2
      exact ⟨_, by rw [← HM.out]; rfl, hv, bl_trans hbl hb'⟩

theorem shl_range {x : Int} {n : Nat} (h0 : 0 ≤ x) (h1 : x < 4294967296) (hn : n ≤ 32) : 0 ≤ x * 2 ^ n ∧ x * 2 ^ n < 18446744073709551616 := by
  rw [pow_cast]
  obtain ⟨m, rfl⟩ := Int.eq_ofNat_of_zero_le h0
  have h2 : (2 ^ n : Nat) ≤ 4294967296 := Nat.pow_le_pow_right (by omega) hn
  have h3 : m * 2 ^ n ≤ 4294967295 * 4294967296 := Nat.mul_le_mul (by omega) h2
  rw [← Int.natCast_mul]
  omega
theorem zero_wat (n : Nat) : ∀ j, 0 < j → wat (List.replicate n 0) j = 0 := fun j _ => by
  by_cases hj : j < n <;> simp [wat, List.getD_eq_getElem?_getD, hj]
theorem zero_set {L : List Int} {k : Nat} {x y : Int} (h : ∀ j, k < j → wat L j = 0) : ∀ j, k + 1 < j → wat ((L.set k x).set (k + 1) y) j = 0 := fun j hj => by
  rw [set_get_ne (by omega), set_get_ne (by omega)]; exact h j (by omega)
theorem or_zero32 (y : Int) (h0 : 0 ≤ y) (h1 : y < 4294967296) : bits .or .u32 0 y = y := by
  have h := or_join32 0 0 y (by omega) (by omega) h0 h1 (by omega) (by omega)
  rw [h]; omega
theorem rshift_calls (w : World) (va : Value) (X : List Int) (n : Nat) (ha : RdI .u32 w va X) (hX : Wd X) (hn : n < 32) (sa : X.length ≤ 1073741824) :
    Calls Try.prog 123 #[va, .int .u64 n] w (ShiftPost X n w) := by
  obtain ⟨A, c, rfl, hl, hc, hr⟩ := ha
  have hmk := fun w => mk_u32 ((X.length : Int) + 1) (by omega) (by omega) w
  go_enter Try.func123, Try.ntmps123
  go_wp2
  go_loopw [6] (fun i wr => ∃ (k : Nat) (L : List Int), k ≤ X.length ∧ i = .int .i64 (k : Int) ∧ ShRel X L n k ∧ (∀ j, k < j → wat L j = 0) ∧ Ow wr w.heap.size L ∧ Below w.heap.size w wr)
    (fun i _ => X.length - (intOf i).toNat)
  case atStart => exact ⟨0, _, by omega, rfl, ShRel.start _ _, zero_wat _, Ow.zeros _ _, (Below.refl _ _).alloc (Nat.le_refl _) _⟩
  case round =>
    obtain ⟨k, L, hk, rfl, ho, hz, hg, hbl⟩ := hrel
    have HO := Lib.hid ho
    have h3 := ho.len
    clear ho
    by_cases hx : k < X.length
    · obtain ⟨ad, rfl, hcell⟩ := hr (by omega)
      have e1 := cell_below hbl (hcell k (by omega))
      have r1 := wat_range hX k
      have r1a := r1.1
      have r1b := r1.2
      have f1 := hg.free k
      have f2 := hg.free (k + 1)
      have e3 := hg.cell (j := k) (by omega)
      have e4 := hg.cell (j := k + 1) (by omega)
      have hst := HO.out.step hX hx hn
      have hwr := wrap_shl (n := n) r1a r1b (by omega)
      have HS := Lib.hid hst
      have HZ := Lib.hid hz
      have z1 := hz (k + 1) (by omega)
      have oz := or_zero32 (wat X k * 2 ^ n / 4294967296) hst.2.2.1 hst.2.1
      rw [z1] at e4
      have HW := Lib.hid hwr
      have AM := Lib.hid (and_mask (wat X k * 2 ^ n) (shl_range r1a r1b (by omega)).1 (shl_range r1a r1b (by omega)).2)
      have OZ := Lib.hid oz
      clear hcell hr r1 hmk hst hwr hz z1 oz
      go_wp2
      rw [HW.out, AM.out, show ∀ z : Int, z % 4294967296 % 4294967296 = z % 4294967296 from fun z => by omega, HS.out.1, show wat X k * 2 ^ n / 4294967296 % 4294967296 = wat X k * 2 ^ n / 4294967296 from Int.emod_eq_of_lt HS.out.2.2.1 HS.out.2.1, OZ.out]
      exact ⟨⟨k + 1, _, by omega, by go_num, HS.out.2.2.2, zero_set HZ.out, (hg.set _ _).set _ _, (hbl.setCell (Nat.le_refl _) _).setCell (Nat.le_refl _) _⟩, by simp [intOf]; try omega⟩
    · obtain rfl : k = X.length := by omega
      have hs := HO.out.sum
      rw [nv_take_all _ (by omega), nv_take_all _ (Nat.le_refl _)] at hs
      have HS := Lib.hid hs
      clear hs hmk
      go_wp2
      go_ret
      exact ⟨w.heap.size, L, rfl, Nat.le_refl _, hg, HO.out.wd, h3, HS.out, hbl⟩

/-- Two words, divided by a power of two: the word that is told. -/
theorem back_word {T x y p r : Nat} (hp : p * r = 4294967296) (h0 : 0 < p) : (x + 4294967296 * (y + 4294967296 * T)) / p % 4294967296 = (x + 4294967296 * y) / p % 4294967296 := by
  have e : x + 4294967296 * (y + 4294967296 * T) = (x + 4294967296 * y) + p * (r * 4294967296 * T) := by
    rw [← Nat.mul_assoc, ← Nat.mul_assoc, hp, Nat.mul_add, ← Nat.add_assoc, ← Nat.mul_assoc]
  rw [e, Nat.add_mul_div_left _ _ h0, show r * 4294967296 * T = 4294967296 * (r * T) by rw [Nat.mul_comm r, Nat.mul_assoc], Nat.add_mul_mod_self_left]
theorem mod_pow_succ (N k : Nat) : N % 4294967296 ^ (k + 1) = N % 4294967296 ^ k + 4294967296 ^ k * (N / 4294967296 ^ k % 4294967296) := by
  rw [Nat.pow_succ, Nat.mod_mul]
structure BackRel (X L : List Int) (n k : Nat) : Prop where
  len : L.length = X.length
  wd : Wd L
  sum : nv (L.take k) = nv X / 2 ^ n % 4294967296 ^ k
theorem BackRel.start (X : List Int) (n : Nat) : BackRel X (List.replicate X.length 0) n 0 := ⟨by simp, Wd_replicate _, by simp [nv, Nat.mod_one]⟩
theorem BackRel.step {X L : List Int} {n k : Nat} (h : BackRel X L n k) (hX : Wd X) (hk : k < X.length) (hn : n < 32) (v : Int) (hv : v = (((wat X k).toNat + 4294967296 * (wat X (k + 1)).toNat) / 2 ^ n % 4294967296 : Nat)) :
    BackRel X (L.set k v) n (k + 1) := by
  obtain ⟨h1, h2, h3⟩ := h
  refine ⟨by simpa using h1, Wd_set h2 _ _ (by omega), ?_⟩
  rw [nv_set_take (by omega), h3, mod_pow_succ, Nat.div_div_eq_div_mul, Nat.mul_comm (2 ^ n), ← Nat.div_div_eq_div_mul]
  have e1 : nv X / 4294967296 ^ k = nv (X.drop k) := by
    rw [nv_split X k (by omega), Nat.add_mul_div_left _ _ (Nat.pow_pos (by omega)), Nat.div_eq_of_lt, Nat.zero_add]
    have := nv_lt (Wd_take hX k)
    rwa [List.length_take, Nat.min_eq_left (by omega)] at this
  have e2 : nv (X.drop k) = (wat X k).toNat + 4294967296 * ((wat X (k + 1)).toNat + 4294967296 * nv (X.drop (k + 2))) := by
    rw [nv_drop_wat hk]
    by_cases h : k + 1 < X.length
    · rw [nv_drop_wat h]
    · have z : wat X (k + 1) = 0 := wat_over (by omega)
      rw [nv_drop_all X (k := k + 1) (by omega), nv_drop_all X (k := k + 2) (by omega), z]; rfl
  rw [e1, e2, back_word (pow_split n hn) (Nat.two_pow_pos n), hv, Int.toNat_natCast]
theorem BackRel.done {X L : List Int} {n : Nat} (h : BackRel X L n X.length) (hX : Wd X) : nv L = nv X / 2 ^ n := by
  obtain ⟨h1, h2, h3⟩ := h
  rw [nv_take_all _ (by omega)] at h3
  rw [h3, Nat.mod_eq_of_lt]
  exact Nat.lt_of_le_of_lt (Nat.div_le_self _ _) (nv_lt hX)

theorem back_val {x y : Int} (n : Nat) (hx0 : 0 ≤ x) (hx1 : x < 4294967296) (hy0 : 0 ≤ y) (hy1 : y < 4294967296) :
    bits .and .u64 ((y * 4294967296 + x) / 2 ^ n) 4294967295 % 4294967296 = ((x.toNat + 4294967296 * y.toNat) / 2 ^ n % 4294967296 : Nat) := by
  obtain ⟨a, rfl⟩ := Int.eq_ofNat_of_zero_le hx0
  obtain ⟨b, rfl⟩ := Int.eq_ofNat_of_zero_le hy0
  have e : ((b : Int) * 4294967296 + (a : Int)) / 2 ^ n = (((a + 4294967296 * b) / 2 ^ n : Nat) : Int) := by
    rw [pow_cast, Int.natCast_ediv]; congr 1; omega
  have hle := Nat.div_le_self (a + 4294967296 * b) (2 ^ n)
  rw [e, Int.toNat_natCast, Int.toNat_natCast]
  obtain ⟨q, hq⟩ : ∃ q, q = (a + 4294967296 * b) / 2 ^ n := ⟨_, rfl⟩
  rw [← hq] at hle ⊢
  clear hq e
  rw [and_mask _ (by omega) (by omega)]
  omega
theorem rback_calls (w : World) (va : Value) (X : List Int) (n : Nat) (ha : RdI .u32 w va X) (hX : Wd X) (hn : n < 32) (sa : X.length ≤ 1073741824) :
    Calls Try.prog 124 #[va, .int .u64 n] w (NmPost (nv X / 2 ^ n) w) := by
  obtain ⟨A, c, rfl, hl, hc, hr⟩ := ha
  have hmk := fun w => mk_u32 (X.length : Int) (by omega) (by omega) w
  go_enter Try.func124, Try.ntmps124
  go_wp2
  go_loopw [6] (fun i wr => ∃ (k : Nat) (L : List Int), k ≤ X.length ∧ i = .int .i64 (k : Int) ∧ BackRel X L n k ∧ Ow wr w.heap.size L ∧ Below w.heap.size w wr)
    (fun i _ => X.length - (intOf i).toNat)
  case atStart => exact ⟨0, _, by omega, rfl, BackRel.start _ _, Ow.zeros _ _, (Below.refl _ _).alloc (Nat.le_refl _) _⟩
  case round =>
    obtain ⟨k, L, hk, rfl, ho, hg, hbl⟩ := hrel
    have HO := Lib.hid ho
    have h3 := ho.len
    clear ho hmk
    by_cases hx : k < X.length
    · obtain ⟨ad, rfl, hcell⟩ := hr (by omega)
      have e1 := cell_below hbl (hcell k (by omega))
      have r1 := wat_range hX k
      have r1a := r1.1
      have r1b := r1.2
      have f1 := hg.free k
      have e3 := hg.cell (j := k) (by omega)
      by_cases hy : k + 1 < X.length
      · have e2 := cell_below hbl (hcell (k + 1) (by omega))
        rw [add_pos ad (by omega)] at e2
        have r2 := wat_range hX (k + 1)
        have r2a := r2.1
        have r2b := r2.2
        have ho := or_shl64 (wat X (k + 1)) (wat X k) r2a r2b r1a r1b
        rw [bits_or_comm] at ho
        clear hcell hr r1 r2
        go_wp2
        exact ⟨⟨k + 1, _, by omega, by go_num, HO.out.step hX hx hn _ (back_val n r1a r1b r2a r2b), hg.set _ _, hbl.setCell (Nat.le_refl _) _⟩, by simp [intOf]; try omega⟩
      · have hy0 := Lib.hid (wat_over (l := X) (k := k + 1) (by omega))
        have hb0 := back_val (x := wat X k) (y := 0) n r1a r1b (by omega) (by omega)
        rw [Int.zero_mul, Int.zero_add] at hb0
        have HB := Lib.hid hb0
        clear hcell hr r1 hb0
        go_wp2
        exact ⟨⟨k + 1, _, by omega, by go_num, HO.out.step hX hx hn _ (by rw [hy0.out]; exact HB.out), hg.set _ _, hbl.setCell (Nat.le_refl _) _⟩, by simp [intOf]; try omega⟩
    · obtain rfl : k = X.length := by omega
      have HQ := Lib.hid (HO.out.done hX)
      have hrd := hg.rd X.length X.length (by omega) (by omega) (by omega)
      rw [show L.take X.length = L by rw [← h3, List.take_length]] at hrd
      clear hr
      go_wp2_with fail
      refine (rtrim _ _ _ hrd HO.out.wd).mono ?_
      rintro e w' ⟨v, rfl, hv, hb'⟩
      rw [HQ.out] at hv
      go_wp2
      go_ret
      exact ⟨_, rfl, hv, bl_trans hbl hb'⟩

theorem top_bit {x : Int} {n : Nat} (h0 : 0 ≤ x) (hsm : x.toNat * 2 ^ n < 4294967296) : (bits .and .u32 (x * 2 ^ n % 4294967296) 2147483648 == 0) = decide (x.toNat * 2 ^ n < 2147483648) := by
  obtain ⟨m, rfl⟩ := Int.eq_ofNat_of_zero_le h0
  rw [Int.toNat_natCast] at hsm ⊢
  have e : (m : Int) * 2 ^ n % 4294967296 = ((m * 2 ^ n : Nat) : Int) := by
    rw [pow_cast, ← Int.natCast_mul]
    omega
  rw [e]
  obtain ⟨y, hy⟩ : ∃ y, y = m * 2 ^ n := ⟨_, rfl⟩
  rw [← hy] at hsm ⊢
  have e2 := u32_and_nat y 2147483648 hsm (by omega)
  rw [show ((2147483648 : Nat) : Int) = 2147483648 from rfl] at e2
  rw [e2]
  have e3 := nat_bit 31 y
  rw [show 2 ^ 31 = 2147483648 from rfl] at e3
  rw [e3]
  by_cases h : y < 2147483648
  · rw [Nat.div_eq_of_lt h]; simp [h]
  · have : y / 2147483648 = 1 := by omega
    rw [this]; simp [h]
theorem top_word {V : List Int} {n : Nat} (hw : Wd V) (hn : 2 ≤ n) (hl : n ≤ V.length) (lo : 2147483648 * 4294967296 ^ (n - 1) ≤ nv (V.take n)) : 2147483648 ≤ wat V (n - 1) := by
  obtain ⟨m, rfl⟩ : ∃ m, n = m + 1 := ⟨n - 1, by omega⟩
  rw [Nat.add_sub_cancel] at lo ⊢
  rw [nv_take_wat (by omega)] at lo
  have t := nv_lt (Wd_take hw m)
  rw [List.length_take, Nat.min_eq_left (by omega)] at t
  have r := wat_range hw m
  apply Int.not_lt.1
  intro hlt
  have h7 : (wat V m).toNat + 1 ≤ 2147483648 := by omega
  have h8 := Nat.mul_le_mul_left (4294967296 ^ m) h7
  rw [Nat.mul_add, Nat.mul_one] at h8
  rw [Nat.mul_comm] at lo
  omega
theorem and_small {x : Int} (h0 : 0 ≤ x) (h1 : x < 4294967296) : bits .and .u64 x 4294967295 = x := by
  rw [and_mask x h0 (by omega), Int.emod_eq_of_lt h0 h1]
/-- Behind the taking away. -/
structure SubF (v u0 u : List Int) (n : Nat) (g x : Int) : Prop where
  len : u.length = n + 1
  wd : Wd u
  out : (x = 0 ∧ g.toNat = nv u0 / nv (v.take n) ∧ nv u = nv u0 % nv (v.take n)) ∨ (x = 1 ∧ g.toNat = nv u0 / nv (v.take n) + 1 ∧ nv u + g.toNat * nv (v.take n) = nv u0 + 4294967296 ^ (n + 1))
theorem SubM.right' {v u0 u : List Int} {n : Nat} {q c b : Int} (h : SubM v u0 u n n q c b) (hl0 : u0.length = n + 1) (hv0 : 0 < nv (v.take n)) (hg : Guessed (nv u0) (nv (v.take n)) q) (hle : c + b ≤ wat u n) :
    SubF v u0 (u.set n (wat u n - (c + b))) n q 0 := by
  obtain ⟨h1, h2, h3, h4⟩ := h.right hl0 hv0 hg.ge hle
  exact ⟨h2, h3, .inl ⟨rfl, h1, h4⟩⟩
theorem SubM.wrong' {v u0 u : List Int} {n : Nat} {q c b : Int} (h : SubM v u0 u n n q c b) (hl0 : u0.length = n + 1) (hw0 : Wd u0) (hv0 : 0 < nv (v.take n)) (hg : Guessed (nv u0) (nv (v.take n)) q) (hlt : wat u n < c + b) :
    SubF v u0 (u.set n (wat u n + 4294967296 - (c + b))) n q 1 := by
  obtain ⟨h1, h2, h3, h4⟩ := h.wrong hl0 hw0 hv0 hg.le hlt
  exact ⟨h2, h3, .inr ⟨rfl, h1, h4⟩⟩
/-- Behind one word of the quotient. -/
structure DigF (u0 u : List Int) (D n : Nat) (g : Int) : Prop where
  len : u.length = n + 1
  wd : Wd u
  val : nv u = nv u0 % D
  g0 : 0 ≤ g
  q : g = ((nv u0 / D : Nat) : Int)
theorem SubF.fine {v u0 u : List Int} {n : Nat} {g : Int} (h : SubF v u0 u n g 0) (h0 : 0 ≤ g) : DigF u0 u (nv (v.take n)) n g := by
  obtain ⟨h1, h2, h3⟩ := h
  rcases h3 with ⟨_, h3, h4⟩ | ⟨h3, _⟩
  · exact ⟨h1, h2, h4, h0, by rw [← h3]; omega⟩
  · omega
theorem SubF.pos {v u0 u : List Int} {n : Nat} {g : Int} (h : SubF v u0 u n g 1) : 1 ≤ g := by
  obtain ⟨h1, h2, h3⟩ := h
  rcases h3 with ⟨h3, _⟩ | ⟨_, h3, _⟩
  · omega
  · generalize nv u0 / nv (v.take n) = q at h3
    omega
theorem SubF.more {v u0 u u' : List Int} {n : Nat} {g z : Int} (h : SubF v u0 u n g 1) (hv : Wd v) (hvl : n ≤ v.length) (hv0 : 0 < nv (v.take n)) (h2 : AddM v u u' n n z) :
    DigF u0 (u'.set n ((wat u' n + z) % 4294967296)) (nv (v.take n)) n (g - 1) := by
  have hp := h.pos
  obtain ⟨h1, _, h3⟩ := h
  rcases h3 with ⟨h3, _⟩ | ⟨_, h3, h4⟩
  · omega
  · have hlt := nv_lt (Wd_take hv n)
    rw [List.length_take, Nat.min_eq_left hvl] at hlt
    rw [h3] at h4
    obtain ⟨a, b, c⟩ := h2.done h1 hv0 hlt h4
    refine ⟨a, b, c, by omega, ?_⟩
    generalize nv u0 / nv (v.take n) = q at h3 ⊢
    omega
/-- What parts holds while it divides. -/
def PHold (t : Nat) (w : World) (gu gv gq j : Nat) (P u S V Q : List Int) (wr : World) : Prop :=
  Win wr gu j P u S ∧ Ow wr gv V ∧ Ow wr gq Q ∧ Blk wr w.heap.size t #[.slice none 0 0, .slice none 0 0] ∧ Below w.heap.size w wr
theorem PHold.drewN {t : Nat} {w : World} {gu gv gq j : Nat} {P u S V Q : List Int} {wr : World} (h : PHold t w gu gv gq j P u S V Q wr) (n : Nat) : PHold t w gu gv gq j P u S V Q (wr.drewN n) := by
  obtain ⟨h1, h2, h3, h4, h5⟩ := h
  exact ⟨h1.drewN n, h2.drewN n, h3.drewN n, h4.below (bl_drewN _ _), bl_trans h5 (bl_drewN _ _)⟩
theorem PHold.set {t : Nat} {w : World} {gu gv gq j : Nat} {P u S V Q : List Int} {wr : World} (h : PHold t w gu gv gq j P u S V Q wr) (h1 : gv ≠ gu) (h2 : gq ≠ gu) (h3 : w.heap.size < gu) {i : Nat} (hi : i < u.length) (x : Int) :
    PHold t w gu gv gq j P (u.set i x) S V Q (wr.setCell ⟨gu, j + i, none⟩ (.int .u32 x)) := by
  obtain ⟨a1, a2, a3, a4, a5⟩ := h
  exact ⟨a1.set hi x, a2.other _ h1 _, a3.other _ h2 _, (heap_setCell_other wr ⟨gu, j + i, none⟩ w.heap.size _ (Nat.ne_of_lt h3)).trans a4, a5.setCell (Nat.le_of_lt h3) _⟩
/-- The row that is divided, at a place. -/
theorem hWin_of {w : World} {gu : Nat} {R : List Int} {j n : Nat} (h : Ow w gu R) (hl : j + n + 1 ≤ R.length) : Win w gu j (R.take j) ((R.drop j).take (n + 1)) (R.drop (j + n + 1)) := by
  have hRe : R.take j ++ ((R.drop j).take (n + 1) ++ R.drop (j + n + 1)) = R := by
    rw [show j + n + 1 = j + (n + 1) by omega, ← List.drop_drop, List.take_append_drop, List.take_append_drop]
  exact ⟨by rw [hRe]; exact h, by rw [List.length_take]; omega⟩

theorem PHold.put {t : Nat} {w : World} {gu gv gq j : Nat} {P u S V Q : List Int} {wr : World} (h : PHold t w gu gv gq j P u S V Q wr) (h1 : gv ≠ gq) (h2 : gu ≠ gq) (h3 : w.heap.size < gq) (i : Nat) (x : Int) :
    Ow (wr.setCell ⟨gq, i, none⟩ (.int .u32 x)) gu (P ++ (u ++ S)) ∧ Ow (wr.setCell ⟨gq, i, none⟩ (.int .u32 x)) gv V ∧ Ow (wr.setCell ⟨gq, i, none⟩ (.int .u32 x)) gq (Q.set i x) ∧
    Blk (wr.setCell ⟨gq, i, none⟩ (.int .u32 x)) w.heap.size t #[.slice none 0 0, .slice none 0 0] ∧ Below w.heap.size w (wr.setCell ⟨gq, i, none⟩ (.int .u32 x)) := by
  obtain ⟨a1, a2, a3, a4, a5⟩ := h
  exact ⟨a1.1.other _ h2 _, a2.other _ h1 _, a3.set _ _, (heap_setCell_other wr ⟨gq, i, none⟩ w.heap.size _ (Nat.ne_of_lt h3)).trans a4, a5.setCell (Nat.le_of_lt h3) _⟩

/-- What parts leaves. -/
def PartsPost (a b : Nat) (w : World) (e : Ending) (w' : World) : Prop := ∃ q r, e = .returned (.agg #[q, r]) ∧ Nm w' q (a / b) ∧ Nm w' r (a % b) ∧ Below w.heap.size w w'
theorem blk2 {w : World} {g t : Nat} {a b : Value} (h : Blk w g t #[a, b]) (y0 y1 : Value) : Blk ((w.setCell ⟨g, 0, none⟩ y0).setCell ⟨g, 1, none⟩ y1) g t #[y0, y1] := by
  exact (h.set 0 y0).set 1 y1
theorem two_keep {w : World} {v : Value} {n g t : Nat} (h : Nm w v n) {x0 x1 : Value} (hb : Blk w g t #[x0, x1]) (n0 : ∀ n, x0 ≠ .int .u32 n) (n1 : ∀ n, x1 ≠ .int .u32 n) (y0 y1 : Value) : Nm ((w.setCell ⟨g, 0, none⟩ y0).setCell ⟨g, 1, none⟩ y1) v n :=
  Nm.set (x0 := x1) (Nm.set h (hb.cell 0) n0 y0) (by rw [World.cell?_setCell_other _ _ _ _ (by simp)]; exact hb.cell 1) n1 y1
set_option maxRecDepth 100000 in
set_option maxHeartbeats 4000000 in
theorem rparts_less (w : World) (va vb : Value) (a b : Nat) (ha : Nm w va a) (hb : Nm w vb b) (hlt : a < b) :
    Calls Try.prog 112 #[va, vb] w (PartsPost a b w) := by
  have hb0 := below_alloc0 w (.cells #[.slice none 0 0, .slice none 0 0] 130)
  have K := Blk.new w 130 #[.slice none 0 0, .slice none 0 0]
  obtain ⟨A, c, rfl⟩ := ha.shape
  obtain ⟨A2, c2, rfl⟩ := hb.shape
  go_enter Try.func112, Try.ntmps112
  go_wp2_with fail
  refine (rorder_calls _ _ _ _ _ (ha.below hb0) (hb.below hb0)).mono ?_
  rintro e w1 ⟨rfl, hb1⟩
  rw [ncmp_lt hlt]
  have HL := Lib.hid hlt
  have hlt2 := hlt
  clear hlt
  have K1 := K.below hb1
  have hbw := bl_trans hb0 hb1
  have ha1 := ha.below hbw
  have m0 := K1.cell 0
  have m1 := K1.cell 1
  have f1 := K1.free
  clear hlt2
  go_wp2
  exact bodyPost_ret (results_cell_row rfl _ _ w.heap.size 130 _ (0, 0) _ rfl (blk2 K1 _ _) Try.underlying130 rfl (by kernel_rfl)) rfl ⟨_, _, rfl, by rw [Nat.div_eq_of_lt HL.out]; exact Nm.nil _, by rw [Nat.mod_eq_of_lt HL.out]; exact two_keep ha1 K1 (slne _ _ _) (slne _ _ _) _ _, (hbw.setCell (Nat.le_refl _) _).setCell (Nat.le_refl _) _⟩
set_option maxRecDepth 100000 in
set_option maxHeartbeats 4000000 in
theorem rparts_one (w : World) (va vb : Value) (a b : Nat) (ha : Nm w va a) (hb : Nm w vb b) (hle : b ≤ a) (hb0 : 0 < b) (sb : (dg b).length = 1) (sm : (dg a).length ≤ 1073741824) :
    Calls Try.prog 112 #[va, vb] w (PartsPost a b w) := by
  have hb32 : b < 4294967296 := by have := dg_len.1 (Nat.le_of_eq sb); simpa using this
  have hdb : dg b = [(b : Int)] := dg_small (by omega) hb32
  have hn := ncmp_nonneg hle
  have hbl0 := below_alloc0 w (.cells #[.slice none 0 0, .slice none 0 0] 130)
  have K := Blk.new w 130 #[.slice none 0 0, .slice none 0 0]
  obtain ⟨A, c, rfl⟩ := ha.shape
  have hb' := hb
  obtain ⟨A2, c2, rfl, hl, hc, hr⟩ := hb'
  rw [hdb] at hl hr ⊢
  obtain ⟨ad, rfl, hcell⟩ := hr (by simp)
  have c0 := hcell 0 (by simp)
  rw [add0, show wat [(b : Int)] 0 = (b : Int) from rfl] at c0
  have HM := Lib.hid (Nat.mod_lt a hb0)
  rw [hdb] at hb
  clear hr hcell hl sb hle hdb
  go_enter Try.func112, Try.ntmps112
  go_wp2_with fail
  refine (rorder_calls _ _ _ _ _ (ha.below hbl0) (hb.below hbl0)).mono ?_
  rintro e w1 ⟨rfl, hb1⟩
  have K1 := K.below hb1
  have hbw := bl_trans hbl0 hb1
  have c1 := cell_below hbw c0
  go_wp2_with fail
  refine (rhalves_calls _ _ a (b : Int) b rfl (ha.below hbw) hb0 hb32 sm).mono ?_
  rintro e w2 ⟨q, rfl, hq, hb2⟩
  have hbw2 := bl_trans hbw hb2
  have K2 := K1.below hb2
  obtain ⟨A3, c3, rfl⟩ := hq.shape
  obtain ⟨m, hm⟩ : ∃ m : Nat, m = a % b := ⟨_, rfl⟩
  rw [← hm] at HM ⊢
  have HMM := Lib.hid hm
  have hm32 : m < 4294967296 := Nat.lt_trans HM.out hb32
  clear hm
  go_wp2_with fail
  have ho := Ow.made w2 [(m : Int)]
  have hrd := ho.rd 1 1 (by simp) (by omega) (by omega)
  have hal := below_alloc0 w2 (.cells #[.int .u32 m] 101)
  refine (rtrim _ _ [(m : Int)] hrd (by rw [Wd_cons]; exact ⟨by omega, Wd_nil⟩)).mono ?_
  rintro e w3 ⟨v3, rfl, hv3, hb3⟩
  have hb13 := bl_trans hal hb3
  have K3 := K2.below hb13
  have m0 := K3.cell 0
  have m1 := K3.cell 1
  have f1 := K3.free
  have hq3 := hq.below hb13
  have hbw3 := bl_trans hbw2 hb13
  obtain ⟨A4, c4, rfl⟩ := hv3.shape
  rw [show nv [(m : Int)] = m by simp [nv]] at hv3
  clear ho hrd hal hb1 hb2 hb3 hb13 K K1 K2 hbw hbw2 c0 c1 hbl0 hq
  go_wp2
  exact bodyPost_ret (results_cell_row rfl _ _ w.heap.size 130 _ (0, 0) _ rfl (blk2 K3 _ _) Try.underlying130 rfl (by kernel_rfl)) rfl ⟨_, _, rfl, two_keep hq3 K3 (slne _ _ _) (slne _ _ _) _ _, by rw [← HMM.out]; exact two_keep hv3 K3 (slne _ _ _) (slne _ _ _) _ _, (hbw3.setCell (Nat.le_refl _) _).setCell (Nat.le_refl _) _⟩

end Go.Proofs.Ytajckdheecgceaa
