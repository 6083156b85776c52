/- The reference: plus. -/
import Derived.Test.YtdmgceckmciifaaRef1
set_option linter.unusedVariables false
set_option linter.unusedSimpArgs false
namespace Go.Proofs.Ytdmgceckmciifaa
open Go.RowKit

theorem and_mask (x : Int) (h0 : 0 ≤ x) (h1 : x < 18446744073709551616) : bits .and .u64 x 4294967295 = x % 4294967296 := by
  obtain ⟨n, rfl⟩ := Int.eq_ofNat_of_zero_le h0
  have h := u64_and_nat n 4294967295 (by omega) (by omega)
  have e : n &&& 4294967295 = n % 4294967296 := Nat.and_two_pow_sub_one_eq_mod n 32
  rw [e] at h
  exact h.trans (by simp)
/-- A new row of words (make), of the reference. -/
theorem mk_u32 (n : Int) (h0 : 0 ≤ n) (h : n ≤ 70368744177664) (w : World) :
    (Instr.makeSlice 22 (.int .i64 n) (.int .i64 n)).run Try.prog w = .ok (.slice (some ⟨w.heap.size, 0, none⟩) n.toNat n.toNat) (w.alloc (.cells ((List.replicate n.toNat (0 : Int)).map (Value.int .u32)).toArray 38)) :=
  mk_row _ _ 4 Try.underlying22 info_u32 n h0 (by omega) (by omega) w
theorem rplus_calls (w : World) (va vb : Value) (a b : Nat) (ha : Nm w va a) (hb : Nm w vb b) (sa : (dg a).length ≤ 1073741824) (sb : (dg b).length ≤ 1073741824) :
    Calls Try.prog 83 #[va, vb] w (NmPost (a + b) w) := by
  obtain ⟨A, c, rfl, hl, hc, hr⟩ := ha
  obtain ⟨A2, c2, rfl, hl2, hc2, hr2⟩ := hb
  by_cases h1 : (dg a).length < (dg b).length
  · have hmk := fun w => mk_u32 (((dg b).length : Int) + 1) (by omega) (by omega) w
    go_enter Try.func83, Try.ntmps83
    go_wp2
    go_loopw [7, 8] (fun s i wr => ∃ (k : Nat) (x : Int) (L : List Int), k ≤ (dg b).length + 1 ∧ s = .int .u64 x ∧ i = .int .i64 k ∧ PlusW (dg a) (dg b) L (dg b).length k x ∧ Ow wr w.heap.size L ∧ Below w.heap.size w wr)
      (fun _ i _ => (dg b).length + 1 - (intOf i).toNat)
    case atStart => exact ⟨0, 0, _, by omega, rfl, rfl, PlusW.start _ _ _, Ow.zeros _ _, (Below.refl _ _).alloc (Nat.le_refl _) _⟩
    case round =>
      obtain ⟨k, x, L, hk, rfl, rfl, ho, hg, hbl⟩ := hrel
      have HO := Lib.hid ho
      have b1 := ho.lo
      have b2 := ho.hi
      have b3 := ho.len
      clear ho hmk
      by_cases hx : k ≤ (dg b).length
      · have f1 := hg.free k
        have e3 := hg.cell (j := k) (by omega)
        have r1 := wat_range (Wd_dg a) k
        have r1a := r1.1
        have r1b := r1.2
        have r2 := wat_range (Wd_dg b) k
        have r2a := r2.1
        have r2b := r2.2
        clear r1 r2
        by_cases ka : k < (dg a).length
        · by_cases kb : k < (dg b).length
          · obtain ⟨ad, rfl, hcell⟩ := hr (by omega)
            have e1 := cell_below hbl (hcell k (by omega))
            obtain ⟨ad2, rfl, hcell2⟩ := hr2 (by omega)
            have e2 := cell_below hbl (hcell2 k (by omega))
            clear hcell hcell2 hr hr2
            have am := and_mask (x + wat (dg a) k + wat (dg b) k) (by omega) (by omega)
            go_wp2
            first | (exfalso; omega) | exact ⟨⟨k + 1, _, _, by omega, rfl, by go_num, HO.out.step (Wd_dg _) (Wd_dg _) (by omega) (by omega), hg.set _ _, hbl.setCell (Nat.le_refl _) _⟩, by simp [intOf]; try omega⟩
          · obtain ⟨ad, rfl, hcell⟩ := hr (by omega)
            have e1 := cell_below hbl (hcell k (by omega))
            have z2 := Lib.hid (wat_over (l := dg b) (k := k) (by omega))
            clear hcell hr hr2
            have am := and_mask (x + wat (dg a) k) (by omega) (by omega)
            go_wp2
            first | (exfalso; omega) | exact ⟨⟨k + 1, _, _, by omega, rfl, by go_num, HO.out.step (Wd_dg _) (Wd_dg _) (by omega) (by rw [z2.out]; omega), hg.set _ _, hbl.setCell (Nat.le_refl _) _⟩, by simp [intOf]; try omega⟩
        · by_cases kb : k < (dg b).length
          · have z1 := Lib.hid (wat_over (l := dg a) (k := k) (by omega))
            obtain ⟨ad2, rfl, hcell2⟩ := hr2 (by omega)
            have e2 := cell_below hbl (hcell2 k (by omega))
            clear hcell2 hr hr2
            have am := and_mask (x + wat (dg b) k) (by omega) (by omega)
            go_wp2
            first | (exfalso; omega) | exact ⟨⟨k + 1, _, _, by omega, rfl, by go_num, HO.out.step (Wd_dg _) (Wd_dg _) (by omega) (by rw [z1.out]; omega), hg.set _ _, hbl.setCell (Nat.le_refl _) _⟩, by simp [intOf]; try omega⟩
          · have z1 := Lib.hid (wat_over (l := dg a) (k := k) (by omega))
            have z2 := Lib.hid (wat_over (l := dg b) (k := k) (by omega))
            clear hr hr2
            have am := and_mask x (by omega) (by omega)
            go_wp2
            first | (exfalso; omega) | exact ⟨⟨k + 1, _, _, by omega, rfl, by go_num, HO.out.step (Wd_dg _) (Wd_dg _) (by omega) (by rw [z1.out, z2.out]; omega), hg.set _ _, hbl.setCell (Nat.le_refl _) _⟩, by simp [intOf]; try omega⟩
      · obtain rfl : k = (dg b).length + 1 := by omega
        have hd := HO.out.done (by omega) (by omega) (Wd_dg _) (Wd_dg _)
        have hw := HO.out.wd
        rw [nv_dg, nv_dg] at hd
        have HD := Lib.hid hd
        have hrd := hg.rd ((dg b).length + 1) ((dg b).length + 1) (by omega) (by omega) (by omega)
        rw [show L.take ((dg b).length + 1) = L by rw [← b3, List.take_length]] at hrd
        clear hd hr hr2
        go_wp2_with fail
        refine (rtrim _ _ _ hrd hw).mono ?_
        rintro e w' ⟨v, rfl, hv, hb'⟩
        rw [HD.out] at hv
        go_wp2
        go_ret
        exact ⟨_, rfl, hv, bl_trans hbl hb'⟩
  · have hmk := fun w => mk_u32 (((dg a).length : Int) + 1) (by omega) (by omega) w
    go_enter Try.func83, Try.ntmps83
    go_wp2
    go_loopw [7, 8] (fun s i wr => ∃ (k : Nat) (x : Int) (L : List Int), k ≤ (dg a).length + 1 ∧ s = .int .u64 x ∧ i = .int .i64 k ∧ PlusW (dg a) (dg b) L (dg a).length k x ∧ Ow wr w.heap.size L ∧ Below w.heap.size w wr)
      (fun _ i _ => (dg a).length + 1 - (intOf i).toNat)
    case atStart => exact ⟨0, 0, _, by omega, rfl, rfl, PlusW.start _ _ _, Ow.zeros _ _, (Below.refl _ _).alloc (Nat.le_refl _) _⟩
    case round =>
      obtain ⟨k, x, L, hk, rfl, rfl, ho, hg, hbl⟩ := hrel
      have HO := Lib.hid ho
      have b1 := ho.lo
      have b2 := ho.hi
      have b3 := ho.len
      clear ho hmk
      by_cases hx : k ≤ (dg a).length
      · have f1 := hg.free k
        have e3 := hg.cell (j := k) (by omega)
        have r1 := wat_range (Wd_dg a) k
        have r1a := r1.1
        have r1b := r1.2
        have r2 := wat_range (Wd_dg b) k
        have r2a := r2.1
        have r2b := r2.2
        clear r1 r2
        by_cases ka : k < (dg a).length
        · by_cases kb : k < (dg b).length
          · obtain ⟨ad, rfl, hcell⟩ := hr (by omega)
            have e1 := cell_below hbl (hcell k (by omega))
            obtain ⟨ad2, rfl, hcell2⟩ := hr2 (by omega)
            have e2 := cell_below hbl (hcell2 k (by omega))
            clear hcell hcell2 hr hr2
            have am := and_mask (x + wat (dg a) k + wat (dg b) k) (by omega) (by omega)
            go_wp2
            first | (exfalso; omega) | exact ⟨⟨k + 1, _, _, by omega, rfl, by go_num, HO.out.step (Wd_dg _) (Wd_dg _) (by omega) (by omega), hg.set _ _, hbl.setCell (Nat.le_refl _) _⟩, by simp [intOf]; try omega⟩
          · obtain ⟨ad, rfl, hcell⟩ := hr (by omega)
            have e1 := cell_below hbl (hcell k (by omega))
            have z2 := Lib.hid (wat_over (l := dg b) (k := k) (by omega))
            clear hcell hr hr2
            have am := and_mask (x + wat (dg a) k) (by omega) (by omega)
            go_wp2
            first | (exfalso; omega) | exact ⟨⟨k + 1, _, _, by omega, rfl, by go_num, HO.out.step (Wd_dg _) (Wd_dg _) (by omega) (by rw [z2.out]; omega), hg.set _ _, hbl.setCell (Nat.le_refl _) _⟩, by simp [intOf]; try omega⟩
        · by_cases kb : k < (dg b).length
          · have z1 := Lib.hid (wat_over (l := dg a) (k := k) (by omega))
            obtain ⟨ad2, rfl, hcell2⟩ := hr2 (by omega)
            have e2 := cell_below hbl (hcell2 k (by omega))
            clear hcell2 hr hr2
            have am := and_mask (x + wat (dg b) k) (by omega) (by omega)
            go_wp2
            first | (exfalso; omega) | exact ⟨⟨k + 1, _, _, by omega, rfl, by go_num, HO.out.step (Wd_dg _) (Wd_dg _) (by omega) (by rw [z1.out]; omega), hg.set _ _, hbl.setCell (Nat.le_refl _) _⟩, by simp [intOf]; try omega⟩
          · have z1 := Lib.hid (wat_over (l := dg a) (k := k) (by omega))
            have z2 := Lib.hid (wat_over (l := dg b) (k := k) (by omega))
            clear hr hr2
            have am := and_mask x (by omega) (by omega)
            go_wp2
            first | (exfalso; omega) | exact ⟨⟨k + 1, _, _, by omega, rfl, by go_num, HO.out.step (Wd_dg _) (Wd_dg _) (by omega) (by rw [z1.out, z2.out]; omega), hg.set _ _, hbl.setCell (Nat.le_refl _) _⟩, by simp [intOf]; try omega⟩
      · obtain rfl : k = (dg a).length + 1 := by omega
        have hd := HO.out.done (by omega) (by omega) (Wd_dg _) (Wd_dg _)
        have hw := HO.out.wd
        rw [nv_dg, nv_dg] at hd
        have HD := Lib.hid hd
        have hrd := hg.rd ((dg a).length + 1) ((dg a).length + 1) (by omega) (by omega) (by omega)
        rw [show L.take ((dg a).length + 1) = L by rw [← b3, List.take_length]] at hrd
        clear hd hr hr2
        go_wp2_with fail
        refine (rtrim _ _ _ hrd hw).mono ?_
        rintro e w' ⟨v, rfl, hv, hb'⟩
        rw [HD.out] at hv
        go_wp2
        go_ret
        exact ⟨_, rfl, hv, bl_trans hbl hb'⟩
end Go.Proofs.Ytdmgceckmciifaa
