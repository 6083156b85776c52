/- Words: div, the other ways. -/
import Derived.Test.YtdmgceckmciifaaDiv
set_option linter.unusedVariables false
set_option linter.unusedSimpArgs false
namespace Go.Proofs.Ytdmgceckmciifaa
open Go.RowKit

theorem ncmp_nonneg {a b : Nat} (hle : b ≤ a) : 0 ≤ ncmp a b := by
  rcases Nat.eq_or_lt_of_le hle with h | h
  · rw [ncmp_eq h.symm]; omega
  · rw [ncmp_gt h]; omega

set_option maxRecDepth 100000 in
theorem div_one (w : World) (va vb : Value) (a b : Nat) (ha : Nm w va a) (hb : Nm w vb b) (hle : b ≤ a) (hb0 : 0 < b) (sa : 2 < (dg a).length) (sb : (dg b).length = 1) (sm : (dg a).length ≤ 1073741824) :
    Calls Try.prog 77 #[va, vb] w (DivPost a b w) := by
  have hb32 : b < 4294967296 := by have := dg_len.1 (Nat.le_of_eq sb); simpa using this
  have hdb : dg b = [(b : Int)] := dg_small (by omega) hb32
  have hn := ncmp_nonneg hle
  have hb' := hb
  obtain ⟨A, c, rfl, hl, hc, hr⟩ := hb'
  rw [hdb] at hl hr ⊢
  obtain ⟨ad, rfl, hcell⟩ := hr (by simp)
  have c0 := hcell 0 (by simp)
  rw [add0, show wat [(b : Int)] 0 = (b : Int) from rfl] at c0
  have HM := Lib.hid (Nat.mod_lt a hb0)
  rw [hdb] at hb
  clear hr hcell hl sb hle hdb
  go_enter Try.func77, Try.ntmps77
  go_wp2_with fail
  refine (cmp_calls _ _ _ _ _ ha hb).mono ?_
  rintro e w1 ⟨rfl, hb1⟩
  go_wp2_with fail
  refine (small_no _ _ _ (ha.below hb1) sa).mono ?_
  rintro e w2 ⟨rfl, hb2⟩
  have c2 := cell_below (bl_trans hb1 hb2) c0
  go_wp2_with fail
  refine (short_calls _ _ _ _ _ rfl ((ha.below hb1).below hb2) hb0 hb32 sm).mono ?_
  rintro e w3 ⟨v, rfl, hv, hb3⟩
  have k0 : 0 ≤ ((a % b : Nat) : Int) := Int.natCast_nonneg _
  have k2 : ((a % b : Nat) : Int) < 18446744073709551616 := by have := HM.out; omega
  have k1 : Is64 ((a : Int) % (b : Int)) (a % b) := ⟨by simp, Nat.lt_trans HM.out (Nat.lt_of_lt_of_le hb32 (by decide))⟩
  go_wp2_with fail
  refine (of_any _ _ _ k1).mono ?_
  rintro e w4 ⟨r, rfl, hr, hb4⟩
  go_wp2
  go_ret2
  exact ⟨_, _, rfl, hv.below hb4, hr, bl_trans (bl_trans (bl_trans hb1 hb2) hb3) hb4⟩

/-- The multiple of b whose greatest word is at least 2^31. -/
theorem norm_len {b n : Nat} (hb : 2 ≤ (dg b).length) (hn : n < 32) (h1 : 2147483648 ≤ (wat (dg b) ((dg b).length - 1)).toNat * 2 ^ n) (h2 : (wat (dg b) ((dg b).length - 1)).toNat * 2 ^ n < 4294967296) :
    (dg (b * 2 ^ n)).length = (dg b).length ∧ 2147483648 * 4294967296 ^ ((dg b).length - 1) ≤ b * 2 ^ n ∧ b * 2 ^ n < 4294967296 ^ (dg b).length ∧ 2147483648 ≤ wat (dg (b * 2 ^ n)) ((dg b).length - 1) := by
  obtain ⟨m, hm⟩ : ∃ m, (dg b).length = m + 1 := ⟨(dg b).length - 1, by omega⟩
  have e := nv_last (u := dg b) hm
  rw [nv_dg] at e
  rw [hm, show m + 1 - 1 = m by omega] at h1 h2 ⊢
  have t := nv_lt (Wd_take (Wd_dg b) m)
  rw [List.length_take, hm, Nat.min_eq_left (by omega)] at t
  generalize (wat (dg b) m).toNat = x at *
  generalize nv ((dg b).take m) = r at *
  have hp := Nat.two_pow_pos n
  have lo : 2147483648 * 4294967296 ^ m ≤ b * 2 ^ n := by
    rw [e, Nat.add_mul, Nat.mul_assoc]
    have := Nat.mul_le_mul_left (4294967296 ^ m) h1
    rw [Nat.mul_comm 2147483648]
    omega
  have hi : b * 2 ^ n < 4294967296 ^ (m + 1) := by
    have h3 : b + 1 ≤ 4294967296 ^ m * (x + 1) := by rw [e, Nat.mul_add]; omega
    have h4 : b * 2 ^ n < 4294967296 ^ m * (x + 1) * 2 ^ n := Nat.mul_lt_mul_of_pos_right h3 hp
    have e0 := pow_split n hn
    have h5 : (x + 1) * 2 ^ n ≤ 4294967296 := by
      rw [← e0, Nat.mul_comm] at h2 ⊢
      exact Nat.mul_le_mul_left _ (Nat.lt_of_mul_lt_mul_left h2)
    have h6 := Nat.mul_le_mul_left (4294967296 ^ m) h5
    rw [Nat.pow_succ]
    rw [Nat.mul_assoc] at h4
    omega
  have hlen : (dg (b * 2 ^ n)).length = m + 1 := by
    apply Nat.le_antisymm (dg_len.2 hi)
    apply Nat.le_of_not_lt
    intro hlt
    have := dg_len.1 (show (dg (b * 2 ^ n)).length ≤ m by omega)
    have hp2 := Nat.pow_pos (n := m) (show 0 < 4294967296 by omega)
    omega
  refine ⟨hlen, lo, hi, ?_⟩
  have e2 := nv_last (u := dg (b * 2 ^ n)) hlen
  rw [nv_dg] at e2
  have t2 := nv_lt (Wd_take (Wd_dg (b * 2 ^ n)) m)
  rw [List.length_take, hlen, Nat.min_eq_left (by omega)] at t2
  have r2 := wat_range (Wd_dg (b * 2 ^ n)) m
  apply Int.not_lt.1
  intro hlt
  have h7 : (wat (dg (b * 2 ^ n)) m).toNat + 1 ≤ 2147483648 := by omega
  have h8 := Nat.mul_le_mul_left (4294967296 ^ m) h7
  rw [Nat.mul_add, Nat.mul_one] at h8
  rw [Nat.mul_comm] at lo
  omega
theorem DivRel.start {R : List Int} {a b n : Nat} (hR : R.length = (dg a).length + 1) (hw : Wd R) (hv : nv R = a * 2 ^ n) (hn : n < 32) (hba : (dg b).length ≤ (dg a).length) (hb : 2 ≤ (dg b).length)
    (lo : 2147483648 * 4294967296 ^ ((dg b).length - 1) ≤ b * 2 ^ n) :
    DivRel R (List.replicate ((dg a).length + 1 - (dg b).length) 0) (b * 2 ^ n) (a * 2 ^ n) ((dg a).length + 1) (dg b).length ((dg a).length + 1 - (dg b).length) := by
  refine ⟨hR, by simp; omega, hw, Wd_replicate _, by simp, ?_, ?_⟩
  · rw [nv_drop_all _ (by simp), hv]; simp
  · have s := nv_split R ((dg a).length + 1 - (dg b).length) (by omega)
    rw [hv] at s
    have h1 := dg_lt a
    have h2 := pow_le31 n hn
    obtain ⟨k, hk⟩ : ∃ k, (dg b).length = k + 1 := ⟨(dg b).length - 1, by omega⟩
    rw [hk, show k + 1 - 1 = k by omega] at lo
    rw [hk] at s hb hba ⊢
    obtain ⟨j, hj⟩ : ∃ j, (dg a).length = j + k := ⟨(dg a).length - k, by omega⟩
    rw [hj] at h1
    rw [hj, show j + k + 1 - (k + 1) = j by omega] at s ⊢
    refine Nat.lt_of_lt_of_le ?_ lo
    apply Nat.lt_of_mul_lt_mul_left (a := 4294967296 ^ j)
    have h3 : a * 2 ^ n < 4294967296 ^ (j + k) * 2 ^ n := Nat.mul_lt_mul_of_pos_right h1 (Nat.two_pow_pos n)
    have h4 : 4294967296 ^ (j + k) * 2 ^ n ≤ 4294967296 ^ (j + k) * 2147483648 := Nat.mul_le_mul_left _ h2
    have h5 : 4294967296 ^ (j + k) * 2147483648 = 4294967296 ^ j * (2147483648 * 4294967296 ^ k) := by
      rw [Nat.pow_add]
      simp only [Nat.mul_assoc, Nat.mul_comm, Nat.mul_left_comm]
    omega
theorem DivRel.done {R Q : List Int} {a b n len m : Nat} (h : DivRel R Q (b * 2 ^ n) (a * 2 ^ n) len m 0) (hb : 0 < b) : nv Q = a / b ∧ nv R / 2 ^ n = a % b := by
  obtain ⟨h1, h2, h3, h4, h5, h6, h7⟩ := h
  have hp := Nat.two_pow_pos n
  simp only [Nat.pow_zero, Nat.one_mul, List.drop_zero] at h6 h7
  have e1 : a * 2 ^ n / (b * 2 ^ n) = nv Q := by
    rw [h6, Nat.add_mul_div_left _ _ (Nat.mul_pos hb hp), Nat.div_eq_of_lt h7, Nat.zero_add]
  have e2 : a * 2 ^ n % (b * 2 ^ n) = nv R := by
    rw [h6, Nat.add_mul_mod_self_left, Nat.mod_eq_of_lt h7]
  rw [Nat.mul_div_mul_right _ _ hp] at e1
  rw [Nat.mul_mod_mul_right] at e2
  refine ⟨e1.symm, ?_⟩
  rw [← e2, Nat.mul_div_cancel _ hp]
end Go.Proofs.Ytdmgceckmciifaa
