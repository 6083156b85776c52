/- Words: small; math/bits: Len32, LeadingZeros32. -/
import Derived.Test.YtajckdheecgceaaCmp
import Derived.Deep.CutBlock
import Derived.Deep.DeepCutAuto
set_option linter.unusedVariables false
set_option linter.unusedSimpArgs false
namespace Go.Proofs.Ytajckdheecgceaa
open Go.RowKit

theorem small_yes (w : World) (va : Value) (a : Nat) (ha : Nm w va a) (hl2 : (dg a).length ≤ 2) :
    Calls Try.prog 129 #[va] w fun e w' => e = .returned (.tuple #[.int .u64 (a : Int), .bool true]) ∧ Below w.heap.size w w' := by
  obtain ⟨A, c, rfl, hl, hc, hr⟩ := ha
  have hn := nv_dg a
  by_cases h0 : (dg a).length = 0
  · have z : a = 0 := dg_len_zero.1 h0
    subst z
    rw [dg_zero] at *
    clear hr
    go_enter Try.func129, Try.ntmps129
    go_wp2
    go_ret2
    exact ⟨rfl, Below.refl _ _⟩
  · obtain ⟨ad, rfl, hcell⟩ := hr (by omega)
    have c0 := hcell 0 (by omega)
    rw [add0] at c0
    have r0 := wat_range (Wd_dg a) 0
    have r0a := r0.1
    have r0b := r0.2
    by_cases h1 : (dg a).length = 1
    · have e : a = (wat (dg a) 0).toNat := by
        have := nv_take_wat (l := dg a) (k := 0) (by omega)
        rw [nv_take_all _ (by omega), hn] at this
        simpa [nv] using this
      have e2 : (a : Int) = wat (dg a) 0 := by omega
      have E2 := Lib.hid e2
      clear e e2 hn hcell hr r0
      go_enter Try.func129, Try.ntmps129
      go_wp2
      go_ret2
      exact ⟨by rw [E2.out]; rfl, Below.refl _ _⟩
    · have h2 : (dg a).length = 2 := by omega
      have c1 := hcell 1 (by omega)
      rw [add_pos ad (by omega)] at c1
      have r1 := wat_range (Wd_dg a) 1
      have r1a := r1.1
      have r1b := r1.2
      have e : a = (wat (dg a) 0).toNat + 4294967296 * (wat (dg a) 1).toNat := by
        have t1 := nv_take_wat (l := dg a) (k := 0) (by omega)
        have t2 := nv_take_wat (l := dg a) (k := 1) (by omega)
        rw [nv_take_all _ (by omega), hn] at t2
        rw [t1] at t2
        simpa [nv] using t2
      have e2 : (a : Int) = wat (dg a) 1 * 4294967296 + wat (dg a) 0 := by omega
      have E2 := Lib.hid e2
      have ho := or_shl64 (wat (dg a) 1) (wat (dg a) 0) r1a r1b r0a r0b
      clear e e2 hn hcell hr r0 r1 h1
      go_enter Try.func129, Try.ntmps129
      go_wp2
      go_quiet (fail)
      go_wp2
      go_ret2
      exact ⟨by rw [E2.out]; rfl, bl_drewN _ _⟩
theorem small_no (w : World) (va : Value) (a : Nat) (ha : Nm w va a) (hl2 : 2 < (dg a).length) :
    Calls Try.prog 129 #[va] w fun e w' => e = .returned (.tuple #[.int .u64 0, .bool false]) ∧ Below w.heap.size w w' := by
  obtain ⟨A, c, rfl, hl, hc, hr⟩ := ha
  clear hr
  go_enter Try.func129, Try.ntmps129
  go_wp2
  go_ret2
  exact ⟨rfl, Below.refl _ _⟩

/-- The lengths of numbers below 256, in bits. -/
def tab8 : ByteArray := ⟨#[0, 1, 2, 2, 3, 3, 3, 3, 4, 4, 4, 4, 4, 4, 4, 4, 5, 5, 5, 5, 5, 5, 5, 5, 5, 5, 5, 5, 5, 5, 5, 5, 6, 6, 6, 6, 6, 6, 6, 6, 6, 6, 6, 6, 6, 6, 6, 6, 6, 6, 6, 6, 6, 6, 6, 6, 6, 6, 6, 6, 6, 6, 6, 6, 7, 7, 7, 7, 7, 7, 7, 7, 7, 7, 7, 7, 7, 7, 7, 7, 7, 7, 7, 7, 7, 7, 7, 7, 7, 7, 7, 7, 7, 7, 7, 7, 7, 7, 7, 7, 7, 7, 7, 7, 7, 7, 7, 7, 7, 7, 7, 7, 7, 7, 7, 7, 7, 7, 7, 7, 7, 7, 7, 7, 7, 7, 7, 7, 8, 8, 8, 8, 8, 8, 8, 8, 8, 8, 8, 8, 8, 8, 8, 8, 8, 8, 8, 8, 8, 8, 8, 8, 8, 8, 8, 8, 8, 8, 8, 8, 8, 8, 8, 8, 8, 8, 8, 8, 8, 8, 8, 8, 8, 8, 8, 8, 8, 8, 8, 8, 8, 8, 8, 8, 8, 8, 8, 8, 8, 8, 8, 8, 8, 8, 8, 8, 8, 8, 8, 8, 8, 8, 8, 8, 8, 8, 8, 8, 8, 8, 8, 8, 8, 8, 8, 8, 8, 8, 8, 8, 8, 8, 8, 8, 8, 8, 8, 8, 8, 8, 8, 8, 8, 8, 8, 8, 8, 8, 8, 8, 8, 8, 8, 8, 8, 8, 8, 8, 8, 8, 8, 8, 8, 8, 8, 8]⟩
theorem tab8_size : tab8.size = 256 := by decide +kernel
theorem tab8_ok : ∀ i : Fin 256, 0 < i.val → 2 ^ ((tab8[i.val]'(by rw [tab8_size]; exact i.2)).toNat - 1) ≤ i.val ∧ i.val < 2 ^ (tab8[i.val]'(by rw [tab8_size]; exact i.2)).toNat ∧ 1 ≤ (tab8[i.val]'(by rw [tab8_size]; exact i.2)).toNat ∧ (tab8[i.val]'(by rw [tab8_size]; exact i.2)).toNat ≤ 8 := by decide +kernel
theorem tab8_at (i : Nat) (h : i < tab8.size) (h0 : 0 < i) : 2 ^ ((tab8[i]'h).toNat - 1) ≤ i ∧ i < 2 ^ (tab8[i]'h).toNat ∧ 1 ≤ (tab8[i]'h).toNat ∧ (tab8[i]'h).toNat ≤ 8 :=
  tab8_ok ⟨i, by rw [tab8_size] at h; exact h⟩ h0
def TabOk (i n : Nat) : Prop := ∃ h : i < tab8.size, n = (tab8[i]'h).toNat
theorem tabOk {i : Nat} (h : i < 256) : TabOk i (tab8[i]'(by rw [tab8_size]; exact h)).toNat := ⟨_, rfl⟩
theorem ret_int {k : IntKind} {a b : Int} (h : a = b) : Ending.returned (.int k a) = .returned (.int k b) := by rw [h]
/-- The length of x in bits. -/
def LenPost (x : Nat) (w : World) (e : Ending) (w' : World) : Prop := ∃ n : Nat, e = .returned (.int .i64 n) ∧ 1 ≤ n ∧ n ≤ 32 ∧ 2 ^ (n - 1) ≤ x ∧ x < 2 ^ n ∧ w = w'
theorem wrap2 (n : Nat) (h : n ≤ 8) : wrap64 (wrap64 (n : Int)) = (n : Int) := by unfold wrap64; omega
theorem wrap3 (k n : Nat) (h : n ≤ 8) (hk : k ≤ 24) : wrap64 ((k : Int) + wrap64 (n : Int)) = ((k + n : Nat) : Int) := by unfold wrap64; omega
theorem len_up {x y k n : Nat} (hy : y = x / 2 ^ k) (h1 : 2 ^ (n - 1) ≤ y) (h2 : y < 2 ^ n) (hn : 1 ≤ n) : 2 ^ (k + n - 1) ≤ x ∧ x < 2 ^ (k + n) := by
  subst hy
  rw [Nat.le_div_iff_mul_le (Nat.two_pow_pos _)] at h1
  rw [Nat.div_lt_iff_lt_mul (Nat.two_pow_pos _)] at h2
  rw [← Nat.pow_add] at h1 h2
  rw [show k + n - 1 = n - 1 + k by omega, Nat.add_comm k n]
  exact ⟨h1, h2⟩
set_option maxRecDepth 100000 in
theorem len32_a (x : Int) (w : World) (h0 : 0 < x) (h1 : x < 256) : Calls Try.prog 135 #[.int .u32 x] w (LenPost x.toNat w) := by
  obtain ⟨n, hn, ht⟩ : ∃ n, TabOk x.toNat n ∧ Hid (2 ^ (n - 1) ≤ x.toNat ∧ x.toNat < 2 ^ n ∧ 1 ≤ n ∧ n ≤ 8) := ⟨_, tabOk (by omega), Lib.hid (tab8_at x.toNat (by rw [tab8_size]; omega) (by omega))⟩
  go_enter Try.func135, Try.ntmps135
  go_wp2
  go_ret
  obtain ⟨hs, rfl⟩ := hn
  exact ⟨_, ret_int (wrap2 _ ht.out.2.2.2), ht.out.2.2.1, Nat.le_trans ht.out.2.2.2 (by decide), ht.out.1, ht.out.2.1, rfl⟩
set_option maxRecDepth 100000 in
theorem len32_b (x : Int) (w : World) (h0 : 256 ≤ x) (h1 : x < 65536) : Calls Try.prog 135 #[.int .u32 x] w (LenPost x.toNat w) := by
  have e : (x / 256).toNat = x.toNat / 2 ^ 8 := by omega
  obtain ⟨n, hn, ht⟩ : ∃ n, TabOk (x / 256).toNat n ∧ Hid (2 ^ (n - 1) ≤ (x / 256).toNat ∧ (x / 256).toNat < 2 ^ n ∧ 1 ≤ n ∧ n ≤ 8) := ⟨_, tabOk (by omega), Lib.hid (tab8_at (x / 256).toNat (by rw [tab8_size]; omega) (by omega))⟩
  have hu := Lib.hid (len_up e ht.out.1 ht.out.2.1 ht.out.2.2.1)
  have y0 : 0 < x / 256 := by omega
  have y1 : x / 256 < 256 := by omega
  clear e
  go_enter Try.func135, Try.ntmps135
  go_wp2
  go_ret
  obtain ⟨hs, rfl⟩ := hn
  exact ⟨_, ret_int (wrap3 8 _ ht.out.2.2.2 (by decide)), Nat.le_trans ht.out.2.2.1 (Nat.le_add_left _ _), Nat.le_trans (Nat.add_le_add_left ht.out.2.2.2 8) (by decide), hu.out.1, hu.out.2, rfl⟩
set_option maxRecDepth 100000 in
theorem len32_c (x : Int) (w : World) (h0 : 65536 ≤ x) (h1 : x < 16777216) : Calls Try.prog 135 #[.int .u32 x] w (LenPost x.toNat w) := by
  have e : (x / 65536).toNat = x.toNat / 2 ^ 16 := by omega
  obtain ⟨n, hn, ht⟩ : ∃ n, TabOk (x / 65536).toNat n ∧ Hid (2 ^ (n - 1) ≤ (x / 65536).toNat ∧ (x / 65536).toNat < 2 ^ n ∧ 1 ≤ n ∧ n ≤ 8) := ⟨_, tabOk (by omega), Lib.hid (tab8_at (x / 65536).toNat (by rw [tab8_size]; omega) (by omega))⟩
  have hu := Lib.hid (len_up e ht.out.1 ht.out.2.1 ht.out.2.2.1)
  have y0 : 0 < x / 65536 := by omega
  have y1 : x / 65536 < 256 := by omega
  clear e
  go_enter Try.func135, Try.ntmps135
  go_wp2
  go_ret
  obtain ⟨hs, rfl⟩ := hn
  exact ⟨_, ret_int (wrap3 16 _ ht.out.2.2.2 (by decide)), Nat.le_trans ht.out.2.2.1 (Nat.le_add_left _ _), Nat.le_trans (Nat.add_le_add_left ht.out.2.2.2 16) (by decide), hu.out.1, hu.out.2, rfl⟩
set_option maxRecDepth 100000 in
theorem len32_d (x : Int) (w : World) (h0 : 16777216 ≤ x) (h1 : x < 4294967296) : Calls Try.prog 135 #[.int .u32 x] w (LenPost x.toNat w) := by
  have e : (x / 65536 / 256).toNat = x.toNat / 2 ^ 24 := by omega
  obtain ⟨n, hn, ht⟩ : ∃ n, TabOk (x / 65536 / 256).toNat n ∧ Hid (2 ^ (n - 1) ≤ (x / 65536 / 256).toNat ∧ (x / 65536 / 256).toNat < 2 ^ n ∧ 1 ≤ n ∧ n ≤ 8) := ⟨_, tabOk (by omega), Lib.hid (tab8_at (x / 65536 / 256).toNat (by rw [tab8_size]; omega) (by omega))⟩
  have hu := Lib.hid (len_up e ht.out.1 ht.out.2.1 ht.out.2.2.1)
  have y0 : 0 < x / 65536 / 256 := by omega
  have y1 : x / 65536 / 256 < 256 := by omega
  have x1 : 256 ≤ x / 65536 := by omega
  clear e
  go_enter Try.func135, Try.ntmps135
  go_wp2
  go_ret
  obtain ⟨hs, rfl⟩ := hn
  exact ⟨_, ret_int (wrap3 24 _ ht.out.2.2.2 (by decide)), Nat.le_trans ht.out.2.2.1 (Nat.le_add_left _ _), Nat.le_trans (Nat.add_le_add_left ht.out.2.2.2 24) (by decide), hu.out.1, hu.out.2, rfl⟩
theorem len32 (x : Int) (w : World) (h0 : 0 < x) (h1 : x < 4294967296) : Calls Try.prog 135 #[.int .u32 x] w (LenPost x.toNat w) := by
  by_cases a : x < 256
  · exact len32_a x w h0 a
  · by_cases b : x < 65536
    · exact len32_b x w (by omega) b
    · by_cases c : x < 16777216
      · exact len32_c x w (by omega) c
      · exact len32_d x w (by omega) h1
/-- How far x can be shifted. -/
def LzPost (x : Nat) (w : World) (e : Ending) (w' : World) : Prop := ∃ n : Nat, e = .returned (.int .i64 n) ∧ n < 32 ∧ 2147483648 ≤ x * 2 ^ n ∧ x * 2 ^ n < 4294967296 ∧ w = w'
theorem lz_calls (x : Int) (w : World) (h0 : 0 < x) (h1 : x < 4294967296) : Calls Try.prog 131 #[.int .u32 x] w (LzPost x.toNat w) := by
  go_enter Try.func131, Try.ntmps131
  go_wp2_with fail
  refine (len32 x _ h0 h1).mono ?_
  rintro e w' ⟨n, rfl, hn1, hn2, hl, hh, rfl⟩
  have HL := Lib.hid hl
  have HH := Lib.hid hh
  clear hl hh
  go_wp2
  go_ret
  refine ⟨32 - n, ret_int (by omega), by omega, ?_, ?_, rfl⟩
  · have h := Nat.mul_le_mul_right (2 ^ (32 - n)) HL.out
    rw [← Nat.pow_add, show n - 1 + (32 - n) = 31 by omega] at h
    exact h
  · have h := Nat.mul_lt_mul_of_pos_right HH.out (Nat.two_pow_pos (32 - n))
    rw [← Nat.pow_add, show n + (32 - n) = 32 by omega] at h
    exact h

end Go.Proofs.Ytajckdheecgceaa
