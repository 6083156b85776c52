/- The reference: shift. -/
import Derived.Test.YtdmgceckmciifaaRef6
set_option linter.unusedVariables false
set_option linter.unusedSimpArgs false
namespace Go.Proofs.Ytdmgceckmciifaa
open Go.RowKit

theorem shl_range {x : Int} {n : Nat} (h0 : 0 ≤ x) (h1 : x < 4294967296) (hn : n ≤ 32) : 0 ≤ x * 2 ^ n ∧ x * 2 ^ n < 18446744073709551616 := by
  rw [pow_cast]
  obtain ⟨m, rfl⟩ := Int.eq_ofNat_of_zero_le h0
  have h2 : (2 ^ n : Nat) ≤ 4294967296 := Nat.pow_le_pow_right (by omega) hn
  have h3 : m * 2 ^ n ≤ 4294967295 * 4294967296 := Nat.mul_le_mul (by omega) h2
  rw [← Int.natCast_mul]
  omega
theorem zero_wat (n : Nat) : ∀ j, 0 < j → wat (List.replicate n 0) j = 0 := fun j _ => by
  by_cases hj : j < n <;> simp [wat, List.getD_eq_getElem?_getD, hj]
theorem zero_set {L : List Int} {k : Nat} {x y : Int} (h : ∀ j, k < j → wat L j = 0) : ∀ j, k + 1 < j → wat ((L.set k x).set (k + 1) y) j = 0 := fun j hj => by
  rw [set_get_ne (by omega), set_get_ne (by omega)]; exact h j (by omega)
theorem or_zero32 (y : Int) (h0 : 0 ≤ y) (h1 : y < 4294967296) : bits .or .u32 0 y = y := by
  have h := or_join32 0 0 y (by omega) (by omega) h0 h1 (by omega) (by omega)
  rw [h]; omega
theorem rshift_calls (w : World) (va : Value) (X : List Int) (n : Nat) (ha : RdI .u32 w va X) (hX : Wd X) (hn : n < 32) (sa : X.length ≤ 1073741824) :
    Calls Try.prog 119 #[va, .int .u64 n] w (ShiftPost X n w) := by
  obtain ⟨A, c, rfl, hl, hc, hr⟩ := ha
  have hmk := fun w => mk_u32 ((X.length : Int) + 1) (by omega) (by omega) w
  go_enter Try.func119, Try.ntmps119
  go_wp2
  go_loopw [6] (fun i wr => ∃ (k : Nat) (L : List Int), k ≤ X.length ∧ i = .int .i64 (k : Int) ∧ ShRel X L n k ∧ (∀ j, k < j → wat L j = 0) ∧ Ow wr w.heap.size L ∧ Below w.heap.size w wr)
    (fun i _ => X.length - (intOf i).toNat)
  case atStart => exact ⟨0, _, by omega, rfl, ShRel.start _ _, zero_wat _, Ow.zeros _ _, (Below.refl _ _).alloc (Nat.le_refl _) _⟩
  case round =>
    obtain ⟨k, L, hk, rfl, ho, hz, hg, hbl⟩ := hrel
    have HO := Lib.hid ho
    have h3 := ho.len
    clear ho
    by_cases hx : k < X.length
    · obtain ⟨ad, rfl, hcell⟩ := hr (by omega)
      have e1 := cell_below hbl (hcell k (by omega))
      have r1 := wat_range hX k
      have r1a := r1.1
      have r1b := r1.2
      have f1 := hg.free k
      have f2 := hg.free (k + 1)
      have e3 := hg.cell (j := k) (by omega)
      have e4 := hg.cell (j := k + 1) (by omega)
      have hst := HO.out.step hX hx hn
      have hwr := wrap_shl (n := n) r1a r1b (by omega)
      have HS := Lib.hid hst
      have HZ := Lib.hid hz
      have z1 := hz (k + 1) (by omega)
      have oz := or_zero32 (wat X k * 2 ^ n / 4294967296) hst.2.2.1 hst.2.1
      rw [z1] at e4
      have HW := Lib.hid hwr
      have AM := Lib.hid (and_mask (wat X k * 2 ^ n) (shl_range r1a r1b (by omega)).1 (shl_range r1a r1b (by omega)).2)
      have OZ := Lib.hid oz
      clear hcell hr r1 hmk hst hwr hz z1 oz
      go_wp2
      rw [HW.out, AM.out, show ∀ z : Int, z % 4294967296 % 4294967296 = z % 4294967296 from fun z => by omega, HS.out.1, show wat X k * 2 ^ n / 4294967296 % 4294967296 = wat X k * 2 ^ n / 4294967296 from Int.emod_eq_of_lt HS.out.2.2.1 HS.out.2.1, OZ.out]
      exact ⟨⟨k + 1, _, by omega, by go_num, HS.out.2.2.2, zero_set HZ.out, (hg.set _ _).set _ _, (hbl.setCell (Nat.le_refl _) _).setCell (Nat.le_refl _) _⟩, by simp [intOf]; try omega⟩
    · obtain rfl : k = X.length := by omega
      have hs := HO.out.sum
      rw [nv_take_all _ (by omega), nv_take_all _ (Nat.le_refl _)] at hs
      have HS := Lib.hid hs
      clear hs hmk
      go_wp2
      go_ret
      exact ⟨w.heap.size, L, rfl, Nat.le_refl _, hg, HO.out.wd, h3, HS.out, hbl⟩
end Go.Proofs.Ytdmgceckmciifaa
