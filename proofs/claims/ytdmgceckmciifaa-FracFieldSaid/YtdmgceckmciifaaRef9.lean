/- The reference: back. -/
import Derived.Test.YtdmgceckmciifaaRef8
set_option linter.unusedVariables false
set_option linter.unusedSimpArgs false
namespace Go.Proofs.Ytdmgceckmciifaa
open Go.RowKit

theorem back_val {x y : Int} (n : Nat) (hx0 : 0 ≤ x) (hx1 : x < 4294967296) (hy0 : 0 ≤ y) (hy1 : y < 4294967296) :
    bits .and .u64 ((y * 4294967296 + x) / 2 ^ n) 4294967295 % 4294967296 = ((x.toNat + 4294967296 * y.toNat) / 2 ^ n % 4294967296 : Nat) := by
  obtain ⟨a, rfl⟩ := Int.eq_ofNat_of_zero_le hx0
  obtain ⟨b, rfl⟩ := Int.eq_ofNat_of_zero_le hy0
  have e : ((b : Int) * 4294967296 + (a : Int)) / 2 ^ n = (((a + 4294967296 * b) / 2 ^ n : Nat) : Int) := by
    rw [pow_cast, Int.natCast_ediv]; congr 1; omega
  have hle := Nat.div_le_self (a + 4294967296 * b) (2 ^ n)
  rw [e, Int.toNat_natCast, Int.toNat_natCast]
  obtain ⟨q, hq⟩ : ∃ q, q = (a + 4294967296 * b) / 2 ^ n := ⟨_, rfl⟩
  rw [← hq] at hle ⊢
  clear hq e
  rw [and_mask _ (by omega) (by omega)]
  omega
theorem rback_calls (w : World) (va : Value) (X : List Int) (n : Nat) (ha : RdI .u32 w va X) (hX : Wd X) (hn : n < 32) (sa : X.length ≤ 1073741824) :
    Calls Try.prog 120 #[va, .int .u64 n] w (NmPost (nv X / 2 ^ n) w) := by
  obtain ⟨A, c, rfl, hl, hc, hr⟩ := ha
  have hmk := fun w => mk_u32 (X.length : Int) (by omega) (by omega) w
  go_enter Try.func120, Try.ntmps120
  go_wp2
  go_loopw [6] (fun i wr => ∃ (k : Nat) (L : List Int), k ≤ X.length ∧ i = .int .i64 (k : Int) ∧ BackRel X L n k ∧ Ow wr w.heap.size L ∧ Below w.heap.size w wr)
    (fun i _ => X.length - (intOf i).toNat)
  case atStart => exact ⟨0, _, by omega, rfl, BackRel.start _ _, Ow.zeros _ _, (Below.refl _ _).alloc (Nat.le_refl _) _⟩
  case round =>
    obtain ⟨k, L, hk, rfl, ho, hg, hbl⟩ := hrel
    have HO := Lib.hid ho
    have h3 := ho.len
    clear ho hmk
    by_cases hx : k < X.length
    · obtain ⟨ad, rfl, hcell⟩ := hr (by omega)
      have e1 := cell_below hbl (hcell k (by omega))
      have r1 := wat_range hX k
      have r1a := r1.1
      have r1b := r1.2
      have f1 := hg.free k
      have e3 := hg.cell (j := k) (by omega)
      by_cases hy : k + 1 < X.length
      · have e2 := cell_below hbl (hcell (k + 1) (by omega))
        rw [add_pos ad (by omega)] at e2
        have r2 := wat_range hX (k + 1)
        have r2a := r2.1
        have r2b := r2.2
        have ho := or_shl64 (wat X (k + 1)) (wat X k) r2a r2b r1a r1b
        rw [bits_or_comm] at ho
        clear hcell hr r1 r2
        go_wp2
        exact ⟨⟨k + 1, _, by omega, by go_num, HO.out.step hX hx hn _ (back_val n r1a r1b r2a r2b), hg.set _ _, hbl.setCell (Nat.le_refl _) _⟩, by simp [intOf]; try omega⟩
      · have hy0 := Lib.hid (wat_over (l := X) (k := k + 1) (by omega))
        have hb0 := back_val (x := wat X k) (y := 0) n r1a r1b (by omega) (by omega)
        rw [Int.zero_mul, Int.zero_add] at hb0
        have HB := Lib.hid hb0
        clear hcell hr r1 hb0
        go_wp2
        exact ⟨⟨k + 1, _, by omega, by go_num, HO.out.step hX hx hn _ (by rw [hy0.out]; exact HB.out), hg.set _ _, hbl.setCell (Nat.le_refl _) _⟩, by simp [intOf]; try omega⟩
    · obtain rfl : k = X.length := by omega
      have HQ := Lib.hid (HO.out.done hX)
      have hrd := hg.rd X.length X.length (by omega) (by omega) (by omega)
      rw [show L.take X.length = L by rw [← h3, List.take_length]] at hrd
      clear hr
      go_wp2_with fail
      refine (rtrim _ _ _ hrd HO.out.wd).mono ?_
      rintro e w' ⟨v, rfl, hv, hb'⟩
      rw [HQ.out] at hv
      go_wp2
      go_ret
      exact ⟨_, rfl, hv, bl_trans hbl hb'⟩
end Go.Proofs.Ytdmgceckmciifaa
