/- Words: short, shifted, unshifted. -/
import Derived.Test.YtdmgceckmciifaaSub
import Derived.Laws.BitsAllLaws
import Derived.Laws.BitsLemmas
set_option linter.unusedVariables false
set_option linter.unusedSimpArgs false
namespace Go.Proofs.Ytdmgceckmciifaa
open Go.RowKit

theorem wraps_u64 (n : Int) (h₀ : 0 ≤ n) (h₁ : n < 2 ^ 64) : IntKind.u64.wrap n = n := by
  rw [IntKind.wrap_u64]; omega
theorem wraps_u32 (n : Int) (h₀ : 0 ≤ n) (h₁ : n < 2 ^ 32) : IntKind.u32.wrap n = n := by
  rw [IntKind.wrap_u32]; omega
theorem bits_or_comm (k : IntKind) (x y : Int) : bits .or k x y = bits .or k y x := by
  simp only [bits, BitVec.or_comm]
theorem or_shl64 (x y : Int) (h0 : 0 ≤ x) (h1 : x < 4294967296) (h2 : 0 ≤ y) (h3 : y < 4294967296) : bits .or .u64 (x * 4294967296) y = x * 4294967296 + y :=
  bits_join .u64 64 (by decide) wraps_u64 32 _ _ (by omega) (by omega) (by omega) h2 (by omega) (by omega)
/-- A word below 2^n, and one that ends in n zeros. -/
theorem or_join32 (n : Nat) (x y : Int) (h0 : 0 ≤ x) (h1 : x < 2 ^ n) (h2 : 0 ≤ y) (h3 : y < 4294967296) (h4 : y % 2 ^ n = 0) (h5 : x < 4294967296) : bits .or .u32 x y = x + y := by
  rw [bits_or_comm, bits_join .u32 32 (by decide) wraps_u32 n y x h2 h4 (by omega) h0 h1 (by omega)]
  omega

/-- What holds of short's words: those from k on are done. -/
structure ShortRel (X L : List Int) (d : Nat) (k : Nat) (x : Int) : Prop where
  len : L.length = X.length
  wd : Wd L
  lo : 0 ≤ x
  hi : x < d
  sum : nv (X.drop k) = nv (L.drop k) * d + x.toNat
theorem ShortRel.start (X : List Int) (d : Nat) (hd : 0 < d) : ShortRel X (List.replicate X.length 0) d X.length 0 :=
  ⟨by simp, Wd_replicate _, by omega, by omega, by rw [nv_drop_all _ (Nat.le_refl _), nv_drop_all _ (by simp)]; simp⟩
theorem nv_drop_set {L : List Int} {k : Nat} {x : Int} (h : k < L.length) : nv ((L.set k x).drop k) = x.toNat + 4294967296 * nv (L.drop (k + 1)) := by
  rw [nv_drop_wat (by simpa using h)]
  congr 2
  · simp [wat, List.getD_eq_getElem?_getD, h]
  · rw [List.drop_set_of_lt (by omega)]
theorem ShortRel.step {X L : List Int} {d k : Nat} {x : Int} (h : ShortRel X L d (k + 1) x) (hX : Wd X) (hk : k < X.length) (hd : d ≤ 4294967296) (y : Int) (hy : y = x * 4294967296 + wat X k) :
    ShortRel X (L.set k (y / d)) d k (y % d) := by
  have r1 := wat_range hX k
  obtain ⟨h1, h2, h3, h4, h5⟩ := h
  have hd0 : (0 : Int) < d := by omega
  have hx : x ≤ (d : Int) - 1 := by omega
  have hdv := Int.mul_ediv_add_emod y d
  have hm0 := Int.emod_nonneg y (show (d : Int) ≠ 0 by omega)
  have hm1 := Int.emod_lt_of_pos y hd0
  have hq0 : 0 ≤ y / d := Int.ediv_nonneg (by omega) (by omega)
  have hq1 : y / d < 4294967296 := by
    apply Int.ediv_lt_of_lt_mul hd0
    have : (x + 1) * 4294967296 ≤ (d : Int) * 4294967296 := Int.mul_le_mul_of_nonneg_right (by omega) (by omega)
    rw [Int.mul_comm 4294967296]
    omega
  refine ⟨by simpa using h1, Wd_set h2 _ _ ⟨hq0, hq1⟩, hm0, hm1, ?_⟩
  rw [nv_drop_set (by omega), nv_drop_wat hk, h5]
  generalize nv (L.drop (k + 1)) = N at *
  obtain ⟨q, hq⟩ := Int.eq_ofNat_of_zero_le hq0
  obtain ⟨r, hr⟩ := Int.eq_ofNat_of_zero_le hm0
  rw [hq, hr, hy] at hdv
  rw [hq, hr, Int.toNat_natCast, Int.toNat_natCast]
  have e1 : d * q + r = x.toNat * 4294967296 + (wat X k).toNat := by omega
  rw [Nat.add_mul, Nat.mul_assoc, Nat.mul_comm q d]
  omega

theorem short_calls (w : World) (va : Value) (a : Nat) (d : Int) (dn : Nat) (hdn : d = (dn : Int)) (ha : Nm w va a) (h0 : 0 < dn) (h1 : dn < 4294967296) (sa : (dg a).length ≤ 1073741824) :
    Calls Try.prog 110 #[va, .int .u32 d] w fun e w' => ∃ v, e = .returned (.tuple #[v, .int .u32 ((a % dn : Nat) : Int)]) ∧ Nm w' v (a / dn) ∧ Below w.heap.size w w' := by
  subst hdn
  obtain ⟨A, c, rfl, hl, hc, hr⟩ := ha
  have hmk := fun w => mk_words ((dg a).length : Int) (by omega) (by omega) w
  go_enter Try.func110, Try.ntmps110
  go_wp2
  go_loopw [7, 8] (fun s i wr => ∃ (k : Nat) (x : Int) (L : List Int), k ≤ (dg a).length ∧ s = .int .u64 x ∧ i = .int .i64 ((k : Int) - 1) ∧ ShortRel (dg a) L dn k x ∧ Ow wr w.heap.size L ∧ Below w.heap.size w wr)
    (fun _ i _ => (intOf i + 1).toNat)
  case atStart => exact ⟨(dg a).length, 0, _, Nat.le_refl _, rfl, rfl, ShortRel.start _ _ h0, Ow.zeros _ _, (Below.refl _ _).alloc (Nat.le_refl _) _⟩
  case round =>
    obtain ⟨k, x, L, hk, rfl, rfl, ho, hg, hbl⟩ := hrel
    have HO := Lib.hid ho
    have b1 := ho.lo
    have b2 := ho.hi
    have b3 := ho.len
    clear ho hmk
    by_cases hx : 0 < k
    · obtain ⟨j, rfl⟩ : ∃ j, k = j + 1 := ⟨k - 1, by omega⟩
      obtain ⟨ad, rfl, hcell⟩ := hr (by omega)
      have e1 := cell_below hbl (hcell j (by omega))
      have r1 := wat_range (Wd_dg a) j
      have r1a := r1.1
      have r1b := r1.2
      have f1 := hg.free j
      have e3 := hg.cell (j := j) (by omega)
      have ho := or_shl64 x (wat (dg a) j) b1 (by omega) r1a r1b
      rw [show ((j + 1 : Nat) : Int) - 1 = (j : Int) by omega]
      clear hcell hr r1
      go_wp2
      have hst := HO.out.step (Wd_dg _) hk (by omega) _ rfl
      refine ⟨⟨j, _, _, by omega, rfl, rfl, hst, ?_, hbl.setCell (Nat.le_refl _) _⟩, by simp [intOf]; try omega⟩
      have hlt := Wd_getD hst.wd j
      rw [show (L.set j ((x * 4294967296 + wat (dg a) j) / dn)).getD j 0 = (x * 4294967296 + wat (dg a) j) / dn by simp [List.getD_eq_getElem?_getD, show j < L.length by omega]] at hlt
      rw [show ∀ z : Int, 0 ≤ z ∧ z < 4294967296 → z % 4294967296 = z from fun z hz => by omega] <;> first | exact hlt | exact hg.set _ _
    · obtain rfl : k = 0 := by omega
      have hs := HO.out.sum
      simp only [List.drop_zero, nv_dg] at hs
      have hq : nv L = a / dn := by
        rw [hs, Nat.add_comm, Nat.add_mul_div_right _ _ h0, Nat.div_eq_of_lt (by omega)]; omega
      have hm : x = ((a % dn : Nat) : Int) := by
        rw [hs, Nat.add_comm, Nat.add_mul_mod_self_right, Nat.mod_eq_of_lt (by omega)]; omega
      have HQ := Lib.hid hq
      have HM := Lib.hid hm
      clear hs hq hm
      go_wp2_with fail
      refine (trim_nm _ _ _ _ _ hg HO.out.wd (by omega) (by omega) (by omega)).mono ?_
      rintro e w' ⟨v, rfl, hv, rfl⟩
      rw [HQ.out] at hv
      go_wp2
      go_ret2
      exact ⟨_, by rw [← HM.out]; rfl, hv, hbl⟩
end Go.Proofs.Ytdmgceckmciifaa
