/- The reference: back. -/
import Derived.Test.YtdmgceckmciifaaRef7
set_option linter.unusedVariables false
set_option linter.unusedSimpArgs false
namespace Go.Proofs.Ytdmgceckmciifaa
open Go.RowKit

/-- Two words, divided by a power of two: the word that is told. -/
theorem back_word {T x y p r : Nat} (hp : p * r = 4294967296) (h0 : 0 < p) : (x + 4294967296 * (y + 4294967296 * T)) / p % 4294967296 = (x + 4294967296 * y) / p % 4294967296 := by
  have e : x + 4294967296 * (y + 4294967296 * T) = (x + 4294967296 * y) + p * (r * 4294967296 * T) := by
    rw [← Nat.mul_assoc, ← Nat.mul_assoc, hp, Nat.mul_add, ← Nat.add_assoc, ← Nat.mul_assoc]
  rw [e, Nat.add_mul_div_left _ _ h0, show r * 4294967296 * T = 4294967296 * (r * T) by rw [Nat.mul_comm r, Nat.mul_assoc], Nat.add_mul_mod_self_left]
theorem mod_pow_succ (N k : Nat) : N % 4294967296 ^ (k + 1) = N % 4294967296 ^ k + 4294967296 ^ k * (N / 4294967296 ^ k % 4294967296) := by
  rw [Nat.pow_succ, Nat.mod_mul]
structure BackRel (X L : List Int) (n k : Nat) : Prop where
  len : L.length = X.length
  wd : Wd L
  sum : nv (L.take k) = nv X / 2 ^ n % 4294967296 ^ k
theorem BackRel.start (X : List Int) (n : Nat) : BackRel X (List.replicate X.length 0) n 0 := ⟨by simp, Wd_replicate _, by simp [nv, Nat.mod_one]⟩
theorem BackRel.step {X L : List Int} {n k : Nat} (h : BackRel X L n k) (hX : Wd X) (hk : k < X.length) (hn : n < 32) (v : Int) (hv : v = (((wat X k).toNat + 4294967296 * (wat X (k + 1)).toNat) / 2 ^ n % 4294967296 : Nat)) :
    BackRel X (L.set k v) n (k + 1) := by
  obtain ⟨h1, h2, h3⟩ := h
  refine ⟨by simpa using h1, Wd_set h2 _ _ (by omega), ?_⟩
  rw [nv_set_take (by omega), h3, mod_pow_succ, Nat.div_div_eq_div_mul, Nat.mul_comm (2 ^ n), ← Nat.div_div_eq_div_mul]
  have e1 : nv X / 4294967296 ^ k = nv (X.drop k) := by
    rw [nv_split X k (by omega), Nat.add_mul_div_left _ _ (Nat.pow_pos (by omega)), Nat.div_eq_of_lt, Nat.zero_add]
    have := nv_lt (Wd_take hX k)
    rwa [List.length_take, Nat.min_eq_left (by omega)] at this
  have e2 : nv (X.drop k) = (wat X k).toNat + 4294967296 * ((wat X (k + 1)).toNat + 4294967296 * nv (X.drop (k + 2))) := by
    rw [nv_drop_wat hk]
    by_cases h : k + 1 < X.length
    · rw [nv_drop_wat h]
    · have z : wat X (k + 1) = 0 := wat_over (by omega)
      rw [nv_drop_all X (k := k + 1) (by omega), nv_drop_all X (k := k + 2) (by omega), z]; rfl
  rw [e1, e2, back_word (pow_split n hn) (Nat.two_pow_pos n), hv, Int.toNat_natCast]
theorem BackRel.done {X L : List Int} {n : Nat} (h : BackRel X L n X.length) (hX : Wd X) : nv L = nv X / 2 ^ n := by
  obtain ⟨h1, h2, h3⟩ := h
  rw [nv_take_all _ (by omega)] at h3
  rw [h3, Nat.mod_eq_of_lt]
  exact Nat.lt_of_le_of_lt (Nat.div_le_self _ _) (nv_lt hX)
end Go.Proofs.Ytdmgceckmciifaa
