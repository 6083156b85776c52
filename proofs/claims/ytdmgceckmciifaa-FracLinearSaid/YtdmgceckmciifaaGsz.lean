/- Elimination, plain: how many words the numbers in the table have. -/
import Derived.Test.YtdmgceckmciifaaGjl
import Derived.Test.YtdmgceckmciifaaTaken
set_option linter.unusedVariables false
set_option linter.unusedSimpArgs false
namespace Go.Proofs.Ytdmgceckmciifaa

theorem prodN_le {m T : Nat} {D : Nat → Nat} (h : ∀ j, j < m → D j ≤ T) : prodN m D ≤ T ^ m := by
  induction m with
  | zero => exact Nat.le_refl _
  | succ m ih => rw [prodN, Nat.pow_succ]; exact Nat.mul_le_mul (ih (fun j hj => h j (by omega))) (h m (by omega))
theorem prodN_dvd {m : Nat} {D : Nat → Nat} {j : Nat} (hj : j < m) : D j ∣ prodN m D := by
  induction m with
  | zero => omega
  | succ m ih =>
    rw [prodN]
    by_cases e : j = m
    · subst e; exact Nat.dvd_mul_left _ _
    · exact Nat.dvd_trans (ih (by omega)) (Nat.dvd_mul_right _ _)
theorem num_eq (q : Rat) : q * (q.den : Rat) = (q.num : Rat) := by
  have h := Rat.mul_inv_cancel (q.den : Rat) (by exact_mod_cast q.den_nz)
  have h3 := Rat.mkRat_eq_div q.num q.den
  rw [Rat.mkRat_self, Rat.div_def] at h3
  grind
theorem gj_szq {A : Nat → Nat → Rat} {R C n m : Nat} (hR : R ≤ 7) (hm : m ≤ 8) (hn : n ≤ C) (h1 : ∀ i j, i < R → j < m → Szq 3 (A i j)) (h2 : ∀ i j, i < R → m ≤ j → j < C → A i j = 0 ∨ A i j = 1) :
    ∀ col i j, col ≤ n → i < R → j < C → Szq 214 ((gj A R col).M i j) := by
  intro col i j hcol hi hj
  obtain ⟨B, hB⟩ : ∃ B : Nat, B = 4294967296 := ⟨_, rfl⟩
  obtain ⟨T, hT⟩ : ∃ T, T = B ^ 3 := ⟨_, rfl⟩
  have hB1 : 1 ≤ B := by omega
  have hT1 : 1 ≤ T := by rw [hT]; exact Nat.one_le_pow _ _ (by omega)
  have hA : ∀ i j, i < R → j < m → (A i j).num.natAbs ≤ T ∧ (A i j).den ≤ T := fun i j hi hj => by
    obtain ⟨k1, k2⟩ := h1 i j hi hj
    have e1 := dg_len.1 k1
    have e2 := dg_len.1 k2
    rw [← hB, ← hT] at e1 e2
    omega
  obtain ⟨d, σ, hg⟩ := (gj_ok A R C col (by omega)).gin
  have hDpos : ∀ i, i < R → 0 < prodN m (fun j => (A i j).den) ∧ prodN m (fun j => (A i j).den) ≤ T ^ 8 := fun i hi =>
    ⟨prodN_pos (fun j _ => (A i j).den_pos), Nat.le_trans (prodN_le (fun j hj => (hA i j hi hj).2)) (Nat.pow_le_pow_right hT1 hm)⟩
  have hInt : ∀ i j, i < R → j < C → IntB (A i j * ((prodN m (fun j => (A i j).den) : Nat) : Rat)) (T ^ 9) := fun i j hi hj => by
    have hD := hDpos i hi
    have h98 : T ^ 8 ≤ T ^ 9 := Nat.pow_le_pow_right hT1 (by omega)
    by_cases hjm : j < m
    · obtain ⟨r, hr⟩ := prodN_dvd (D := fun j => (A i j).den) hjm
      rw [hr]
      have hr2 : r ≤ T ^ 8 := Nat.le_trans (by rw [hr]; exact Nat.le_mul_of_pos_left _ (A i j).den_pos) hD.2
      refine ⟨(A i j).num * r, ?_, ?_⟩
      · rw [Rat.natCast_mul, Rat.intCast_mul, ← num_eq, Rat.intCast_natCast]; grind
      · rw [Int.natAbs_mul, Int.natAbs_natCast, show T ^ 9 = T * T ^ 8 by rw [Nat.mul_comm, ← Nat.pow_succ]]
        exact Nat.mul_le_mul (hA i j hi hjm).1 hr2
    · rcases h2 i j hi (by omega) hj with e | e
      · rw [e]; exact ⟨0, by rw [Rat.zero_mul]; rfl, by simp⟩
      · rw [e, Rat.one_mul]; exact ⟨(prodN m (fun j => (A i j).den) : Nat), (Rat.intCast_natCast _).symm, by rw [Int.natAbs_natCast]; exact Nat.le_trans hD.2 h98⟩
  obtain ⟨s1, s2⟩ := hg.size (Nat.one_le_pow _ _ (by omega)) hDpos hInt hi hj
  have hf : fac R ≤ 5040 := fac_le hR
  have hY : (T ^ 9) ^ R ≤ (T ^ 9) ^ 7 := Nat.pow_le_pow_right (Nat.one_le_pow _ _ (by omega)) hR
  have e63 : (T ^ 9) ^ 7 = B ^ 189 := by rw [hT, ← Nat.pow_mul, ← Nat.pow_mul]
  have e24 : T ^ 8 = B ^ 24 := by rw [hT, ← Nat.pow_mul]
  rw [e63] at hY
  have hlt : ∀ k, 5040 * B ^ k < B ^ (k + 1) := fun k => by
    rw [Nat.pow_succ, Nat.mul_comm]
    exact Nat.mul_lt_mul_of_pos_left (by omega) (Nat.pow_pos (by omega))
  have hall : fac R * (T ^ 9) ^ R ≤ 5040 * B ^ 189 := Nat.mul_le_mul hf hY
  constructor
  · apply dg_len.2
    rw [← hB]
    exact Nat.lt_of_le_of_lt (Nat.le_trans s1 hall) (Nat.lt_of_lt_of_le (hlt 189) (Nat.pow_le_pow_right hB1 (by omega)))
  · apply dg_len.2
    rw [← hB]
    refine Nat.lt_of_le_of_lt (Nat.le_trans s2 (Nat.mul_le_mul hall (Nat.le_of_eq e24))) ?_
    rw [Nat.mul_assoc, ← Nat.pow_add]
    exact hlt 213
end Go.Proofs.Ytdmgceckmciifaa
