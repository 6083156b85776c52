/- Plain arithmetic of long division: the guess of a quotient's word. -/
set_option linter.unusedVariables false
set_option linter.unusedSimpArgs false
namespace Go.Proofs.Ytajckdheecgceaa

/-- V and U by their greatest words: E is the weight of the words that are not looked at. -/
structure Kn (U V E v1 v2 top u2 : Nat) : Prop where
  vlo : (v1 * 4294967296 + v2) * E ≤ V
  vhi : V < (v1 * 4294967296 + v2 + 1) * E
  ulo : (top * 4294967296 + u2) * E ≤ U
  uhi : U < (top * 4294967296 + u2 + 1) * E
  v2hi : v2 < 4294967296
  u2hi : u2 < 4294967296
  norm : 2147483648 ≤ v1
  v1hi : v1 < 4294967296
  epos : 0 < E
  small : U < V * 4294967296

theorem Kn.vpos {U V E v1 v2 top u2 : Nat} (h : Kn U V E v1 v2 top u2) : 0 < V := by
  have := h.small
  rcases Nat.eq_zero_or_pos V with h0 | h0
  · rw [h0] at this; omega
  · exact h0
theorem Kn.q_lt {U V E v1 v2 top u2 : Nat} (h : Kn U V E v1 v2 top u2) : U / V < 4294967296 := by
  rw [Nat.div_lt_iff_lt_mul h.vpos, Nat.mul_comm]; exact h.small
theorem Kn.qV {U V E v1 v2 top u2 : Nat} (_ : Kn U V E v1 v2 top u2) : U / V * V ≤ U := Nat.div_mul_le_self U V

theorem Kn.start {U V E v1 v2 top u2 : Nat} (h : Kn U V E v1 v2 top u2) : U / V ≤ top / v1 := by
  have hv : 0 < v1 := by have := h.norm; omega
  rw [Nat.le_div_iff_mul_le hv]
  apply Nat.le_of_not_lt
  intro hlt
  have h1 : (top + 1) * (4294967296 * E) ≤ U / V * v1 * (4294967296 * E) := Nat.mul_le_mul_right _ hlt
  have h2 : U / V * ((v1 * 4294967296 + v2) * E) ≤ U / V * V := Nat.mul_le_mul_left _ h.vlo
  have h3 := h.qV
  have h4 := h.uhi
  have h5 : (top * 4294967296 + u2 + 1) * E ≤ (top + 1) * (4294967296 * E) := by
    rw [← Nat.mul_assoc]
    exact Nat.mul_le_mul_right _ (by have := h.u2hi; omega)
  have h6 : U / V * v1 * (4294967296 * E) ≤ U / V * ((v1 * 4294967296 + v2) * E) := by
    have : U / V * v1 * (4294967296 * E) = U / V * (v1 * 4294967296 * E) := by simp only [Nat.mul_assoc]
    rw [this]
    exact Nat.mul_le_mul_left _ (Nat.mul_le_mul_right _ (by omega))
  omega
/-- A guess that is too great. -/
theorem Kn.down {U V E v1 v2 top u2 g r : Nat} (h : Kn U V E v1 v2 top u2) (hg : g * v1 + r = top) (hc : 4294967296 ≤ g ∨ r * 4294967296 + u2 < g * v2) : U / V < g := by
  rcases hc with hc | hc
  · exact Nat.lt_of_lt_of_le h.q_lt hc
  · rw [Nat.div_lt_iff_lt_mul h.vpos]
    have h1 : (top * 4294967296 + u2 + 1) ≤ g * (v1 * 4294967296 + v2) := by
      rw [← hg, Nat.mul_add, Nat.add_mul, Nat.mul_assoc]
      omega
    have h2 := Nat.mul_le_mul_right E h1
    have h3 : g * (v1 * 4294967296 + v2) * E ≤ g * V := by
      rw [Nat.mul_assoc]
      exact Nat.mul_le_mul_left _ h.vlo
    have h4 := h.uhi
    omega
/-- A guess that is not. -/
theorem Kn.fin {U V E v1 v2 top u2 g r : Nat} (h : Kn U V E v1 v2 top u2) (hg : g * v1 + r = top) (hb : g < 4294967296) (hc : g * v2 ≤ r * 4294967296 + u2 ∨ 4294967296 ≤ r) : g ≤ U / V + 1 := by
  have h1 : g * (v1 * 4294967296 + v2) ≤ top * 4294967296 + u2 := by
    rw [← hg, Nat.mul_add, Nat.add_mul, Nat.mul_assoc]
    rcases hc with hc | hc
    · omega
    · have : g * v2 ≤ 4294967295 * 4294967295 := Nat.mul_le_mul (by omega) (by have := h.v2hi; omega)
      omega
  have h2 := Nat.mul_le_mul_right E h1
  have h3 : g * V < U + V := by
    rcases Nat.eq_zero_or_pos g with h0 | h0
    · subst h0; have := h.vpos; omega
    · have a1 : g * V < g * ((v1 * 4294967296 + v2 + 1) * E) := Nat.mul_lt_mul_of_pos_left h.vhi h0
      have a2 : g * ((v1 * 4294967296 + v2 + 1) * E) = g * (v1 * 4294967296 + v2) * E + g * E := by
        rw [Nat.add_mul _ 1 E, Nat.one_mul, Nat.mul_add, Nat.mul_assoc]
      have a3 : g * E ≤ V := by
        refine Nat.le_trans (Nat.mul_le_mul_right E (show g ≤ v1 * 4294967296 + v2 by have := h.norm; omega)) h.vlo
      have := h.ulo
      omega
  have h4 : (g - 1) ≤ U / V := by
    rw [Nat.le_div_iff_mul_le h.vpos, Nat.sub_mul]
    omega
  omega
/-- Behind a break the guess is below 2^32. -/
theorem Kn.brk {v1 top g r u : Nat} (hg : g * v1 + r = top) (hr : 4294967296 ≤ r) (ht : top < v1 * 4294967296 + 4294967296) : g < 4294967296 := by
  apply Nat.lt_of_not_le
  intro h
  have := Nat.mul_le_mul_right v1 h
  rw [Nat.mul_comm v1] at ht
  omega
theorem Kn.top_lt {U V E v1 v2 top u2 : Nat} (h : Kn U V E v1 v2 top u2) : top < v1 * 4294967296 + 4294967296 := by
  apply Nat.lt_of_not_le
  intro hle
  have h1 : (v1 * 4294967296 + v2 + 1) * 4294967296 ≤ top * 4294967296 := by
    have := h.v2hi
    exact Nat.mul_le_mul_right _ (by omega)
  have h2 := Nat.mul_le_mul_right E h1
  have h3 : (top * 4294967296) * E ≤ (top * 4294967296 + u2) * E := Nat.mul_le_mul_right E (Nat.le_add_right _ _)
  have h4 := h.ulo
  have h5 := h.small
  have h8 := h.vhi
  have h7 : (v1 * 4294967296 + v2 + 1) * E * 4294967296 = (v1 * 4294967296 + v2 + 1) * 4294967296 * E := by
    rw [Nat.mul_assoc, Nat.mul_comm E, ← Nat.mul_assoc]
  rw [h7.symm] at h2
  obtain ⟨Z, hZ⟩ : ∃ Z, Z = (v1 * 4294967296 + v2 + 1) * E := ⟨_, rfl⟩
  rw [← hZ] at h2 h8
  have h9 : Z * 4294967296 ≤ U := Nat.le_trans h2 (Nat.le_trans h3 h4)
  clear h7 h1 hle h2 h3 h4 h hZ
  omega

end Go.Proofs.Ytajckdheecgceaa
