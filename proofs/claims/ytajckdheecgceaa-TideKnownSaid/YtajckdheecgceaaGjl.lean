/- Elimination, plain: all steps, and what is read off the table. -/
import Derived.Test.YtajckdheecgceaaGj
set_option linter.unusedVariables false
set_option linter.unusedSimpArgs false
namespace Go.Proofs.Ytajckdheecgceaa

/-- The first row from a place on that is not 0 in a column. -/
def fnd (M : Nat → Nat → Rat) (col : Nat) : Nat → Nat → Nat
  | 0, a => a
  | n + 1, a => if M a col = 0 then fnd M col n (a + 1) else a
theorem fnd_spec (M : Nat → Nat → Rat) (col : Nat) : ∀ n a, a ≤ fnd M col n a ∧ fnd M col n a ≤ a + n ∧ (∀ i, a ≤ i → i < fnd M col n a → M i col = 0) ∧ (fnd M col n a < a + n → M (fnd M col n a) col ≠ 0) := by
  intro n
  induction n with
  | zero => intro a; exact ⟨Nat.le_refl _, Nat.le_refl _, fun i h1 h2 => by simp only [fnd] at h2; omega, fun h => by simp only [fnd] at h; omega⟩
  | succ n ih =>
    intro a
    by_cases h : M a col = 0
    · have e : fnd M col (n + 1) a = fnd M col n (a + 1) := if_pos h
      rw [e]
      obtain ⟨h1, h2, h3, h4⟩ := ih (a + 1)
      refine ⟨by omega, by omega, fun i hi1 hi2 => ?_, fun h => h4 (by omega)⟩
      by_cases e2 : i = a
      · rw [e2, h]
      · exact h3 i (by omega) hi2
    · have e : fnd M col (n + 1) a = a := if_neg h
      rw [e]
      exact ⟨Nat.le_refl _, by omega, fun i h1 h2 => by omega, fun _ => h⟩
theorem fnd_eq {M : Nat → Nat → Rat} {col n a r : Nat} (h1 : a ≤ r) (h2 : r ≤ a + n) (h3 : ∀ i, a ≤ i → i < r → M i col = 0) (h4 : r < a + n → M r col ≠ 0) : fnd M col n a = r := by
  obtain ⟨g1, g2, g3, g4⟩ := fnd_spec M col n a
  by_cases e : fnd M col n a < r
  · exact absurd (h3 _ g1 e) (g4 (by omega))
  · by_cases e2 : r < fnd M col n a
    · exact absurd (g3 _ h1 e2) (h4 (by omega))
    · omega
/-- A table, and the columns of its steps. -/
structure GS where
  M : Nat → Nat → Rat
  st : List Nat
def gstep (R : Nat) (S : GS) (col : Nat) : GS :=
  if R ≤ S.st.length then S else
  if fnd S.M col (R - S.st.length) S.st.length = R then S else
  ⟨elim S.M S.st.length (fnd S.M col (R - S.st.length) S.st.length) col, S.st ++ [col]⟩
def gj (A : Nat → Nat → Rat) (R : Nat) : Nat → GS
  | 0 => ⟨A, []⟩
  | col + 1 => gstep R (gj A R col) col
theorem gstep_full {R : Nat} {S : GS} {col : Nat} (h : R ≤ S.st.length) : gstep R S col = S := if_pos h
theorem gstep_none {R : Nat} {S : GS} {col : Nat} (h2 : fnd S.M col (R - S.st.length) S.st.length = R) : gstep R S col = S := by
  unfold gstep
  rw [if_pos h2]
  split <;> rfl
theorem gstep_some {R : Nat} {S : GS} {col f : Nat} (hf : f < R) (h : S.st.length ≤ f) (h2 : fnd S.M col (R - S.st.length) S.st.length = f) : gstep R S col = ⟨elim S.M S.st.length f col, S.st ++ [col]⟩ := by
  unfold gstep
  rw [if_neg (by omega), h2, if_neg (by omega)]
theorem gj_full {A : Nat → Nat → Rat} {R col : Nat} (h : R ≤ (gj A R col).st.length) : ∀ m, gj A R (col + m) = gj A R col := by
  intro m
  induction m with
  | zero => rfl
  | succ m ih => rw [show col + (m + 1) = (col + m) + 1 from rfl, gj, ih, gstep_full h]
/-- What is true of a table after some columns. -/
structure Gok (A : Nat → Nat → Rat) (R C col : Nat) (S : GS) : Prop where
  gin : ∃ d σ, Gin A R C S.st.length (fun s => S.st.getD s 0) S.M d σ
  zero : ∀ i j, S.st.length ≤ i → i < R → j < col → S.M i j = 0
  mem : ∀ s, s < S.st.length → S.st.getD s 0 < col
  mono : ∀ s t, s < t → t < S.st.length → S.st.getD s 0 < S.st.getD t 0
theorem getD_snoc_lt {l : List Nat} {x s : Nat} (h : s < l.length) : (l ++ [x]).getD s 0 = l.getD s 0 := by
  simp only [List.getD_eq_getElem?_getD]
  rw [List.getElem?_append_left h]
theorem getD_snoc_at {l : List Nat} {x : Nat} : (l ++ [x]).getD l.length 0 = x := by
  simp only [List.getD_eq_getElem?_getD]
  rw [List.getElem?_append_right (Nat.le_refl _)]
  simp
theorem Gok.start (A : Nat → Nat → Rat) (R C : Nat) : Gok A R C 0 ⟨A, []⟩ :=
  ⟨⟨_, _, Gin.start A R C _⟩, fun i j _ _ h => by omega, fun s h => by simp at h, fun s t _ h => by simp at h⟩
theorem tau_ge {k f i : Nat} (hf : k ≤ f) (hi : k ≤ i) : k ≤ tau k f i := by unfold tau; split; exact hf; split <;> omega
theorem Gok.step {A : Nat → Nat → Rat} {R C col : Nat} {S : GS} (h : Gok A R C col S) (hc : col < C) : Gok A R C (col + 1) (gstep R S col) := by
  obtain ⟨d, σ, hg⟩ := h.gin
  by_cases h1 : R ≤ S.st.length
  · rw [gstep_full h1]
    exact ⟨h.gin, fun i j h2 h3 _ => by omega, fun s hs => by have := h.mem s hs; omega, h.mono⟩
  · obtain ⟨g1, g2, g3, g4⟩ := fnd_spec S.M col (R - S.st.length) S.st.length
    by_cases h2 : fnd S.M col (R - S.st.length) S.st.length = R
    · rw [gstep_none h2]
      refine ⟨h.gin, fun i j hi hR hj => ?_, fun s hs => by have := h.mem s hs; omega, h.mono⟩
      by_cases e : j = col
      · rw [e]; exact g3 i hi (by omega)
      · exact h.zero i j hi hR (by omega)
    · obtain ⟨f, hf⟩ : ∃ f, f = fnd S.M col (R - S.st.length) S.st.length := ⟨_, rfl⟩
      rw [← hf] at g1 g2 g3 g4 h2
      have hne := g4 (by omega)
      have hp := Rat.mul_inv_cancel _ hne
      rw [gstep_some (by omega) g1 hf.symm]
      have hl : (S.st ++ [col]).length = S.st.length + 1 := by simp
      refine ⟨⟨d * S.M f col, fun i => σ (tau S.st.length f i), ?_⟩, fun i j hi hR hj => ?_, fun s hs => ?_, fun s t hst ht => ?_⟩
      · show Gin A R C (S.st ++ [col]).length _ (elim S.M S.st.length f col) _ _
        rw [hl]
        exact hg.step (c' := fun s => (S.st ++ [col]).getD s 0) g1 (by omega) hc hne (fun s hs => getD_snoc_lt hs) getD_snoc_at
      · show elim S.M S.st.length f col i j = 0
        have hi' : S.st.length + 1 ≤ i := by
          have : (S.st ++ [col]).length ≤ i := hi
          omega
        rw [elim_else _ (by omega)]
        by_cases e : j = col
        · rw [e, hp]; grind
        · have hl2 : S.st.length < R := by omega
          rw [h.zero _ j (tau_ge g1 (by omega)) (tau_lt hl2 (by omega) hR) (by omega), h.zero f j g1 (by omega) (by omega)]; grind
      · show (S.st ++ [col]).getD s 0 < col + 1
        have hs' : s < S.st.length + 1 := by
          have : s < (S.st ++ [col]).length := hs
          omega
        by_cases e : s = S.st.length
        · rw [e, getD_snoc_at]; omega
        · rw [getD_snoc_lt (by omega)]; have := h.mem s (by omega); omega
      · show (S.st ++ [col]).getD s 0 < (S.st ++ [col]).getD t 0
        have ht' : t < S.st.length + 1 := by
          have : t < (S.st ++ [col]).length := ht
          omega
        rw [getD_snoc_lt (by omega)]
        by_cases e : t = S.st.length
        · rw [e, getD_snoc_at]; exact h.mem s (by omega)
        · rw [getD_snoc_lt (by omega)]; exact h.mono s t hst (by omega)
theorem gj_ok (A : Nat → Nat → Rat) (R C : Nat) : ∀ col, col ≤ C → Gok A R C col (gj A R col) := by
  intro col
  induction col with
  | zero => intro _; exact Gok.start A R C
  | succ col ih => intro h; exact (ih (by omega)).step (by omega)
theorem Gok.len {A : Nat → Nat → Rat} {R C col : Nat} {S : GS} (h : Gok A R C col S) : S.st.length ≤ R := by
  obtain ⟨d, σ, hg⟩ := h.gin
  exact hg.kr
/-- Steps only look at their columns. -/
theorem fnd_congr {M N : Nat → Nat → Rat} {col : Nat} : ∀ n a, (∀ i, a ≤ i → i < a + n → M i col = N i col) → fnd M col n a = fnd N col n a := by
  intro n
  induction n with
  | zero => intro a _; rfl
  | succ n ih =>
    intro a h
    show (if M a col = 0 then _ else _) = (if N a col = 0 then _ else _)
    rw [h a (Nat.le_refl _) (by omega), ih (a + 1) (fun i h1 h2 => h i (by omega) (by omega))]
theorem gj_prefix {A B : Nat → Nat → Rat} {R C : Nat} (h : ∀ i j, i < R → j < C → A i j = B i j) : ∀ col, col ≤ C → (gj A R col).st = (gj B R col).st ∧ ∀ i j, i < R → j < C → (gj A R col).M i j = (gj B R col).M i j := by
  intro col
  induction col with
  | zero => intro _; exact ⟨rfl, h⟩
  | succ col ih =>
    intro hc
    obtain ⟨e1, e2⟩ := ih (by omega)
    have hl := (gj_ok B R C col (by omega)).len
    rw [gj, gj]
    generalize gj A R col = S at e1 e2
    generalize gj B R col = T at e1 e2 hl
    by_cases h1 : R ≤ S.st.length
    · rw [gstep_full h1, gstep_full (by rw [← e1]; exact h1)]
      exact ⟨e1, e2⟩
    · obtain ⟨g1, g2, g3, g4⟩ := fnd_spec S.M col (R - S.st.length) S.st.length
      have ef : fnd S.M col (R - S.st.length) S.st.length = fnd T.M col (R - T.st.length) T.st.length := by
        rw [← e1]
        exact fnd_congr _ _ (fun i h1 h2 => e2 i col (by omega) (by omega))
      by_cases h2 : fnd S.M col (R - S.st.length) S.st.length = R
      · rw [gstep_none h2, gstep_none (by rw [← ef]; exact h2)]
        exact ⟨e1, e2⟩
      · rw [gstep_some (by omega) g1 rfl, gstep_some (f := fnd S.M col (R - S.st.length) S.st.length) (by omega) (by rw [← e1]; exact g1) ef.symm]
        refine ⟨by rw [e1], fun i j hi hj => ?_⟩
        show elim S.M S.st.length _ col i j = elim T.M T.st.length _ col i j
        rw [← e1]
        generalize fnd S.M col (R - S.st.length) S.st.length = f at g1 g2 g3 g4 h2
        have hf : f < R := by omega
        by_cases e : i = S.st.length
        · rw [e, elim_at, elim_at, e2 f j hf hj, e2 f col hf (by omega)]
        · have ht := tau_lt (k := S.st.length) (f := f) (i := i) (R := R) (by omega) hf hi
          rw [elim_else _ e, elim_else _ e, e2 f j hf hj, e2 f col hf (by omega), e2 _ j ht hj, e2 _ col ht (by omega)]
/-- The rows are sums of multiples of those at the start; the last columns tell the multiples. -/
def Comb (A : Nat → Nat → Rat) (R n : Nat) (M : Nat → Nat → Rat) : Prop := ∀ i j, i < R → M i j = sumN R (fun l => M i (n + 1 + l) * A l j)
theorem Comb.start {A : Nat → Nat → Rat} {R n : Nat} (h : ∀ i l, i < R → l < R → A i (n + 1 + l) = if l = i then 1 else 0) : Comb A R n A := by
  intro i j hi
  rw [sumN_one (p := i) hi]
  · rw [h i i hi hi, if_pos rfl]; grind
  · intro l hl hne
    rw [h i l hi hl, if_neg hne]; grind
theorem Comb.elim {A : Nat → Nat → Rat} {R n : Nat} {M : Nat → Nat → Rat} (h : Comb A R n M) {k f col : Nat} (hk : k < R) (hf : f < R) : Comb A R n (elim M k f col) := by
  intro i j hi
  have hF := h f j hf
  by_cases e : i = k
  · subst e
    rw [elim_at, hF, sumN_mul]
    exact sumN_congr (fun l _ => by rw [elim_at]; grind)
  · rw [elim_else _ e]
    have hT := h (tau k f i) j (tau_lt hk hf hi)
    have hs := sumN_lin (n := R) (f := fun l => Go.Proofs.Ytajckdheecgceaa.elim M k f col i (n + 1 + l) * A l j) (g := fun l => M (tau k f i) (n + 1 + l) * A l j) (h := fun l => M f (n + 1 + l) * A l j) (c := - (M (tau k f i) col * (M f col)⁻¹))
      (fun l _ => by
        show Go.Proofs.Ytajckdheecgceaa.elim M k f col i (n + 1 + l) * A l j = M (tau k f i) (n + 1 + l) * A l j + - (M (tau k f i) col * (M f col)⁻¹) * (M f (n + 1 + l) * A l j)
        rw [elim_else _ e]; grind)
    rw [hs, ← hT, ← hF]
    grind
/-- Numbers solve the equations. -/
def Sol (R n : Nat) (M : Nat → Nat → Rat) (x : Nat → Rat) : Prop := ∀ i, i < R → sumN n (fun j => M i j * x j) = M i n
theorem Sol.elim {R n : Nat} {M : Nat → Nat → Rat} {x : Nat → Rat} {k f col : Nat} (hk : k < R) (hf : f < R) (hne : M f col ≠ 0) : Sol R n (elim M k f col) x ↔ Sol R n M x := by
  have hp := Rat.mul_inv_cancel _ hne
  have e1 : sumN n (fun j => Go.Proofs.Ytajckdheecgceaa.elim M k f col k j * x j) = sumN n (fun j => M f j * x j) * (M f col)⁻¹ := by
    rw [sumN_mul]
    exact sumN_congr (fun j _ => by rw [elim_at]; grind)
  have e2 : ∀ i, i ≠ k → sumN n (fun j => Go.Proofs.Ytajckdheecgceaa.elim M k f col i j * x j) = sumN n (fun j => M (tau k f i) j * x j) + - (M (tau k f i) col * (M f col)⁻¹) * sumN n (fun j => M f j * x j) := fun i hi =>
    sumN_lin (fun j _ => by rw [elim_else _ hi]; grind)
  constructor
  · intro h i hi
    have hk' := h k hk
    rw [e1, elim_at] at hk'
    have hF : sumN n (fun j => M f j * x j) = M f n := by
      have : sumN n (fun j => M f j * x j) * (M f col)⁻¹ * M f col = M f n * (M f col)⁻¹ * M f col := by rw [hk']
      grind
    by_cases ei : i = f
    · rw [ei, hF]
    · have hne2 : tau k f i ≠ k := by
        intro h
        have := tau_tau k f i
        rw [h, tau_k] at this
        exact ei this.symm
      have h2 := h (tau k f i) (tau_lt hk hf hi)
      rw [e2 _ hne2, elim_else _ hne2, tau_tau, hF] at h2
      grind
  · intro h i hi
    have hF := h f hf
    by_cases ei : i = k
    · rw [ei, e1, elim_at, hF]
    · rw [e2 _ ei, elim_else _ ei, h _ (tau_lt hk hf hi), hF]; grind
theorem gj_keep {A : Nat → Nat → Rat} {R : Nat} (P : (Nat → Nat → Rat) → Prop) (h0 : P A) (h1 : ∀ M k f col, P M → k < R → f < R → M f col ≠ 0 → P (elim M k f col)) : ∀ col, P (gj A R col).M := by
  intro col
  induction col with
  | zero => exact h0
  | succ col ih =>
    rw [gj]
    generalize gj A R col = S at ih
    by_cases h2 : R ≤ S.st.length
    · rw [gstep_full h2]; exact ih
    · obtain ⟨g1, g2, g3, g4⟩ := fnd_spec S.M col (R - S.st.length) S.st.length
      by_cases h3 : fnd S.M col (R - S.st.length) S.st.length = R
      · rw [gstep_none h3]; exact ih
      · rw [gstep_some (by omega) g1 rfl]
        exact h1 _ _ _ _ ih (by omega) (by omega) (g4 (by omega))
theorem gj_comb {A : Nat → Nat → Rat} {R n : Nat} (h : Comb A R n A) (col : Nat) : Comb A R n (gj A R col).M := gj_keep (Comb A R n) h (fun M k f col hM hk hf _ => hM.elim hk hf) col
theorem gj_sol {A : Nat → Nat → Rat} {R n : Nat} {x : Nat → Rat} (col : Nat) : Sol R n (gj A R col).M x ↔ Sol R n A x :=
  gj_keep (A := A) (fun M => Sol R n M x ↔ Sol R n A x) Iff.rfl (fun M k f col hM hk hf hne => (Sol.elim hk hf hne).trans hM) col
/-- The solution that is told. -/
def xs (S : GS) (n : Nat) : Nat → Nat → Rat
  | 0, _ => 0
  | k + 1, j => if j = S.st.getD k 0 then S.M k n else xs S n k j
theorem xs_sum {S : GS} {n : Nat} (g : Nat → Rat) (hm : ∀ s, s < S.st.length → S.st.getD s 0 < n) (hi : ∀ s t, s < t → t < S.st.length → S.st.getD s 0 < S.st.getD t 0) : ∀ k, k ≤ S.st.length →
    (∀ j, (∀ s, s < k → j ≠ S.st.getD s 0) → xs S n k j = 0) ∧ sumN n (fun j => g j * xs S n k j) = sumN k (fun s => g (S.st.getD s 0) * S.M s n) := by
  intro k
  induction k with
  | zero => intro _; exact ⟨fun j _ => rfl, sumN_zero (fun j _ => by show g j * 0 = 0; grind)⟩
  | succ k ih =>
    intro hk
    obtain ⟨i1, i2⟩ := ih (by omega)
    refine ⟨fun j hj => ?_, ?_⟩
    · show (if j = S.st.getD k 0 then S.M k n else xs S n k j) = 0
      rw [if_neg (hj k (by omega))]
      exact i1 j (fun s hs => hj s (by omega))
    · rw [sumN, ← i2]
      have hz : xs S n k (S.st.getD k 0) = 0 := i1 _ (fun s hs h => by have := hi s k hs (by omega); omega)
      have hs := sumN_lin (n := n) (f := fun j => g j * xs S n (k + 1) j) (g := fun j => g j * xs S n k j) (h := fun j => if j = S.st.getD k 0 then g j * S.M k n else 0) (c := 1) (fun j _ => by
        show g j * (if j = S.st.getD k 0 then S.M k n else xs S n k j) = g j * xs S n k j + 1 * (if j = S.st.getD k 0 then g j * S.M k n else 0)
        by_cases e : j = S.st.getD k 0
        · rw [if_pos e, if_pos e, e, hz]; grind
        · rw [if_neg e, if_neg e]; grind)
      rw [hs, sumN_one (n := n) (p := S.st.getD k 0) (hm k (by omega)) (fun j _ hne => if_neg hne)]
      rw [if_pos rfl]
      grind
/-- There is a solution. -/
def gjok (S : GS) (R n : Nat) : Prop := ∀ i, S.st.length ≤ i → i < R → S.M i n = 0
theorem gj_solves {A : Nat → Nat → Rat} {R C n : Nat} (hn : n ≤ C) (h : gjok (gj A R n) R n) : Sol R n A (xs (gj A R n) n (gj A R n).st.length) := by
  have hok := gj_ok A R C n hn
  rw [← gj_sol n]
  intro i hi
  obtain ⟨d, σ, hg⟩ := hok.gin
  rw [(xs_sum (fun j => (gj A R n).M i j) hok.mem hok.mono _ (Nat.le_refl _)).2]
  by_cases e : i < (gj A R n).st.length
  · rw [sumN_one (p := i) e]
    · rw [hg.unit i i hi e, if_pos rfl]; grind
    · intro s hs hne
      rw [hg.unit i s hi hs, if_neg (fun h => hne h.symm)]; grind
  · rw [h i (by omega) hi]
    apply sumN_zero
    intro s hs
    rw [hg.unit i s hi hs, if_neg (by omega)]; grind
theorem gj_none {A : Nat → Nat → Rat} {R C n i : Nat} (hn : n ≤ C) (hA : ∀ i l, i < R → l < R → A i (n + 1 + l) = if l = i then 1 else 0) (hi1 : (gj A R n).st.length ≤ i) (hi : i < R) (hne : (gj A R n).M i n ≠ 0) :
    (∀ j, j < n → sumN R (fun l => (gj A R n).M i (n + 1 + l) * A l j) = 0) ∧ sumN R (fun l => (gj A R n).M i (n + 1 + l) * A l n) ≠ 0 := by
  have hok := gj_ok A R C n hn
  have hc := gj_comb (Comb.start hA) n
  exact ⟨fun j hj => by rw [← hc i j hi]; exact hok.zero i j hi1 hi hj, by rw [← hc i n hi]; exact hne⟩
theorem gj_yes {A : Nat → Nat → Rat} {R C n : Nat} (hn : n ≤ C) {z : Nat → Rat} (h : Sol R n A z) : gjok (gj A R n) R n := by
  have hok := gj_ok A R C n hn
  intro i hi1 hi
  rw [← (gj_sol n).2 h i hi]
  exact sumN_zero (fun j hj => by rw [hok.zero i j hi1 hi hj]; grind)
theorem sumN_add {n : Nat} {f g : Nat → Rat} : sumN n (fun i => f i + g i) = sumN n f + sumN n g := by
  rw [sumN_lin (c := 1) (g := f) (h := g) (fun i _ => by grind)]; grind
theorem sumN_swap {n m : Nat} {f : Nat → Nat → Rat} : sumN n (fun i => sumN m (fun j => f i j)) = sumN m (fun j => sumN n (fun i => f i j)) := by
  induction n with
  | zero => exact (sumN_zero (fun j _ => rfl)).symm
  | succ n ih => rw [sumN, ih, ← sumN_add]; rfl
theorem gj_no {A : Nat → Nat → Rat} {R n : Nat} {z : Nat → Rat} {x : Nat → Rat} (hx : Sol R n A x) (h1 : ∀ j, j < n → sumN R (fun l => z l * A l j) = 0) : sumN R (fun l => z l * A l n) = 0 := by
  have e1 : sumN R (fun l => z l * A l n) = sumN R (fun l => sumN n (fun j => z l * A l j * x j)) := sumN_congr (fun l hl => by
    rw [← hx l hl, Rat.mul_comm, sumN_mul]
    exact sumN_congr (fun j _ => by grind))
  rw [e1, sumN_swap]
  apply sumN_zero
  intro j hj
  have : sumN R (fun l => z l * A l j * x j) = sumN R (fun l => z l * A l j) * x j := sumN_mul.symm
  rw [this, h1 j hj]; grind

end Go.Proofs.Ytajckdheecgceaa
