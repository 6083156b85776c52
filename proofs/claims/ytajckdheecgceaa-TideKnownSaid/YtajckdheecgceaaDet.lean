/- Determinants, plain: what a table of fractions becomes when its rows are swapped, scaled and taken from one another. -/
set_option linter.unusedVariables false
set_option linter.unusedSimpArgs false
namespace Go.Proofs.Ytajckdheecgceaa

/-- The sum of the first ones. -/
def sumN : Nat → (Nat → Rat) → Rat
  | 0, _ => 0
  | n + 1, f => sumN n f + f n
theorem sumN_congr {n : Nat} {f g : Nat → Rat} (h : ∀ i, i < n → f i = g i) : sumN n f = sumN n g := by
  induction n with
  | zero => rfl
  | succ n ih => rw [sumN, sumN, ih (fun i hi => h i (by omega)), h n (by omega)]
theorem sumN_zero {n : Nat} {f : Nat → Rat} (h : ∀ i, i < n → f i = 0) : sumN n f = 0 := by
  induction n with
  | zero => rfl
  | succ n ih => rw [sumN, ih (fun i hi => h i (by omega)), h n (by omega)]; grind
theorem sumN_lin {n : Nat} {f g h : Nat → Rat} {c : Rat} (e : ∀ i, i < n → f i = g i + c * h i) : sumN n f = sumN n g + c * sumN n h := by
  induction n with
  | zero => simp only [sumN]; grind
  | succ n ih => rw [sumN, sumN, sumN, ih (fun i hi => e i (by omega)), e n (by omega)]; grind
theorem sumN_one {n p : Nat} {f : Nat → Rat} (hp : p < n) (h : ∀ i, i < n → i ≠ p → f i = 0) : sumN n f = f p := by
  induction n with
  | zero => omega
  | succ n ih =>
    rw [sumN]
    by_cases e : p = n
    · subst e
      rw [sumN_zero (fun i hi => h i (by omega) (by omega))]; grind
    · rw [ih (by omega) (fun i hi hne => h i (by omega) hne), h n (by omega) (fun h => e h.symm)]; grind
theorem sumN_two {n p : Nat} {f : Nat → Rat} (hp : p + 1 < n) (h : ∀ i, i < n → i ≠ p → i ≠ p + 1 → f i = 0) : sumN n f = f p + f (p + 1) := by
  induction n with
  | zero => omega
  | succ n ih =>
    rw [sumN]
    by_cases e : p + 1 = n
    · subst e
      rw [sumN_one (p := p) (by omega) (fun i hi hne => h i (by omega) hne (by omega))]
    · rw [ih (by omega) (fun i hi h1 h2 => h i (by omega) h1 h2), h n (by omega) (by omega) (fun h => e h.symm)]; grind
theorem sumN_mul {n : Nat} {f : Nat → Rat} {c : Rat} : sumN n f * c = sumN n (fun i => f i * c) := by
  induction n with
  | zero => simp only [sumN]; grind
  | succ n ih => rw [sumN, sumN, ← ih]; grind
/-- A sign. -/
def sg : Nat → Rat
  | 0 => 1
  | n + 1 => - sg n
/-- The places but one. -/
def skip (i r : Nat) : Nat := if r < i then r else r + 1
def unskip (i p : Nat) : Nat := if p < i then p else p - 1
theorem skip_ne (i r : Nat) : skip i r ≠ i := by unfold skip; split <;> omega
theorem skip_lt {i r n : Nat} (hr : r < n) : skip i r < n + 1 := by unfold skip; split <;> omega
theorem skip_iff {i p r : Nat} (h : i ≠ p) : skip i r = p ↔ r = unskip i p := by unfold skip unskip; split <;> split <;> omega
theorem unskip_lt {i p n : Nat} (h : i ≠ p) (hi : i < n + 1) (hp : p < n + 1) : unskip i p < n := by unfold unskip; split <;> omega
/-- The determinant, by the first column. -/
def det : Nat → (Nat → Nat → Rat) → Rat
  | 0, _ => 1
  | n + 1, A => sumN (n + 1) (fun i => sg i * A i 0 * det n (fun r s => A (skip i r) (s + 1)))
theorem det_succ (n : Nat) (A : Nat → Nat → Rat) : det (n + 1) A = sumN (n + 1) (fun i => sg i * A i 0 * det n (fun r s => A (skip i r) (s + 1))) := rfl
theorem det_congr {n : Nat} : ∀ {A B : Nat → Nat → Rat}, (∀ r s, r < n → s < n → A r s = B r s) → det n A = det n B := by
  induction n with
  | zero => intro A B _; rfl
  | succ n ih =>
    intro A B h
    rw [det_succ, det_succ]
    apply sumN_congr
    intro i hi
    rw [h i 0 hi (by omega), ih (fun r s hr hs => h _ _ (skip_lt hr) (by omega))]
/-- Another row. -/
def setR (A : Nat → Nat → Rat) (p : Nat) (u : Nat → Rat) : Nat → Nat → Rat := fun r s => if r = p then u s else A r s
theorem setR_skip {A : Nat → Nat → Rat} {p i : Nat} {u : Nat → Rat} (h : i ≠ p) : (fun r s => setR A p u (skip i r) (s + 1)) = setR (fun r s => A (skip i r) (s + 1)) (unskip i p) (fun s => u (s + 1)) := by
  funext r s
  unfold setR
  by_cases e : r = unskip i p
  · rw [if_pos e, if_pos ((skip_iff h).2 e)]
  · rw [if_neg e, if_neg (fun h2 => e ((skip_iff h).1 h2))]
theorem setR_skip_same {A : Nat → Nat → Rat} {p : Nat} {u : Nat → Rat} : (fun r s => setR A p u (skip p r) (s + 1)) = (fun r s => A (skip p r) (s + 1)) := by
  funext r s
  unfold setR
  rw [if_neg (skip_ne p r)]
theorem det_lin {n : Nat} : ∀ {A : Nat → Nat → Rat} {p : Nat} {u v : Nat → Rat} {c : Rat}, p < n → det n (setR A p (fun s => u s + c * v s)) = det n (setR A p u) + c * det n (setR A p v) := by
  induction n with
  | zero => intro A p u v c h; omega
  | succ n ih =>
    intro A p u v c hp
    rw [det_succ, det_succ, det_succ]
    apply sumN_lin
    intro i hi
    by_cases e : i = p
    · subst e
      rw [setR_skip_same, setR_skip_same, setR_skip_same]
      have : ∀ w : Nat → Rat, setR A i w i 0 = w 0 := fun w => by unfold setR; rw [if_pos rfl]
      rw [this, this, this]
      grind
    · rw [setR_skip e, setR_skip e, setR_skip e, ih (unskip_lt e hi hp)]
      have : ∀ w : Nat → Rat, setR A p w i 0 = A i 0 := fun w => by unfold setR; rw [if_neg e]
      rw [this, this, this]
      grind
theorem det_adj {n : Nat} : ∀ {A : Nat → Nat → Rat} {p : Nat}, p + 1 < n → (∀ s, A p s = A (p + 1) s) → det n A = 0 := by
  induction n with
  | zero => intro A p h; omega
  | succ n ih =>
    intro A p hp h
    rw [det_succ, sumN_two hp]
    · have e : (fun r s => A (skip p r) (s + 1)) = (fun r s => A (skip (p + 1) r) (s + 1)) := by
        funext r s
        by_cases hr : r = p
        · subst hr
          have h1 : skip r r = r + 1 := by unfold skip; split <;> omega
          have h2 : skip (r + 1) r = r := by unfold skip; split <;> omega
          rw [h1, h2, h]
        · have h1 : skip p r = skip (p + 1) r := by unfold skip; split <;> split <;> omega
          rw [h1]
      rw [e, h 0, show sg (p + 1) = - sg p from rfl]
      grind
    · intro i hi h1 h2
      rw [ih (A := fun r s => A (skip i r) (s + 1)) (p := unskip i p)]
      · grind
      · unfold unskip; split <;> omega
      · intro s
        have a1 : skip i (unskip i p) = p := (skip_iff h1).2 rfl
        have a2 : skip i (unskip i p + 1) = p + 1 := by unfold skip unskip; split <;> split <;> omega
        rw [a1, a2, h]
theorem setR_self {A : Nat → Nat → Rat} {p : Nat} : setR A p (A p) = A := by
  funext r s
  unfold setR
  split
  · rename_i h; rw [h]
  · rfl
theorem setR_comm {A : Nat → Nat → Rat} {p q : Nat} {u v : Nat → Rat} (h : p ≠ q) : setR (setR A p u) q v = setR (setR A q v) p u := by
  funext r s
  unfold setR
  by_cases h1 : r = q
  · rw [if_pos h1, if_neg (fun h2 => h (h2.symm.trans h1)), if_pos h1]
  · rw [if_neg h1]
    by_cases h2 : r = p
    · rw [if_pos h2, if_pos h2]
    · rw [if_neg h2, if_neg h2, if_neg h1]
theorem add_one_mul (x y : Nat → Rat) : (fun s => x s + y s) = (fun s => x s + 1 * y s) := by funext s; grind
/-- Two neighbours changed. -/
def tr (p r : Nat) : Nat := if r = p then p + 1 else if r = p + 1 then p else r
theorem det_tr {n p : Nat} {A : Nat → Nat → Rat} (hp : p + 1 < n) : det n (fun r s => A (tr p r) s) = - det n A := by
  have hB : ∀ u v : Nat → Rat, det n (setR (setR A p u) (p + 1) v) = det n (setR (setR A p u) (p + 1) v) := fun _ _ => rfl
  have h0 : ∀ u : Nat → Rat, det n (setR (setR A p u) (p + 1) u) = 0 := fun u => det_adj hp (fun s => by
    unfold setR
    rw [if_neg (by omega), if_pos rfl, if_pos rfl])
  have h1 := h0 (fun s => A p s + A (p + 1) s)
  rw [add_one_mul (A p) (A (p + 1)), det_lin (by omega), setR_comm (by omega), det_lin (by omega), setR_comm (p := p) (q := p + 1) (by omega)] at h1
  rw [det_lin (by omega)] at h1
  have e1 : setR (setR A (p + 1) (A p)) p (A p) = setR (setR A p (A p)) (p + 1) (A p) := (setR_comm (by omega)).symm
  have e2 : setR (setR A (p + 1) (A (p + 1))) p (A (p + 1)) = setR (setR A p (A (p + 1))) (p + 1) (A (p + 1)) := (setR_comm (by omega)).symm
  have e3 : setR (setR A (p + 1) (A p)) p (A (p + 1)) = (fun r s => A (tr p r) s) := by
    funext r s
    unfold setR tr
    by_cases h1 : r = p
    · rw [if_pos h1, if_pos h1]
    · rw [if_neg h1, if_neg h1]
      by_cases h2 : r = p + 1
      · rw [if_pos h2, if_pos h2]
      · rw [if_neg h2, if_neg h2]
  have e4 : setR (setR A (p + 1) (A (p + 1))) p (A p) = A := by rw [setR_self, setR_self]
  have z1 := h0 (A p)
  have z2 := h0 (A (p + 1))
  rw [← e1] at z1
  rw [← e2] at z2
  rw [e3, e4] at h1
  grind
theorem det_rows {n : Nat} : ∀ (d : Nat) {A : Nat → Nat → Rat} {p : Nat}, p + d + 1 < n → (∀ s, A p s = A (p + d + 1) s) → det n A = 0 := by
  intro d
  induction d with
  | zero => intro A p hp h; exact det_adj hp h
  | succ d ih =>
    intro A p hp h
    have h1 := det_tr (n := n) (p := p + d + 1) (A := A) (by omega)
    have h2 : det n (fun r s => A (tr (p + d + 1) r) s) = 0 := by
      refine ih (p := p) (by omega) fun s => ?_
      have a1 : tr (p + d + 1) p = p := by unfold tr; rw [if_neg (by omega), if_neg (by omega)]
      have a2 : tr (p + d + 1) (p + d + 1) = p + (d + 1) + 1 := by unfold tr; rw [if_pos rfl]; omega
      rw [a1, a2, h]
    grind
theorem det_same {n p q : Nat} {A : Nat → Nat → Rat} (hp : p < n) (hq : q < n) (hne : p ≠ q) (h : ∀ s, A p s = A q s) : det n A = 0 := by
  by_cases hlt : p < q
  · exact det_rows (q - p - 1) (p := p) (by omega) (fun s => by rw [h, show p + (q - p - 1) + 1 = q by omega])
  · exact det_rows (p - q - 1) (p := q) (by omega) (fun s => by rw [← h, show q + (p - q - 1) + 1 = p by omega])
theorem det_add {n p q : Nat} {A : Nat → Nat → Rat} {c : Rat} (hp : p < n) (hq : q < n) (hne : p ≠ q) : det n (setR A p (fun s => A p s + c * A q s)) = det n A := by
  rw [det_lin hp, setR_self, det_same (A := setR A p (A q)) hp hq hne]
  · grind
  · intro s
    unfold setR
    rw [if_pos rfl, if_neg (fun h => hne h.symm)]
theorem det_zero {n p : Nat} {A : Nat → Nat → Rat} (hp : p < n) (h : ∀ s, A p s = 0) : det n A = 0 := by
  have h1 := det_lin (A := A) (p := p) (u := A p) (v := A p) (c := 1) hp
  have e : (fun s => A p s + 1 * A p s) = A p := by funext s; rw [h]; grind
  rw [e, setR_self] at h1
  grind
theorem det_scale {n p : Nat} {A : Nat → Nat → Rat} {c : Rat} (hp : p < n) : det n (setR A p (fun s => c * A p s)) = c * det n A := by
  have h1 := det_lin (A := A) (p := p) (u := fun _ => 0) (v := A p) (c := c) hp
  have e : (fun s => (0 : Rat) + c * A p s) = (fun s => c * A p s) := by funext s; grind
  rw [e, setR_self, det_zero (A := setR A p (fun _ => 0)) hp (fun s => by unfold setR; rw [if_pos rfl])] at h1
  grind
theorem det_zeroL {n p : Nat} {A : Nat → Nat → Rat} (hp : p < n) (h : ∀ s, s < n → A p s = 0) : det n A = 0 := by
  rw [det_congr (B := setR A p (fun _ => 0)) (fun r s hr hs => by
    unfold setR
    split
    · rename_i e; rw [e, h s hs]
    · rfl)]
  exact det_zero hp (fun s => by unfold setR; rw [if_pos rfl])
/-- Multiples of one row are taken from all others. -/
theorem det_less {n k : Nat} {A : Nat → Nat → Rat} {m : Nat → Rat} (hk : k < n) : det n (fun r s => if r ≠ k then A r s - m r * A k s else A r s) = det n A := by
  have hC : ∀ j, j ≤ n → det n (fun r s => if r < j ∧ r ≠ k then A r s - m r * A k s else A r s) = det n A := by
    intro j
    induction j with
    | zero => intro _; exact det_congr (fun r s _ _ => by rw [if_neg (fun h => absurd h.1 (by omega))])
    | succ j ih =>
      intro hj
      rw [← ih (by omega)]
      by_cases e : j = k
      · apply det_congr
        intro r s _ _
        by_cases h : r < j ∧ r ≠ k
        · rw [if_pos h, if_pos ⟨by omega, h.2⟩]
        · rw [if_neg h, if_neg (fun h2 => h ⟨by omega, h2.2⟩)]
      · rw [← det_add (A := fun r s => if r < j ∧ r ≠ k then A r s - m r * A k s else A r s) (p := j) (q := k) (c := - m j) (by omega) hk e]
        apply det_congr
        intro r s _ _
        unfold setR
        by_cases h1 : r = j
        · subst h1
          simp [e]
          grind
        · rw [if_neg h1]
          show (if r < j + 1 ∧ r ≠ k then A r s - m r * A k s else A r s) = (if r < j ∧ r ≠ k then A r s - m r * A k s else A r s)
          by_cases h : r < j ∧ r ≠ k
          · rw [if_pos h, if_pos ⟨by omega, h.2⟩]
          · rw [if_neg h, if_neg (fun h2 => h ⟨by omega, h2.2⟩)]
  rw [← hC n (Nat.le_refl _)]
  apply det_congr
  intro r s hr _
  by_cases h : r ≠ k
  · rw [if_pos h, if_pos ⟨hr, h⟩]
  · rw [if_neg h, if_neg (fun h2 => h h2.2)]
/-- One row is scaled, and multiples of it are taken from the others. -/
theorem det_step {n k : Nat} {A B : Nat → Nat → Rat} {a : Rat} {m : Nat → Rat} (hk : k < n) (h1 : ∀ s, B k s = a * A k s) (h2 : ∀ r s, r < n → r ≠ k → B r s = A r s - m r * B k s) : det n B = a * det n A := by
  rw [← det_scale hk, ← det_less (A := setR A k (fun s => a * A k s)) (m := m) hk]
  apply det_congr
  intro r s hr _
  unfold setR
  by_cases h : r = k
  · subst h; simp [h1]
  · rw [if_pos h, if_neg h, if_pos rfl, h2 r s hr h, h1]
theorem det_corner {n : Nat} {A : Nat → Nat → Rat} (h : ∀ r, 0 < r → r < n + 1 → A r 0 = 0) : det (n + 1) A = A 0 0 * det n (fun r s => A (r + 1) (s + 1)) := by
  rw [det_succ, sumN_one (p := 0) (by omega)]
  · have e : (fun r s => A (skip 0 r) (s + 1)) = (fun r s => A (r + 1) (s + 1)) := by funext r s; rfl
    rw [e, show sg 0 = 1 from rfl]
    grind
  · intro i hi h0
    rw [h i (by omega) hi]
    grind
theorem det_id {n : Nat} : ∀ {A : Nat → Nat → Rat}, (∀ r s, r < n → s < n → A r s = if r = s then 1 else 0) → det n A = 1 := by
  induction n with
  | zero => intro A _; rfl
  | succ n ih =>
    intro A h
    rw [det_corner (fun r h0 hr => by rw [h r 0 hr (by omega), if_neg (by omega)]), ih, h 0 0 (by omega) (by omega)]
    · simp
    · intro r s hr hs
      rw [h _ _ (by omega) (by omega)]
      by_cases e : r = s
      · rw [if_pos e, if_pos (by omega)]
      · rw [if_neg e, if_neg (by omega)]
/-- All columns but one are those of the unit table. -/
theorem det_unit {n : Nat} : ∀ {j : Nat} {A : Nat → Nat → Rat}, j < n → (∀ r s, r < n → s < n → s ≠ j → A r s = if r = s then 1 else 0) → det n A = A j j := by
  induction n with
  | zero => intro j A h; omega
  | succ n ih =>
    intro j A hj h
    by_cases h0 : j = 0
    · subst h0
      rw [det_succ, sumN_one (p := 0) (by omega)]
      · have e : (fun r s => A (skip 0 r) (s + 1)) = (fun r s => A (r + 1) (s + 1)) := by funext r s; rfl
        rw [e, det_id]
        · rw [show sg 0 = 1 from rfl]; grind
        · intro r s hr hs
          rw [h _ _ (by omega) (by omega) (by omega)]
          by_cases e : r = s
          · rw [if_pos e, if_pos (by omega)]
          · rw [if_neg e, if_neg (by omega)]
      · intro i hi hi0
        rw [det_zeroL (p := 0) (A := fun r s => A (skip i r) (s + 1)) (by omega)]
        · grind
        · intro s hs
          have : skip i 0 = 0 := by unfold skip; rw [if_pos (by omega)]
          rw [this, h 0 (s + 1) (by omega) (by omega) (by omega), if_neg (by omega)]
    · rw [det_corner (fun r h1 hr => by rw [h r 0 hr (by omega) (by omega), if_neg (by omega)]), h 0 0 (by omega) (by omega) (by omega), ih (j := j - 1) (by omega)]
      · simp
        rw [show j - 1 + 1 = j by omega]
      · intro r s hr hs hne
        rw [h _ _ (by omega) (by omega) (by omega)]
        by_cases e : r = s
        · rw [if_pos e, if_pos (by omega)]
        · rw [if_neg e, if_neg (by omega)]

end Go.Proofs.Ytajckdheecgceaa
