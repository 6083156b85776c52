/- Elimination, plain: one step, and that what stands in the table is a quotient of determinants. -/
import Derived.Test.YtajckdheecgceaaDet
set_option linter.unusedVariables false
set_option linter.unusedSimpArgs false
namespace Go.Proofs.Ytajckdheecgceaa

/-- Two places changed. -/
def tau (k f i : Nat) : Nat := if i = k then f else if i = f then k else i
theorem tau_lt {k f i R : Nat} (hk : k < R) (hf : f < R) (hi : i < R) : tau k f i < R := by unfold tau; split; exact hf; split <;> assumption
theorem tau_k (k f : Nat) : tau k f k = f := by unfold tau; rw [if_pos rfl]
theorem tau_low {k f r : Nat} (h : r < k) (hf : k ≤ f) : tau k f r = r := by unfold tau; rw [if_neg (by omega), if_neg (by omega)]
theorem tau_tau (k f i : Nat) : tau k f (tau k f i) = i := by unfold tau; split <;> (try split) <;> (try split) <;> omega
/-- One step of elimination. -/
def elim (M : Nat → Nat → Rat) (k f col : Nat) : Nat → Nat → Rat := fun i j =>
  if i = k then M f j * (M f col)⁻¹ else M (tau k f i) j - M (tau k f i) col * (M f j * (M f col)⁻¹)
theorem elim_at (M : Nat → Nat → Rat) (k f col j : Nat) : elim M k f col k j = M f j * (M f col)⁻¹ := if_pos rfl
theorem elim_else {M : Nat → Nat → Rat} {k f col i : Nat} (j : Nat) (h : i ≠ k) : elim M k f col i j = M (tau k f i) j - M (tau k f i) col * (M f j * (M f col)⁻¹) := if_neg h
/-- What stands in a table after some steps. -/
structure Gin (A : Nat → Nat → Rat) (R C k : Nat) (c : Nat → Nat) (M : Nat → Nat → Rat) (d : Rat) (σ : Nat → Nat) : Prop where
  nz : d ≠ 0
  kr : k ≤ R
  perm : ∀ i, i < R → σ i < R
  cols : ∀ s, s < k → c s < C
  unit : ∀ i s, i < R → s < k → M i (c s) = if i = s then 1 else 0
  dets : ∀ (n : Nat) (g f : Nat → Nat), k ≤ n → (∀ r, r < k → g r = r) → (∀ r, r < n → g r < R) → det n (fun r s => M (g r) (f s)) * d = det n (fun r s => A (σ (g r)) (f s))
theorem Gin.start (A : Nat → Nat → Rat) (R C : Nat) (c : Nat → Nat) : Gin A R C 0 c A 1 (fun i => i) :=
  ⟨by decide, by omega, fun i h => h, fun s h => by omega, fun i s _ h => by omega, fun n g f _ _ _ => by grind⟩
theorem Gin.step {A : Nat → Nat → Rat} {R C k : Nat} {c : Nat → Nat} {M : Nat → Nat → Rat} {d : Rat} {σ : Nat → Nat} (h : Gin A R C k c M d σ) {f col : Nat} (hkf : k ≤ f) (hf : f < R) (hc : col < C) (hne : M f col ≠ 0) {c' : Nat → Nat} (hc1 : ∀ s, s < k → c' s = c s) (hc2 : c' k = col) :
    Gin A R C (k + 1) c' (elim M k f col) (d * M f col) (fun i => σ (tau k f i)) := by
  have hp := Rat.mul_inv_cancel _ hne
  refine ⟨fun h0 => ?_, by omega, fun i hi => h.perm _ (tau_lt (by omega) hf hi), fun s hs => ?_, fun i s hi hs => ?_, fun n g fc hkn hg hgR => ?_⟩
  · rcases Rat.mul_eq_zero.1 h0 with h0 | h0
    · exact h.nz h0
    · exact hne h0
  · by_cases e : s = k
    · rw [e, hc2]; exact hc
    · rw [hc1 s (by omega)]; exact h.cols s (by omega)
  · by_cases e : s = k
    · rw [e, hc2]
      by_cases ei : i = k
      · rw [ei, elim_at, if_pos rfl, hp]
      · rw [elim_else _ ei, if_neg ei, hp]; grind
    · rw [hc1 s (by omega)]
      have hs' : s < k := by omega
      have e1 := h.unit f s hf hs'
      rw [if_neg (by omega)] at e1
      by_cases ei : i = k
      · rw [ei, elim_at, e1, if_neg (by omega)]; grind
      · rw [elim_else _ ei, e1, h.unit _ s (tau_lt (by omega) hf hi) hs']
        have e2 : (tau k f i = s) ↔ i = s := by unfold tau; rw [if_neg ei]; split <;> omega
        by_cases e3 : i = s
        · rw [if_pos e3, if_pos (e2.2 e3)]; grind
        · rw [if_neg e3, if_neg (fun h => e3 (e2.1 h))]; grind
  · have hgk := hg k (by omega)
    have h1 := det_step (n := n) (k := k) (A := fun r s => M (tau k f (g r)) (fc s)) (B := fun r s => elim M k f col (g r) (fc s)) (a := (M f col)⁻¹)
      (m := fun r => if g r = k then M f col - 1 else M (tau k f (g r)) col) (by omega) (fun s => by
        show elim M k f col (g k) (fc s) = (M f col)⁻¹ * M (tau k f (g k)) (fc s)
        rw [hgk, elim_at, tau_k]; grind) (fun r s hr hne => by
        show elim M k f col (g r) (fc s) = M (tau k f (g r)) (fc s) - (if g r = k then M f col - 1 else M (tau k f (g r)) col) * elim M k f col (g k) (fc s)
        rw [hgk, elim_at]
        by_cases e : g r = k
        · rw [if_pos e, e, elim_at, tau_k]; grind
        · rw [if_neg e, elim_else _ e])
    have h2 := h.dets n (fun r => tau k f (g r)) fc (by omega) (fun r hr => by
      show tau k f (g r) = r
      rw [hg r (by omega), tau_low hr hkf]) (fun r hr => tau_lt (by omega) hf (hgR r hr))
    rw [h1]
    grind
/-- What stands in the rows that are no step's. -/
theorem Gin.low {A : Nat → Nat → Rat} {R C k : Nat} {c : Nat → Nat} {M : Nat → Nat → Rat} {d : Rat} {σ : Nat → Nat} (h : Gin A R C k c M d σ) {i j : Nat} (hk : k ≤ i) (hi : i < R) :
    M i j * d = det (k + 1) (fun r s => A (σ (if r < k then r else i)) (if s < k then c s else j)) := by
  rw [← h.dets (k + 1) (fun r => if r < k then r else i) (fun s => if s < k then c s else j) (by omega) (fun r hr => if_pos hr) (fun r hr => by
    show (if r < k then r else i) < R
    split <;> omega)]
  rw [det_unit (j := k) (by omega)]
  · show M i j * d = M (if k < k then k else i) (if k < k then c k else j) * d
    rw [if_neg (by omega), if_neg (by omega)]
  · intro r s hr hs hne
    show M (if r < k then r else i) (if s < k then c s else j) = _
    rw [if_pos (show s < k by omega)]
    by_cases e : r < k
    · rw [if_pos e]; exact h.unit r s (by omega) (by omega)
    · rw [if_neg e, h.unit i s hi (by omega), if_neg (by omega), if_neg (by omega)]
theorem Gin.high {A : Nat → Nat → Rat} {R C k : Nat} {c : Nat → Nat} {M : Nat → Nat → Rat} {d : Rat} {σ : Nat → Nat} (h : Gin A R C k c M d σ) {i j : Nat} (hi : i < k) :
    M i j * d = det k (fun r s => A (σ r) (if s = i then j else c s)) := by
  have hkr := h.kr
  rw [← h.dets k (fun r => r) (fun s => if s = i then j else c s) (Nat.le_refl _) (fun r hr => rfl) (fun r hr => by show r < R; omega)]
  rw [det_unit (j := i) hi]
  · show M i j * d = M i (if i = i then j else c i) * d
    rw [if_pos rfl]
  · intro r s hr hs hne
    show M r (if s = i then j else c s) = _
    rw [if_neg hne]
    exact h.unit r s (by omega) hs
theorem Gin.piv {A : Nat → Nat → Rat} {R C k : Nat} {c : Nat → Nat} {M : Nat → Nat → Rat} {d : Rat} {σ : Nat → Nat} (h : Gin A R C k c M d σ) : d = det k (fun r s => A (σ r) (c s)) := by
  have hkr := h.kr
  rw [← h.dets k (fun r => r) c (Nat.le_refl _) (fun r hr => rfl) (fun r hr => by show r < R; omega), det_id (fun r s hr hs => h.unit r s (by omega) hs)]
  grind
/-- The product of the first ones. -/
def prodN : Nat → (Nat → Nat) → Nat
  | 0, _ => 1
  | n + 1, D => prodN n D * D n
theorem prodN_congr {n : Nat} {D E : Nat → Nat} (h : ∀ i, i < n → D i = E i) : prodN n D = prodN n E := by
  induction n with
  | zero => rfl
  | succ n ih => rw [prodN, prodN, ih (fun i hi => h i (by omega)), h n (by omega)]
theorem prodN_pos {n : Nat} {D : Nat → Nat} (h : ∀ i, i < n → 0 < D i) : 0 < prodN n D := by
  induction n with
  | zero => exact Nat.one_pos
  | succ n ih => rw [prodN]; exact Nat.mul_pos (ih (fun i hi => h i (by omega))) (h n (by omega))
theorem prodN_skip : ∀ (n : Nat) (D : Nat → Nat) (i : Nat), i ≤ n → prodN (n + 1) D = D i * prodN n (fun r => D (skip i r)) := by
  intro n
  induction n with
  | zero => intro D i hi; obtain rfl : i = 0 := by omega
            simp [prodN]
  | succ n ih =>
    intro D i hi
    by_cases e : i = n + 1
    · subst e
      rw [prodN, Nat.mul_comm]
      congr 1
      exact prodN_congr (fun r hr => by rw [show skip (n + 1) r = r by unfold skip; rw [if_pos hr]])
    · rw [prodN, ih D i (by omega), prodN, show skip i n = n + 1 by unfold skip; rw [if_neg (by omega)], Nat.mul_assoc]
def fac : Nat → Nat
  | 0 => 1
  | n + 1 => (n + 1) * fac n
theorem fac_pos (n : Nat) : 0 < fac n := by
  induction n with
  | zero => exact Nat.one_pos
  | succ n ih => exact Nat.mul_pos (by omega) ih
theorem fac_le {n m : Nat} (h : n ≤ m) : fac n ≤ fac m := by
  induction m with
  | zero => obtain rfl : n = 0 := by omega
            exact Nat.le_refl _
  | succ m ih =>
    by_cases e : n = m + 1
    · rw [e]; exact Nat.le_refl _
    · exact Nat.le_trans (ih (by omega)) (by rw [fac]; exact Nat.le_mul_of_pos_left _ (by omega))
/-- A whole number, not greater than a bound. -/
def IntB (x : Rat) (B : Nat) : Prop := ∃ z : Int, x = (z : Rat) ∧ z.natAbs ≤ B
theorem IntB.add {x y : Rat} {B C : Nat} (h1 : IntB x B) (h2 : IntB y C) : IntB (x + y) (B + C) := by
  obtain ⟨a, rfl, ha⟩ := h1
  obtain ⟨b, rfl, hb⟩ := h2
  exact ⟨a + b, (Rat.intCast_add a b).symm, by omega⟩
theorem IntB.mul {x y : Rat} {B C : Nat} (h1 : IntB x B) (h2 : IntB y C) : IntB (x * y) (B * C) := by
  obtain ⟨a, rfl, ha⟩ := h1
  obtain ⟨b, rfl, hb⟩ := h2
  exact ⟨a * b, (Rat.intCast_mul a b).symm, by rw [Int.natAbs_mul]; exact Nat.mul_le_mul ha hb⟩
theorem IntB.neg {x : Rat} {B : Nat} (h1 : IntB x B) : IntB (-x) B := by
  obtain ⟨a, rfl, ha⟩ := h1
  exact ⟨-a, (Rat.intCast_neg a).symm, by omega⟩
theorem IntB.mono {x : Rat} {B C : Nat} (h1 : IntB x B) (h : B ≤ C) : IntB x C := by
  obtain ⟨a, rfl, ha⟩ := h1
  exact ⟨a, rfl, by omega⟩
theorem IntB.sg {x : Rat} {B : Nat} (h : IntB x B) (i : Nat) : IntB (sg i * x) B := by
  induction i with
  | zero => rw [show Go.Proofs.Ytajckdheecgceaa.sg 0 = 1 from rfl, Rat.one_mul]; exact h
  | succ i ih => rw [show Go.Proofs.Ytajckdheecgceaa.sg (i + 1) * x = - (Go.Proofs.Ytajckdheecgceaa.sg i * x) by rw [show Go.Proofs.Ytajckdheecgceaa.sg (i + 1) = - Go.Proofs.Ytajckdheecgceaa.sg i from rfl]; grind]; exact ih.neg
theorem sumN_int {n : Nat} {f : Nat → Rat} {B : Nat} (h : ∀ i, i < n → IntB (f i) B) : IntB (sumN n f) (n * B) := by
  induction n with
  | zero => exact ⟨0, rfl, by simp⟩
  | succ n ih => rw [sumN, Nat.succ_mul]; exact (ih (fun i hi => h i (by omega))).add (h n (by omega))
theorem det_int {n : Nat} : ∀ {A : Nat → Nat → Rat} {D : Nat → Nat} {Y : Nat}, (∀ r s, r < n → s < n → IntB (A r s * (D r : Rat)) Y) → IntB (det n A * (prodN n D : Rat)) (fac n * Y ^ n) := by
  induction n with
  | zero => intro A D Y _; exact ⟨1, (by show (1 : Rat) * ((1 : Nat) : Rat) = ((1 : Int) : Rat); decide +kernel), by simp [fac]⟩
  | succ n ih =>
    intro A D Y h
    rw [det_succ, sumN_mul, fac, Nat.mul_assoc]
    apply sumN_int
    intro i hi
    rw [prodN_skip n D i (by omega), Rat.natCast_mul]
    have h1 := ih (A := fun r s => A (skip i r) (s + 1)) (D := fun r => D (skip i r)) (Y := Y) (fun r s hr hs => h _ _ (skip_lt hr) (by omega))
    have h2 := ((h i 0 hi (by omega)).mul h1).sg i
    have e : sg i * A i 0 * det n (fun r s => A (skip i r) (s + 1)) * ((D i : Rat) * (prodN n (fun r => D (skip i r)) : Rat)) = sg i * (A i 0 * (D i : Rat) * (det n (fun r s => A (skip i r) (s + 1)) * (prodN n (fun r => D (skip i r)) : Rat))) := by grind
    rw [e]
    exact h2.mono (by rw [Nat.pow_succ]; exact Nat.le_of_eq (by rw [Nat.mul_left_comm, Nat.mul_comm Y]))
/-- A quotient of whole numbers is no longer than they are. -/
theorem quot_le {q : Rat} {x y : Int} (h : q * (y : Rat) = (x : Rat)) (hy : y ≠ 0) : q.num.natAbs ≤ x.natAbs ∧ q.den ≤ y.natAbs := by
  have hq : q = mkRat q.num q.den := (Rat.mkRat_self q).symm
  have hd := q.den_nz
  have h1 : q.num * y = x * q.den := by
    have h2 : q * (q.den : Rat) = (q.num : Rat) := by
      have := Rat.mul_inv_cancel (q.den : Rat) (by exact_mod_cast hd)
      have h3 := Rat.mkRat_eq_div q.num q.den
      rw [Rat.mkRat_self, Rat.div_def] at h3
      grind
    have h4 : ((q.num * y : Int) : Rat) = ((x * q.den : Int) : Rat) := by
      rw [Rat.intCast_mul, Rat.intCast_mul, Rat.intCast_natCast, ← h2, ← h]; grind
    exact Rat.intCast_inj.1 h4
  have hc : Nat.Coprime q.num.natAbs q.den := q.reduced
  have h5 : q.num.natAbs * y.natAbs = x.natAbs * q.den := by
    have := congrArg Int.natAbs h1
    rw [Int.natAbs_mul, Int.natAbs_mul] at this
    simpa using this
  constructor
  · by_cases hx : x.natAbs = 0
    · rw [hx, Nat.zero_mul] at h5
      rcases Nat.mul_eq_zero.1 h5 with h6 | h6
      · omega
      · omega
    · have : q.num.natAbs ∣ x.natAbs := hc.dvd_of_dvd_mul_right ⟨_, h5.symm⟩
      exact Nat.le_of_dvd (by omega) this
  · have : q.den ∣ y.natAbs := hc.symm.dvd_of_dvd_mul_left ⟨x.natAbs, by rw [h5, Nat.mul_comm]⟩
    exact Nat.le_of_dvd (by omega) this
/-- What stands in the table is no longer than a quotient of determinants. -/
theorem Gin.size {A : Nat → Nat → Rat} {R C k : Nat} {c : Nat → Nat} {M : Nat → Nat → Rat} {d : Rat} {σ : Nat → Nat} (h : Gin A R C k c M d σ) {D : Nat → Nat} {X Y : Nat} (hY : 1 ≤ Y)
    (hD : ∀ i, i < R → 0 < D i ∧ D i ≤ X) (hA : ∀ i j, i < R → j < C → IntB (A i j * (D i : Rat)) Y) {i j : Nat} (hi : i < R) (hj : j < C) :
    (M i j).num.natAbs ≤ fac R * Y ^ R ∧ (M i j).den ≤ fac R * Y ^ R * X := by
  have hkr := h.kr
  have hX : 1 ≤ X := by have := hD i hi; omega
  have hP : 0 < prodN k (fun r => D (σ r)) := prodN_pos (fun r hr => (hD _ (h.perm r (by omega))).1)
  have hmono : ∀ n, n ≤ R → fac n * Y ^ n ≤ fac R * Y ^ R := fun n hn => Nat.mul_le_mul (fac_le hn) (Nat.pow_le_pow_right hY hn)
  obtain ⟨z2, e2, b2⟩ : IntB (d * (prodN k (fun r => D (σ r)) : Rat)) (fac k * Y ^ k) := by
    rw [h.piv]
    exact det_int (A := fun r s => A (σ r) (c s)) (D := fun r => D (σ r)) (fun r s hr hs => hA _ _ (h.perm r (by omega)) (h.cols s hs))
  have hz2 : z2 ≠ 0 := by
    intro h0
    rw [h0] at e2
    rcases Rat.mul_eq_zero.1 e2 with h1 | h1
    · exact h.nz h1
    · have := Rat.natCast_eq_zero_iff.1 h1; omega
  by_cases hk : i < k
  · obtain ⟨z1, e1, b1⟩ := det_int (n := k) (A := fun r s => A (σ r) (if s = i then j else c s)) (D := fun r => D (σ r)) (Y := Y) (fun r s hr hs => by
      refine hA _ _ (h.perm r (by omega)) ?_
      show (if s = i then j else c s) < C
      split
      · exact hj
      · exact h.cols s hs)
    rw [← h.high hk] at e1
    have e : M i j * (z2 : Rat) = (z1 : Rat) := by rw [← e2, ← e1]; grind
    obtain ⟨q1, q2⟩ := quot_le e hz2
    have m := hmono k hkr
    exact ⟨by omega, Nat.le_trans (Nat.le_trans q2 (Nat.le_trans b2 m)) (Nat.le_mul_of_pos_right _ (by omega))⟩
  · obtain ⟨z1, e1, b1⟩ := det_int (n := k + 1) (A := fun r s => A (σ (if r < k then r else i)) (if s < k then c s else j)) (D := fun r => D (σ (if r < k then r else i))) (Y := Y) (fun r s hr hs => by
      refine hA _ _ (h.perm _ (by split <;> omega)) ?_
      show (if s < k then c s else j) < C
      split
      · exact h.cols s (by assumption)
      · exact hj)
    rw [← h.low (by omega) hi] at e1
    have ep : prodN (k + 1) (fun r => D (σ (if r < k then r else i))) = prodN k (fun r => D (σ r)) * D (σ i) := by
      rw [prodN, if_neg (by omega)]
      congr 1
      exact prodN_congr (fun r hr => by rw [if_pos hr])
    rw [ep, Rat.natCast_mul] at e1
    have e : M i j * ((z2 * (D (σ i) : Int) : Int) : Rat) = (z1 : Rat) := by rw [Rat.intCast_mul, ← e2, ← e1, Rat.intCast_natCast]; grind
    have hDi := hD _ (h.perm i hi)
    obtain ⟨q1, q2⟩ := quot_le e (by
      intro h0
      rcases Int.mul_eq_zero.1 h0 with h0 | h0
      · exact hz2 h0
      · omega)
    have m := hmono (k + 1) (by omega)
    have m2 := hmono k hkr
    refine ⟨by omega, Nat.le_trans q2 ?_⟩
    rw [Int.natAbs_mul]
    exact Nat.mul_le_mul (by omega) (by simpa using hDi.2)

end Go.Proofs.Ytajckdheecgceaa
