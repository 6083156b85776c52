/- Tides: prices of days that prove a plan: no other plan is worth more. -/
import Derived.Test.YtajckdheecgceaaTd26
import Derived.Test.YtajckdheecgceaaTd27
set_option linter.unusedVariables false
set_option linter.unusedSimpArgs false
namespace Go.Proofs.Ytajckdheecgceaa
open Go.RowKit

/-- The sum of the first n values. -/
def sumf (g : Nat → Rat) : Nat → Rat
  | 0 => 0
  | n + 1 => sumf g n + g n
theorem sumf_le {g h : Nat → Rat} : ∀ n, (∀ j, j < n → g j ≤ h j) → sumf g n ≤ sumf h n := by
  intro n
  induction n with
  | zero => intro _; exact Rat.le_refl
  | succ n ih =>
    intro hh
    have h1 := ih (fun j hj => hh j (by omega))
    have h2 := hh n (by omega)
    show sumf g n + g n ≤ sumf h n + h n
    grind
theorem sumf_congr {g h : Nat → Rat} : ∀ n, (∀ j, j < n → g j = h j) → sumf g n = sumf h n := by
  intro n
  induction n with
  | zero => intro _; rfl
  | succ n ih =>
    intro hh
    show sumf g n + g n = sumf h n + h n
    rw [ih (fun j hj => hh j (by omega)), hh n (by omega)]
theorem sumf_mul (c : Rat) (g : Nat → Rat) : ∀ n, sumf (fun j => c * g j) n = c * sumf g n := by
  intro n
  induction n with
  | zero => show (0 : Rat) = c * 0; grind
  | succ n ih =>
    show sumf (fun j => c * g j) n + c * g n = c * (sumf g n + g n)
    rw [ih]; grind
theorem sumf_zero {g : Nat → Rat} : ∀ n, (∀ j, j < n → g j = 0) → sumf g n = 0 := by
  intro n
  induction n with
  | zero => intro _; rfl
  | succ n ih =>
    intro h
    show sumf g n + g n = 0
    rw [ih (fun j hj => h j (by omega)), h n (by omega)]; grind
theorem sumf_step {g h : Nat → Rat} {d : Nat} {x : Rat} : ∀ n, d < n → (∀ j, j < n → j ≠ d → h j = g j) → h d = g d + x → sumf h n = sumf g n + x := by
  intro n
  induction n with
  | zero => intro hd; omega
  | succ n ih =>
    intro hd h1 h2
    show sumf h n + h n = sumf g n + g n + x
    by_cases e : d = n
    · subst e
      rw [sumf_congr (g := h) (h := g) d (fun j hj => h1 j (by omega) (by omega)), h2]; grind
    · rw [ih (by omega) (fun j hj => h1 j (by omega)) h2, h1 n (by omega) (fun h => e h.symm)]; grind
theorem psum_sumf {qs : List Rat} {f : Nat → Rat} (h : ∀ (j : Nat) (q : Rat), qs[j]? = some q → f j = q) : ∀ n, n ≤ qs.length → psum qs n = sumf f n := by
  intro n
  induction n with
  | zero => intro _; exact psum_zero qs
  | succ n ih =>
    intro hn
    obtain ⟨q, hq⟩ : ∃ q, qs[n]? = some q := ⟨_, List.getElem?_eq_getElem (by omega)⟩
    rw [psum_succ hq, ih (by omega)]
    show _ = sumf f n + f n
    rw [h n q hq]
/-- What is left to an agent at prices of days: the greatest of 0 and of its worth less a price. -/
def Td.restq (T : Td) (f : Nat → Rat) (i : Nat) : Rat := if lmin f ((T.come i).toNat - 1) ((T.go i).toNat + 1 - (T.come i).toNat) < T.q i then T.q i + -(lmin f ((T.come i).toNat - 1) ((T.go i).toNat + 1 - (T.come i).toNat)) else 0
/-- What no plan is worth more than, at prices of days. -/
def Td.bnd (T : Td) (K D : Nat) (f : Nat → Rat) : Rat := (K : Rat) * sumf f D + sumf (T.restq f) T.n
theorem Td.restq_nonneg (T : Td) (f : Nat → Rat) (i : Nat) : 0 ≤ T.restq f i := by
  unfold Td.restq
  split
  · grind
  · exact Rat.le_refl
theorem Td.restq_ge {T : Td} {f : Nat → Rat} {i : Nat} (h1 : 1 ≤ T.come i) (h2 : T.come i ≤ T.go i) {j : Nat} (hj : T.come i ≤ (j : Int) + 1) (hj2 : (j : Int) + 1 ≤ T.go i) : T.q i ≤ T.restq f i + f j := by
  obtain ⟨_, h⟩ := lmin_spec f ((T.come i).toNat - 1) ((T.go i).toNat + 1 - (T.come i).toNat) (by omega)
  have h3 := h (j - ((T.come i).toNat - 1)) (by omega)
  rw [show (T.come i).toNat - 1 + (j - ((T.come i).toNat - 1)) = j by omega] at h3
  unfold Td.restq
  split <;> grind
theorem okp_succ {T : Td} {K : Int} {p : Nat → Int} {m : Nat} (h : T.okp K p (m + 1) = true) : T.okp K p m = true ∧ (p m = 0 ∨ (T.come m ≤ p m ∧ p m ≤ T.go m ∧ ((cntD p (p m) (m + 1) : Nat) : Int) ≤ K)) := by
  have h : (T.okp K p m && (p m == 0 || (decide (T.come m ≤ p m) && decide (p m ≤ T.go m) && decide (((cntD p (p m) (m + 1) : Nat) : Int) ≤ K)))) = true := h
  simp only [Bool.and_eq_true, Bool.or_eq_true, beq_iff_eq, decide_eq_true_eq] at h
  exact ⟨h.1, h.2.imp id (fun h => ⟨h.1.1, h.1.2, h.2⟩)⟩
theorem cntD_succ (p : Nat → Int) (d : Int) (m : Nat) : cntD p d (m + 1) = cntD p d m + if p m = d then 1 else 0 := rfl
theorem cnt_okp {T : Td} {K : Int} {p : Nat → Int} (hK : 0 ≤ K) {d : Int} (hd : d ≠ 0) : ∀ m, T.okp K p m = true → ((cntD p d m : Nat) : Int) ≤ K := by
  intro m
  induction m with
  | zero => intro _; exact hK
  | succ m ih =>
    intro h
    obtain ⟨h1, h2⟩ := okp_succ h
    by_cases e : p m = d
    · rcases h2 with h2 | ⟨_, _, h3⟩
      · exact absurd (e.symm.trans h2) hd
      · rw [e] at h3; exact h3
    · rw [cntD_succ, if_neg e]; exact ih h1
theorem wsum_le {T : Td} {K : Int} {D : Nat} {f : Nat → Rat} {p : Nat → Int} (hg : ∀ i, i < T.n → 1 ≤ T.come i ∧ T.come i ≤ T.go i ∧ T.go i ≤ (D : Int)) : ∀ m, m ≤ T.n → T.okp K p m = true → T.wsum p m ≤ sumf (T.restq f) m + sumf (fun j => ((cntD p ((j : Int) + 1) m : Nat) : Rat) * f j) D := by
  intro m
  induction m with
  | zero =>
    intro _ _
    rw [sumf_zero (g := fun j => ((cntD p ((j : Int) + 1) 0 : Nat) : Rat) * f j) D (fun j _ => by show ((0 : Nat) : Rat) * f j = 0; grind)]
    show (0 : Rat) ≤ 0 + 0
    grind
  | succ m ih =>
    intro hm h
    obtain ⟨h1, h2⟩ := okp_succ h
    have hi := ih (by omega) h1
    have hr := Td.restq_nonneg T f m
    obtain ⟨g1, g2, g3⟩ := hg m (by omega)
    by_cases h0 : p m = 0
    · have e : T.wsum p (m + 1) = T.wsum p m := if_pos h0
      rw [e, sumf_congr (h := fun j => ((cntD p ((j : Int) + 1) m : Nat) : Rat) * f j) D (fun j _ => by rw [cntD_succ, if_neg (by omega)]; rfl)]
      show _ ≤ sumf (T.restq f) m + T.restq f m + _
      grind
    · have e : T.wsum p (m + 1) = T.wsum p m + T.q m := if_neg h0
      rcases h2 with h2 | ⟨c1, c2, _⟩
      · exact absurd h2 h0
      obtain ⟨d, hd⟩ : ∃ d : Nat, p m = (d : Int) + 1 := ⟨(p m).toNat - 1, by omega⟩
      have hq := Td.restq_ge (T := T) (f := f) (i := m) g1 g2 (j := d) (by omega) (by omega)
      rw [e, sumf_step (g := fun j => ((cntD p ((j : Int) + 1) m : Nat) : Rat) * f j) (d := d) (x := f d) D (by omega) (fun j _ hj => by rw [cntD_succ, if_neg (by omega)]; rfl) (by
        show ((cntD p ((d : Int) + 1) (m + 1) : Nat) : Rat) * f d = ((cntD p ((d : Int) + 1) m : Nat) : Rat) * f d + f d
        rw [cntD_succ, if_pos hd]
        have : ((cntD p ((d : Int) + 1) m + 1 : Nat) : Rat) = ((cntD p ((d : Int) + 1) m : Nat) : Rat) + 1 := by rw [Rat.natCast_add]; rfl
        rw [this]; grind)]
      show _ ≤ sumf (T.restq f) m + T.restq f m + _
      grind
/-- No plan is worth more than what prices say. -/
theorem Td.weak {T : Td} {K D : Nat} {f : Nat → Rat} {p : Nat → Int} (hg : ∀ i, i < T.n → 1 ≤ T.come i ∧ T.come i ≤ T.go i ∧ T.go i ≤ (D : Int)) (hf : ∀ j, j < D → 0 ≤ f j) (h : T.okp (K : Int) p T.n = true) : T.wsum p T.n ≤ T.bnd K D f := by
  have h1 := wsum_le (f := f) hg T.n (Nat.le_refl _) h
  have h2 : sumf (fun j => ((cntD p ((j : Int) + 1) T.n : Nat) : Rat) * f j) D ≤ sumf (fun j => (K : Rat) * f j) D := sumf_le D (fun j hj => by
    have h3 := cnt_okp (T := T) (K := (K : Int)) (p := p) (by omega) (d := (j : Int) + 1) (by omega) T.n h
    have h4 := hf j hj
    have h5 : ((cntD p ((j : Int) + 1) T.n : Nat) : Rat) ≤ (K : Rat) := by
      have : cntD p ((j : Int) + 1) T.n ≤ K := by omega
      exact_mod_cast this
    exact Rat.mul_le_mul_of_nonneg_right h5 h4)
  rw [sumf_mul] at h2
  unfold Td.bnd
  grind
/-- The price of a day, by its number less 1. -/
def prq (P : List (Bool × List Int × List Int)) (j : Nat) : Rat := fqd (P.getD j (dq 0))
theorem prq_at {P : List (Bool × List Int × List Int)} {j : Nat} {p : Bool × List Int × List Int} (h : P[j]? = some p) : prq P j = fqd p := by unfold prq; rw [List.getD_eq_getElem?_getD, h]; rfl
theorem prq_map {P : List (Bool × List Int × List Int)} (n : Nat) (hn : n ≤ P.length) : psum (P.map fqd) n = sumf (prq P) n := by
  refine psum_sumf (fun j q h => ?_) n (by rw [List.length_map]; exact hn)
  rw [List.getElem?_map] at h
  obtain ⟨p, hp, rfl⟩ := Option.map_eq_some_iff.1 h
  exact prq_at hp
/-- What Proves tells. -/
def ProvB (days each : Int) (L : List VD) (l : List Int) (P : List (Bool × List Int × List Int)) : Prop := planB days each L l = true ∧ (P.length : Int) = days ∧ (∀ j, j < P.length → 0 ≤ prq P j) ∧ (tdOf L).wsum (pday l) L.length = (tdOf L).bnd each.toNat days.toNat (prq P)
def ProvP (days each : Int) (L : List VD) (l : List Int) (P : List (Bool × List Int × List Int)) (w : World) (e : Ending) (w' : World) : Prop := ∃ b : Bool, e = .returned (.bool b) ∧ (b = true ↔ ProvB days each L l P) ∧ Below w.heap.size w w'
theorem planB_of {days each : Int} {L : List VD} {l : List Int} (h : planB days each L l = true) : rightN days each L = 0 ∧ l.length = L.length ∧ (tdOf L).okp each (pday l) L.length = true := by
  unfold planB at h
  simp only [Bool.and_eq_true, decide_eq_true_eq] at h
  exact ⟨h.1.1, h.1.2, h.2⟩
/-- Where prices prove a plan, no other one is worth more. -/
theorem proved_best {days each : Int} {L : List VD} {l l' : List Int} {P : List (Bool × List Int × List Int)} (h : ProvB days each L l P) (h' : planB days each L l' = true) : (tdOf L).wsum (pday l') L.length ≤ (tdOf L).wsum (pday l) L.length := by
  obtain ⟨h1, h2, h3, h4⟩ := h
  obtain ⟨r1, _, _⟩ := planB_of h1
  obtain ⟨_, _, k3⟩ := planB_of h'
  obtain ⟨z1, z2, z3⟩ := rightN_zero r1
  rw [h4]
  have hD : ((days.toNat : Nat) : Int) = days := by omega
  have hK : ((each.toNat : Nat) : Int) = each := by omega
  refine Td.weak (T := tdOf L) (K := each.toNat) (D := days.toNat) (f := prq P) (p := pday l') (fun i hi => ?_) (fun j hj => h3 j (by omega)) (by rw [hK]; exact k3)
  obtain ⟨x, hx⟩ : ∃ x, L[i]? = some x := ⟨_, List.getElem?_eq_getElem hi⟩
  have hb := bad_no (z3 i x hx)
  obtain ⟨t1, t2, _⟩ := tdOf_at hx
  rw [t1, t2]
  omega
open Go in
section
variable {P : Program} {md : Region.Mode} {ops : Array Oper} {Q : Exit → Act → World → Prop} {S : World → Prop} {z : Nat}
/-- Numbers i and j are the only ones that may come up. -/
theorem wpAnyT_duo {i j : Nat} {o o' : Oper} {fuel : Nat} {listed : Array Bool} {a : Act} {w : World} (ho : ops[i]? = some o) (ho' : ops[j]? = some o') (hr : Region.ready md ops listed = [i, j]) (hg : o.guard = none) (hg' : o'.guard = none)
    (h : ∀ K : Act → World → Prop, Hid (∀ a w, (i ≠ z → S w) → wpAnyT P md ops Q S z fuel (listed.setIfInBounds i true) a w → K a w) → Oper.wp P o a w K Q)
    (h' : ∀ K : Act → World → Prop, Hid (∀ a w, (j ≠ z → S w) → wpAnyT P md ops Q S z fuel (listed.setIfInBounds j true) a w → K a w) → Oper.wp P o' a w K Q) : wpAnyT P md ops Q S z (fuel + 1) listed a w := by
  refine ⟨fun h0 => (by rw [hr] at h0; cases h0), fun k hk => ?_⟩
  rw [hr] at hk
  rcases (by simpa using hk : k = i ∨ k = j) with rfl | rfl
  · unfold wpOp
    rw [ho]
    have hw : Region.wanted o (yielded ops a.tmps) = true := by simp [Region.wanted, hg]
    simp only [hw, if_true]
    exact Or.inl (h _ (Lib.hid (fun a w h1 h2 => ⟨h1, h2⟩)))
  · unfold wpOp
    rw [ho']
    have hw : Region.wanted o' (yielded ops a.tmps) = true := by simp [Region.wanted, hg']
    simp only [hw, if_true]
    exact Or.inl (h' _ (Lib.hid (fun a w h1 h2 => ⟨h1, h2⟩)))
end
theorem tp3_next {w w1 w2 : World} {a0 a1 a2 : Addr} {x0 x1 x2 : Value} (hb : Below w1.heap.size w1 w2) (h : Below w.heap.size w w1 ∧ w1.cell? a0 = some x0 ∧ w1.cell? a1 = some x1 ∧ w1.cell? a2 = some x2) : Below w.heap.size w w2 ∧ w2.cell? a0 = some x0 ∧ w2.cell? a1 = some x1 ∧ w2.cell? a2 = some x2 := by
  obtain ⟨h, e0, e1, e2⟩ := h
  exact ⟨bl_trans h hb, cell_below hb e0, cell_below hb e1, cell_below hb e2⟩
theorem tp6_next {w w1 w2 : World} {a0 a1 a2 a3 a4 a5 : Addr} {x0 x1 x2 x3 x4 x5 : Value} (hb : Below w1.heap.size w1 w2) (h : Below w.heap.size w w1 ∧ w1.cell? a0 = some x0 ∧ w1.cell? a1 = some x1 ∧ w1.cell? a2 = some x2 ∧ w1.cell? a3 = some x3 ∧ w1.cell? a4 = some x4 ∧ w1.cell? a5 = some x5) : Below w.heap.size w w2 ∧ w2.cell? a0 = some x0 ∧ w2.cell? a1 = some x1 ∧ w2.cell? a2 = some x2 ∧ w2.cell? a3 = some x3 ∧ w2.cell? a4 = some x4 ∧ w2.cell? a5 = some x5 := by
  obtain ⟨h, e0, e1, e2, e3, e4, e5⟩ := h
  exact ⟨bl_trans h hb, cell_below hb e0, cell_below hb e1, cell_below hb e2, cell_below hb e3, cell_below hb e4, cell_below hb e5⟩
theorem tp7_next {w w1 w2 : World} {a0 a1 a2 a3 a4 a5 a6 : Addr} {x0 x1 x2 x3 x4 x5 x6 : Value} (hb : Below w1.heap.size w1 w2) (h : Below w.heap.size w w1 ∧ w1.cell? a0 = some x0 ∧ w1.cell? a1 = some x1 ∧ w1.cell? a2 = some x2 ∧ w1.cell? a3 = some x3 ∧ w1.cell? a4 = some x4 ∧ w1.cell? a5 = some x5 ∧ w1.cell? a6 = some x6) : Below w.heap.size w w2 ∧ w2.cell? a0 = some x0 ∧ w2.cell? a1 = some x1 ∧ w2.cell? a2 = some x2 ∧ w2.cell? a3 = some x3 ∧ w2.cell? a4 = some x4 ∧ w2.cell? a5 = some x5 ∧ w2.cell? a6 = some x6 := by
  obtain ⟨h, e0, e1, e2, e3, e4, e5, e6⟩ := h
  exact ⟨bl_trans h hb, cell_below hb e0, cell_below hb e1, cell_below hb e2, cell_below hb e3, cell_below hb e4, cell_below hb e5, cell_below hb e6⟩
theorem tp8_next {w w1 w2 : World} {a0 a1 a2 a3 a4 a5 a6 a7 : Addr} {x0 x1 x2 x3 x4 x5 x6 x7 : Value} (hb : Below w1.heap.size w1 w2) (h : Below w.heap.size w w1 ∧ w1.cell? a0 = some x0 ∧ w1.cell? a1 = some x1 ∧ w1.cell? a2 = some x2 ∧ w1.cell? a3 = some x3 ∧ w1.cell? a4 = some x4 ∧ w1.cell? a5 = some x5 ∧ w1.cell? a6 = some x6 ∧ w1.cell? a7 = some x7) : Below w.heap.size w w2 ∧ w2.cell? a0 = some x0 ∧ w2.cell? a1 = some x1 ∧ w2.cell? a2 = some x2 ∧ w2.cell? a3 = some x3 ∧ w2.cell? a4 = some x4 ∧ w2.cell? a5 = some x5 ∧ w2.cell? a6 = some x6 ∧ w2.cell? a7 = some x7 := by
  obtain ⟨h, e0, e1, e2, e3, e4, e5, e6, e7⟩ := h
  exact ⟨bl_trans h hb, cell_below hb e0, cell_below hb e1, cell_below hb e2, cell_below hb e3, cell_below hb e4, cell_below hb e5, cell_below hb e6, cell_below hb e7⟩
theorem tp9_next {w w1 w2 : World} {a0 a1 a2 a3 a4 a5 a6 a7 a8 : Addr} {x0 x1 x2 x3 x4 x5 x6 x7 x8 : Value} (hb : Below w1.heap.size w1 w2) (h : Below w.heap.size w w1 ∧ w1.cell? a0 = some x0 ∧ w1.cell? a1 = some x1 ∧ w1.cell? a2 = some x2 ∧ w1.cell? a3 = some x3 ∧ w1.cell? a4 = some x4 ∧ w1.cell? a5 = some x5 ∧ w1.cell? a6 = some x6 ∧ w1.cell? a7 = some x7 ∧ w1.cell? a8 = some x8) : Below w.heap.size w w2 ∧ w2.cell? a0 = some x0 ∧ w2.cell? a1 = some x1 ∧ w2.cell? a2 = some x2 ∧ w2.cell? a3 = some x3 ∧ w2.cell? a4 = some x4 ∧ w2.cell? a5 = some x5 ∧ w2.cell? a6 = some x6 ∧ w2.cell? a7 = some x7 ∧ w2.cell? a8 = some x8 := by
  obtain ⟨h, e0, e1, e2, e3, e4, e5, e6, e7, e8⟩ := h
  exact ⟨bl_trans h hb, cell_below hb e0, cell_below hb e1, cell_below hb e2, cell_below hb e3, cell_below hb e4, cell_below hb e5, cell_below hb e6, cell_below hb e7, cell_below hb e8⟩
/-- The greatest of 0 and of what is left at the first prices. -/
def rmx (f : Nat → Rat) (q : Rat) (a : Nat) : Nat → Rat
  | 0 => 0
  | n + 1 => if rmx f q a n < q + -(f (a + n)) then q + -(f (a + n)) else rmx f q a n
theorem rmx_spec (f : Nat → Rat) (q : Rat) (a : Nat) : ∀ n, 0 ≤ rmx f q a n ∧ (∀ j, j < n → q + -(f (a + j)) ≤ rmx f q a n) ∧ (rmx f q a n = 0 ∨ ∃ j, j < n ∧ rmx f q a n = q + -(f (a + j))) := by
  intro n
  induction n with
  | zero => exact ⟨Rat.le_refl, fun j hj => by omega, .inl rfl⟩
  | succ n ih =>
    obtain ⟨h1, h2, h3⟩ := ih
    have e : rmx f q a (n + 1) = if rmx f q a n < q + -(f (a + n)) then q + -(f (a + n)) else rmx f q a n := rfl
    rw [e]
    by_cases hlt : rmx f q a n < q + -(f (a + n))
    · rw [if_pos hlt]
      refine ⟨by grind, fun j hj => ?_, .inr ⟨n, by omega, rfl⟩⟩
      by_cases ej : j = n
      · rw [ej]; exact Rat.le_refl
      · have := h2 j (by omega); grind
    · rw [if_neg hlt]
      refine ⟨h1, fun j hj => ?_, h3.imp id (fun ⟨j, hj, e⟩ => ⟨j, by omega, e⟩)⟩
      by_cases ej : j = n
      · rw [ej]; grind
      · exact h2 j (by omega)
theorem rmx_lmin (f : Nat → Rat) (q : Rat) (a n : Nat) (hn : 0 < n) : rmx f q a n = if lmin f a n < q then q + -(lmin f a n) else 0 := by
  obtain ⟨h1, h2, h3⟩ := rmx_spec f q a n
  obtain ⟨⟨j0, g1, g2⟩, g3⟩ := lmin_spec f a n hn
  have k := h2 j0 g1
  rw [← g2] at k
  by_cases hlt : lmin f a n < q
  · rw [if_pos hlt]
    rcases h3 with h3 | ⟨j, hj, h3⟩
    · grind
    · have := g3 j hj; grind
  · rw [if_neg hlt]
    rcases h3 with h3 | ⟨j, hj, h3⟩
    · exact h3
    · have := g3 j hj; grind
theorem rmx_szq {f : Nat → Rat} {q : Rat} {a k : Nat} (hk : 1 ≤ k) (hq : Szq k q) (hf : ∀ j, Szq k (f j)) : ∀ n, Szq (2 * k + 1) (rmx f q a n) := by
  intro n
  induction n with
  | zero => exact szq_zero _ (by omega)
  | succ n ih =>
    show Szq (2 * k + 1) (if rmx f q a n < q + -(f (a + n)) then q + -(f (a + n)) else rmx f q a n)
    split
    · exact (szq_add hq (szq_neg (hf _))).mono (by omega)
    · exact ih
theorem prq_szq {P : List (Bool × List Int × List Int)} {n : Nat} (hn : 1 ≤ n) (hf : FewD n P) (hw : ∀ d ∈ P, Wd d.2.1 ∧ Wd d.2.2) (j : Nat) : Szq n (prq P j) := by
  unfold prq
  rcases Nat.lt_or_ge j P.length with h | h
  · rw [List.getD_eq_getElem?_getD, List.getElem?_eq_getElem h]
    have hm := List.getElem_mem h
    exact szq_fix (hw _ hm).1 (hw _ hm).2 (hf _ hm).1 (hf _ hm).2 hn
  · rw [List.getD_eq_getElem?_getD, List.getElem?_eq_none h]
    show Szq n (fqd (dq 0))
    rw [fqd_dq]; exact szq_zero _ hn
theorem part_prq {P : List (Bool × List Int × List Int)} {a b : Nat} (hab : a ≤ b) (hb : b ≤ P.length) : ((P.take b).drop a).map fqd = (List.range' a (b - a)).map (prq P) := by
  refine List.ext_getElem? (fun i => ?_)
  rw [List.getElem?_map, List.getElem?_map, List.getElem?_drop]
  rcases Nat.lt_or_ge i (b - a) with h | h
  · rw [List.getElem?_take_of_lt (by omega), List.getElem?_range' h, List.getElem?_eq_getElem (show a + i < P.length by omega)]
    simp only [Option.map_some, Nat.one_mul]
    rw [prq_at (List.getElem?_eq_getElem (show a + i < P.length by omega))]
  · rw [List.getElem?_eq_none (l := P.take b) (by rw [List.length_take]; omega), List.getElem?_eq_none (l := List.range' a (b - a)) (by simp; omega)]
    rfl
theorem bnd_szq {T : Td} {f : Nat → Rat} (hq : ∀ i, i < T.n → Szq 16 (T.q i)) (hf : ∀ j, Szq 16 (f j)) (hg : ∀ i, i < T.n → 1 ≤ T.come i ∧ T.come i ≤ T.go i) {k : Nat} {x : Rat} (hx : Szq k x) : ∀ m, m ≤ T.n → Szq (k + 34 * m) (x + sumf (T.restq f) m) := by
  intro m
  induction m with
  | zero => intro _; show Szq (k + 34 * 0) (x + 0); rw [show x + (0 : Rat) = x by grind]; exact hx.mono (by omega)
  | succ m ih =>
    intro hm
    have hr : Szq 33 (T.restq f m) := by
      unfold Td.restq
      split
      · obtain ⟨⟨j, _, h2⟩, _⟩ := lmin_spec f ((T.come m).toNat - 1) ((T.go m).toNat + 1 - (T.come m).toNat) (by have := hg m (by omega); omega)
        rw [h2]
        exact (szq_add (hq m (by omega)) (szq_neg (hf _))).mono (by omega)
      · exact szq_zero _ (by omega)
    show Szq (k + 34 * (m + 1)) (x + (sumf (T.restq f) m + T.restq f m))
    rw [show x + (sumf (T.restq f) m + T.restq f m) = (x + sumf (T.restq f) m) + T.restq f m by grind]
    exact (szq_add (ih (by omega)) hr).mono (by omega)
theorem sumf_szq {f : Nat → Rat} {m : Nat} (h : ∀ j, Szq m (f j)) : ∀ k, Szq ((m + 1) * k + 1) (sumf f k) := by
  intro k
  induction k with
  | zero => exact szq_zero _ (by omega)
  | succ k ih =>
    show Szq _ (sumf f k + f k)
    exact (szq_add ih (h k)).mono (by rw [Nat.mul_succ]; omega)
end Go.Proofs.Ytajckdheecgceaa
