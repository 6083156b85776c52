/- The order of fractions: plain laws. -/
import Derived.Test.YtajckdheecgceaaApi
import Derived.Test.YtajckdheecgceaaFloor
set_option linter.unusedVariables false
set_option linter.unusedSimpArgs false
namespace Go.Proofs.Ytajckdheecgceaa
open Go.RowKit

theorem rcmp_lo (q r : Rat) : -1 ≤ rcmp q r := by unfold rcmp; split <;> (try split) <;> omega
theorem rcmp_hi (q r : Rat) : rcmp q r ≤ 1 := by unfold rcmp; split <;> (try split) <;> omega
theorem rcmp_swap (q r : Rat) : rcmp r q = -rcmp q r := by
  unfold rcmp; grind
theorem rcmp_trans {a b c : Rat} (h : rcmp a b = rcmp b c) : rcmp a c = rcmp a b := by
  unfold rcmp at *; grind
theorem rcmp_add (a b c : Rat) : rcmp (a + c) (b + c) = rcmp a b := by
  unfold rcmp; grind
theorem rsign_neg (q : Rat) : q < 0 ↔ q.num < 0 := by rw [Rat.lt_iff]; simp
theorem sign_rcmp (q : Rat) : q.num.sign = rcmp q 0 := by
  unfold rcmp
  rcases Int.lt_trichotomy q.num 0 with h | h | h
  · rw [Int.sign_eq_neg_one_of_neg h, if_pos ((rsign_neg q).2 h)]
  · rw [Rat.num_eq_zero.1 h]; simp
  · rw [Int.sign_eq_one_of_pos h]
    have h2 : 0 < q := (rsign_pos q).2 h
    rw [if_neg (by grind), if_pos h2]
theorem rcmp_sub (a b : Rat) : (a + -b).num.sign = rcmp a b := by
  rw [sign_rcmp]
  unfold rcmp; grind
theorem rcmp_mul (a b c : Rat) : rcmp (a * c) (b * c) = rcmp a b * c.num.sign := by
  rw [sign_rcmp]
  have h1 : 0 < c → (a * c < b * c ↔ a < b) := fun h => Rat.mul_lt_mul_right h
  have h2 : 0 < c → (b * c < a * c ↔ b < a) := fun h => Rat.mul_lt_mul_right h
  have h3 : c < 0 → (a * c < b * c ↔ b < a) := fun h => by
    have := Rat.mul_lt_mul_right (a := b) (b := a) (c := -c) (by grind)
    grind
  have h4 : c < 0 → (b * c < a * c ↔ a < b) := fun h => by
    have := Rat.mul_lt_mul_right (a := a) (b := b) (c := -c) (by grind)
    grind
  by_cases h0 : c = 0
  · subst h0
    rw [Rat.mul_zero, Rat.mul_zero, rcmp_eq rfl]; unfold rcmp; grind
  · have h5 : c < 0 ∨ 0 < c := by grind
    have e1 : rcmp c 0 = if c < 0 then -1 else 1 := by unfold rcmp; grind
    rw [e1]
    rcases h5 with h5 | h5
    · rw [if_pos h5]
      have h3 := h3 h5
      have h4 := h4 h5
      unfold rcmp
      simp only [h3, h4]
      grind
    · rw [if_neg (Rat.not_lt.2 (Rat.le_of_lt h5))]
      have h1 := h1 h5
      have h2 := h2 h5
      unfold rcmp
      simp only [h1, h2]
      grind
theorem floor_le (q : Rat) : rcmp (rfloor q : Int) q ≤ 0 := by
  have h : ((rfloor q : Int) : Rat) ≤ q := by
    rw [Rat.le_iff, Rat.num_intCast, Rat.den_intCast, Int.natCast_one, Int.mul_one]
    exact Int.ediv_mul_le _ (by have := q.den_pos; omega)
  unfold rcmp
  grind
theorem floor_gt (q : Rat) : rcmp ((rfloor q : Int) + 1 : Rat) q = 1 := by
  have h : q < ((rfloor q + 1 : Int) : Rat) := by
    rw [Rat.lt_iff, Rat.num_intCast, Rat.den_intCast, Int.natCast_one, Int.mul_one]
    exact Int.lt_ediv_add_one_mul_self _ (by have := q.den_pos; omega)
  rw [Rat.intCast_add] at h
  have h' : q < ((rfloor q : Int) : Rat) + 1 := h
  unfold rcmp
  grind
theorem szq_floor {q : Rat} {k : Nat} (h : Szq k q) (hk : 1 ≤ k) : Szq k (rfloor q : Int) := by
  constructor
  · rw [Rat.num_intCast]
    exact Nat.le_trans (dg_len_mono (Int.natAbs_ediv_le_natAbs _ _)) h.1
  · rw [Rat.den_intCast, dg_one]; exact hk

/-- What is handed in counts as the fraction q. -/
def FrQ (w : World) (v : Value) (q : Rat) : Prop := ∃ neg ln ld, FrIn w v neg ln ld ∧ ln.length + ld.length ≤ 4096 ∧ fixq neg ln ld = q
theorem FrQ.below {w w1 : World} {v : Value} {q : Rat} (h : FrQ w v q) (hb : Below w.heap.size w w1) : FrQ w1 v q := by
  obtain ⟨n, a, b, h1, h2, h3⟩ := h
  exact ⟨n, a, b, h1.below hb, h2, h3⟩
theorem FrV.q {w : World} {v : Value} {q : Rat} (h : FrV w v q) (hs : Short q) : FrQ w v q := ⟨_, _, _, h, hs, fixq_of q⟩
theorem FrQ.mk {w : World} {v : Value} {neg : Bool} {ln ld : List Int} (h : FrIn w v neg ln ld) (hs : ln.length + ld.length ≤ 4096) : FrQ w v (fixq neg ln ld) := ⟨_, _, _, h, hs, rfl⟩
theorem cmpq (w : World) (va vb : Value) (a b : Rat) (ha : FrQ w va a) (hb : FrQ w vb b) :
    Calls Try.prog 71 #[va, vb] w fun e w' => e = .returned (.int .i64 (rcmp a b)) ∧ Below w.heap.size w w' := by
  obtain ⟨n, l, d, h1, h2, rfl⟩ := ha
  obtain ⟨n2, l2, d2, h3, h4, rfl⟩ := hb
  exact frac_cmp_calls w va vb _ _ _ _ _ _ h1 h3 h2 h4
theorem addq (w : World) (va vb : Value) (a b : Rat) (ha : FrQ w va a) (hb : FrQ w vb b) (hs : Short (a + b)) : Calls Try.prog 75 #[va, vb] w (FrPost (a + b) w) := by
  obtain ⟨n, l, d, h1, h2, rfl⟩ := ha
  obtain ⟨n2, l2, d2, h3, h4, rfl⟩ := hb
  exact frac_add_calls w va vb _ _ _ _ _ _ h1 h3 h2 h4 hs
theorem mulq (w : World) (va vb : Value) (a b : Rat) (ha : FrQ w va a) (hb : FrQ w vb b) (hs : Short (a * b)) : Calls Try.prog 73 #[va, vb] w (FrPost (a * b) w) := by
  obtain ⟨n, l, d, h1, h2, rfl⟩ := ha
  obtain ⟨n2, l2, d2, h3, h4, rfl⟩ := hb
  exact frac_mul_calls w va vb _ _ _ _ _ _ h1 h3 h2 h4 hs
theorem subq (w : World) (va vb : Value) (a b : Rat) (ha : FrQ w va a) (hb : FrQ w vb b) (hs : Short (a + -b)) : Calls Try.prog 67 #[va, vb] w (FrPost (a + -b) w) := by
  obtain ⟨n, l, d, h1, h2, rfl⟩ := ha
  obtain ⟨n2, l2, d2, h3, h4, rfl⟩ := hb
  exact frac_sub_calls w va vb _ _ _ _ _ _ h1 h3 h2 h4 hs
theorem signq (w : World) (va : Value) (a : Rat) (ha : FrQ w va a) :
    Calls Try.prog 55 #[va] w fun e w' => e = .returned (.int .i64 a.num.sign) ∧ Below w.heap.size w w' := by
  obtain ⟨n, l, d, h1, h2, rfl⟩ := ha
  exact frac_sign_calls w va _ _ _ h1 h2
end Go.Proofs.Ytajckdheecgceaa
