/- Fractions: order. -/
import Derived.Test.YtajckdheecgceaaRat
set_option linter.unusedVariables false
set_option linter.unusedSimpArgs false
namespace Go.Proofs.Ytajckdheecgceaa
open Go.RowKit

/-- Two ratios are boxed. -/
def HeldP (w : World) (a0 a1 a2 b0 b1 b2 : Value) (w' : World) : Prop := Below w.heap.size w w' ∧ Blk w' w.heap.size 113 #[a0, a1, a2] ∧ Blk w' (w.heap.size + 1) 113 #[b0, b1, b2]
theorem HeldP.cells {w w' : World} {a0 a1 a2 b0 b1 b2 : Value} (h : HeldP w a0 a1 a2 b0 b1 b2 w') : HeldP w a0 a1 a2 b0 b1 b2 w' ∧ (w'.cell? ⟨w.heap.size, 0, none⟩ = some a0 ∧ w'.cell? ⟨w.heap.size, 1, none⟩ = some a1 ∧ w'.cell? ⟨w.heap.size, 2, none⟩ = some a2) ∧ (w'.cell? ⟨w.heap.size + 1, 0, none⟩ = some b0 ∧ w'.cell? ⟨w.heap.size + 1, 1, none⟩ = some b1 ∧ w'.cell? ⟨w.heap.size + 1, 2, none⟩ = some b2) :=
  ⟨h, ⟨h.2.1.cell 0, h.2.1.cell 1, h.2.1.cell 2⟩, ⟨h.2.2.cell 0, h.2.2.cell 1, h.2.2.cell 2⟩⟩
theorem HeldP.next {w w1 w2 : World} {a0 a1 a2 b0 b1 b2 : Value} (k : Below w1.heap.size w1 w2) (h : HeldP w a0 a1 a2 b0 b1 b2 w1) : HeldP w a0 a1 a2 b0 b1 b2 w2 :=
  ⟨bl_trans h.1 k, h.2.1.below k, h.2.2.below k⟩
theorem RtV.heldP {w w1 : World} {v : Value} {q : Rat} {a0 a1 a2 b0 b1 b2 : Value} (hv : RtV w v q) (h : HeldP w a0 a1 a2 b0 b1 b2 w1) : RtV w1 v q := hv.below h.1
theorem Nm.heldP {w w1 : World} {v : Value} {n : Nat} {a0 a1 a2 b0 b1 b2 : Value} (hv : Nm w v n) (h : HeldP w a0 a1 a2 b0 b1 b2 w1) : Nm w1 v n := hv.below h.1
theorem heldP_new (w : World) (a0 a1 a2 b0 b1 b2 : Value) : HeldP w a0 a1 a2 b0 b1 b2 ((w.alloc (.cells #[a0, a1, a2] 113)).alloc (.cells #[b0, b1, b2] 113)) := by
  refine ⟨bl_trans (below_alloc0 _ _) (below_alloc0 _ _), (Blk.new w _ _).below (below_alloc0 _ _), ?_⟩
  have h2 := Blk.new (w.alloc (.cells #[a0, a1, a2] 113)) 113 #[b0, b1, b2]
  rwa [show (w.alloc (.cells #[a0, a1, a2] 113)).heap.size = w.heap.size + 1 by simp] at h2

/-- The order of two fractions: -1, 0 or 1. -/
def rcmp (q r : Rat) : Int := if q < r then -1 else if r < q then 1 else 0
theorem rcmp_lt {q r : Rat} (h : q < r) : rcmp q r = -1 := by simp [rcmp, h]
theorem rcmp_gt {q r : Rat} (h : r < q) : rcmp q r = 1 := by
  have : ¬ q < r := by grind
  simp [rcmp, h, this]
theorem rcmp_eq {q r : Rat} (h : q = r) : rcmp q r = 0 := by
  subst h
  have : ¬ q < q := by grind
  simp [rcmp, this]
theorem rsign_pos (q : Rat) : 0 < q ↔ 0 < q.num := by rw [Rat.lt_iff]; simp
theorem sign_lt (q r : Rat) (h : q.num.sign < r.num.sign) : q < r := by
  rw [Rat.lt_iff]
  have hq : (0 : Int) < q.den := by exact_mod_cast q.den_pos
  have hr : (0 : Int) < r.den := by exact_mod_cast r.den_pos
  rcases Int.lt_trichotomy q.num 0 with a | a | a
  · rcases Int.lt_trichotomy r.num 0 with b | b | b
    · rw [Int.sign_eq_neg_one_of_neg a, Int.sign_eq_neg_one_of_neg b] at h; omega
    · rw [b, Int.zero_mul]; exact Int.mul_neg_of_neg_of_pos a hr
    · exact Int.lt_trans (Int.mul_neg_of_neg_of_pos a hr) (Int.mul_pos b hq)
  · rcases Int.lt_trichotomy r.num 0 with b | b | b
    · rw [a, Int.sign_eq_neg_one_of_neg b] at h; simp at h
    · rw [a, b] at h; simp at h
    · rw [a, Int.zero_mul]; exact Int.mul_pos b hq
  · have h1 := Int.sign_eq_one_of_pos a
    rw [h1] at h
    rcases Int.lt_trichotomy r.num 0 with b | b | b
    · rw [Int.sign_eq_neg_one_of_neg b] at h; omega
    · rw [b] at h; simp at h
    · rw [Int.sign_eq_one_of_pos b] at h; omega
theorem rcmp_same {q r : Rat} (h : q.num.sign = r.num.sign) : rcmp q r = if q.num < 0 then - ncmp (q.num.natAbs * r.den) (r.num.natAbs * q.den) else ncmp (q.num.natAbs * r.den) (r.num.natAbs * q.den) := by
  have hq := q.den_pos
  have hr := r.den_pos
  have key : ∀ x y : Int, x = q.num * r.den → y = r.num * q.den → rcmp q r = if x < y then -1 else if y < x then 1 else 0 := by
    rintro x y rfl rfl
    simp only [rcmp, Rat.lt_iff]
  by_cases hn : q.num < 0
  · have hm : r.num < 0 := by
      rw [Int.sign_eq_neg_one_of_neg hn] at h
      exact Int.sign_eq_neg_one_iff_neg.1 h.symm
    have e1 : q.num * r.den = -((q.num.natAbs * r.den : Nat) : Int) := by
      rw [Int.natCast_mul, ← Int.neg_mul]; congr 1; omega
    have e2 : r.num * q.den = -((r.num.natAbs * q.den : Nat) : Int) := by
      rw [Int.natCast_mul, ← Int.neg_mul]; congr 1; omega
    rw [key _ _ e1.symm e2.symm, if_pos hn]
    obtain ⟨x, hx⟩ : ∃ x, x = q.num.natAbs * r.den := ⟨_, rfl⟩
    obtain ⟨y, hy⟩ : ∃ y, y = r.num.natAbs * q.den := ⟨_, rfl⟩
    rw [← hx, ← hy, ncmp]
    split <;> split <;> (try split) <;> (try split) <;> omega
  · have hm : ¬ r.num < 0 := by
      intro hm
      rw [Int.sign_eq_neg_one_of_neg hm] at h
      exact hn (Int.sign_eq_neg_one_iff_neg.1 h)
    have e1 : q.num * r.den = ((q.num.natAbs * r.den : Nat) : Int) := by
      rw [Int.natCast_mul]; congr 1; omega
    have e2 : r.num * q.den = ((r.num.natAbs * q.den : Nat) : Int) := by
      rw [Int.natCast_mul]; congr 1; omega
    rw [key _ _ e1.symm e2.symm, if_neg hn]
    obtain ⟨x, hx⟩ : ∃ x, x = q.num.natAbs * r.den := ⟨_, rfl⟩
    obtain ⟨y, hy⟩ : ∃ y, y = r.num.natAbs * q.den := ⟨_, rfl⟩
    rw [← hx, ← hy, ncmp]
    split <;> split <;> (try split) <;> (try split) <;> omega

theorem order_calls (w : World) (v1 v2 : Value) (q r : Rat) (h1 : RtV w v1 q) (h2 : RtV w v2 r) (s1 : Szq 500000000 q) (s2 : Szq 500000000 r) :
    Calls Try.prog 100 #[v1, v2] w fun e w' => e = .returned (.int .i64 (rcmp q r)) ∧ Below w.heap.size w w' := by
  obtain ⟨A, c, A2, c2, rfl, hn1, hd1⟩ := h1.open
  obtain ⟨A3, c3, A4, c4, rfl, hn2, hd2⟩ := h2.open
  obtain ⟨n1, e1⟩ : ∃ n, n = decide (q.num < 0) := ⟨_, rfl⟩
  obtain ⟨n2, e2⟩ : ∃ n, n = decide (r.num < 0) := ⟨_, rfl⟩
  rw [← e1] at h1 ⊢
  rw [← e2] at h2 ⊢
  have H := heldP_new w (.slice A (dg q.num.natAbs).length c) (.slice A2 (dg q.den).length c2) (.bool n1) (.slice A3 (dg r.num.natAbs).length c3) (.slice A4 (dg r.den).length c4) (.bool n2)
  have ya : (dg q.num.natAbs).length ≤ 1073741824 := Nat.le_trans s1.1 (by omega)
  have yb : (dg q.den).length ≤ 1073741824 := Nat.le_trans s1.2 (by omega)
  have yc : (dg r.num.natAbs).length ≤ 1073741824 := Nat.le_trans s2.1 (by omega)
  have yd : (dg r.den).length ≤ 1073741824 := Nat.le_trans s2.2 (by omega)
  have E1 := Lib.hid e1
  clear s1 s2 e1 e2
  go_enter Try.func100, Try.ntmps100
  go_wp2_with fail
  have hs := (HeldP.next (bl_drew _) H).cells
  go_region_held3 (fun w' => HeldP w (.slice A (dg q.num.natAbs).length c) (.slice A2 (dg q.den).length c2) (.bool n1) (.slice A3 (dg r.num.natAbs).length c3) (.slice A4 (dg r.den).length c4) (.bool n2) w' ∧ (w'.cell? ⟨w.heap.size, 0, none⟩ = some (.slice A (dg q.num.natAbs).length c) ∧ w'.cell? ⟨w.heap.size, 1, none⟩ = some (.slice A2 (dg q.den).length c2) ∧ w'.cell? ⟨w.heap.size, 2, none⟩ = some (.bool n1)) ∧ (w'.cell? ⟨w.heap.size + 1, 0, none⟩ = some (.slice A3 (dg r.num.natAbs).length c3) ∧ w'.cell? ⟨w.heap.size + 1, 1, none⟩ = some (.slice A4 (dg r.den).length c4) ∧ w'.cell? ⟨w.heap.size + 1, 2, none⟩ = some (.bool n2)))
    ((first | exact hs | exact (HeldP.next hbN (And.left (by assumption))).cells))
    (first
      | (go_at_call 91; (with_reducible refine (sign_calls _ _ q ?_).mono ?_); (exact h1.heldP (And.left (by assumption))); (rintro e w' ⟨rfl, hbN⟩))
      | (go_at_call 91; (with_reducible refine (sign_calls _ _ r ?_).mono ?_); (exact h2.heldP (And.left (by assumption))); (rintro e w' ⟨rfl, hbN⟩); (have H1 := HeldP.next hbN (And.left (by assumption)))))
  clear h1 h2
  obtain ⟨x, hx⟩ : ∃ x, x = q.num.sign := ⟨_, rfl⟩
  obtain ⟨y, hy⟩ : ∃ y, y = r.num.sign := ⟨_, rfl⟩
  rw [← hx, ← hy]
  rcases Int.lt_trichotomy x y with hc | hc | hc
  · have HR := Lib.hid (rcmp_lt (sign_lt q r (by rw [← hx, ← hy]; exact hc)))
    clear hx hy
    go_wp2
    go_ret
    exact ⟨by rw [HR.out]; rfl, H1.1⟩
  · have hsame := rcmp_same (q := q) (r := r) (by rw [← hx, ← hy]; exact hc)
    have hsm : rcmp q r = if n1 = true then - ncmp (q.num.natAbs * r.den) (r.num.natAbs * q.den) else ncmp (q.num.natAbs * r.den) (r.num.natAbs * q.den) := by
      rw [hsame, E1.out]; simp only [decide_eq_true_eq]
    have HS := Lib.hid hsm
    clear hsm
    subst hc
    clear hsame hx hy hs E1
    go_wp2_with fail
    have hs := (HeldP.next (bl_drew _) H1).cells
    go_region_held3 (fun w' => HeldP w (.slice A (dg q.num.natAbs).length c) (.slice A2 (dg q.den).length c2) (.bool n1) (.slice A3 (dg r.num.natAbs).length c3) (.slice A4 (dg r.den).length c4) (.bool n2) w' ∧ (w'.cell? ⟨w.heap.size, 0, none⟩ = some (.slice A (dg q.num.natAbs).length c) ∧ w'.cell? ⟨w.heap.size, 1, none⟩ = some (.slice A2 (dg q.den).length c2) ∧ w'.cell? ⟨w.heap.size, 2, none⟩ = some (.bool n1)) ∧ (w'.cell? ⟨w.heap.size + 1, 0, none⟩ = some (.slice A3 (dg r.num.natAbs).length c3) ∧ w'.cell? ⟨w.heap.size + 1, 1, none⟩ = some (.slice A4 (dg r.den).length c4) ∧ w'.cell? ⟨w.heap.size + 1, 2, none⟩ = some (.bool n2)))
      ((first | exact hs | exact (HeldP.next hbN (And.left (by assumption))).cells))
      (first
        | (go_at_call 116; (with_reducible refine (mul_calls _ _ _ q.num.natAbs r.den ?_ ?_ ya yd).mono ?_); (exact hn1.heldP (And.left (by assumption))); (exact hd2.heldP (And.left (by assumption))); (rintro e w' ⟨v, rfl, hv1, hbN⟩))
        | (go_at_call 116; (with_reducible refine (mul_calls _ _ _ r.num.natAbs q.den ?_ ?_ yc yb).mono ?_); (exact hn2.heldP (And.left (by assumption))); (exact hd1.heldP (And.left (by assumption))); (rintro e w' ⟨v, rfl, hv2, hbN⟩))
        | (go_at_call 115; (with_reducible refine (cmp_calls _ _ _ (q.num.natAbs * r.den) (r.num.natAbs * q.den) (Nm.next hbN hv1) hv2).mono ?_); (rintro e w' ⟨rfl, hbN⟩); (have H2 := HeldP.next hbN (And.left (by assumption)))))
    obtain ⟨_, ⟨p0, p1, p2⟩, _⟩ := H2.cells
    obtain ⟨k, hk⟩ : ∃ k, k = ncmp (q.num.natAbs * r.den) (r.num.natAbs * q.den) := ⟨_, rfl⟩
    rw [← hk] at HS ⊢
    have hk3 : k = -1 ∨ k = 0 ∨ k = 1 := by rw [hk]; unfold ncmp; split <;> (try split) <;> simp
    clear hk hs
    cases n1
    · go_wp2
      go_ret
      exact ⟨by rw [HS.out]; rfl, H2.1⟩
    · rcases hk3 with rfl | rfl | rfl
      all_goals
        go_wp2
        go_ret
        exact ⟨by rw [HS.out]; rfl, H2.1⟩
  · have HR := Lib.hid (rcmp_gt (sign_lt r q (by rw [← hx, ← hy]; exact hc)))
    clear hx hy
    go_wp2
    go_ret
    exact ⟨by rw [HR.out]; rfl, H1.1⟩

end Go.Proofs.Ytajckdheecgceaa
