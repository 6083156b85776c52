/- Fractions: times, plus, order. -/
import Derived.Test.YtdmgceckmciifaaRat2
import Derived.Deep.RegionHeld3
set_option linter.unusedVariables false
set_option linter.unusedSimpArgs false
namespace Go.Proofs.Ytdmgceckmciifaa
open Go.RowKit

/-- Two ratios are boxed, and a cell for the result: they lie there, and nothing old is changed. -/
def Held2 (w : World) (a0 a1 a2 b0 b1 b2 : Value) (w' : World) : Prop := Below w.heap.size w w' ∧ Blk w' w.heap.size 59 #[a0, a1, a2] ∧ Blk w' (w.heap.size + 1) 59 #[b0, b1, b2] ∧ ∃ x0 x1 x2, ((∀ n, x0 ≠ .int .u32 n) ∧ (∀ n, x1 ≠ .int .u32 n) ∧ ∀ n, x2 ≠ .int .u32 n) ∧ Blk w' (w.heap.size + 2) 59 #[x0, x1, x2]
theorem Held2.cells {w w' : World} {a0 a1 a2 b0 b1 b2 : Value} (h : Held2 w a0 a1 a2 b0 b1 b2 w') : Held2 w a0 a1 a2 b0 b1 b2 w' ∧ (w'.cell? ⟨w.heap.size, 0, none⟩ = some a0 ∧ w'.cell? ⟨w.heap.size, 1, none⟩ = some a1 ∧ w'.cell? ⟨w.heap.size, 2, none⟩ = some a2) ∧ (w'.cell? ⟨w.heap.size + 1, 0, none⟩ = some b0 ∧ w'.cell? ⟨w.heap.size + 1, 1, none⟩ = some b1 ∧ w'.cell? ⟨w.heap.size + 1, 2, none⟩ = some b2) :=
  ⟨h, ⟨h.2.1.cell 0, h.2.1.cell 1, h.2.1.cell 2⟩, ⟨h.2.2.1.cell 0, h.2.2.1.cell 1, h.2.2.1.cell 2⟩⟩
theorem Held2.next {w w1 w2 : World} {a0 a1 a2 b0 b1 b2 : Value} (k : Below w1.heap.size w1 w2) (h : Held2 w a0 a1 a2 b0 b1 b2 w1) : Held2 w a0 a1 a2 b0 b1 b2 w2 := by
  obtain ⟨h0, h1, h2, x0, x1, x2, h3, h4⟩ := h
  exact ⟨bl_trans h0 k, h1.below k, h2.below k, x0, x1, x2, h3, h4.below k⟩
theorem Held2.bl {w w1 : World} {a0 a1 a2 b0 b1 b2 : Value} (h : Held2 w a0 a1 a2 b0 b1 b2 w1) : Below w.heap.size w w1 := h.1
theorem Nm.held {w w1 : World} {v : Value} {n : Nat} {a0 a1 a2 b0 b1 b2 : Value} (hv : Nm w v n) (h : Held2 w a0 a1 a2 b0 b1 b2 w1) : Nm w1 v n := hv.below h.1
theorem Blk.other {w : World} {g t : Nat} {cs : Array Value} (h : Blk w g t cs) (a : Addr) (x : Value) (hne : g ≠ a.block) : Blk (w.setCell a x) g t cs := (heap_setCell_other w a g x hne).trans h
/-- The result is stored. -/
theorem Held2.set {w w1 : World} {a0 a1 a2 b0 b1 b2 : Value} (h : Held2 w a0 a1 a2 b0 b1 b2 w1) (A : Option Addr) (l c : Nat) (A2 : Option Addr) (l2 c2 : Nat) (b : Bool) : Held2 w a0 a1 a2 b0 b1 b2 (((w1.setCell ⟨w.heap.size + 2, 0, none⟩ (.slice A l c)).setCell ⟨w.heap.size + 2, 1, none⟩ (.slice A2 l2 c2)).setCell ⟨w.heap.size + 2, 2, none⟩ (.bool b)) := by
  obtain ⟨h0, h1, h2, x0, x1, x2, h3, h4⟩ := h
  exact ⟨three_below h0 (by omega) _ _ _, ((h1.other _ _ (by simp)).other _ _ (by simp)).other _ _ (by simp), ((h2.other _ _ (by simp)).other _ _ (by simp)).other _ _ (by simp), _, _, _, ⟨by simp, by simp, by simp⟩, blk3 h4 _ _ _⟩
/-- What the store asks. -/
theorem Held2.store {w w1 : World} {a0 a1 a2 b0 b1 b2 : Value} (h : Held2 w a0 a1 a2 b0 b1 b2 w1) : (∃ x0 x1 x2, w1.cell? ⟨w.heap.size + 2, 0, none⟩ = some x0 ∧ w1.cell? ⟨w.heap.size + 2, 1, none⟩ = some x1 ∧ w1.cell? ⟨w.heap.size + 2, 2, none⟩ = some x2) ∧ ∀ j, w1.frozen? ⟨w.heap.size + 2, j, none⟩ = false := by
  obtain ⟨h0, h1, h2, x0, x1, x2, h3, h4⟩ := h
  exact ⟨⟨x0, x1, x2, h4.cell 0, h4.cell 1, h4.cell 2⟩, h4.free⟩
/-- The result that is stored is the fraction. -/
theorem Held2.done {w w1 : World} {a0 a1 a2 b0 b1 b2 : Value} (h : Held2 w a0 a1 a2 b0 b1 b2 w1) {A : Option Addr} {l c : Nat} {A2 : Option Addr} {l2 c2 : Nat} {b : Bool} {q : Rat} (hr : RtV w1 (.agg #[.slice A l c, .slice A2 l2 c2, .bool b]) q) :
    RtV (((w1.setCell ⟨w.heap.size + 2, 0, none⟩ (.slice A l c)).setCell ⟨w.heap.size + 2, 1, none⟩ (.slice A2 l2 c2)).setCell ⟨w.heap.size + 2, 2, none⟩ (.bool b)) (.agg #[.slice A l c, .slice A2 l2 c2, .bool b]) q ∧ Below w.heap.size w (((w1.setCell ⟨w.heap.size + 2, 0, none⟩ (.slice A l c)).setCell ⟨w.heap.size + 2, 1, none⟩ (.slice A2 l2 c2)).setCell ⟨w.heap.size + 2, 2, none⟩ (.bool b)) ∧ Blk (((w1.setCell ⟨w.heap.size + 2, 0, none⟩ (.slice A l c)).setCell ⟨w.heap.size + 2, 1, none⟩ (.slice A2 l2 c2)).setCell ⟨w.heap.size + 2, 2, none⟩ (.bool b)) (w.heap.size + 2) 59 #[.slice A l c, .slice A2 l2 c2, .bool b] := by
  obtain ⟨h0, h1, h2, x0, x1, x2, h3, h4⟩ := h
  obtain ⟨v1, v2, hv, k1, k2⟩ := hr
  exact ⟨⟨v1, v2, hv, blk3_keep k1 h4 h3.1 h3.2.1 h3.2.2 _ _ _, blk3_keep k2 h4 h3.1 h3.2.1 h3.2.2 _ _ _⟩, three_below h0 (by omega) _ _ _, blk3 h4 _ _ _⟩
/-- Behind one more call. -/
theorem bl_next {w w1 w2 : World} (k : Below w1.heap.size w1 w2) (h : Below w.heap.size w w1) : Below w.heap.size w w2 := bl_trans h k
theorem Nm.next {w1 w2 : World} {v : Value} {n : Nat} (k : Below w1.heap.size w1 w2) (h : Nm w1 v n) : Nm w2 v n := h.below k
/-- What lies there after two ratios and a result are boxed. -/
theorem boxed3 (w : World) (x y z : Array Value) (t1 t2 t3 : Nat) : Blk (((w.alloc (.cells x t1)).alloc (.cells y t2)).alloc (.cells z t3)) w.heap.size t1 x ∧ Blk (((w.alloc (.cells x t1)).alloc (.cells y t2)).alloc (.cells z t3)) (w.heap.size + 1) t2 y ∧ Blk (((w.alloc (.cells x t1)).alloc (.cells y t2)).alloc (.cells z t3)) (w.heap.size + 2) t3 z := by
  have h1 := Blk.new w t1 x
  have h2 := Blk.new (w.alloc (.cells x t1)) t2 y
  have h3 := Blk.new ((w.alloc (.cells x t1)).alloc (.cells y t2)) t3 z
  rw [show (w.alloc (.cells x t1)).heap.size = w.heap.size + 1 by simp] at h2
  rw [show ((w.alloc (.cells x t1)).alloc (.cells y t2)).heap.size = w.heap.size + 2 by simp] at h3
  exact ⟨(h1.below (below_alloc0 _ _)).below (below_alloc0 _ _), h2.below (below_alloc0 _ _), h3⟩
theorem bl_alloc3 (w : World) (x y z : Obj) : Below w.heap.size w (((w.alloc x).alloc y).alloc z) := bl_trans (bl_trans (below_alloc0 _ _) (below_alloc0 _ _)) (below_alloc0 _ _)
theorem held2_new (w : World) (a0 a1 a2 b0 b1 b2 : Value) : Held2 w a0 a1 a2 b0 b1 b2 (((w.alloc (.cells #[a0, a1, a2] 59)).alloc (.cells #[b0, b1, b2] 59)).alloc (.cells #[.slice none 0 0, .slice none 0 0, .bool false] 59)) := by
  obtain ⟨K1, K2, K4⟩ := boxed3 w #[a0, a1, a2] #[b0, b1, b2] #[.slice none 0 0, .slice none 0 0, .bool false] 59 59 59
  exact ⟨bl_alloc3 _ _ _ _, K1, K2, _, _, _, ⟨by simp, by simp, by simp⟩, K4⟩

theorem sgn_num (n : Int) : sgn (decide (n < 0)) n.natAbs = n := by
  by_cases h : n < 0 <;> simp [sgn, h] <;> omega
theorem mk_mul (q r : Rat) : mkRat (sgn (decide (q.num < 0) != decide (r.num < 0)) (q.num.natAbs * r.num.natAbs)) (q.den * r.den) = q * r := by
  have h : sgn (decide (q.num < 0) != decide (r.num < 0)) (q.num.natAbs * r.num.natAbs) = q.num * r.num := by
    conv => rhs; rw [← sgn_num q.num, ← sgn_num r.num]
    by_cases h : q.num < 0 <;> by_cases h2 : r.num < 0 <;> simp [sgn, h, h2, Int.neg_mul, Int.mul_neg]
  rw [h, ← Rat.mul_def']
theorem dg_mul_le {a b k l : Nat} (ha : (dg a).length ≤ k) (hb : (dg b).length ≤ l) : (dg (a * b)).length ≤ k + l := by
  rw [dg_len] at *
  rw [Nat.pow_add]
  rcases Nat.eq_zero_or_pos a with rfl | h
  · simp only [Nat.zero_mul]; exact Nat.mul_pos (Nat.pow_pos (by omega)) (Nat.pow_pos (by omega))
  · exact Nat.lt_of_lt_of_le (Nat.mul_lt_mul_of_pos_left hb h) (Nat.mul_le_mul_right _ (Nat.le_of_lt ha))

theorem times_calls (w : World) (v1 v2 : Value) (q r : Rat) (h1 : RtV w v1 q) (h2 : RtV w v2 r) (s1 : Szq 500000000 q) (s2 : Szq 500000000 r) :
    Calls Try.prog 63 #[v1, v2] w (RtPost (q * r) w) := by
  obtain ⟨A, c, A2, c2, rfl, hn1, hd1⟩ := h1.open
  obtain ⟨A3, c3, A4, c4, rfl, hn2, hd2⟩ := h2.open
  have hm := mk_mul q r
  obtain ⟨n1, e1⟩ : ∃ n, n = decide (q.num < 0) := ⟨_, rfl⟩
  obtain ⟨n2, e2⟩ : ∃ n, n = decide (r.num < 0) := ⟨_, rfl⟩
  rw [← e1, ← e2] at hm
  rw [← e1, ← e2]
  have HM := Lib.hid hm
  clear hm e1 e2
  have H := held2_new w (.slice A (dg q.num.natAbs).length c) (.slice A2 (dg q.den).length c2) (.bool n1) (.slice A3 (dg r.num.natAbs).length c3) (.slice A4 (dg r.den).length c4) (.bool n2)
  by_cases hz : q.num.natAbs = 0
  · have hq : 0 = q * r := by
      rw [show q = 0 from Rat.num_eq_zero.1 (by omega)]; simp
    have HQ := Lib.hid hq
    have e : (dg q.num.natAbs).length = 0 := dg_len_zero.2 hz
    rw [e] at H
    clear hz
    clear hq hn1 hd1 hn2 hd2 h1 h2 s1 s2 HM
    go_enter Try.func63, Try.ntmps63
    go_wp2_with fail
    refine (whole_calls _ 0 (by omega) (by omega)).mono ?_
    rintro e w1 ⟨v, rfl, hv, hb1⟩
    have H1 := Held2.next hb1 H
    obtain ⟨⟨x0, x1, x2, m0, m1, m2⟩, f1⟩ := H1.store
    obtain ⟨B, d, B2, d2, rfl, _, _⟩ := hv.open
    go_wp2
    obtain ⟨t1, t2, t3⟩ := H1.done hv
    exact bodyPost_ret (results_cell_row rfl _ _ (w.heap.size + 2) 59 _ (0, 0) _ rfl t3 Try.underlying59 rfl (by kernel_rfl)) rfl ⟨_, rfl, HQ.out ▸ t1, t2⟩
  by_cases hy : r.num.natAbs = 0
  · have hq : 0 = q * r := by
      rw [show r = 0 from Rat.num_eq_zero.1 (by omega)]; simp
    have HQ := Lib.hid hq
    have e : (dg r.num.natAbs).length = 0 := dg_len_zero.2 hy
    have e' := int_ne0 (Nat.pos_of_ne_zero (fun h => hz (dg_len_zero.1 h)) : 0 < (dg q.num.natAbs).length)
    rw [e] at H
    clear hz hy
    clear hq hn1 hd1 hn2 hd2 h1 h2 s1 s2 HM
    go_enter Try.func63, Try.ntmps63
    go_wp2_with fail
    refine (whole_calls _ 0 (by omega) (by omega)).mono ?_
    rintro e w1 ⟨v, rfl, hv, hb1⟩
    have H1 := Held2.next hb1 H
    obtain ⟨⟨x0, x1, x2, m0, m1, m2⟩, f1⟩ := H1.store
    obtain ⟨B, d, B2, d2, rfl, _, _⟩ := hv.open
    go_wp2
    obtain ⟨t1, t2, t3⟩ := H1.done hv
    exact bodyPost_ret (results_cell_row rfl _ _ (w.heap.size + 2) 59 _ (0, 0) _ rfl t3 Try.underlying59 rfl (by kernel_rfl)) rfl ⟨_, rfl, HQ.out ▸ t1, t2⟩
  · have e := int_ne0 (Nat.pos_of_ne_zero (fun h => hz (dg_len_zero.1 h)) : 0 < (dg q.num.natAbs).length)
    have e' := int_ne0 (Nat.pos_of_ne_zero (fun h => hy (dg_len_zero.1 h)) : 0 < (dg r.num.natAbs).length)
    have sm := dg_mul_le s1.1 s2.1
    have sd := dg_mul_le s1.2 s2.2
    have hp := Nat.mul_pos q.den_pos r.den_pos
    have ya : (dg q.num.natAbs).length ≤ 1073741824 := Nat.le_trans s1.1 (by omega)
    have yb : (dg q.den).length ≤ 1073741824 := Nat.le_trans s1.2 (by omega)
    have yc : (dg r.num.natAbs).length ≤ 1073741824 := Nat.le_trans s2.1 (by omega)
    have yd : (dg r.den).length ≤ 1073741824 := Nat.le_trans s2.2 (by omega)
    clear h1 h2 s1 s2 hz hy
    go_enter Try.func63, Try.ntmps63
    go_wp2_with fail
    have hs := (Held2.next (bl_drew _) H).cells
    go_region_held3 (fun w' => Held2 w (.slice A (dg q.num.natAbs).length c) (.slice A2 (dg q.den).length c2) (.bool n1) (.slice A3 (dg r.num.natAbs).length c3) (.slice A4 (dg r.den).length c4) (.bool n2) w' ∧ (w'.cell? ⟨w.heap.size, 0, none⟩ = some (.slice A (dg q.num.natAbs).length c) ∧ w'.cell? ⟨w.heap.size, 1, none⟩ = some (.slice A2 (dg q.den).length c2) ∧ w'.cell? ⟨w.heap.size, 2, none⟩ = some (.bool n1)) ∧ (w'.cell? ⟨w.heap.size + 1, 0, none⟩ = some (.slice A3 (dg r.num.natAbs).length c3) ∧ w'.cell? ⟨w.heap.size + 1, 1, none⟩ = some (.slice A4 (dg r.den).length c4) ∧ w'.cell? ⟨w.heap.size + 1, 2, none⟩ = some (.bool n2)))
      ((first | exact hs | exact (Held2.set H1 _ _ _ _ _ _ _).cells | exact (Held2.next hbN (And.left (by assumption))).cells))
      (first
        | (go_at_call 103; (with_reducible refine (mul_calls _ _ _ q.num.natAbs r.num.natAbs ?_ ?_ ya yc).mono ?_); (exact hn1.held (And.left (by assumption))); (exact hn2.held (And.left (by assumption))); (rintro e w' ⟨v, rfl, hv, hbN⟩))
        | (go_at_call 103; (with_reducible refine (mul_calls _ _ _ q.den r.den ?_ ?_ yb yd).mono ?_); (exact hd1.held (And.left (by assumption))); (exact hd2.held (And.left (by assumption))); (rintro e w' ⟨v, rfl, hv', hbN⟩))
        | (go_at_call 102; (with_reducible refine (reduced_calls _ _ _ (q.num.natAbs * r.num.natAbs) (q.den * r.den) _ ?_ ?_ hp (by omega) (by omega)).mono ?_); (exact Nm.next hbN hv); (exact hv'); (rintro e w' ⟨v, rfl, hrt, hbN⟩); (obtain ⟨B, d, B2, d2, rfl, _, _⟩ := hrt.open); (have H1 := Held2.next hbN (And.left (by assumption))); (obtain ⟨⟨x0, x1, x2, m0, m1, m2⟩, f1⟩ := H1.store)))
    go_wp2
    obtain ⟨t1, t2, t3⟩ := H1.done hrt
    exact bodyPost_ret (results_cell_row rfl _ _ (w.heap.size + 2) 59 _ (0, 0) _ rfl t3 Try.underlying59 rfl (by kernel_rfl)) rfl ⟨_, rfl, by rw [← HM.out]; exact t1, t2⟩
end Go.Proofs.Ytdmgceckmciifaa
