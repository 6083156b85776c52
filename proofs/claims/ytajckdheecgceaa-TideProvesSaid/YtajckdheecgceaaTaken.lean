/- Fractions as they are handed in and told: taken, told. -/
import Derived.Test.YtajckdheecgceaaPlus
import Derived.Test.YtajckdheecgceaaRight
set_option linter.unusedVariables false
set_option linter.unusedSimpArgs false
namespace Go.Proofs.Ytajckdheecgceaa
open Go.RowKit

/-- A struct of three cells is boxed, and a cell for the result: it lies there, and nothing old is changed. -/
def Held1 (w : World) (tb tr : Nat) (a0 a1 a2 : Value) (w' : World) : Prop := Below w.heap.size w w' ∧ Blk w' w.heap.size tb #[a0, a1, a2] ∧ ∃ x0 x1 x2, ((∀ n, x0 ≠ .int .u32 n) ∧ (∀ n, x1 ≠ .int .u32 n) ∧ ∀ n, x2 ≠ .int .u32 n) ∧ Blk w' (w.heap.size + 1) tr #[x0, x1, x2]
theorem Held1.cells {w w' : World} {tb tr : Nat} {a0 a1 a2 : Value} (h : Held1 w tb tr a0 a1 a2 w') : Held1 w tb tr a0 a1 a2 w' ∧ (w'.cell? ⟨w.heap.size, 0, none⟩ = some a0 ∧ w'.cell? ⟨w.heap.size, 1, none⟩ = some a1 ∧ w'.cell? ⟨w.heap.size, 2, none⟩ = some a2) :=
  ⟨h, ⟨h.2.1.cell 0, h.2.1.cell 1, h.2.1.cell 2⟩⟩
theorem Held1.next {w w1 w2 : World} {tb tr : Nat} {a0 a1 a2 : Value} (k : Below w1.heap.size w1 w2) (h : Held1 w tb tr a0 a1 a2 w1) : Held1 w tb tr a0 a1 a2 w2 := by
  obtain ⟨h0, h1, x0, x1, x2, h3, h4⟩ := h
  exact ⟨bl_trans h0 k, h1.below k, x0, x1, x2, h3, h4.below k⟩
theorem Held1.bl {w w1 : World} {tb tr : Nat} {a0 a1 a2 : Value} (h : Held1 w tb tr a0 a1 a2 w1) : Below w.heap.size w w1 := h.1
theorem Held1.set {w w1 : World} {tb tr : Nat} {a0 a1 a2 : Value} (h : Held1 w tb tr a0 a1 a2 w1) (y0 y1 y2 : Value) (n0 : ∀ n, y0 ≠ .int .u32 n) (n1 : ∀ n, y1 ≠ .int .u32 n) (n2 : ∀ n, y2 ≠ .int .u32 n) : Held1 w tb tr a0 a1 a2 (((w1.setCell ⟨w.heap.size + 1, 0, none⟩ y0).setCell ⟨w.heap.size + 1, 1, none⟩ y1).setCell ⟨w.heap.size + 1, 2, none⟩ y2) := by
  obtain ⟨h0, h1, x0, x1, x2, h3, h4⟩ := h
  exact ⟨three_below h0 (by omega) _ _ _, ((h1.other _ _ (by simp)).other _ _ (by simp)).other _ _ (by simp), _, _, _, ⟨n0, n1, n2⟩, blk3 h4 _ _ _⟩
theorem Held1.store {w w1 : World} {tb tr : Nat} {a0 a1 a2 : Value} (h : Held1 w tb tr a0 a1 a2 w1) : (∃ x0 x1 x2, w1.cell? ⟨w.heap.size + 1, 0, none⟩ = some x0 ∧ w1.cell? ⟨w.heap.size + 1, 1, none⟩ = some x1 ∧ w1.cell? ⟨w.heap.size + 1, 2, none⟩ = some x2) ∧ ∀ j, w1.frozen? ⟨w.heap.size + 1, j, none⟩ = false := by
  obtain ⟨h0, h1, x0, x1, x2, h3, h4⟩ := h
  exact ⟨⟨x0, x1, x2, h4.cell 0, h4.cell 1, h4.cell 2⟩, h4.free⟩
theorem RdI.three {w : World} {v : Value} {l : List Int} {B : Nat} (h : RdI .u32 w v l) {x0 x1 x2 : Value} (h0 : w.cell? ⟨B, 0, none⟩ = some x0) (h1 : w.cell? ⟨B, 1, none⟩ = some x1) (h2 : w.cell? ⟨B, 2, none⟩ = some x2)
    (n0 : ∀ n, x0 ≠ .int .u32 n) (n1 : ∀ n, x1 ≠ .int .u32 n) (n2 : ∀ n, x2 ≠ .int .u32 n) (y0 y1 y2 : Value) : RdI .u32 (((w.setCell ⟨B, 0, none⟩ y0).setCell ⟨B, 1, none⟩ y1).setCell ⟨B, 2, none⟩ y2) v l := by
  refine RdI.set (x0 := x2) (RdI.set (x0 := x1) (RdI.set h h0 n0 y0) ?_ n1 y1) ?_ n2 y2
  · rw [World.cell?_setCell_other _ _ _ _ (by simp)]; exact h1
  · rw [World.cell?_setCell_other _ _ _ _ (by simp), World.cell?_setCell_other _ _ _ _ (by simp)]; exact h2
theorem Held1.kept {w w1 : World} {tb tr : Nat} {a0 a1 a2 : Value} (h : Held1 w tb tr a0 a1 a2 w1) {k : List Int} {v : Value} (hr : RdI .u32 w1 v k) (y0 y1 y2 : Value) :
    RdI .u32 (((w1.setCell ⟨w.heap.size + 1, 0, none⟩ y0).setCell ⟨w.heap.size + 1, 1, none⟩ y1).setCell ⟨w.heap.size + 1, 2, none⟩ y2) v k := by
  obtain ⟨h0, h1, x0, x1, x2, h3, h4⟩ := h
  exact RdI.three hr (h4.cell 0) (h4.cell 1) (h4.cell 2) h3.1 h3.2.1 h3.2.2 y0 y1 y2
theorem Held1.res {w w1 : World} {tb tr : Nat} {a0 a1 a2 : Value} (h : Held1 w tb tr a0 a1 a2 w1) (y0 y1 y2 : Value) :
    Below w.heap.size w (((w1.setCell ⟨w.heap.size + 1, 0, none⟩ y0).setCell ⟨w.heap.size + 1, 1, none⟩ y1).setCell ⟨w.heap.size + 1, 2, none⟩ y2) ∧ Blk (((w1.setCell ⟨w.heap.size + 1, 0, none⟩ y0).setCell ⟨w.heap.size + 1, 1, none⟩ y1).setCell ⟨w.heap.size + 1, 2, none⟩ y2) (w.heap.size + 1) tr #[y0, y1, y2] := by
  obtain ⟨h0, h1, x0, x1, x2, h3, h4⟩ := h
  exact ⟨three_below h0 (by omega) _ _ _, blk3 h4 _ _ _⟩
theorem held1_new (w : World) (tb tr : Nat) (a0 a1 a2 : Value) (x0 x1 x2 : Value) (n0 : ∀ n, x0 ≠ .int .u32 n) (n1 : ∀ n, x1 ≠ .int .u32 n) (n2 : ∀ n, x2 ≠ .int .u32 n) : Held1 w tb tr a0 a1 a2 ((w.alloc (.cells #[a0, a1, a2] tb)).alloc (.cells #[x0, x1, x2] tr)) := by
  refine ⟨bl_trans (below_alloc0 _ _) (below_alloc0 _ _), (Blk.new w _ _).below (below_alloc0 _ _), x0, x1, x2, ⟨n0, n1, n2⟩, ?_⟩
  have h2 := Blk.new (w.alloc (.cells #[a0, a1, a2] tb)) tr #[x0, x1, x2]
  rwa [show (w.alloc (.cells #[a0, a1, a2] tb)).heap.size = w.heap.size + 1 by simp] at h2
theorem FrIn.shape {w : World} {v : Value} {neg : Bool} {ln ld : List Int} (h : FrIn w v neg ln ld) : ∃ A c A2 c2, v = .agg #[.bool neg, .slice A ln.length c, .slice A2 ld.length c2] ∧ RdI .u32 w (.slice A ln.length c) ln ∧ RdI .u32 w (.slice A2 ld.length c2) ld ∧ Wd ln ∧ Wd ld := by
  obtain ⟨v1, v2, rfl, h1, h2, h3, h4⟩ := h
  have h1' := h1
  have h2' := h2
  obtain ⟨A, c, rfl, _⟩ := h1'
  obtain ⟨A2, c2, rfl, _⟩ := h2'
  exact ⟨A, c, A2, c2, rfl, h1, h2, h3, h4⟩

theorem taken_calls (w : World) (v : Value) (neg : Bool) (ln ld : List Int) (h : FrIn w v neg ln ld) (hs : ln.length + ld.length ≤ 4096) :
    Calls Try.prog 90 #[v] w (RtPost (fixq neg ln ld) w) := by
  have hf := h
  obtain ⟨A, c, A2, c2, rfl, h1, h2, w1, w2⟩ := h.shape
  have H := held1_new w 38 113 (.bool neg) (.slice A ln.length c) (.slice A2 ld.length c2) (.slice none 0 0) (.slice none 0 0) (.bool false) (by simp) (by simp) (by simp)
  by_cases hR : RightP neg ln ld
  · obtain ⟨q1, q2, q3⟩ := fixq_parts hR w1 w2
    have hfin : ∀ w', RdI .u32 w' (.slice A ln.length c) ln → RdI .u32 w' (.slice A2 ld.length c2) ld → RtV w' (.agg #[.slice A ln.length c, .slice A2 ld.length c2, .bool neg]) (fixq neg ln ld) := fun w' a b =>
      ⟨_, _, by rw [q1], by unfold Nm; rw [q2]; exact a, by unfold Nm; rw [q3]; exact b⟩
    have HF := Lib.hid hfin
    have HR := Lib.hid (decide_eq_true hR)
    clear hfin q1 q2 q3 hR h
    go_enter Try.func90, Try.ntmps90
    go_wp2_with fail
    refine (right_calls _ _ _ _ _ (hf.below H.bl) hs).mono ?_
    rintro e wa ⟨rfl, hb1⟩
    rw [HR.out]
    have Ha := Held1.next hb1 H
    obtain ⟨_, m0, m1, m2⟩ := Ha.cells
    obtain ⟨⟨x0, x1, x2, n0, n1, n2⟩, f1⟩ := Ha.store
    have k1 := h1.below Ha.bl
    have k2 := h2.below Ha.bl
    clear h1 h2 hf hs H
    go_wp2
    obtain ⟨t1, t2⟩ := Ha.res (.slice A ln.length c) (.slice A2 ld.length c2) (.bool neg)
    exact bodyPost_ret (results_cell_row rfl _ _ (w.heap.size + 1) 113 _ (0, 0) _ rfl t2 Try.underlying113 rfl (by kernel_rfl)) rfl ⟨_, rfl, HF.out _ (Ha.kept k1 _ _ _) (Ha.kept k2 _ _ _), t1⟩
  · have HQ := Lib.hid (show 0 = fixq neg ln ld by rw [fixq, if_neg hR])
    have HR := Lib.hid (decide_eq_false hR)
    clear hR h
    go_enter Try.func90, Try.ntmps90
    go_wp2_with fail
    refine (right_calls _ _ _ _ _ (hf.below H.bl) hs).mono ?_
    rintro e wa ⟨rfl, hb1⟩
    rw [HR.out]
    have Ha := Held1.next hb1 H
    clear h1 h2 hf hs H
    go_wp2_with fail
    refine (whole_calls _ 0 (by omega) (by omega)).mono ?_
    rintro e wb ⟨v, rfl, hv, hb2⟩
    have Hb := Held1.next hb2 Ha
    obtain ⟨⟨x0, x1, x2, n0, n1, n2⟩, f1⟩ := Hb.store
    obtain ⟨B, d, B2, d2, rfl, hn, hd⟩ := hv.open
    go_wp2
    obtain ⟨t1, t2⟩ := Hb.res (.slice B (dg (0 : Rat).num.natAbs).length d) (.slice B2 (dg (0 : Rat).den).length d2) (.bool (decide ((0 : Rat).num < 0)))
    exact bodyPost_ret (results_cell_row rfl _ _ (w.heap.size + 1) 113 _ (0, 0) _ rfl t2 Try.underlying113 rfl (by kernel_rfl)) rfl ⟨_, rfl, HQ.out ▸ ⟨_, _, rfl, Hb.kept hn _ _ _, Hb.kept hd _ _ _⟩, t1⟩

/-- What is handed back is the fraction q, as it is told. -/
def FrPost (q : Rat) (w : World) (e : Ending) (w' : World) : Prop := ∃ v, e = .returned v ∧ FrV w' v q ∧ Below w.heap.size w w'
theorem sum_le {a b : Nat} (h : a + b ≤ 4096) : decide (4096 < wrap64 ((a : Int) + (b : Int))) = false := by
  refine decide_eq_false ?_
  rw [show wrap64 ((a : Int) + (b : Int)) = (a : Int) + (b : Int) by unfold wrap64; omega]
  omega
theorem RdI.shape {k : IntKind} {w : World} {v : Value} {l : List Int} (h : RdI k w v l) : ∃ A c, v = .slice A l.length c ∧ l.length ≤ c ∧ c ≤ 9223372036854775807 := by
  obtain ⟨A, c, hv, h1, h2, _⟩ := h
  exact ⟨A, c, hv, h1, h2⟩
theorem told_calls (w : World) (v : Value) (q : Rat) (h : RtV w v q) (hs : (dg q.num.natAbs).length + (dg q.den).length ≤ 4096) :
    Calls Try.prog 92 #[v] w (FrPost q w) := by
  obtain ⟨A, c, A2, c2, rfl, h1, h2⟩ := h.open
  have hfin : ∀ w' v1 v2, RdI .u32 w' v1 (dg q.num.natAbs) → RdI .u32 w' v2 (dg q.den) → FrV w' (.agg #[.bool (decide (q.num < 0)), v1, v2]) q := fun w' v1 v2 a b =>
    ⟨_, _, rfl, a, b, Wd_dg _, Wd_dg _⟩
  obtain ⟨n1, e1⟩ : ∃ n, n = decide (q.num < 0) := ⟨_, rfl⟩
  rw [← e1] at hfin ⊢
  have HF := Lib.hid hfin
  have H := held1_new w 113 38 (.slice A (dg q.num.natAbs).length c) (.slice A2 (dg q.den).length c2) (.bool n1) (.bool false) (.slice none 0 0) (.slice none 0 0) (by simp) (by simp) (by simp)
  have q1 : decide ((4096 : Int) < ((dg q.num.natAbs).length : Int) + ((dg q.den).length : Int)) = false := decide_eq_false (by omega)
  have y1 : (dg q.num.natAbs).length ≤ 1073741824 := by omega
  have y2 : (dg q.den).length ≤ 1073741824 := by omega
  clear hfin e1 hs h
  go_enter Try.func92, Try.ntmps92
  go_wp2_with fail
  have hs := (Held1.next (bl_drew _) H).cells
  go_region_held3 (fun w' => Held1 w 113 38 (.slice A (dg q.num.natAbs).length c) (.slice A2 (dg q.den).length c2) (.bool n1) w' ∧ (w'.cell? ⟨w.heap.size, 0, none⟩ = some (.slice A (dg q.num.natAbs).length c) ∧ w'.cell? ⟨w.heap.size, 1, none⟩ = some (.slice A2 (dg q.den).length c2) ∧ w'.cell? ⟨w.heap.size, 2, none⟩ = some (.bool n1)))
    ((first | exact hs | exact (Held1.set H1 _ _ _ (by simp) (by simp) (by simp)).cells | exact (Held1.next hbN (And.left (by assumption))).cells))
    (first
      | (go_at_call 114; (with_reducible refine (own_calls _ _ (dg q.num.natAbs) ?_ y1).mono ?_); (exact h1.below (Held1.bl (And.left (by assumption)))); (rintro e w' ⟨v, rfl, hv1, hbN⟩); (obtain ⟨B1, d1, rfl, e1, e2⟩ := RdI.shape hv1))
      | (go_at_call 114; (with_reducible refine (own_calls _ _ (dg q.den) ?_ y2).mono ?_); (exact h2.below (Held1.bl (And.left (by assumption)))); (rintro e w' ⟨v, rfl, hv2, hbN⟩); (obtain ⟨B2, d2, rfl, e3, e4⟩ := RdI.shape hv2); (have hv1' := RdI.below hv1 hbN); (have H1 := Held1.next hbN (And.left (by assumption))); (obtain ⟨⟨x0, x1, x2, m0, m1, m2⟩, f1⟩ := H1.store)))
  go_wp2
  obtain ⟨t1, t2⟩ := H1.res (.bool n1) (.slice B1 (dg q.num.natAbs).length d1) (.slice B2 (dg q.den).length d2)
  exact bodyPost_ret (results_cell_row rfl _ _ (w.heap.size + 1) 38 _ (0, 0) _ rfl t2 Try.underlying38 rfl (by kernel_rfl)) rfl ⟨_, rfl, HF.out _ _ _ (H1.kept hv1' _ _ _) (H1.kept hv2 _ _ _), t1⟩

theorem szq_mk {x : Int} {d k : Nat} (hd : 0 < d) (hx : (dg x.natAbs).length ≤ k) (hk : (dg d).length ≤ k) : Szq k (mkRat x d) := by
  constructor
  · refine Nat.le_trans (dg_len_mono ?_) hx
    rw [Rat.num_mkRat, if_neg (by omega)]
    exact Int.natAbs_ediv_le_natAbs _ _
  · refine Nat.le_trans (dg_len_mono ?_) hk
    rw [Rat.den_mkRat, if_neg (by omega)]
    exact Nat.div_le_self _ _
theorem szq_mul {q r : Rat} {k l : Nat} (hq : Szq k q) (hr : Szq l r) : Szq (k + l) (q * r) := by
  rw [Rat.mul_def']
  exact szq_mk (Nat.mul_pos q.den_pos r.den_pos) (by rw [Int.natAbs_mul]; exact dg_mul_le hq.1 hr.1) (dg_mul_le hq.2 hr.2)
theorem szq_add {q r : Rat} {k l : Nat} (hq : Szq k q) (hr : Szq l r) : Szq (k + l + 1) (q + r) := by
  rw [Rat.add_def']
  refine szq_mk (Nat.mul_pos q.den_pos r.den_pos) ?_ (Nat.le_trans (dg_mul_le hq.2 hr.2) (by omega))
  refine Nat.le_trans (dg_len_mono (Int.natAbs_add_le _ _)) (dg_add_le ?_ ?_)
  · rw [Int.natAbs_mul, Int.natAbs_natCast]; exact dg_mul_le hq.1 hr.2
  · rw [Int.natAbs_mul, Int.natAbs_natCast]; exact Nat.le_trans (dg_mul_le hr.1 hq.2) (by omega)
theorem szq_neg {q : Rat} {k : Nat} (h : Szq k q) : Szq k (-q) := ⟨by rw [Rat.neg_num, Int.natAbs_neg]; exact h.1, by rw [Rat.neg_den]; exact h.2⟩
theorem szq_sub {q r : Rat} {k l : Nat} (hq : Szq k q) (hr : Szq l r) : Szq (k + l + 1) (q - r) := by
  rw [Rat.sub_eq_add_neg]; exact szq_add hq (szq_neg hr)
theorem szq_zero (k : Nat) (h : 1 ≤ k) : Szq k 0 := ⟨by simp [dg_zero], by simp [dg_one]; exact h⟩
theorem szq_one (k : Nat) (h : 1 ≤ k) : Szq k 1 := ⟨by simp [dg_one]; exact h, by simp [dg_one]; exact h⟩
theorem szq_inv {q : Rat} {k : Nat} (h : Szq k q) (hk : 1 ≤ k) : Szq k q⁻¹ := by
  by_cases h0 : q.num = 0
  · rw [Rat.num_eq_zero.1 h0, Rat.inv_zero]; exact szq_zero k hk
  · constructor
    · rw [Rat.num_inv, Int.natAbs_mul, Int.natAbs_natCast, Int.natAbs_sign_of_ne_zero h0, Nat.one_mul]; exact h.2
    · rw [Rat.den_inv, if_neg h0]; exact h.1
/-- It is told in full. -/
def Short (q : Rat) : Prop := (dg q.num.natAbs).length + (dg q.den).length ≤ 4096
theorem Szq.short {q : Rat} {k : Nat} (h : Szq k q) (hk : k ≤ 2048) : Short q := by
  have h1 := h.1
  have h2 := h.2
  unfold Short
  omega
theorem szq_fix {neg : Bool} {ln ld : List Int} {k : Nat} (w1 : Wd ln) (w2 : Wd ld) (h1 : ln.length ≤ k) (h2 : ld.length ≤ k) (hk : 1 ≤ k) : Szq k (fixq neg ln ld) := by
  by_cases h : RightP neg ln ld
  · obtain ⟨_, e1, e2⟩ := fixq_parts h w1 w2
    exact ⟨by rw [e1]; exact h1, by rw [e2]; exact h2⟩
  · rw [fixq, if_neg h]; exact szq_zero k hk
theorem Short.szq {q : Rat} (h : Short q) : Szq 4096 q := by
  unfold Short at h
  exact ⟨by omega, by omega⟩
theorem Szq.big {q : Rat} {k : Nat} (h : Szq k q) (hk : k ≤ 500000000) : Szq 500000000 q := h.mono hk

end Go.Proofs.Ytajckdheecgceaa
