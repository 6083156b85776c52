/- Fractions as they are handed in and told: taken, told. -/
import Derived.Test.YtdmgceckmciifaaRight
set_option linter.unusedVariables false
set_option linter.unusedSimpArgs false
namespace Go.Proofs.Ytdmgceckmciifaa
open Go.RowKit

/-- A struct of three cells is boxed, and a cell for the result: it lies there, and nothing old is changed. -/
def Held1 (w : World) (tb tr : Nat) (a0 a1 a2 : Value) (w' : World) : Prop := Below w.heap.size w w' ∧ Blk w' w.heap.size tb #[a0, a1, a2] ∧ ∃ x0 x1 x2, ((∀ n, x0 ≠ .int .u32 n) ∧ (∀ n, x1 ≠ .int .u32 n) ∧ ∀ n, x2 ≠ .int .u32 n) ∧ Blk w' (w.heap.size + 1) tr #[x0, x1, x2]
theorem Held1.cells {w w' : World} {tb tr : Nat} {a0 a1 a2 : Value} (h : Held1 w tb tr a0 a1 a2 w') : Held1 w tb tr a0 a1 a2 w' ∧ (w'.cell? ⟨w.heap.size, 0, none⟩ = some a0 ∧ w'.cell? ⟨w.heap.size, 1, none⟩ = some a1 ∧ w'.cell? ⟨w.heap.size, 2, none⟩ = some a2) :=
  ⟨h, ⟨h.2.1.cell 0, h.2.1.cell 1, h.2.1.cell 2⟩⟩
theorem Held1.next {w w1 w2 : World} {tb tr : Nat} {a0 a1 a2 : Value} (k : Below w1.heap.size w1 w2) (h : Held1 w tb tr a0 a1 a2 w1) : Held1 w tb tr a0 a1 a2 w2 := by
  obtain ⟨h0, h1, x0, x1, x2, h3, h4⟩ := h
  exact ⟨bl_trans h0 k, h1.below k, x0, x1, x2, h3, h4.below k⟩
theorem Held1.bl {w w1 : World} {tb tr : Nat} {a0 a1 a2 : Value} (h : Held1 w tb tr a0 a1 a2 w1) : Below w.heap.size w w1 := h.1
theorem Held1.set {w w1 : World} {tb tr : Nat} {a0 a1 a2 : Value} (h : Held1 w tb tr a0 a1 a2 w1) (y0 y1 y2 : Value) (n0 : ∀ n, y0 ≠ .int .u32 n) (n1 : ∀ n, y1 ≠ .int .u32 n) (n2 : ∀ n, y2 ≠ .int .u32 n) : Held1 w tb tr a0 a1 a2 (((w1.setCell ⟨w.heap.size + 1, 0, none⟩ y0).setCell ⟨w.heap.size + 1, 1, none⟩ y1).setCell ⟨w.heap.size + 1, 2, none⟩ y2) := by
  obtain ⟨h0, h1, x0, x1, x2, h3, h4⟩ := h
  exact ⟨three_below h0 (by omega) _ _ _, ((h1.other _ _ (by simp)).other _ _ (by simp)).other _ _ (by simp), _, _, _, ⟨n0, n1, n2⟩, blk3 h4 _ _ _⟩
theorem Held1.store {w w1 : World} {tb tr : Nat} {a0 a1 a2 : Value} (h : Held1 w tb tr a0 a1 a2 w1) : (∃ x0 x1 x2, w1.cell? ⟨w.heap.size + 1, 0, none⟩ = some x0 ∧ w1.cell? ⟨w.heap.size + 1, 1, none⟩ = some x1 ∧ w1.cell? ⟨w.heap.size + 1, 2, none⟩ = some x2) ∧ ∀ j, w1.frozen? ⟨w.heap.size + 1, j, none⟩ = false := by
  obtain ⟨h0, h1, x0, x1, x2, h3, h4⟩ := h
  exact ⟨⟨x0, x1, x2, h4.cell 0, h4.cell 1, h4.cell 2⟩, h4.free⟩
theorem RdI.three {w : World} {v : Value} {l : List Int} {B : Nat} (h : RdI .u32 w v l) {x0 x1 x2 : Value} (h0 : w.cell? ⟨B, 0, none⟩ = some x0) (h1 : w.cell? ⟨B, 1, none⟩ = some x1) (h2 : w.cell? ⟨B, 2, none⟩ = some x2)
    (n0 : ∀ n, x0 ≠ .int .u32 n) (n1 : ∀ n, x1 ≠ .int .u32 n) (n2 : ∀ n, x2 ≠ .int .u32 n) (y0 y1 y2 : Value) : RdI .u32 (((w.setCell ⟨B, 0, none⟩ y0).setCell ⟨B, 1, none⟩ y1).setCell ⟨B, 2, none⟩ y2) v l := by
  refine RdI.set (x0 := x2) (RdI.set (x0 := x1) (RdI.set h h0 n0 y0) ?_ n1 y1) ?_ n2 y2
  · rw [World.cell?_setCell_other _ _ _ _ (by simp)]; exact h1
  · rw [World.cell?_setCell_other _ _ _ _ (by simp), World.cell?_setCell_other _ _ _ _ (by simp)]; exact h2
theorem Held1.kept {w w1 : World} {tb tr : Nat} {a0 a1 a2 : Value} (h : Held1 w tb tr a0 a1 a2 w1) {k : List Int} {v : Value} (hr : RdI .u32 w1 v k) (y0 y1 y2 : Value) :
    RdI .u32 (((w1.setCell ⟨w.heap.size + 1, 0, none⟩ y0).setCell ⟨w.heap.size + 1, 1, none⟩ y1).setCell ⟨w.heap.size + 1, 2, none⟩ y2) v k := by
  obtain ⟨h0, h1, x0, x1, x2, h3, h4⟩ := h
  exact RdI.three hr (h4.cell 0) (h4.cell 1) (h4.cell 2) h3.1 h3.2.1 h3.2.2 y0 y1 y2
theorem Held1.res {w w1 : World} {tb tr : Nat} {a0 a1 a2 : Value} (h : Held1 w tb tr a0 a1 a2 w1) (y0 y1 y2 : Value) :
    Below w.heap.size w (((w1.setCell ⟨w.heap.size + 1, 0, none⟩ y0).setCell ⟨w.heap.size + 1, 1, none⟩ y1).setCell ⟨w.heap.size + 1, 2, none⟩ y2) ∧ Blk (((w1.setCell ⟨w.heap.size + 1, 0, none⟩ y0).setCell ⟨w.heap.size + 1, 1, none⟩ y1).setCell ⟨w.heap.size + 1, 2, none⟩ y2) (w.heap.size + 1) tr #[y0, y1, y2] := by
  obtain ⟨h0, h1, x0, x1, x2, h3, h4⟩ := h
  exact ⟨three_below h0 (by omega) _ _ _, blk3 h4 _ _ _⟩
theorem held1_new (w : World) (tb tr : Nat) (a0 a1 a2 : Value) (x0 x1 x2 : Value) (n0 : ∀ n, x0 ≠ .int .u32 n) (n1 : ∀ n, x1 ≠ .int .u32 n) (n2 : ∀ n, x2 ≠ .int .u32 n) : Held1 w tb tr a0 a1 a2 ((w.alloc (.cells #[a0, a1, a2] tb)).alloc (.cells #[x0, x1, x2] tr)) := by
  refine ⟨bl_trans (below_alloc0 _ _) (below_alloc0 _ _), (Blk.new w _ _).below (below_alloc0 _ _), x0, x1, x2, ⟨n0, n1, n2⟩, ?_⟩
  have h2 := Blk.new (w.alloc (.cells #[a0, a1, a2] tb)) tr #[x0, x1, x2]
  rwa [show (w.alloc (.cells #[a0, a1, a2] tb)).heap.size = w.heap.size + 1 by simp] at h2
theorem FrIn.shape {w : World} {v : Value} {neg : Bool} {ln ld : List Int} (h : FrIn w v neg ln ld) : ∃ A c A2 c2, v = .agg #[.bool neg, .slice A ln.length c, .slice A2 ld.length c2] ∧ RdI .u32 w (.slice A ln.length c) ln ∧ RdI .u32 w (.slice A2 ld.length c2) ld ∧ Wd ln ∧ Wd ld := by
  obtain ⟨v1, v2, rfl, h1, h2, h3, h4⟩ := h
  have h1' := h1
  have h2' := h2
  obtain ⟨A, c, rfl, _⟩ := h1'
  obtain ⟨A2, c2, rfl, _⟩ := h2'
  exact ⟨A, c, A2, c2, rfl, h1, h2, h3, h4⟩

theorem taken_calls (w : World) (v : Value) (neg : Bool) (ln ld : List Int) (h : FrIn w v neg ln ld) (hs : ln.length + ld.length ≤ 4096) :
    Calls Try.prog 71 #[v] w (RtPost (fixq neg ln ld) w) := by
  have hf := h
  obtain ⟨A, c, A2, c2, rfl, h1, h2, w1, w2⟩ := h.shape
  have H := held1_new w 24 59 (.bool neg) (.slice A ln.length c) (.slice A2 ld.length c2) (.slice none 0 0) (.slice none 0 0) (.bool false) (by simp) (by simp) (by simp)
  by_cases hR : RightP neg ln ld
  · obtain ⟨q1, q2, q3⟩ := fixq_parts hR w1 w2
    have hfin : ∀ w', RdI .u32 w' (.slice A ln.length c) ln → RdI .u32 w' (.slice A2 ld.length c2) ld → RtV w' (.agg #[.slice A ln.length c, .slice A2 ld.length c2, .bool neg]) (fixq neg ln ld) := fun w' a b =>
      ⟨_, _, by rw [q1], by unfold Nm; rw [q2]; exact a, by unfold Nm; rw [q3]; exact b⟩
    have HF := Lib.hid hfin
    have HR := Lib.hid (decide_eq_true hR)
    clear hfin q1 q2 q3 hR h
    go_enter Try.func71, Try.ntmps71
    go_wp2_with fail
    refine (right_calls _ _ _ _ _ (hf.below H.bl) hs).mono ?_
    rintro e wa ⟨rfl, hb1⟩
    rw [HR.out]
    have Ha := Held1.next hb1 H
    obtain ⟨_, m0, m1, m2⟩ := Ha.cells
    obtain ⟨⟨x0, x1, x2, n0, n1, n2⟩, f1⟩ := Ha.store
    have k1 := h1.below Ha.bl
    have k2 := h2.below Ha.bl
    clear h1 h2 hf hs H
    go_wp2
    obtain ⟨t1, t2⟩ := Ha.res (.slice A ln.length c) (.slice A2 ld.length c2) (.bool neg)
    exact bodyPost_ret (results_cell_row rfl _ _ (w.heap.size + 1) 59 _ (0, 0) _ rfl t2 Try.underlying59 rfl (by kernel_rfl)) rfl ⟨_, rfl, HF.out _ (Ha.kept k1 _ _ _) (Ha.kept k2 _ _ _), t1⟩
  · have HQ := Lib.hid (show 0 = fixq neg ln ld by rw [fixq, if_neg hR])
    have HR := Lib.hid (decide_eq_false hR)
    clear hR h
    go_enter Try.func71, Try.ntmps71
    go_wp2_with fail
    refine (right_calls _ _ _ _ _ (hf.below H.bl) hs).mono ?_
    rintro e wa ⟨rfl, hb1⟩
    rw [HR.out]
    have Ha := Held1.next hb1 H
    clear h1 h2 hf hs H
    go_wp2_with fail
    refine (whole_calls _ 0 (by omega) (by omega)).mono ?_
    rintro e wb ⟨v, rfl, hv, hb2⟩
    have Hb := Held1.next hb2 Ha
    obtain ⟨⟨x0, x1, x2, n0, n1, n2⟩, f1⟩ := Hb.store
    obtain ⟨B, d, B2, d2, rfl, hn, hd⟩ := hv.open
    go_wp2
    obtain ⟨t1, t2⟩ := Hb.res (.slice B (dg (0 : Rat).num.natAbs).length d) (.slice B2 (dg (0 : Rat).den).length d2) (.bool (decide ((0 : Rat).num < 0)))
    exact bodyPost_ret (results_cell_row rfl _ _ (w.heap.size + 1) 59 _ (0, 0) _ rfl t2 Try.underlying59 rfl (by kernel_rfl)) rfl ⟨_, rfl, HQ.out ▸ ⟨_, _, rfl, Hb.kept hn _ _ _, Hb.kept hd _ _ _⟩, t1⟩
end Go.Proofs.Ytdmgceckmciifaa
