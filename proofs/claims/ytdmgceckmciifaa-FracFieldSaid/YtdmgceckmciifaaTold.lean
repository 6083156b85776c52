/- Fractions: told. -/
import Derived.Test.YtdmgceckmciifaaTaken
set_option linter.unusedVariables false
set_option linter.unusedSimpArgs false
namespace Go.Proofs.Ytdmgceckmciifaa
open Go.RowKit

/-- What is handed back is the fraction q, as it is told. -/
def FrPost (q : Rat) (w : World) (e : Ending) (w' : World) : Prop := ∃ v, e = .returned v ∧ FrV w' v q ∧ Below w.heap.size w w'
theorem sum_le {a b : Nat} (h : a + b ≤ 4096) : decide (4096 < wrap64 ((a : Int) + (b : Int))) = false := by
  refine decide_eq_false ?_
  rw [show wrap64 ((a : Int) + (b : Int)) = (a : Int) + (b : Int) by unfold wrap64; omega]
  omega
theorem RdI.shape {k : IntKind} {w : World} {v : Value} {l : List Int} (h : RdI k w v l) : ∃ A c, v = .slice A l.length c ∧ l.length ≤ c ∧ c ≤ 9223372036854775807 := by
  obtain ⟨A, c, hv, h1, h2, _⟩ := h
  exact ⟨A, c, hv, h1, h2⟩
theorem told_calls (w : World) (v : Value) (q : Rat) (h : RtV w v q) (hs : (dg q.num.natAbs).length + (dg q.den).length ≤ 4096) :
    Calls Try.prog 65 #[v] w (FrPost q w) := by
  obtain ⟨A, c, A2, c2, rfl, h1, h2⟩ := h.open
  have hfin : ∀ w' v1 v2, RdI .u32 w' v1 (dg q.num.natAbs) → RdI .u32 w' v2 (dg q.den) → FrV w' (.agg #[.bool (decide (q.num < 0)), v1, v2]) q := fun w' v1 v2 a b =>
    ⟨_, _, rfl, a, b, Wd_dg _, Wd_dg _⟩
  obtain ⟨n1, e1⟩ : ∃ n, n = decide (q.num < 0) := ⟨_, rfl⟩
  rw [← e1] at hfin ⊢
  have HF := Lib.hid hfin
  have H := held1_new w 59 24 (.slice A (dg q.num.natAbs).length c) (.slice A2 (dg q.den).length c2) (.bool n1) (.bool false) (.slice none 0 0) (.slice none 0 0) (by simp) (by simp) (by simp)
  have q1 : decide ((4096 : Int) < ((dg q.num.natAbs).length : Int) + ((dg q.den).length : Int)) = false := decide_eq_false (by omega)
  have y1 : (dg q.num.natAbs).length ≤ 1073741824 := by omega
  have y2 : (dg q.den).length ≤ 1073741824 := by omega
  clear hfin e1 hs h
  go_enter Try.func65, Try.ntmps65
  go_wp2_with fail
  have hs := (Held1.next (bl_drew _) H).cells
  go_region_held3 (fun w' => Held1 w 59 24 (.slice A (dg q.num.natAbs).length c) (.slice A2 (dg q.den).length c2) (.bool n1) w' ∧ (w'.cell? ⟨w.heap.size, 0, none⟩ = some (.slice A (dg q.num.natAbs).length c) ∧ w'.cell? ⟨w.heap.size, 1, none⟩ = some (.slice A2 (dg q.den).length c2) ∧ w'.cell? ⟨w.heap.size, 2, none⟩ = some (.bool n1)))
    ((first | exact hs | exact (Held1.set H1 _ _ _ (by simp) (by simp) (by simp)).cells | exact (Held1.next hbN (And.left (by assumption))).cells))
    (first
      | (go_at_call 104; (with_reducible refine (own_calls _ _ (dg q.num.natAbs) ?_ y1).mono ?_); (exact h1.below (Held1.bl (And.left (by assumption)))); (rintro e w' ⟨v, rfl, hv1, hbN⟩); (obtain ⟨B1, d1, rfl, e1, e2⟩ := RdI.shape hv1))
      | (go_at_call 104; (with_reducible refine (own_calls _ _ (dg q.den) ?_ y2).mono ?_); (exact h2.below (Held1.bl (And.left (by assumption)))); (rintro e w' ⟨v, rfl, hv2, hbN⟩); (obtain ⟨B2, d2, rfl, e3, e4⟩ := RdI.shape hv2); (have hv1' := RdI.below hv1 hbN); (have H1 := Held1.next hbN (And.left (by assumption))); (obtain ⟨⟨x0, x1, x2, m0, m1, m2⟩, f1⟩ := H1.store)))
  go_wp2
  obtain ⟨t1, t2⟩ := H1.res (.bool n1) (.slice B1 (dg q.num.natAbs).length d1) (.slice B2 (dg q.den).length d2)
  exact bodyPost_ret (results_cell_row rfl _ _ (w.heap.size + 1) 24 _ (0, 0) _ rfl t2 Try.underlying24 rfl (by kernel_rfl)) rfl ⟨_, rfl, HF.out _ _ _ (H1.kept hv1' _ _ _) (H1.kept hv2 _ _ _), t1⟩
end Go.Proofs.Ytdmgceckmciifaa
