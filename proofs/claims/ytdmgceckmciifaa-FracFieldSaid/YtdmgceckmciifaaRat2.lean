/- Fractions: whole, over, minus, sign. -/
import Derived.Test.YtdmgceckmciifaaRat
set_option linter.unusedVariables false
set_option linter.unusedSimpArgs false
namespace Go.Proofs.Ytdmgceckmciifaa
open Go.RowKit

theorem RtV.int {w : World} {v1 v2 : Value} {n : Int} (h1 : Nm w v1 n.natAbs) (h2 : Nm w v2 1) (b : Bool) (hb : b = decide (n < 0)) : RtV w (.agg #[v1, v2, .bool b]) (n : Rat) :=
  ⟨v1, v2, by rw [hb]; rfl, h1, h2⟩
theorem lit_after3 (w : World) (g : Nat) (y0 y1 y2 : Value) : Nm ((((w.setCell ⟨g, 0, none⟩ y0).setCell ⟨g, 1, none⟩ y1).setCell ⟨g, 2, none⟩ y2).alloc (.cells #[.int .u32 1] 38)) (.slice (some ⟨w.heap.size, 0, none⟩) 1 1) 1 := by
  refine Nm.lit1 _ _ ?_
  have := heap_alloc_new (((w.setCell ⟨g, 0, none⟩ y0).setCell ⟨g, 1, none⟩ y1).setCell ⟨g, 2, none⟩ y2) (.cells #[.int .u32 1] 38)
  rwa [show (((w.setCell ⟨g, 0, none⟩ y0).setCell ⟨g, 1, none⟩ y1).setCell ⟨g, 2, none⟩ y2).heap.size = w.heap.size by simp] at this
theorem whole_calls (w : World) (n : Int) (h0 : -9223372036854775808 ≤ n) (h1 : n ≤ 9223372036854775807) :
    Calls Try.prog 62 #[.int .i64 n] w (RtPost (n : Rat) w) := by
  have hb0 := below_alloc0 w (.cells #[.slice none 0 0, .slice none 0 0, .bool false] 59)
  by_cases hn : n < 0
  · go_enter Try.func62, Try.ntmps62
    go_wp2_with fail
    refine (of_any _ _ n.natAbs ⟨by omega, by omega⟩).mono ?_
    rintro e w1 ⟨v, rfl, hv, hb1⟩
    have K1 := (Blk.new w 59 #[.slice none 0 0, .slice none 0 0, .bool false]).below hb1
    have hz1 := K1.lt
    have hbw := bl_trans hb0 hb1
    have m0 := K1.cell 0
    have m1 := K1.cell 1
    have m2 := K1.cell 2
    have f1 := K1.free
    obtain ⟨A, c, rfl⟩ := hv.shape
    go_wp2
    have hal := below_alloc0 (((w1.setCell ⟨w.heap.size, 0, none⟩ (.slice A (dg n.natAbs).length c)).setCell ⟨w.heap.size, 1, none⟩ (.slice (some ⟨w1.heap.size, 0, none⟩) 1 1)).setCell ⟨w.heap.size, 2, none⟩ (.bool true)) (.cells #[.int .u32 1] 38)
    refine bodyPost_ret (results_cell_row rfl _ _ w.heap.size 59 _ (0, 0) _ rfl (Blk.below (blk3 K1 _ _ _) hal) Try.underlying59 rfl (by kernel_rfl)) rfl ⟨_, rfl, RtV.int (Nm.below (blk3_keep hv K1 (by simp) (by simp) (by simp) _ _ _) hal) (lit_after3 _ _ _ _ _) _ (by simp; omega), bl_trans (three_below hbw (Nat.le_refl _) _ _ _) hal⟩
  · go_enter Try.func62, Try.ntmps62
    go_wp2_with fail
    refine (of_any _ _ n.natAbs ⟨by omega, by omega⟩).mono ?_
    rintro e w1 ⟨v, rfl, hv, hb1⟩
    have K1 := (Blk.new w 59 #[.slice none 0 0, .slice none 0 0, .bool false]).below hb1
    have hz1 := K1.lt
    have hbw := bl_trans hb0 hb1
    have m0 := K1.cell 0
    have m1 := K1.cell 1
    have m2 := K1.cell 2
    have f1 := K1.free
    obtain ⟨A, c, rfl⟩ := hv.shape
    go_wp2
    have hal := below_alloc0 (((w1.setCell ⟨w.heap.size, 0, none⟩ (.slice A (dg n.natAbs).length c)).setCell ⟨w.heap.size, 1, none⟩ (.slice (some ⟨w1.heap.size, 0, none⟩) 1 1)).setCell ⟨w.heap.size, 2, none⟩ (.bool false)) (.cells #[.int .u32 1] 38)
    refine bodyPost_ret (results_cell_row rfl _ _ w.heap.size 59 _ (0, 0) _ rfl (Blk.below (blk3 K1 _ _ _) hal) Try.underlying59 rfl (by kernel_rfl)) rfl ⟨_, rfl, RtV.int (Nm.below (blk3_keep hv K1 (by simp) (by simp) (by simp) _ _ _) hal) (lit_after3 _ _ _ _ _) _ (by simp; omega), bl_trans (three_below hbw (Nat.le_refl _) _ _ _) hal⟩

/-- A ratio that is handed in: its three parts. -/
theorem RtV.open {w : World} {v : Value} {q : Rat} (h : RtV w v q) : ∃ A c A2 c2, v = .agg #[.slice A (dg q.num.natAbs).length c, .slice A2 (dg q.den).length c2, .bool (decide (q.num < 0))] ∧ Nm w (.slice A (dg q.num.natAbs).length c) q.num.natAbs ∧ Nm w (.slice A2 (dg q.den).length c2) q.den := by
  obtain ⟨v1, v2, rfl, h1, h2⟩ := h
  obtain ⟨A, c, rfl⟩ := h1.shape
  obtain ⟨A2, c2, rfl⟩ := h2.shape
  exact ⟨A, c, A2, c2, rfl, h1, h2⟩
theorem pos_of {n : Int} (h : false = decide (n < 0)) (h0 : ¬ n.natAbs = 0) : 0 < n := by
  have hc : ¬ n < 0 := of_decide_eq_false h.symm
  omega
theorem sign_calls (w : World) (v : Value) (q : Rat) (h : RtV w v q) :
    Calls Try.prog 75 #[v] w fun e w' => e = .returned (.int .i64 q.num.sign) ∧ Below w.heap.size w w' := by
  obtain ⟨A, c, A2, c2, rfl, h1, h2⟩ := h.open
  obtain ⟨b, hb⟩ : ∃ b, b = decide (q.num < 0) := ⟨_, rfl⟩
  rw [← hb]
  have HB := Lib.hid hb
  clear hb
  by_cases h0 : q.num.natAbs = 0
  · have HZ := Lib.hid h0
    have e : (dg q.num.natAbs).length = 0 := dg_len_zero.2 h0
    clear h0 h1 h2 h
    go_enter Try.func75, Try.ntmps75
    go_wp2
    go_ret
    exact ⟨by rw [show q.num = 0 by have := HZ.out; omega]; rfl, below_alloc0 _ _⟩
  · have e := int_ne0 (Nat.pos_of_ne_zero (fun h => h0 (dg_len_zero.1 h)) : 0 < (dg q.num.natAbs).length)
    have HZ := Lib.hid h0
    clear h0 h1 h2 h
    cases b
    · go_enter Try.func75, Try.ntmps75
      go_wp2
      go_ret
      exact ⟨by rw [Int.sign_eq_one_of_pos (pos_of HB.out HZ.out)]; rfl, below_alloc0 _ _⟩
    · go_enter Try.func75, Try.ntmps75
      go_wp2
      go_ret
      exact ⟨by rw [Int.sign_eq_neg_one_of_neg (by have := HB.out.symm; simpa using this)]; rfl, below_alloc0 _ _⟩
theorem over_calls (w : World) (v : Value) (q : Rat) (h : RtV w v q) (hq : q ≠ 0) :
    Calls Try.prog 64 #[v] w (RtPost q⁻¹ w) := by
  obtain ⟨A, c, A2, c2, rfl, h1, h2⟩ := h.open
  have hn0 : q.num ≠ 0 := fun h => hq (Rat.num_eq_zero.1 h)
  have hs : decide ((q⁻¹).num < 0) = decide (q.num < 0) := by
    rw [Rat.num_inv]
    have hd := q.den_pos
    rcases Int.lt_trichotomy q.num 0 with h | h | h
    · rw [Int.sign_eq_neg_one_of_neg h]; simp [h]; omega
    · exact absurd h hn0
    · rw [Int.sign_eq_one_of_pos h]; simp; omega
  have ha : (q⁻¹).num.natAbs = q.den := by
    rw [Rat.num_inv, Int.natAbs_mul]
    rcases Int.lt_trichotomy q.num 0 with h | h | h
    · rw [Int.sign_eq_neg_one_of_neg h]; simp
    · exact absurd h hn0
    · rw [Int.sign_eq_one_of_pos h]; simp
  have hd : (q⁻¹).den = q.num.natAbs := by rw [Rat.den_inv, if_neg hn0]
  have hfin : ∀ w', Nm w' (.slice A (dg q.num.natAbs).length c) q.num.natAbs → Nm w' (.slice A2 (dg q.den).length c2) q.den → RtV w' (.agg #[.slice A2 (dg q.den).length c2, .slice A (dg q.num.natAbs).length c, .bool (decide (q.num < 0))]) q⁻¹ :=
    fun w' a b => ⟨_, _, by rw [hs], by rw [ha]; exact b, by rw [hd]; exact a⟩
  have HF := Lib.hid hfin
  clear hs ha hd hfin hn0 hq h
  obtain ⟨b, hb⟩ : ∃ b, b = decide (q.num < 0) := ⟨_, rfl⟩
  rw [← hb] at HF ⊢
  clear hb
  go_enter Try.func64, Try.ntmps64
  go_wp2
  have hal := bl_trans (below_alloc0 w (.cells #[.slice A (dg q.num.natAbs).length c, .slice A2 (dg q.den).length c2, .bool b] 59)) (below_alloc0 _ (.cells #[.slice A2 (dg q.den).length c2, .slice A (dg q.num.natAbs).length c, .bool b] 59))
  exact bodyPost_ret (results_cell_row rfl _ _ (w.heap.size + 1) 59 _ (0, 0) _ rfl (alloc_at1 _ _ _) Try.underlying59 rfl (by kernel_rfl)) rfl ⟨_, rfl, HF.out _ (h1.below hal) (h2.below hal), hal⟩
theorem minus_calls (w : World) (v : Value) (q : Rat) (h : RtV w v q) :
    Calls Try.prog 76 #[v] w (RtPost (-q) w) := by
  obtain ⟨A, c, A2, c2, rfl, h1, h2⟩ := h.open
  obtain ⟨b, hb⟩ : ∃ b, b = decide (q.num < 0) := ⟨_, rfl⟩
  obtain ⟨b', hb'⟩ : ∃ b', b' = decide ((-q).num < 0) := ⟨_, rfl⟩
  have hfin : ∀ w', Nm w' (.slice A (dg q.num.natAbs).length c) q.num.natAbs → Nm w' (.slice A2 (dg q.den).length c2) q.den → RtV w' (.agg #[.slice A (dg q.num.natAbs).length c, .slice A2 (dg q.den).length c2, .bool b']) (-q) :=
    fun w' a d => ⟨_, _, by rw [hb'], by rw [Rat.neg_num, Int.natAbs_neg]; exact a, by rw [Rat.neg_den]; exact d⟩
  have HF := Lib.hid hfin
  have hbb : b' = (!b && decide (0 < (dg q.num.natAbs).length)) := by
    rw [hb', hb, Rat.neg_num]
    by_cases h0 : q.num.natAbs = 0
    · have e : (dg q.num.natAbs).length = 0 := dg_len_zero.2 h0
      have : q.num = 0 := by omega
      simp [e, this, dg_zero]
    · have e : 0 < (dg q.num.natAbs).length := Nat.pos_of_ne_zero (fun h => h0 (dg_len_zero.1 h))
      simp only [e, decide_true, Bool.and_true]
      by_cases hn : q.num < 0
      · simp [hn]; omega
      · simp [hn]; omega
  rw [← hb]
  clear hb hb' hfin h
  by_cases e : 0 < (dg q.num.natAbs).length
  · cases b
    · obtain rfl : b' = true := by rw [hbb]; simp [e]
      clear hbb
      go_enter Try.func76, Try.ntmps76
      go_wp2
      have hal := bl_trans (below_alloc0 w (.cells #[.slice A (dg q.num.natAbs).length c, .slice A2 (dg q.den).length c2, .bool true] 59)) (below_alloc0 _ (.cells #[.slice A (dg q.num.natAbs).length c, .slice A2 (dg q.den).length c2, .bool true] 59))
      exact bodyPost_ret (results_cell_row rfl _ _ (w.heap.size + 1) 59 _ (0, 0) _ rfl (alloc_at1 _ _ _) Try.underlying59 rfl (by kernel_rfl)) rfl ⟨_, rfl, HF.out _ (h1.below hal) (h2.below hal), hal⟩
    · obtain rfl : b' = false := by rw [hbb]; simp
      clear hbb
      go_enter Try.func76, Try.ntmps76
      go_wp2
      have hal := bl_trans (below_alloc0 w (.cells #[.slice A (dg q.num.natAbs).length c, .slice A2 (dg q.den).length c2, .bool false] 59)) (below_alloc0 _ (.cells #[.slice A (dg q.num.natAbs).length c, .slice A2 (dg q.den).length c2, .bool false] 59))
      exact bodyPost_ret (results_cell_row rfl _ _ (w.heap.size + 1) 59 _ (0, 0) _ rfl (alloc_at1 _ _ _) Try.underlying59 rfl (by kernel_rfl)) rfl ⟨_, rfl, HF.out _ (h1.below hal) (h2.below hal), hal⟩
  · obtain rfl : b' = false := by rw [hbb]; simp [e]
    have e0 : (dg q.num.natAbs).length = 0 := by omega
    clear hbb e
    cases b
    all_goals
      go_enter Try.func76, Try.ntmps76
      go_wp2
      have hal := bl_trans (below_alloc0 w (.cells #[.slice A 0 c, .slice A2 (dg q.den).length c2, .bool false] 59)) (below_alloc0 _ (.cells #[.slice A 0 c, .slice A2 (dg q.den).length c2, .bool false] 59))
      have HF2 := HF.out
      rw [e0] at HF2 h1
      exact bodyPost_ret (results_cell_row rfl _ _ (w.heap.size + 1) 59 _ (0, 0) _ rfl (alloc_at1 _ _ _) Try.underlying59 rfl (by kernel_rfl)) rfl ⟨_, rfl, HF2 _ (h1.below hal) (h2.below hal), hal⟩
end Go.Proofs.Ytdmgceckmciifaa
