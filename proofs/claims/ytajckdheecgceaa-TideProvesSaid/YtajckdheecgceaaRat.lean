/- Fractions: what a ratio reads as; reduced, whole. -/
import Derived.Test.YtajckdheecgceaaDiv
import Derived.RowKit3
set_option linter.unusedVariables false
set_option linter.unusedSimpArgs false
namespace Go.Proofs.Ytajckdheecgceaa
open Go.RowKit

/-- A number with a sign. -/
def sgn (neg : Bool) (a : Nat) : Int := if neg then -(a : Int) else a
/-- The value v is the fraction q, as a ratio: numerator, denominator, sign. -/
def RtV (w : World) (v : Value) (q : Rat) : Prop := ∃ v1 v2, v = .agg #[v1, v2, .bool (decide (q.num < 0))] ∧ Nm w v1 q.num.natAbs ∧ Nm w v2 q.den
theorem RtV.below {w w1 : World} {v : Value} {q : Rat} (h : RtV w v q) (hb : Below w.heap.size w w1) : RtV w1 v q := by
  obtain ⟨v1, v2, hv, h1, h2⟩ := h
  exact ⟨v1, v2, hv, h1.below hb, h2.below hb⟩
/-- A fraction's numbers have at most k words each. -/
def Szq (k : Nat) (q : Rat) : Prop := (dg q.num.natAbs).length ≤ k ∧ (dg q.den).length ≤ k
theorem Szq.mono {k k' : Nat} {q : Rat} (h : Szq k q) (hk : k ≤ k') : Szq k' q := ⟨Nat.le_trans h.1 hk, Nat.le_trans h.2 hk⟩

theorem mk_zero (neg : Bool) (d : Nat) : mkRat (sgn neg 0) d = 0 := by
  cases neg <;> simp [sgn]
theorem mk_num (neg : Bool) {a d g : Nat} (hd : 0 < d) (hg : g = Nat.gcd a d) : (mkRat (sgn neg a) d).num = sgn neg (a / g) := by
  rw [Rat.num_mkRat, if_neg (by omega)]
  have h1 : d.gcd (sgn neg a).natAbs = g := by
    rw [hg, Nat.gcd_comm]
    cases neg <;> simp [sgn]
  rw [h1]
  cases neg
  · simp [sgn]
  · simp only [sgn, if_true]
    rw [Int.neg_ediv_of_dvd]
    · simp
    · rw [hg]; exact_mod_cast Nat.gcd_dvd_left a d
theorem mk_den (neg : Bool) {a d g : Nat} (hd : 0 < d) (hg : g = Nat.gcd a d) : (mkRat (sgn neg a) d).den = d / g := by
  rw [Rat.den_mkRat, if_neg (by omega)]
  have h1 : d.gcd (sgn neg a).natAbs = g := by
    rw [hg, Nat.gcd_comm]
    cases neg <;> simp [sgn]
  rw [h1]
theorem sgn_abs (neg : Bool) (a : Nat) : (sgn neg a).natAbs = a := by cases neg <;> simp [sgn]
theorem sgn_neg (neg : Bool) {a : Nat} (h : 0 < a) : decide (sgn neg a < 0) = neg := by
  cases neg
  · simp [sgn]
  · simp only [sgn, if_true, decide_eq_true_eq]; omega
/-- A reduced fraction: what was divided. -/
theorem RtV.mk {w : World} {v1 v2 : Value} {neg : Bool} {a d g : Nat} (ha : 0 < a) (hd : 0 < d) (hg : g = Nat.gcd a d) (h1 : Nm w v1 (a / g)) (h2 : Nm w v2 (d / g)) : RtV w (.agg #[v1, v2, .bool neg]) (mkRat (sgn neg a) d) := by
  have hg0 : 0 < g := by rw [hg]; exact Nat.gcd_pos_of_pos_left _ ha
  have hag : 0 < a / g := Nat.div_pos (by rw [hg]; exact Nat.gcd_le_left _ ha) hg0
  refine ⟨v1, v2, ?_, ?_, ?_⟩
  · rw [mk_num neg hd hg, sgn_neg neg hag]
  · rw [mk_num neg hd hg, sgn_abs]; exact h1
  · rw [mk_den neg hd hg]; exact h2
/-- What is handed back is the fraction q. -/
def RtPost (q : Rat) (w : World) (e : Ending) (w' : World) : Prop := ∃ v, e = .returned v ∧ RtV w' v q ∧ Below w.heap.size w w'
theorem Nm.lit1 (w : World) (g : Nat) (h : w.heap[g]? = some (.cells #[.int .u32 1] 101 (0, 0))) : Nm w (.slice (some ⟨g, 0, none⟩) 1 1) 1 := by
  have ho : Ow w g [1] := by unfold Ow; rw [h]; rfl
  have := ho.rd 1 1 (by simp) (by omega) (by omega)
  show RdI .u32 w _ (dg 1)
  rw [dg_one]
  exact this

theorem reduced_calls (w : World) (va vb : Value) (a d : Nat) (neg : Bool) (ha : Nm w va a) (hb : Nm w vb d) (hd : 0 < d) (sa : (dg a).length ≤ 1073741823) (sd : (dg d).length ≤ 1073741823) :
    Calls Try.prog 117 #[va, vb, .bool neg] w (RtPost (mkRat (sgn neg a) d) w) := by
  by_cases a0 : a = 0
  · subst a0
    obtain ⟨A, c, rfl, hl, hc, hr⟩ := ha
    rw [dg_zero]
    clear hr hl
    go_enter Try.func117, Try.ntmps117
    go_wp2
    refine bodyPost_ret (v := .agg #[.slice none 0 0, .slice (some ⟨w.heap.size + 1, 0, none⟩) 1 1, .bool false]) (by simp [results, Try.results117, go_sem]) rfl ⟨_, rfl, ?_, ((Below.refl _ _).alloc (Nat.le_refl _) _).alloc (by simp) _⟩
    rw [mk_zero]
    exact ⟨_, _, rfl, Nm.nil _, Nm.lit1 _ _ (alloc_at1 _ _ _)⟩
  · have la : 0 < (dg a).length := Nat.pos_of_ne_zero (fun h => a0 (dg_len_zero.1 h))
    obtain ⟨A, c, rfl⟩ := ha.shape
    obtain ⟨A2, c2, rfl⟩ := hb.shape
    obtain ⟨g, hg⟩ : ∃ g, g = Nat.gcd a d := ⟨_, rfl⟩
    have hg0 : 0 < g := by rw [hg]; exact Nat.gcd_pos_of_pos_right _ hd
    have HG := Lib.hid hg
    have hb0 := below_alloc0 w (.cells #[.slice none 0 0, .slice none 0 0, .bool false] 113)
    go_enter Try.func117, Try.ntmps117
    go_wp2_with fail
    refine (gcd_calls _ _ _ _ _ (ha.below hb0) (hb.below hb0) sa sd).mono ?_
    rintro e w1 ⟨v, rfl, hv, hb1⟩
    rw [← hg] at hv
    clear hg
    have hz1 : w.heap.size < w1.heap.size := by have := hb1.size; simp at this; omega
    have K1 := (Blk.new w 113 #[.slice none 0 0, .slice none 0 0, .bool false]).below hb1
    have hbw1 := bl_trans hb0 hb1
    clear hb0
    by_cases g1 : g = 1
    · go_wp2_with fail
      refine (one_nm _ _ _ hv true (by simp [g1])).mono ?_
      rintro e w2 ⟨rfl, hb2⟩
      have K2 := K1.below hb2
      have m0 := K2.cell 0
      have m1 := K2.cell 1
      have m2 := K2.cell 2
      have f1 := K2.free
      have hbw := bl_trans hbw1 hb2
      have HG1 := Lib.hid g1
      clear g1
      go_wp2
      refine bodyPost_ret (v := .agg #[.slice A (dg a).length c, .slice A2 (dg d).length c2, .bool neg]) (results_cell_row rfl _ _ w.heap.size 113 _ (0, 0) _ rfl (blk3 K2 _ _ _) Try.underlying113 rfl (by kernel_rfl)) rfl ⟨_, rfl, ?_, three_below hbw (Nat.le_refl _) _ _ _⟩
      have hfin := three_below hbw (Nat.le_refl _) (.slice A (dg a).length c) (.slice A2 (dg d).length c2) (.bool neg)
      refine RtV.mk (Nat.pos_of_ne_zero a0) hd HG.out ?_ ?_
      · rw [HG1.out, Nat.div_one]; exact ha.below hfin
      · rw [HG1.out, Nat.div_one]; exact hb.below hfin
    · go_wp2_with fail
      refine (one_nm _ _ _ hv false (by simp [g1])).mono ?_
      rintro e w2 ⟨rfl, hb2⟩
      have hbw := bl_trans hbw1 hb2
      go_wp2_with fail
      refine (div_calls _ _ _ _ _ (ha.below hbw) (hv.below hb2) hg0 sa).mono ?_
      rintro e w3 ⟨q1, r1, rfl, hq1, _, hb3⟩
      have hbw3 := bl_trans hbw hb3
      go_wp2_with fail
      refine (div_calls _ _ _ _ _ (hb.below hbw3) ((hv.below hb2).below hb3) hg0 sd).mono ?_
      rintro e w4 ⟨q2, r2, rfl, hq2, _, hb4⟩
      have hb24 := bl_trans (bl_trans hb2 hb3) hb4
      have K2 := K1.below hb24
      have m0 := K2.cell 0
      have m1 := K2.cell 1
      have m2 := K2.cell 2
      have f1 := K2.free
      have hbw4 := bl_trans hbw3 hb4
      have hq1' := hq1.below hb4
      obtain ⟨A3, c3, rfl⟩ := hq1.shape
      obtain ⟨A4, c4, rfl⟩ := hq2.shape
      have HG1 := Lib.hid g1
      clear g1
      go_wp2
      refine bodyPost_ret (v := .agg #[.slice A3 (dg (a / g)).length c3, .slice A4 (dg (d / g)).length c4, .bool neg]) (results_cell_row rfl _ _ w.heap.size 113 _ (0, 0) _ rfl (blk3 K2 _ _ _) Try.underlying113 rfl (by kernel_rfl)) rfl ⟨_, rfl, ?_, three_below hbw4 (Nat.le_refl _) _ _ _⟩
      refine RtV.mk (Nat.pos_of_ne_zero a0) hd HG.out ?_ ?_
      · exact blk3_keep hq1' K2 (by simp) (by simp) (by simp) _ _ _
      · exact blk3_keep hq2 K2 (by simp) (by simp) (by simp) _ _ _

theorem RtV.int {w : World} {v1 v2 : Value} {n : Int} (h1 : Nm w v1 n.natAbs) (h2 : Nm w v2 1) (b : Bool) (hb : b = decide (n < 0)) : RtV w (.agg #[v1, v2, .bool b]) (n : Rat) :=
  ⟨v1, v2, by rw [hb]; rfl, h1, h2⟩
theorem lit_after3 (w : World) (g : Nat) (y0 y1 y2 : Value) : Nm ((((w.setCell ⟨g, 0, none⟩ y0).setCell ⟨g, 1, none⟩ y1).setCell ⟨g, 2, none⟩ y2).alloc (.cells #[.int .u32 1] 101)) (.slice (some ⟨w.heap.size, 0, none⟩) 1 1) 1 := by
  refine Nm.lit1 _ _ ?_
  have := heap_alloc_new (((w.setCell ⟨g, 0, none⟩ y0).setCell ⟨g, 1, none⟩ y1).setCell ⟨g, 2, none⟩ y2) (.cells #[.int .u32 1] 101)
  rwa [show (((w.setCell ⟨g, 0, none⟩ y0).setCell ⟨g, 1, none⟩ y1).setCell ⟨g, 2, none⟩ y2).heap.size = w.heap.size by simp] at this
theorem whole_calls (w : World) (n : Int) (h0 : -9223372036854775808 ≤ n) (h1 : n ≤ 9223372036854775807) :
    Calls Try.prog 101 #[.int .i64 n] w (RtPost (n : Rat) w) := by
  have hb0 := below_alloc0 w (.cells #[.slice none 0 0, .slice none 0 0, .bool false] 113)
  by_cases hn : n < 0
  · go_enter Try.func101, Try.ntmps101
    go_wp2_with fail
    refine (of_any _ _ n.natAbs ⟨by omega, by omega⟩).mono ?_
    rintro e w1 ⟨v, rfl, hv, hb1⟩
    have K1 := (Blk.new w 113 #[.slice none 0 0, .slice none 0 0, .bool false]).below hb1
    have hz1 := K1.lt
    have hbw := bl_trans hb0 hb1
    have m0 := K1.cell 0
    have m1 := K1.cell 1
    have m2 := K1.cell 2
    have f1 := K1.free
    obtain ⟨A, c, rfl⟩ := hv.shape
    go_wp2
    have hal := below_alloc0 (((w1.setCell ⟨w.heap.size, 0, none⟩ (.slice A (dg n.natAbs).length c)).setCell ⟨w.heap.size, 1, none⟩ (.slice (some ⟨w1.heap.size, 0, none⟩) 1 1)).setCell ⟨w.heap.size, 2, none⟩ (.bool true)) (.cells #[.int .u32 1] 101)
    refine bodyPost_ret (results_cell_row rfl _ _ w.heap.size 113 _ (0, 0) _ rfl (Blk.below (blk3 K1 _ _ _) hal) Try.underlying113 rfl (by kernel_rfl)) rfl ⟨_, rfl, RtV.int (Nm.below (blk3_keep hv K1 (by simp) (by simp) (by simp) _ _ _) hal) (lit_after3 _ _ _ _ _) _ (by simp; omega), bl_trans (three_below hbw (Nat.le_refl _) _ _ _) hal⟩
  · go_enter Try.func101, Try.ntmps101
    go_wp2_with fail
    refine (of_any _ _ n.natAbs ⟨by omega, by omega⟩).mono ?_
    rintro e w1 ⟨v, rfl, hv, hb1⟩
    have K1 := (Blk.new w 113 #[.slice none 0 0, .slice none 0 0, .bool false]).below hb1
    have hz1 := K1.lt
    have hbw := bl_trans hb0 hb1
    have m0 := K1.cell 0
    have m1 := K1.cell 1
    have m2 := K1.cell 2
    have f1 := K1.free
    obtain ⟨A, c, rfl⟩ := hv.shape
    go_wp2
    have hal := below_alloc0 (((w1.setCell ⟨w.heap.size, 0, none⟩ (.slice A (dg n.natAbs).length c)).setCell ⟨w.heap.size, 1, none⟩ (.slice (some ⟨w1.heap.size, 0, none⟩) 1 1)).setCell ⟨w.heap.size, 2, none⟩ (.bool false)) (.cells #[.int .u32 1] 101)
    refine bodyPost_ret (results_cell_row rfl _ _ w.heap.size 113 _ (0, 0) _ rfl (Blk.below (blk3 K1 _ _ _) hal) Try.underlying113 rfl (by kernel_rfl)) rfl ⟨_, rfl, RtV.int (Nm.below (blk3_keep hv K1 (by simp) (by simp) (by simp) _ _ _) hal) (lit_after3 _ _ _ _ _) _ (by simp; omega), bl_trans (three_below hbw (Nat.le_refl _) _ _ _) hal⟩

/-- A ratio that is handed in: its three parts. -/
theorem RtV.open {w : World} {v : Value} {q : Rat} (h : RtV w v q) : ∃ A c A2 c2, v = .agg #[.slice A (dg q.num.natAbs).length c, .slice A2 (dg q.den).length c2, .bool (decide (q.num < 0))] ∧ Nm w (.slice A (dg q.num.natAbs).length c) q.num.natAbs ∧ Nm w (.slice A2 (dg q.den).length c2) q.den := by
  obtain ⟨v1, v2, rfl, h1, h2⟩ := h
  obtain ⟨A, c, rfl⟩ := h1.shape
  obtain ⟨A2, c2, rfl⟩ := h2.shape
  exact ⟨A, c, A2, c2, rfl, h1, h2⟩
theorem pos_of {n : Int} (h : false = decide (n < 0)) (h0 : ¬ n.natAbs = 0) : 0 < n := by
  have hc : ¬ n < 0 := of_decide_eq_false h.symm
  omega
theorem sign_calls (w : World) (v : Value) (q : Rat) (h : RtV w v q) :
    Calls Try.prog 91 #[v] w fun e w' => e = .returned (.int .i64 q.num.sign) ∧ Below w.heap.size w w' := by
  obtain ⟨A, c, A2, c2, rfl, h1, h2⟩ := h.open
  obtain ⟨b, hb⟩ : ∃ b, b = decide (q.num < 0) := ⟨_, rfl⟩
  rw [← hb]
  have HB := Lib.hid hb
  clear hb
  by_cases h0 : q.num.natAbs = 0
  · have HZ := Lib.hid h0
    have e : (dg q.num.natAbs).length = 0 := dg_len_zero.2 h0
    clear h0 h1 h2 h
    go_enter Try.func91, Try.ntmps91
    go_wp2
    go_ret
    exact ⟨by rw [show q.num = 0 by have := HZ.out; omega]; rfl, below_alloc0 _ _⟩
  · have e := int_ne0 (Nat.pos_of_ne_zero (fun h => h0 (dg_len_zero.1 h)) : 0 < (dg q.num.natAbs).length)
    have HZ := Lib.hid h0
    clear h0 h1 h2 h
    cases b
    · go_enter Try.func91, Try.ntmps91
      go_wp2
      go_ret
      exact ⟨by rw [Int.sign_eq_one_of_pos (pos_of HB.out HZ.out)]; rfl, below_alloc0 _ _⟩
    · go_enter Try.func91, Try.ntmps91
      go_wp2
      go_ret
      exact ⟨by rw [Int.sign_eq_neg_one_of_neg (by have := HB.out.symm; simpa using this)]; rfl, below_alloc0 _ _⟩
theorem over_calls (w : World) (v : Value) (q : Rat) (h : RtV w v q) (hq : q ≠ 0) :
    Calls Try.prog 103 #[v] w (RtPost q⁻¹ w) := by
  obtain ⟨A, c, A2, c2, rfl, h1, h2⟩ := h.open
  have hn0 : q.num ≠ 0 := fun h => hq (Rat.num_eq_zero.1 h)
  have hs : decide ((q⁻¹).num < 0) = decide (q.num < 0) := by
    rw [Rat.num_inv]
    have hd := q.den_pos
    rcases Int.lt_trichotomy q.num 0 with h | h | h
    · rw [Int.sign_eq_neg_one_of_neg h]; simp [h]; omega
    · exact absurd h hn0
    · rw [Int.sign_eq_one_of_pos h]; simp; omega
  have ha : (q⁻¹).num.natAbs = q.den := by
    rw [Rat.num_inv, Int.natAbs_mul]
    rcases Int.lt_trichotomy q.num 0 with h | h | h
    · rw [Int.sign_eq_neg_one_of_neg h]; simp
    · exact absurd h hn0
    · rw [Int.sign_eq_one_of_pos h]; simp
  have hd : (q⁻¹).den = q.num.natAbs := by rw [Rat.den_inv, if_neg hn0]
  have hfin : ∀ w', Nm w' (.slice A (dg q.num.natAbs).length c) q.num.natAbs → Nm w' (.slice A2 (dg q.den).length c2) q.den → RtV w' (.agg #[.slice A2 (dg q.den).length c2, .slice A (dg q.num.natAbs).length c, .bool (decide (q.num < 0))]) q⁻¹ :=
    fun w' a b => ⟨_, _, by rw [hs], by rw [ha]; exact b, by rw [hd]; exact a⟩
  have HF := Lib.hid hfin
  clear hs ha hd hfin hn0 hq h
  obtain ⟨b, hb⟩ : ∃ b, b = decide (q.num < 0) := ⟨_, rfl⟩
  rw [← hb] at HF ⊢
  clear hb
  go_enter Try.func103, Try.ntmps103
  go_wp2
  have hal := bl_trans (below_alloc0 w (.cells #[.slice A (dg q.num.natAbs).length c, .slice A2 (dg q.den).length c2, .bool b] 113)) (below_alloc0 _ (.cells #[.slice A2 (dg q.den).length c2, .slice A (dg q.num.natAbs).length c, .bool b] 113))
  exact bodyPost_ret (results_cell_row rfl _ _ (w.heap.size + 1) 113 _ (0, 0) _ rfl (alloc_at1 _ _ _) Try.underlying113 rfl (by kernel_rfl)) rfl ⟨_, rfl, HF.out _ (h1.below hal) (h2.below hal), hal⟩
theorem minus_calls (w : World) (v : Value) (q : Rat) (h : RtV w v q) :
    Calls Try.prog 99 #[v] w (RtPost (-q) w) := by
  obtain ⟨A, c, A2, c2, rfl, h1, h2⟩ := h.open
  obtain ⟨b, hb⟩ : ∃ b, b = decide (q.num < 0) := ⟨_, rfl⟩
  obtain ⟨b', hb'⟩ : ∃ b', b' = decide ((-q).num < 0) := ⟨_, rfl⟩
  have hfin : ∀ w', Nm w' (.slice A (dg q.num.natAbs).length c) q.num.natAbs → Nm w' (.slice A2 (dg q.den).length c2) q.den → RtV w' (.agg #[.slice A (dg q.num.natAbs).length c, .slice A2 (dg q.den).length c2, .bool b']) (-q) :=
    fun w' a d => ⟨_, _, by rw [hb'], by rw [Rat.neg_num, Int.natAbs_neg]; exact a, by rw [Rat.neg_den]; exact d⟩
  have HF := Lib.hid hfin
  have hbb : b' = (!b && decide (0 < (dg q.num.natAbs).length)) := by
    rw [hb', hb, Rat.neg_num]
    by_cases h0 : q.num.natAbs = 0
    · have e : (dg q.num.natAbs).length = 0 := dg_len_zero.2 h0
      have : q.num = 0 := by omega
      simp [e, this, dg_zero]
    · have e : 0 < (dg q.num.natAbs).length := Nat.pos_of_ne_zero (fun h => h0 (dg_len_zero.1 h))
      simp only [e, decide_true, Bool.and_true]
      by_cases hn : q.num < 0
      · simp [hn]; omega
      · simp [hn]; omega
  rw [← hb]
  clear hb hb' hfin h
  by_cases e : 0 < (dg q.num.natAbs).length
  · cases b
    · obtain rfl : b' = true := by rw [hbb]; simp [e]
      clear hbb
      go_enter Try.func99, Try.ntmps99
      go_wp2
      have hal := bl_trans (below_alloc0 w (.cells #[.slice A (dg q.num.natAbs).length c, .slice A2 (dg q.den).length c2, .bool true] 113)) (below_alloc0 _ (.cells #[.slice A (dg q.num.natAbs).length c, .slice A2 (dg q.den).length c2, .bool true] 113))
      exact bodyPost_ret (results_cell_row rfl _ _ (w.heap.size + 1) 113 _ (0, 0) _ rfl (alloc_at1 _ _ _) Try.underlying113 rfl (by kernel_rfl)) rfl ⟨_, rfl, HF.out _ (h1.below hal) (h2.below hal), hal⟩
    · obtain rfl : b' = false := by rw [hbb]; simp
      clear hbb
      go_enter Try.func99, Try.ntmps99
      go_wp2
      have hal := bl_trans (below_alloc0 w (.cells #[.slice A (dg q.num.natAbs).length c, .slice A2 (dg q.den).length c2, .bool false] 113)) (below_alloc0 _ (.cells #[.slice A (dg q.num.natAbs).length c, .slice A2 (dg q.den).length c2, .bool false] 113))
      exact bodyPost_ret (results_cell_row rfl _ _ (w.heap.size + 1) 113 _ (0, 0) _ rfl (alloc_at1 _ _ _) Try.underlying113 rfl (by kernel_rfl)) rfl ⟨_, rfl, HF.out _ (h1.below hal) (h2.below hal), hal⟩
  · obtain rfl : b' = false := by rw [hbb]; simp [e]
    have e0 : (dg q.num.natAbs).length = 0 := by omega
    clear hbb e
    cases b
    all_goals
      go_enter Try.func99, Try.ntmps99
      go_wp2
      have hal := bl_trans (below_alloc0 w (.cells #[.slice A 0 c, .slice A2 (dg q.den).length c2, .bool false] 113)) (below_alloc0 _ (.cells #[.slice A 0 c, .slice A2 (dg q.den).length c2, .bool false] 113))
      have HF2 := HF.out
      rw [e0] at HF2 h1
      exact bodyPost_ret (results_cell_row rfl _ _ (w.heap.size + 1) 113 _ (0, 0) _ rfl (alloc_at1 _ _ _) Try.underlying113 rfl (by kernel_rfl)) rfl ⟨_, rfl, HF2 _ (h1.below hal) (h2.below hal), hal⟩

/-- Two ratios are boxed, and a cell for the result: they lie there, and nothing old is changed. -/
def Held2 (w : World) (a0 a1 a2 b0 b1 b2 : Value) (w' : World) : Prop := Below w.heap.size w w' ∧ Blk w' w.heap.size 113 #[a0, a1, a2] ∧ Blk w' (w.heap.size + 1) 113 #[b0, b1, b2] ∧ ∃ x0 x1 x2, ((∀ n, x0 ≠ .int .u32 n) ∧ (∀ n, x1 ≠ .int .u32 n) ∧ ∀ n, x2 ≠ .int .u32 n) ∧ Blk w' (w.heap.size + 2) 113 #[x0, x1, x2]
theorem Held2.cells {w w' : World} {a0 a1 a2 b0 b1 b2 : Value} (h : Held2 w a0 a1 a2 b0 b1 b2 w') : Held2 w a0 a1 a2 b0 b1 b2 w' ∧ (w'.cell? ⟨w.heap.size, 0, none⟩ = some a0 ∧ w'.cell? ⟨w.heap.size, 1, none⟩ = some a1 ∧ w'.cell? ⟨w.heap.size, 2, none⟩ = some a2) ∧ (w'.cell? ⟨w.heap.size + 1, 0, none⟩ = some b0 ∧ w'.cell? ⟨w.heap.size + 1, 1, none⟩ = some b1 ∧ w'.cell? ⟨w.heap.size + 1, 2, none⟩ = some b2) :=
  ⟨h, ⟨h.2.1.cell 0, h.2.1.cell 1, h.2.1.cell 2⟩, ⟨h.2.2.1.cell 0, h.2.2.1.cell 1, h.2.2.1.cell 2⟩⟩
theorem Held2.next {w w1 w2 : World} {a0 a1 a2 b0 b1 b2 : Value} (k : Below w1.heap.size w1 w2) (h : Held2 w a0 a1 a2 b0 b1 b2 w1) : Held2 w a0 a1 a2 b0 b1 b2 w2 := by
  obtain ⟨h0, h1, h2, x0, x1, x2, h3, h4⟩ := h
  exact ⟨bl_trans h0 k, h1.below k, h2.below k, x0, x1, x2, h3, h4.below k⟩
theorem Held2.bl {w w1 : World} {a0 a1 a2 b0 b1 b2 : Value} (h : Held2 w a0 a1 a2 b0 b1 b2 w1) : Below w.heap.size w w1 := h.1
theorem Nm.held {w w1 : World} {v : Value} {n : Nat} {a0 a1 a2 b0 b1 b2 : Value} (hv : Nm w v n) (h : Held2 w a0 a1 a2 b0 b1 b2 w1) : Nm w1 v n := hv.below h.1
theorem Blk.other {w : World} {g t : Nat} {cs : Array Value} (h : Blk w g t cs) (a : Addr) (x : Value) (hne : g ≠ a.block) : Blk (w.setCell a x) g t cs := (heap_setCell_other w a g x hne).trans h
/-- The result is stored. -/
theorem Held2.set {w w1 : World} {a0 a1 a2 b0 b1 b2 : Value} (h : Held2 w a0 a1 a2 b0 b1 b2 w1) (A : Option Addr) (l c : Nat) (A2 : Option Addr) (l2 c2 : Nat) (b : Bool) : Held2 w a0 a1 a2 b0 b1 b2 (((w1.setCell ⟨w.heap.size + 2, 0, none⟩ (.slice A l c)).setCell ⟨w.heap.size + 2, 1, none⟩ (.slice A2 l2 c2)).setCell ⟨w.heap.size + 2, 2, none⟩ (.bool b)) := by
  obtain ⟨h0, h1, h2, x0, x1, x2, h3, h4⟩ := h
  exact ⟨three_below h0 (by omega) _ _ _, ((h1.other _ _ (by simp)).other _ _ (by simp)).other _ _ (by simp), ((h2.other _ _ (by simp)).other _ _ (by simp)).other _ _ (by simp), _, _, _, ⟨by simp, by simp, by simp⟩, blk3 h4 _ _ _⟩
/-- What the store asks. -/
theorem Held2.store {w w1 : World} {a0 a1 a2 b0 b1 b2 : Value} (h : Held2 w a0 a1 a2 b0 b1 b2 w1) : (∃ x0 x1 x2, w1.cell? ⟨w.heap.size + 2, 0, none⟩ = some x0 ∧ w1.cell? ⟨w.heap.size + 2, 1, none⟩ = some x1 ∧ w1.cell? ⟨w.heap.size + 2, 2, none⟩ = some x2) ∧ ∀ j, w1.frozen? ⟨w.heap.size + 2, j, none⟩ = false := by
  obtain ⟨h0, h1, h2, x0, x1, x2, h3, h4⟩ := h
  exact ⟨⟨x0, x1, x2, h4.cell 0, h4.cell 1, h4.cell 2⟩, h4.free⟩
/-- The result that is stored is the fraction. -/
theorem Held2.done {w w1 : World} {a0 a1 a2 b0 b1 b2 : Value} (h : Held2 w a0 a1 a2 b0 b1 b2 w1) {A : Option Addr} {l c : Nat} {A2 : Option Addr} {l2 c2 : Nat} {b : Bool} {q : Rat} (hr : RtV w1 (.agg #[.slice A l c, .slice A2 l2 c2, .bool b]) q) :
    RtV (((w1.setCell ⟨w.heap.size + 2, 0, none⟩ (.slice A l c)).setCell ⟨w.heap.size + 2, 1, none⟩ (.slice A2 l2 c2)).setCell ⟨w.heap.size + 2, 2, none⟩ (.bool b)) (.agg #[.slice A l c, .slice A2 l2 c2, .bool b]) q ∧ Below w.heap.size w (((w1.setCell ⟨w.heap.size + 2, 0, none⟩ (.slice A l c)).setCell ⟨w.heap.size + 2, 1, none⟩ (.slice A2 l2 c2)).setCell ⟨w.heap.size + 2, 2, none⟩ (.bool b)) ∧ Blk (((w1.setCell ⟨w.heap.size + 2, 0, none⟩ (.slice A l c)).setCell ⟨w.heap.size + 2, 1, none⟩ (.slice A2 l2 c2)).setCell ⟨w.heap.size + 2, 2, none⟩ (.bool b)) (w.heap.size + 2) 113 #[.slice A l c, .slice A2 l2 c2, .bool b] := by
  obtain ⟨h0, h1, h2, x0, x1, x2, h3, h4⟩ := h
  obtain ⟨v1, v2, hv, k1, k2⟩ := hr
  exact ⟨⟨v1, v2, hv, blk3_keep k1 h4 h3.1 h3.2.1 h3.2.2 _ _ _, blk3_keep k2 h4 h3.1 h3.2.1 h3.2.2 _ _ _⟩, three_below h0 (by omega) _ _ _, blk3 h4 _ _ _⟩
/-- Behind one more call. -/
theorem bl_next {w w1 w2 : World} (k : Below w1.heap.size w1 w2) (h : Below w.heap.size w w1) : Below w.heap.size w w2 := bl_trans h k
theorem Nm.next {w1 w2 : World} {v : Value} {n : Nat} (k : Below w1.heap.size w1 w2) (h : Nm w1 v n) : Nm w2 v n := h.below k
/-- What lies there after two ratios and a result are boxed. -/
theorem boxed3 (w : World) (x y z : Array Value) (t1 t2 t3 : Nat) : Blk (((w.alloc (.cells x t1)).alloc (.cells y t2)).alloc (.cells z t3)) w.heap.size t1 x ∧ Blk (((w.alloc (.cells x t1)).alloc (.cells y t2)).alloc (.cells z t3)) (w.heap.size + 1) t2 y ∧ Blk (((w.alloc (.cells x t1)).alloc (.cells y t2)).alloc (.cells z t3)) (w.heap.size + 2) t3 z := by
  have h1 := Blk.new w t1 x
  have h2 := Blk.new (w.alloc (.cells x t1)) t2 y
  have h3 := Blk.new ((w.alloc (.cells x t1)).alloc (.cells y t2)) t3 z
  rw [show (w.alloc (.cells x t1)).heap.size = w.heap.size + 1 by simp] at h2
  rw [show ((w.alloc (.cells x t1)).alloc (.cells y t2)).heap.size = w.heap.size + 2 by simp] at h3
  exact ⟨(h1.below (below_alloc0 _ _)).below (below_alloc0 _ _), h2.below (below_alloc0 _ _), h3⟩
theorem bl_alloc3 (w : World) (x y z : Obj) : Below w.heap.size w (((w.alloc x).alloc y).alloc z) := bl_trans (bl_trans (below_alloc0 _ _) (below_alloc0 _ _)) (below_alloc0 _ _)
theorem held2_new (w : World) (a0 a1 a2 b0 b1 b2 : Value) : Held2 w a0 a1 a2 b0 b1 b2 (((w.alloc (.cells #[a0, a1, a2] 113)).alloc (.cells #[b0, b1, b2] 113)).alloc (.cells #[.slice none 0 0, .slice none 0 0, .bool false] 113)) := by
  obtain ⟨K1, K2, K4⟩ := boxed3 w #[a0, a1, a2] #[b0, b1, b2] #[.slice none 0 0, .slice none 0 0, .bool false] 113 113 113
  exact ⟨bl_alloc3 _ _ _ _, K1, K2, _, _, _, ⟨by simp, by simp, by simp⟩, K4⟩

theorem sgn_num (n : Int) : sgn (decide (n < 0)) n.natAbs = n := by
  by_cases h : n < 0 <;> simp [sgn, h] <;> omega
theorem mk_mul (q r : Rat) : mkRat (sgn (decide (q.num < 0) != decide (r.num < 0)) (q.num.natAbs * r.num.natAbs)) (q.den * r.den) = q * r := by
  have h : sgn (decide (q.num < 0) != decide (r.num < 0)) (q.num.natAbs * r.num.natAbs) = q.num * r.num := by
    conv => rhs; rw [← sgn_num q.num, ← sgn_num r.num]
    by_cases h : q.num < 0 <;> by_cases h2 : r.num < 0 <;> simp [sgn, h, h2, Int.neg_mul, Int.mul_neg]
  rw [h, ← Rat.mul_def']
theorem dg_mul_le {a b k l : Nat} (ha : (dg a).length ≤ k) (hb : (dg b).length ≤ l) : (dg (a * b)).length ≤ k + l := by
  rw [dg_len] at *
  rw [Nat.pow_add]
  rcases Nat.eq_zero_or_pos a with rfl | h
  · simp only [Nat.zero_mul]; exact Nat.mul_pos (Nat.pow_pos (by omega)) (Nat.pow_pos (by omega))
  · exact Nat.lt_of_lt_of_le (Nat.mul_lt_mul_of_pos_left hb h) (Nat.mul_le_mul_right _ (Nat.le_of_lt ha))

theorem times_calls (w : World) (v1 v2 : Value) (q r : Rat) (h1 : RtV w v1 q) (h2 : RtV w v2 r) (s1 : Szq 500000000 q) (s2 : Szq 500000000 r) :
    Calls Try.prog 102 #[v1, v2] w (RtPost (q * r) w) := by
  obtain ⟨A, c, A2, c2, rfl, hn1, hd1⟩ := h1.open
  obtain ⟨A3, c3, A4, c4, rfl, hn2, hd2⟩ := h2.open
  have hm := mk_mul q r
  obtain ⟨n1, e1⟩ : ∃ n, n = decide (q.num < 0) := ⟨_, rfl⟩
  obtain ⟨n2, e2⟩ : ∃ n, n = decide (r.num < 0) := ⟨_, rfl⟩
  rw [← e1, ← e2] at hm
  rw [← e1, ← e2]
  have HM := Lib.hid hm
  clear hm e1 e2
  have H := held2_new w (.slice A (dg q.num.natAbs).length c) (.slice A2 (dg q.den).length c2) (.bool n1) (.slice A3 (dg r.num.natAbs).length c3) (.slice A4 (dg r.den).length c4) (.bool n2)
  by_cases hz : q.num.natAbs = 0
  · have hq : 0 = q * r := by
      rw [show q = 0 from Rat.num_eq_zero.1 (by omega)]; simp
    have HQ := Lib.hid hq
    have e : (dg q.num.natAbs).length = 0 := dg_len_zero.2 hz
    rw [e] at H
    clear hz
    clear hq hn1 hd1 hn2 hd2 h1 h2 s1 s2 HM
    go_enter Try.func102, Try.ntmps102
    go_wp2_with fail
    refine (whole_calls _ 0 (by omega) (by omega)).mono ?_
    rintro e w1 ⟨v, rfl, hv, hb1⟩
    have H1 := Held2.next hb1 H
    obtain ⟨⟨x0, x1, x2, m0, m1, m2⟩, f1⟩ := H1.store
    obtain ⟨B, d, B2, d2, rfl, _, _⟩ := hv.open
    go_wp2
    obtain ⟨t1, t2, t3⟩ := H1.done hv
    exact bodyPost_ret (results_cell_row rfl _ _ (w.heap.size + 2) 113 _ (0, 0) _ rfl t3 Try.underlying113 rfl (by kernel_rfl)) rfl ⟨_, rfl, HQ.out ▸ t1, t2⟩
  by_cases hy : r.num.natAbs = 0
  · have hq : 0 = q * r := by
      rw [show r = 0 from Rat.num_eq_zero.1 (by omega)]; simp
    have HQ := Lib.hid hq
    have e : (dg r.num.natAbs).length = 0 := dg_len_zero.2 hy
    have e' := int_ne0 (Nat.pos_of_ne_zero (fun h => hz (dg_len_zero.1 h)) : 0 < (dg q.num.natAbs).length)
    rw [e] at H
    clear hz hy
    clear hq hn1 hd1 hn2 hd2 h1 h2 s1 s2 HM
    go_enter Try.func102, Try.ntmps102
    go_wp2_with fail
    refine (whole_calls _ 0 (by omega) (by omega)).mono ?_
    rintro e w1 ⟨v, rfl, hv, hb1⟩
    have H1 := Held2.next hb1 H
    obtain ⟨⟨x0, x1, x2, m0, m1, m2⟩, f1⟩ := H1.store
    obtain ⟨B, d, B2, d2, rfl, _, _⟩ := hv.open
    go_wp2
    obtain ⟨t1, t2, t3⟩ := H1.done hv
    exact bodyPost_ret (results_cell_row rfl _ _ (w.heap.size + 2) 113 _ (0, 0) _ rfl t3 Try.underlying113 rfl (by kernel_rfl)) rfl ⟨_, rfl, HQ.out ▸ t1, t2⟩
  · have e := int_ne0 (Nat.pos_of_ne_zero (fun h => hz (dg_len_zero.1 h)) : 0 < (dg q.num.natAbs).length)
    have e' := int_ne0 (Nat.pos_of_ne_zero (fun h => hy (dg_len_zero.1 h)) : 0 < (dg r.num.natAbs).length)
    have sm := dg_mul_le s1.1 s2.1
    have sd := dg_mul_le s1.2 s2.2
    have hp := Nat.mul_pos q.den_pos r.den_pos
    have ya : (dg q.num.natAbs).length ≤ 1073741824 := Nat.le_trans s1.1 (by omega)
    have yb : (dg q.den).length ≤ 1073741824 := Nat.le_trans s1.2 (by omega)
    have yc : (dg r.num.natAbs).length ≤ 1073741824 := Nat.le_trans s2.1 (by omega)
    have yd : (dg r.den).length ≤ 1073741824 := Nat.le_trans s2.2 (by omega)
    clear h1 h2 s1 s2 hz hy
    go_enter Try.func102, Try.ntmps102
    go_wp2_with fail
    have hs := (Held2.next (bl_drew _) H).cells
    go_region_held3 (fun w' => Held2 w (.slice A (dg q.num.natAbs).length c) (.slice A2 (dg q.den).length c2) (.bool n1) (.slice A3 (dg r.num.natAbs).length c3) (.slice A4 (dg r.den).length c4) (.bool n2) w' ∧ (w'.cell? ⟨w.heap.size, 0, none⟩ = some (.slice A (dg q.num.natAbs).length c) ∧ w'.cell? ⟨w.heap.size, 1, none⟩ = some (.slice A2 (dg q.den).length c2) ∧ w'.cell? ⟨w.heap.size, 2, none⟩ = some (.bool n1)) ∧ (w'.cell? ⟨w.heap.size + 1, 0, none⟩ = some (.slice A3 (dg r.num.natAbs).length c3) ∧ w'.cell? ⟨w.heap.size + 1, 1, none⟩ = some (.slice A4 (dg r.den).length c4) ∧ w'.cell? ⟨w.heap.size + 1, 2, none⟩ = some (.bool n2)))
      ((first | exact hs | exact (Held2.set H1 _ _ _ _ _ _ _).cells | exact (Held2.next hbN (And.left (by assumption))).cells))
      (first
        | (go_at_call 116; (with_reducible refine (mul_calls _ _ _ q.num.natAbs r.num.natAbs ?_ ?_ ya yc).mono ?_); (exact hn1.held (And.left (by assumption))); (exact hn2.held (And.left (by assumption))); (rintro e w' ⟨v, rfl, hv, hbN⟩))
        | (go_at_call 116; (with_reducible refine (mul_calls _ _ _ q.den r.den ?_ ?_ yb yd).mono ?_); (exact hd1.held (And.left (by assumption))); (exact hd2.held (And.left (by assumption))); (rintro e w' ⟨v, rfl, hv', hbN⟩))
        | (go_at_call 117; (with_reducible refine (reduced_calls _ _ _ (q.num.natAbs * r.num.natAbs) (q.den * r.den) _ ?_ ?_ hp (by omega) (by omega)).mono ?_); (exact Nm.next hbN hv); (exact hv'); (rintro e w' ⟨v, rfl, hrt, hbN⟩); (obtain ⟨B, d, B2, d2, rfl, _, _⟩ := hrt.open); (have H1 := Held2.next hbN (And.left (by assumption))); (obtain ⟨⟨x0, x1, x2, m0, m1, m2⟩, f1⟩ := H1.store)))
    go_wp2
    obtain ⟨t1, t2, t3⟩ := H1.done hrt
    exact bodyPost_ret (results_cell_row rfl _ _ (w.heap.size + 2) 113 _ (0, 0) _ rfl t3 Try.underlying113 rfl (by kernel_rfl)) rfl ⟨_, rfl, by rw [← HM.out]; exact t1, t2⟩

end Go.Proofs.Ytajckdheecgceaa
