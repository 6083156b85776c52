/- Fractions: what a ratio reads as; reduced, whole. -/
import Derived.Test.YtdmgceckmciifaaGcd
import Derived.RowKit3
set_option linter.unusedVariables false
set_option linter.unusedSimpArgs false
namespace Go.Proofs.Ytdmgceckmciifaa
open Go.RowKit

/-- A number with a sign. -/
def sgn (neg : Bool) (a : Nat) : Int := if neg then -(a : Int) else a
/-- The value v is the fraction q, as a ratio: numerator, denominator, sign. -/
def RtV (w : World) (v : Value) (q : Rat) : Prop := ∃ v1 v2, v = .agg #[v1, v2, .bool (decide (q.num < 0))] ∧ Nm w v1 q.num.natAbs ∧ Nm w v2 q.den
theorem RtV.below {w w1 : World} {v : Value} {q : Rat} (h : RtV w v q) (hb : Below w.heap.size w w1) : RtV w1 v q := by
  obtain ⟨v1, v2, hv, h1, h2⟩ := h
  exact ⟨v1, v2, hv, h1.below hb, h2.below hb⟩
/-- A fraction's numbers have at most k words each. -/
def Szq (k : Nat) (q : Rat) : Prop := (dg q.num.natAbs).length ≤ k ∧ (dg q.den).length ≤ k
theorem Szq.mono {k k' : Nat} {q : Rat} (h : Szq k q) (hk : k ≤ k') : Szq k' q := ⟨Nat.le_trans h.1 hk, Nat.le_trans h.2 hk⟩

theorem mk_zero (neg : Bool) (d : Nat) : mkRat (sgn neg 0) d = 0 := by
  cases neg <;> simp [sgn]
theorem mk_num (neg : Bool) {a d g : Nat} (hd : 0 < d) (hg : g = Nat.gcd a d) : (mkRat (sgn neg a) d).num = sgn neg (a / g) := by
  rw [Rat.num_mkRat, if_neg (by omega)]
  have h1 : d.gcd (sgn neg a).natAbs = g := by
    rw [hg, Nat.gcd_comm]
    cases neg <;> simp [sgn]
  rw [h1]
  cases neg
  · simp [sgn]
  · simp only [sgn, if_true]
    rw [Int.neg_ediv_of_dvd]
    · simp
    · rw [hg]; exact_mod_cast Nat.gcd_dvd_left a d
theorem mk_den (neg : Bool) {a d g : Nat} (hd : 0 < d) (hg : g = Nat.gcd a d) : (mkRat (sgn neg a) d).den = d / g := by
  rw [Rat.den_mkRat, if_neg (by omega)]
  have h1 : d.gcd (sgn neg a).natAbs = g := by
    rw [hg, Nat.gcd_comm]
    cases neg <;> simp [sgn]
  rw [h1]
theorem sgn_abs (neg : Bool) (a : Nat) : (sgn neg a).natAbs = a := by cases neg <;> simp [sgn]
theorem sgn_neg (neg : Bool) {a : Nat} (h : 0 < a) : decide (sgn neg a < 0) = neg := by
  cases neg
  · simp [sgn]
  · simp only [sgn, if_true, decide_eq_true_eq]; omega
/-- A reduced fraction: what was divided. -/
theorem RtV.mk {w : World} {v1 v2 : Value} {neg : Bool} {a d g : Nat} (ha : 0 < a) (hd : 0 < d) (hg : g = Nat.gcd a d) (h1 : Nm w v1 (a / g)) (h2 : Nm w v2 (d / g)) : RtV w (.agg #[v1, v2, .bool neg]) (mkRat (sgn neg a) d) := by
  have hg0 : 0 < g := by rw [hg]; exact Nat.gcd_pos_of_pos_left _ ha
  have hag : 0 < a / g := Nat.div_pos (by rw [hg]; exact Nat.gcd_le_left _ ha) hg0
  refine ⟨v1, v2, ?_, ?_, ?_⟩
  · rw [mk_num neg hd hg, sgn_neg neg hag]
  · rw [mk_num neg hd hg, sgn_abs]; exact h1
  · rw [mk_den neg hd hg]; exact h2
/-- What is handed back is the fraction q. -/
def RtPost (q : Rat) (w : World) (e : Ending) (w' : World) : Prop := ∃ v, e = .returned v ∧ RtV w' v q ∧ Below w.heap.size w w'
theorem Nm.lit1 (w : World) (g : Nat) (h : w.heap[g]? = some (.cells #[.int .u32 1] 38 (0, 0))) : Nm w (.slice (some ⟨g, 0, none⟩) 1 1) 1 := by
  have ho : Ow w g [1] := by unfold Ow; rw [h]; rfl
  have := ho.rd 1 1 (by simp) (by omega) (by omega)
  show RdI .u32 w _ (dg 1)
  rw [dg_one]
  exact this

theorem reduced_calls (w : World) (va vb : Value) (a d : Nat) (neg : Bool) (ha : Nm w va a) (hb : Nm w vb d) (hd : 0 < d) (sa : (dg a).length ≤ 1073741823) (sd : (dg d).length ≤ 1073741823) :
    Calls Try.prog 102 #[va, vb, .bool neg] w (RtPost (mkRat (sgn neg a) d) w) := by
  by_cases a0 : a = 0
  · subst a0
    obtain ⟨A, c, rfl, hl, hc, hr⟩ := ha
    rw [dg_zero]
    clear hr hl
    go_enter Try.func102, Try.ntmps102
    go_wp2
    refine bodyPost_ret (v := .agg #[.slice none 0 0, .slice (some ⟨w.heap.size + 1, 0, none⟩) 1 1, .bool false]) (by simp [results, Try.results102, go_sem]) rfl ⟨_, rfl, ?_, ((Below.refl _ _).alloc (Nat.le_refl _) _).alloc (by simp) _⟩
    rw [mk_zero]
    exact ⟨_, _, rfl, Nm.nil _, Nm.lit1 _ _ (alloc_at1 _ _ _)⟩
  · have la : 0 < (dg a).length := Nat.pos_of_ne_zero (fun h => a0 (dg_len_zero.1 h))
    obtain ⟨A, c, rfl⟩ := ha.shape
    obtain ⟨A2, c2, rfl⟩ := hb.shape
    obtain ⟨g, hg⟩ : ∃ g, g = Nat.gcd a d := ⟨_, rfl⟩
    have hg0 : 0 < g := by rw [hg]; exact Nat.gcd_pos_of_pos_right _ hd
    have HG := Lib.hid hg
    have hb0 := below_alloc0 w (.cells #[.slice none 0 0, .slice none 0 0, .bool false] 59)
    go_enter Try.func102, Try.ntmps102
    go_wp2_with fail
    refine (gcd_calls _ _ _ _ _ (ha.below hb0) (hb.below hb0) sa sd).mono ?_
    rintro e w1 ⟨v, rfl, hv, hb1⟩
    rw [← hg] at hv
    clear hg
    have hz1 : w.heap.size < w1.heap.size := by have := hb1.size; simp at this; omega
    have K1 := (Blk.new w 59 #[.slice none 0 0, .slice none 0 0, .bool false]).below hb1
    have hbw1 := bl_trans hb0 hb1
    clear hb0
    by_cases g1 : g = 1
    · go_wp2_with fail
      refine (one_nm _ _ _ hv true (by simp [g1])).mono ?_
      rintro e w2 ⟨rfl, hb2⟩
      have K2 := K1.below hb2
      have m0 := K2.cell 0
      have m1 := K2.cell 1
      have m2 := K2.cell 2
      have f1 := K2.free
      have hbw := bl_trans hbw1 hb2
      have HG1 := Lib.hid g1
      clear g1
      go_wp2
      refine bodyPost_ret (v := .agg #[.slice A (dg a).length c, .slice A2 (dg d).length c2, .bool neg]) (results_cell_row rfl _ _ w.heap.size 59 _ (0, 0) _ rfl (blk3 K2 _ _ _) Try.underlying59 rfl (by kernel_rfl)) rfl ⟨_, rfl, ?_, three_below hbw (Nat.le_refl _) _ _ _⟩
      have hfin := three_below hbw (Nat.le_refl _) (.slice A (dg a).length c) (.slice A2 (dg d).length c2) (.bool neg)
      refine RtV.mk (Nat.pos_of_ne_zero a0) hd HG.out ?_ ?_
      · rw [HG1.out, Nat.div_one]; exact ha.below hfin
      · rw [HG1.out, Nat.div_one]; exact hb.below hfin
    · go_wp2_with fail
      refine (one_nm _ _ _ hv false (by simp [g1])).mono ?_
      rintro e w2 ⟨rfl, hb2⟩
      have hbw := bl_trans hbw1 hb2
      go_wp2_with fail
      refine (div_calls _ _ _ _ _ (ha.below hbw) (hv.below hb2) hg0 sa).mono ?_
      rintro e w3 ⟨q1, r1, rfl, hq1, _, hb3⟩
      have hbw3 := bl_trans hbw hb3
      go_wp2_with fail
      refine (div_calls _ _ _ _ _ (hb.below hbw3) ((hv.below hb2).below hb3) hg0 sd).mono ?_
      rintro e w4 ⟨q2, r2, rfl, hq2, _, hb4⟩
      have hb24 := bl_trans (bl_trans hb2 hb3) hb4
      have K2 := K1.below hb24
      have m0 := K2.cell 0
      have m1 := K2.cell 1
      have m2 := K2.cell 2
      have f1 := K2.free
      have hbw4 := bl_trans hbw3 hb4
      have hq1' := hq1.below hb4
      obtain ⟨A3, c3, rfl⟩ := hq1.shape
      obtain ⟨A4, c4, rfl⟩ := hq2.shape
      have HG1 := Lib.hid g1
      clear g1
      go_wp2
      refine bodyPost_ret (v := .agg #[.slice A3 (dg (a / g)).length c3, .slice A4 (dg (d / g)).length c4, .bool neg]) (results_cell_row rfl _ _ w.heap.size 59 _ (0, 0) _ rfl (blk3 K2 _ _ _) Try.underlying59 rfl (by kernel_rfl)) rfl ⟨_, rfl, ?_, three_below hbw4 (Nat.le_refl _) _ _ _⟩
      refine RtV.mk (Nat.pos_of_ne_zero a0) hd HG.out ?_ ?_
      · exact blk3_keep hq1' K2 (by simp) (by simp) (by simp) _ _ _
      · exact blk3_keep hq2 K2 (by simp) (by simp) (by simp) _ _ _
end Go.Proofs.Ytdmgceckmciifaa
