/- Fractions as they are handed in: Right. -/
import Derived.Test.YtajckdheecgceaaRat
set_option linter.unusedVariables false
set_option linter.unusedSimpArgs false
namespace Go.Proofs.Ytajckdheecgceaa
open Go.RowKit

/-- A fraction that is handed in: a sign and two lists of words, whatever they are. -/
def FrIn (w : World) (v : Value) (neg : Bool) (ln ld : List Int) : Prop := ∃ v1 v2, v = .agg #[.bool neg, v1, v2] ∧ RdI .u32 w v1 ln ∧ RdI .u32 w v2 ld ∧ Wd ln ∧ Wd ld
theorem FrIn.below {w w1 : World} {v : Value} {neg : Bool} {ln ld : List Int} (h : FrIn w v neg ln ld) (hb : Below w.heap.size w w1) : FrIn w1 v neg ln ld := by
  obtain ⟨v1, v2, hv, h1, h2, h3, h4⟩ := h
  exact ⟨v1, v2, hv, h1.below hb, h2.below hb, h3, h4⟩
/-- It is in lowest terms, written as it is to be. -/
def RightP (neg : Bool) (ln ld : List Int) : Prop := ld ≠ [] ∧ wat ld (ld.length - 1) ≠ 0 ∧ if ln = [] then ld = [1] ∧ neg = false else wat ln (ln.length - 1) ≠ 0 ∧ (ld = [1] ∨ Nat.gcd (nv ln) (nv ld) = 1)
instance (neg : Bool) (ln ld : List Int) : Decidable (RightP neg ln ld) := by unfold RightP; infer_instance
/-- What it is then; 0 if it is not right. -/
def fixq (neg : Bool) (ln ld : List Int) : Rat := if RightP neg ln ld then mkRat (sgn neg (nv ln)) (nv ld) else 0
/-- The fraction q as the program tells it. -/
def FrV (w : World) (v : Value) (q : Rat) : Prop := FrIn w v (decide (q.num < 0)) (dg q.num.natAbs) (dg q.den)
theorem FrV.below {w w1 : World} {v : Value} {q : Rat} (h : FrV w v q) (hb : Below w.heap.size w w1) : FrV w1 v q := FrIn.below h hb
theorem nv_pos {l : List Int} (hw : Wd l) (h0 : l ≠ []) (hl : wat l (l.length - 1) ≠ 0) : 0 < nv l := by
  have h := dg_nv hw (fun _ => hl)
  rcases Nat.eq_zero_or_pos (nv l) with h1 | h1
  · rw [h1, dg_zero] at h; exact absurd h.symm h0
  · exact h1
theorem RightP.parts {neg : Bool} {ln ld : List Int} (h : RightP neg ln ld) (w1 : Wd ln) (w2 : Wd ld) : 0 < nv ld ∧ Nat.gcd (nv ln) (nv ld) = 1 ∧ (nv ln = 0 → neg = false) ∧ dg (nv ln) = ln ∧ dg (nv ld) = ld := by
  obtain ⟨h0, h1, h2⟩ := h
  have hd := nv_pos w2 h0 h1
  by_cases hn : ln = []
  · rw [if_pos hn] at h2
    obtain ⟨h2, h3⟩ := h2
    subst hn
    refine ⟨hd, ?_, fun _ => h3, by simp [nv, dg_zero], dg_nv w2 (fun _ => h1)⟩
    rw [h2]; simp [nv]
  · rw [if_neg hn] at h2
    obtain ⟨h2, h3⟩ := h2
    have hp := nv_pos w1 hn h2
    refine ⟨hd, ?_, fun h => by omega, dg_nv w1 (fun _ => h2), dg_nv w2 (fun _ => h1)⟩
    rcases h3 with h3 | h3
    · rw [h3]; simp [nv]
    · exact h3
theorem fixq_parts {neg : Bool} {ln ld : List Int} (h : RightP neg ln ld) (w1 : Wd ln) (w2 : Wd ld) : decide ((fixq neg ln ld).num < 0) = neg ∧ dg (fixq neg ln ld).num.natAbs = ln ∧ dg (fixq neg ln ld).den = ld := by
  obtain ⟨h0, h1, h2, h3, h4⟩ := h.parts w1 w2
  rw [fixq, if_pos h, mk_num neg h0 h1.symm, mk_den neg h0 h1.symm, Nat.div_one, Nat.div_one, sgn_abs]
  refine ⟨?_, h3, h4⟩
  rcases Nat.eq_zero_or_pos (nv ln) with hz | hz
  · rw [hz, h2 hz]; rfl
  · exact sgn_neg neg hz
theorem right_of (q : Rat) : RightP (decide (q.num < 0)) (dg q.num.natAbs) (dg q.den) := by
  have hd := q.den_pos
  refine ⟨fun h => ?_, dg_last (by omega), ?_⟩
  · have := dg_len_zero.1 (congrArg List.length h); omega
  · split
    · rename_i h
      have h0 := dg_len_zero.1 (congrArg List.length h)
      have h1 : q.num = 0 := by omega
      have h2 := q.reduced
      rw [h1] at h2
      simp at h2
      rw [h2, dg_one]
      exact ⟨rfl, by rw [h1]; rfl⟩
    · rename_i h
      have h0 : q.num.natAbs ≠ 0 := fun e => h (List.length_eq_zero_iff.1 (dg_len_zero.2 e))
      exact ⟨dg_last h0, .inr (by rw [nv_dg, nv_dg]; exact q.reduced)⟩
theorem fixq_of (q : Rat) : fixq (decide (q.num < 0)) (dg q.num.natAbs) (dg q.den) = q := by
  rw [fixq, if_pos (right_of q), nv_dg, nv_dg, sgn_num, Rat.mkRat_self]

theorem sum_fits {a b : Nat} (h : a + (b + 1) ≤ 4096) : decide (4096 < wrap64 ((a : Int) + ((b : Int) + 1))) = false ∧ ((b : Int) + 1 == 0) = false := by
  refine ⟨decide_eq_false ?_, beq_eq_false_iff_ne.2 (by omega)⟩
  rw [show wrap64 ((a : Int) + ((b : Int) + 1)) = (a : Int) + ((b : Int) + 1) by unfold wrap64; omega]
  omega
theorem sum_fits0 {b : Nat} (h : b + 1 ≤ 4096) : decide (4096 < wrap64 ((b : Int) + 1)) = false := by
  refine decide_eq_false ?_
  rw [show wrap64 ((b : Int) + 1) = (b : Int) + 1 by unfold wrap64; omega]
  omega
theorem sum_fits2 {a b : Nat} (h : a + 1 + (b + 1) ≤ 4096) : decide (4096 < wrap64 ((a : Int) + 1 + ((b : Int) + 1))) = false := by
  refine decide_eq_false ?_
  rw [show wrap64 ((a : Int) + 1 + ((b : Int) + 1)) = (a : Int) + 1 + ((b : Int) + 1) by unfold wrap64; omega]
  omega
theorem right_calls (w : World) (v : Value) (neg : Bool) (ln ld : List Int) (h : FrIn w v neg ln ld) (hs : ln.length + ld.length ≤ 4096) :
    Calls Try.prog 113 #[v] w fun e w' => e = .returned (.bool (decide (RightP neg ln ld))) ∧ Below w.heap.size w w' := by
  obtain ⟨v1, v2, rfl, hn, hd, w1, w2⟩ := h
  have hn' := hn
  have hd' := hd
  obtain ⟨A, c, rfl, hl, hc, hr⟩ := hn
  obtain ⟨A2, c2, rfl, hl2, hc2, hr2⟩ := hd
  have hb0 := below_alloc0 w (.cells #[.bool neg, .slice A ln.length c, .slice A2 ld.length c2] 38)
  by_cases d0 : ld = []
  · have HR := Lib.hid (show decide (RightP neg ln ld) = false from decide_eq_false (fun h => h.1 d0))
    have e1 : ld.length = 0 := by rw [d0]; rfl
    rw [e1] at hb0 ⊢
    clear hn' hd' hr hr2 d0 hs
    go_enter Try.func113, Try.ntmps113
    go_wp2_with fail
    go_quiet (fail)
    go_wp2
    go_ret
    exact ⟨by rw [HR.out]; rfl, bl_trans hb0 (bl_drewN _ _)⟩
  have p0 : 0 < ld.length := List.length_pos_iff.2 d0
  obtain ⟨jd, ej⟩ : ∃ j, ld.length = j + 1 := ⟨ld.length - 1, by omega⟩
  obtain ⟨ad, rfl, hcell⟩ := hr2 p0
  have m1 := hcell jd (by omega)
  have m1' := cell_below hb0 m1
  have RX : RightP neg ln ld → wat ld jd ≠ 0 := fun h => by
    have := h.2.1
    rwa [ej, Nat.add_sub_cancel] at this
  have RX0 : wat ld jd ≠ 0 → ln = [] → (RightP neg ln ld ↔ (ld = [1] ∧ neg = false)) := fun h1 h2 => by
    unfold RightP
    rw [ej, if_pos h2, Nat.add_sub_cancel]
    exact ⟨fun h => h.2.2, fun h => ⟨d0, h1, h⟩⟩
  have RX1 : wat ld jd ≠ 0 → ln ≠ [] → ∀ jn, ln.length = jn + 1 → (RightP neg ln ld ↔ (wat ln jn ≠ 0 ∧ (ld = [1] ∨ Nat.gcd (nv ln) (nv ld) = 1))) := fun h1 h2 jn h3 => by
    unfold RightP
    rw [ej, if_neg h2, Nat.add_sub_cancel, h3, Nat.add_sub_cancel]
    exact ⟨fun h => h.2.2, fun h => ⟨d0, h1, h⟩⟩
  clear hcell hr2 d0 p0
  rw [ej] at hb0 hl2 hs m1' hd' ⊢
  obtain ⟨q1, q2⟩ := sum_fits hs
  by_cases z1 : wat ld jd = 0
  · have HR := Lib.hid (show decide (RightP neg ln ld) = false from decide_eq_false (fun h => RX h z1))
    have g1 : (wat ld jd == 0) = true := by simp [z1]
    clear RX RX0 RX1 hn' hd' hr m1 z1 ej hs
    go_enter Try.func113, Try.ntmps113
    go_wp2_with fail
    go_quiet (fail)
    go_wp2
    go_ret
    exact ⟨by rw [HR.out]; rfl, bl_trans hb0 (bl_drewN _ _)⟩
  have g1 : (wat ld jd == 0) = false := by simp [z1]
  by_cases n0 : ln = []
  · have en : ln.length = 0 := by rw [n0]; rfl
    obtain ⟨o, ho⟩ : ∃ o, o = decide (ld = [1]) := ⟨_, rfl⟩
    have hX : decide (RightP neg ln ld) = (o && !neg) := by
      rw [ho, decide_eq_decide.2 (RX0 z1 n0), Bool.decide_and]
      cases neg <;> simp
    have HR := Lib.hid hX
    have HO := Lib.hid ho
    have eN : ((ln.length : Int) == 0) = true := by rw [en]; rfl
    have HD := hd'.below hb0
    clear RX RX0 RX1 hn' hd' hr m1 z1 ej hs ho hX n0 en
    go_enter Try.func113, Try.ntmps113
    go_wp2_with fail
    go_quiet (fail)
    go_wp2_with fail
    refine (one_calls _ _ ld (HD.below (bl_drewN _ _))).mono ?_
    rintro e w3 ⟨rfl, hb3⟩
    rw [← HO.out]
    have K := ((Blk.new w 38 #[.bool neg, .slice A ln.length c, .slice (some ad) (jd + 1) c2]).below (bl_drewN _ nq)).below hb3
    have m0 := K.cell 0
    have hbw := bl_trans (bl_trans hb0 (bl_drewN _ _)) hb3
    clear m1' HD g1 q1 q2
    cases o
    · go_wp2
      go_ret
      exact ⟨by rw [HR.out]; rfl, hbw⟩
    · go_wp2
      go_ret
      exact ⟨by rw [HR.out]; rfl, hbw⟩
  have p0 : 0 < ln.length := List.length_pos_iff.2 n0
  obtain ⟨jn, en⟩ : ∃ j, ln.length = j + 1 := ⟨ln.length - 1, by omega⟩
  obtain ⟨an, rfl, hcell⟩ := hr p0
  have m2 := hcell jn (by omega)
  have m2' := cell_below hb0 m2
  have RX2 : decide (RightP neg ln ld) = (decide (wat ln jn ≠ 0) && (decide (ld = [1]) || decide (Nat.gcd (nv ln) (nv ld) = 1))) := by
    rw [decide_eq_decide.2 (RX1 z1 n0 jn en), Bool.decide_and, Bool.decide_or]
  have hz0 : ∀ j, j = ln.length - 1 → j = jn := fun j h => by omega
  have hjd : ld.length - 1 = jd := by omega
  have D2 : wat ln jn ≠ 0 → Nm w (.slice (some an) (jn + 1) c) (nv ln) := fun h => by
    unfold Nm; rw [dg_nv w1 (fun _ => by rw [show ln.length - 1 = jn by omega]; exact h), ← en]; exact hn'
  have D3 : Nm w (.slice (some ad) (jd + 1) c2) (nv ld) := by
    unfold Nm; rw [dg_nv w2 (fun _ => by rw [hjd]; exact z1)]; exact hd'
  have S2 : wat ln jn ≠ 0 → (dg (nv ln)).length ≤ 1073741823 := fun h => by
    rw [dg_nv w1 (fun _ => by rw [show ln.length - 1 = jn by omega]; exact h)]; omega
  have S3 : (dg (nv ld)).length ≤ 1073741823 := by
    rw [dg_nv w2 (fun _ => by rw [hjd]; exact z1)]; omega
  replace q1 := sum_fits2 (a := jn) (b := jd) (by omega)
  rw [en] at hb0 hl m1' m2' ⊢
  have eN : ((jn : Int) + 1 == 0) = false := beq_eq_false_iff_ne.2 (by omega)
  clear RX RX0 RX1 hn' hr m1 m2 z1 ej hs hcell hz0 hjd p0 n0 en
  by_cases z2 : wat ln jn = 0
  · have HR := Lib.hid (show decide (RightP neg ln ld) = false by rw [RX2]; simp [z2])
    have g2 : (wat ln jn == 0) = true := by simp [z2]
    have g3 : (wat ln jn != 0) = false := by simp [z2]
    clear RX2 D2 D3 S2 S3 hd' z2
    go_enter Try.func113, Try.ntmps113
    go_wp2_with fail
    go_quiet (fail)
    go_wp2
    go_ret
    exact ⟨by rw [HR.out]; rfl, bl_trans hb0 (bl_drewN _ _)⟩
  have g2 : (wat ln jn == 0) = false := by simp [z2]
  have g3 : (wat ln jn != 0) = true := by simp [z2]
  have D2' := (D2 z2).below hb0
  have D3' := D3.below hb0
  have S2' := S2 z2
  have HD := hd'.below hb0
  obtain ⟨o, ho⟩ : ∃ o, o = decide (ld = [1]) := ⟨_, rfl⟩
  obtain ⟨o2, ho2⟩ : ∃ o, o = decide (Nat.gcd (nv ln) (nv ld) = 1) := ⟨_, rfl⟩
  have HR := Lib.hid (show decide (RightP neg ln ld) = (o || o2) by rw [RX2, ho, ho2]; simp [z2])
  have HO := Lib.hid ho
  have HO2 := Lib.hid ho2.symm
  clear RX2 D2 D3 S2 hd' z2 ho ho2
  go_enter Try.func113, Try.ntmps113
  go_wp2_with fail
  go_quiet (fail)
  go_wp2_with fail
  refine (one_calls _ _ ld (HD.below (bl_drewN _ _))).mono ?_
  rintro e w3 ⟨rfl, hb3⟩
  rw [← HO.out]
  have hbw := bl_trans (bl_trans hb0 (bl_drewN _ nq)) hb3
  have D4 := (D2'.below (bl_drewN _ nq)).below hb3
  have D5 := (D3'.below (bl_drewN _ nq)).below hb3
  clear m1' HD q1 q2 m2' D2' D3'
  cases o
  · go_wp2_with fail
    refine (gcd_calls _ _ _ _ _ D4 D5 S2' S3).mono ?_
    rintro e w4 ⟨v, rfl, hv, hb4⟩
    go_wp2_with fail
    refine (one_nm _ _ _ hv o2 HO2.out).mono ?_
    rintro e w5 ⟨rfl, hb5⟩
    clear D4 D5 hv
    go_wp2
    go_ret
    exact ⟨by rw [HR.out]; rfl, bl_trans (bl_trans hbw hb4) hb5⟩
  · clear D4 D5
    go_wp2
    go_ret
    exact ⟨by rw [HR.out]; rfl, hbw⟩

end Go.Proofs.Ytajckdheecgceaa
