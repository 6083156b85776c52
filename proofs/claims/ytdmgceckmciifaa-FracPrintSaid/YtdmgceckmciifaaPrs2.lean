/- Texts of fractions: frac.Parse. -/
import Derived.Test.YtdmgceckmciifaaPrs
set_option linter.unusedVariables false
set_option linter.unusedSimpArgs false
namespace Go.Proofs.Ytdmgceckmciifaa
open Go.RowKit

/-- How Parse ends. -/
def ParseEnd (o : Option Rat) (e : Ending) (w' : World) : Prop :=
  match o with
  | none => e = .returned (.tuple #[.agg #[.bool false, .slice none 0 0, .slice none 0 0], .int .i64 10])
  | some q => ∃ v, e = .returned (.tuple #[v, .int .i64 0]) ∧ FrV w' v q
/-- What Parse tells. -/
def ParsePost (l : List UInt8) (w : World) (e : Ending) (w' : World) : Prop := ParseEnd (pars l) e w' ∧ Below w.heap.size w w'
theorem ParsePost.no {l : List UInt8} {w w' : World} (h : pars l = none) (hb : Below w.heap.size w w') : ParsePost l w (.returned (.tuple #[.agg #[.bool false, .slice none 0 0, .slice none 0 0], .int .i64 10])) w' :=
  ⟨by rw [h]; rfl, hb⟩
theorem ParsePost.yes {l : List UInt8} {q : Rat} {w w' : World} {v : Value} (h : pars l = some q) (hv : FrV w' v q) (hb : Below w.heap.size w w') : ParsePost l w (.returned (.tuple #[v, .int .i64 0])) w' :=
  ⟨by rw [h]; exact ⟨v, rfl, hv⟩, hb⟩
/-- The parts of a text. -/
def ptl (l : List UInt8) : List UInt8 := if decide (l.head? = some 45) = true then l.tail else l
theorem ptl_len (l : List UInt8) : (ptl l).length ≤ l.length := by unfold ptl; split <;> simp
theorem abv_len (t : List UInt8) : (abv t).length ≤ t.length := (abv_split t).1
theorem pars_bad {l : List UInt8} (h : ¬ okn (abv (ptl l)) ∨ (decide (l.head? = some 45) = true ∧ numv (abv (ptl l)) = 0)) : pars l = none := by
  unfold pars
  exact if_pos h
theorem pars_whole {l : List UInt8} (h : ¬ (¬ okn (abv (ptl l)) ∨ (decide (l.head? = some 45) = true ∧ numv (abv (ptl l)) = 0))) (hs : ¬ (abv (ptl l)).length < (ptl l).length) : pars l = some (mkRat (sgn (decide (l.head? = some 45)) (numv (abv (ptl l)))) 1) := by
  unfold pars
  exact (if_neg h).trans (if_neg hs)
theorem pars_parts {l : List UInt8} (h : ¬ (¬ okn (abv (ptl l)) ∨ (decide (l.head? = some 45) = true ∧ numv (abv (ptl l)) = 0))) (hs : (abv (ptl l)).length < (ptl l).length) :
    pars l = if ¬ okn ((ptl l).drop ((abv (ptl l)).length + 1)) ∨ numv ((ptl l).drop ((abv (ptl l)).length + 1)) = 0 ∨ numv ((ptl l).drop ((abv (ptl l)).length + 1)) = 1 ∨ Nat.gcd (numv (abv (ptl l))) (numv ((ptl l).drop ((abv (ptl l)).length + 1))) ≠ 1 then none else some (mkRat (sgn (decide (l.head? = some 45)) (numv (abv (ptl l)))) (numv ((ptl l).drop ((abv (ptl l)).length + 1)))) := by
  unfold pars
  exact (if_neg h).trans (if_pos hs)
theorem okn_len {l : List UInt8} (h : okn l) : (dg (numv l)).length ≤ 5 := numv_len h.2.1 h.2.2.2
/-- Not 0 below 0. -/
def NNZ (neg : Bool) (n : Nat) : Prop := ¬ (neg = true ∧ n = 0)
theorem rtv_low {w : World} {v1 v2 : Value} {neg : Bool} {n d : Nat} (hd : d ≠ 0) (hg : Nat.gcd n d = 1) (hz : NNZ neg n) (h1 : Nm w v1 n) (h2 : Nm w v2 d) : RtV w (.agg #[v1, v2, .bool neg]) (mkRat (sgn neg n) d) := by
  obtain ⟨e1, e2⟩ := mk_low (neg := neg) hd hg
  have e3 : decide ((mkRat (sgn neg n) d).num < 0) = neg := by
    rw [e1]
    have := sgn_ltz hz
    cases neg <;> simp [this]
  exact ⟨v1, v2, by rw [e3], by rw [e1, sgn_natAbs]; exact h1, by rw [e2]; exact h2⟩
theorem mk_short {neg : Bool} {n d : Nat} (hn : (dg n).length ≤ 5) (hl : (dg d).length ≤ 5) (hd : d ≠ 0) (hg : Nat.gcd n d = 1) : (dg (mkRat (sgn neg n) d).num.natAbs).length + (dg (mkRat (sgn neg n) d).den).length ≤ 4096 := by
  obtain ⟨e1, e2⟩ := mk_low (neg := neg) hd hg
  rw [e1, e2, sgn_natAbs]
  omega
set_option maxRecDepth 100000 in
set_option maxHeartbeats 4000000 in
theorem parse_calls (w : World) (l : List UInt8) (hl : l.length ≤ 1000) : Calls Try.prog 51 #[.string ⟨l.toArray⟩] w (ParsePost l w) := by
  obtain ⟨neg, hneg⟩ : ∃ b, b = decide (l.head? = some 45) := ⟨_, rfl⟩
  obtain ⟨t, ht⟩ : ∃ t, t = ptl l := ⟨_, rfl⟩
  have htl : t.length ≤ 1000 := by rw [ht]; exact Nat.le_trans (ptl_len l) hl
  have hal := abv_len t
  have HBAD := Lib.hid (pars_bad (l := l))
  have HWH := Lib.hid (pars_whole (l := l))
  have HPT := Lib.hid (pars_parts (l := l))
  have HCP := Lib.hid (fun w => cutprefix_calls w l)
  rw [show (if decide (l.head? = some 45) = true then l.tail else l) = t from ht.symm] at HCP
  rw [← ht, ← hneg] at HBAD HWH HPT
  rw [← hneg] at HCP
  clear ht hneg
  obtain ⟨a, ha⟩ : ∃ a, a = abv t := ⟨_, rfl⟩
  have HCUT := Lib.hid (fun w => cut_calls w t htl)
  rw [← ha] at HBAD HWH HPT hal
  have hK := Blk.new w 24 #[.bool false, .slice none 0 0, .slice none 0 0]
  have hbl0 := below_alloc0 w (.cells #[.bool false, .slice none 0 0, .slice none 0 0] 24)
  have HA := Lib.hid ha
  have K0 := Lib.hid hK
  have B0 := Lib.hid hbl0
  clear ha hK hbl0
  go_enter Try.func51, Try.ntmps51
  go_wp2_with fail
  refine (HCP.out _).mono ?_
  rintro e w1 ⟨rfl, rfl⟩
  go_wp2_with fail
  refine (HCUT.out _).mono ?_
  rintro e w2 ⟨b, s, rfl, h1, h2, hb2⟩
  rw [← HA.out] at h1 h2
  rw [← HA.out]
  have K2 := Lib.hid (K0.out.below hb2)
  have B2 := Lib.hid (bl_trans B0.out hb2)
  have H1 := Lib.hid h1
  have H2 := Lib.hid h2
  clear h1 h2 hb2 K0 B0 HCUT HCP
  go_wp2_with fail
  refine (read_calls _ a (by omega)).mono ?_
  rintro e w3 ⟨v1, rfl, hv1, hb3⟩
  have K3 := Lib.hid (K2.out.below hb3)
  have B3 := Lib.hid (bl_trans B2.out hb3)
  clear hb3 K2 B2
  by_cases hok : okn a
  · rw [decide_eq_true hok]
    rw [if_pos hok] at hv1
    have OKA := Lib.hid hok
    have V1 := Lib.hid hv1
    obtain ⟨A1, c1, rfl⟩ := hv1.shape
    by_cases hz : neg = true ∧ numv a = 0
    · obtain ⟨rfl, hn0⟩ := hz
      have HN := Lib.hid (HBAD.out (Or.inr ⟨rfl, hn0⟩))
      rw [hn0, dg_zero]
      have j0 := K3.out.cell 0
      have j1 := K3.out.cell 1
      have j2 := K3.out.cell 2
      have jf := K3.out.free
      clear hok hv1 hn0
      go_wp2
      (refine bodyPost_ret (results_fe rfl _ _ w.heap.size 24 _ (0, 0) _ rfl (blk3 K3.out _ _ _) Try.underlying24 rfl (by kernel_rfl)) rfl ?_; exact ParsePost.no HN.out (three_below B3.out (Nat.le_refl _) _ _ _))
    · have HPT2 := Lib.hid (HPT.out (fun h => h.elim (fun h => h hok) hz))
      have HWH2 := Lib.hid (HWH.out (fun h => h.elim (fun h => h hok) hz))
      have g1 : neg = false ∨ (neg = true ∧ (((dg (numv a)).length : Int) == 0) = false) := by
        cases hn : neg
        · exact Or.inl rfl
        · refine Or.inr ⟨rfl, beq_eq_false_iff_ne.2 fun h => hz ⟨hn, dg_len_zero.1 (by omega)⟩⟩
      have hal1 := below_alloc0 w3 (.cells #[.int .u32 1] 38)
      have V1' := Lib.hid (V1.out.below hal1)
      have K4 := Lib.hid (K3.out.below hal1)
      have B4 := Lib.hid (bl_trans B3.out hal1)
      have VD := Lib.hid (show Nm (w3.alloc (.cells #[.int .u32 1] 38)) (.slice (some ⟨w3.heap.size, 0, none⟩) 1 1) 1 from Nm.lit1 _ _ (heap_alloc_new _ _))
      have LA := Lib.hid (okn_len hok)
      have HZ := Lib.hid (show NNZ neg (numv a) from hz)
      clear hok hv1 hal1 V1 K3 B3 HPT HWH HBAD hz
      cases s
      · have HS := Lib.hid (HWH2.out (of_decide_eq_false H1.out.symm))
        rcases g1 with rfl | ⟨rfl, g1⟩
        all_goals
          go_wp2_with fail
          refine (told_calls _ _ _ (rtv_low (n := numv a) (d := 1) (by omega) (by simp) HZ.out V1'.out VD.out) (mk_short LA.out (by rw [dg_one]; simp) (by omega) (by simp))).mono ?_
          rintro e w7 ⟨v3, rfl, hfr, hb7⟩
          obtain ⟨C1, y1, C2, y2, rfl, r1, r2, r3, r4⟩ := FrIn.shape hfr
          have KF := K4.out.below hb7
          have BF := bl_trans B4.out hb7
          have m0 := KF.cell 0
          have m1 := KF.cell 1
          have m2 := KF.cell 2
          have f1 := KF.free
          clear hfr hb7
          go_wp2
          (refine bodyPost_ret (results_fe rfl _ _ w.heap.size 24 _ (0, 0) _ rfl (blk3 KF _ _ _) Try.underlying24 rfl (by kernel_rfl)) rfl ?_; exact ParsePost.yes HS.out ⟨_, _, rfl, r1.three m0 m1 m2 (boolne _) (slne _ _ _) (slne _ _ _) _ _ _, r2.three m0 m1 m2 (boolne _) (slne _ _ _) (slne _ _ _) _ _ _, r3, r4⟩ (three_below BF (Nat.le_refl _) _ _ _))
      · have HB2 := Lib.hid (H2.out rfl)
        have hlt := of_decide_eq_true H1.out.symm
        have HPT3 := Lib.hid (HPT2.out hlt)
        have hbl : b.length ≤ 1000 := by rw [HB2.out]; simp; omega
        rw [← HB2.out] at HPT3
        clear hlt H1 H2 HWH2 HPT2 HB2
        rcases g1 with rfl | ⟨rfl, g1⟩
        all_goals
          go_wp2_with fail
          refine (read_calls _ b hbl).mono ?_
          rintro e w5 ⟨v2, rfl, hv2, hb5⟩
          have K5 := Lib.hid (K4.out.below hb5)
          have B5 := Lib.hid (bl_trans B4.out hb5)
          have V5 := Lib.hid (V1'.out.below hb5)
          clear hb5 K4 B4 V1'
          by_cases hokb : okn b
          · rw [decide_eq_true hokb]
            rw [if_pos hokb] at hv2
            have LB := Lib.hid (okn_len hokb)
            have V2 := Lib.hid hv2
            obtain ⟨A2, c2, rfl⟩ := hv2.shape
            by_cases hb0 : numv b = 0
            · have HN := Lib.hid (show pars l = none by rw [HPT3.out]; exact if_pos (Or.inr (Or.inl hb0)))
              rw [hb0, dg_zero]
              have j0 := K5.out.cell 0
              have j1 := K5.out.cell 1
              have j2 := K5.out.cell 2
              have jf := K5.out.free
              clear hokb hv2 hb0
              go_wp2
              (refine bodyPost_ret (results_fe rfl _ _ w.heap.size 24 _ (0, 0) _ rfl (blk3 K5.out _ _ _) Try.underlying24 rfl (by kernel_rfl)) rfl ?_; exact ParsePost.no HN.out (three_below B5.out (Nat.le_refl _) _ _ _))
            · have g2 : (((dg (numv b)).length : Int) == 0) = false := beq_eq_false_iff_ne.2 fun h => hb0 (dg_len_zero.1 (by omega))
              by_cases hb1 : numv b = 1
              · have HN := Lib.hid (show pars l = none by rw [HPT3.out]; exact if_pos (Or.inr (Or.inr (Or.inl hb1))))
                have HB1 := Lib.hid (decide_eq_true hb1)
                clear hokb hv2 hb0 hb1
                go_wp2_with fail
                refine (one_nm _ _ _ V2.out true HB1.out).mono ?_
                rintro e w6 ⟨rfl, hb6⟩
                have K6 := K5.out.below hb6
                have B6 := bl_trans B5.out hb6
                have j0 := K6.cell 0
                have j1 := K6.cell 1
                have j2 := K6.cell 2
                have jf := K6.free
                clear hb6
                go_wp2
                (refine bodyPost_ret (results_fe rfl _ _ w.heap.size 24 _ (0, 0) _ rfl (blk3 K6 _ _ _) Try.underlying24 rfl (by kernel_rfl)) rfl ?_; exact ParsePost.no HN.out (three_below B6 (Nat.le_refl _) _ _ _))
              · have HB1 := Lib.hid (decide_eq_false hb1)
                have HB1' := Lib.hid hb1
                have HB0' := Lib.hid hb0
                have HOK := Lib.hid hokb
                clear hokb hv2 hb0 hb1
                go_wp2_with fail
                refine (one_nm _ _ _ V2.out false HB1.out).mono ?_
                rintro e w6 ⟨rfl, hb6⟩
                have K6 := Lib.hid (K5.out.below hb6)
                have B6 := Lib.hid (bl_trans B5.out hb6)
                have V6 := Lib.hid (V5.out.below hb6)
                have U6 := Lib.hid (V2.out.below hb6)
                clear hb6 K5 B5 V5 V2
                go_wp2_with fail
                refine (gcd_calls _ _ _ (numv a) (numv b) V6.out U6.out (by have := LA.out; omega) (by have := LB.out; omega)).mono ?_
                rintro e w7 ⟨v7, rfl, hv7, hb7⟩
                have K7 := Lib.hid (K6.out.below hb7)
                have B7 := Lib.hid (bl_trans B6.out hb7)
                have V7 := Lib.hid (V6.out.below hb7)
                have U7 := Lib.hid (U6.out.below hb7)
                have G7 := Lib.hid hv7
                clear hb7 K6 B6 V6 U6 hv7
                by_cases hg : Nat.gcd (numv a) (numv b) = 1
                · have HS := Lib.hid (HPT3.out.trans (if_neg (fun h => h.elim (fun h => h HOK.out) (fun h => h.elim HB0'.out (fun h => h.elim HB1'.out (fun h => h hg))))))
                  have HG := Lib.hid (decide_eq_true hg)
                  have HG' := Lib.hid hg
                  clear hg
                  go_wp2_with fail
                  refine (one_nm _ _ _ G7.out true HG.out).mono ?_
                  rintro e w8 ⟨rfl, hb8⟩
                  have K8 := Lib.hid (K7.out.below hb8)
                  have B8 := Lib.hid (bl_trans B7.out hb8)
                  have V8 := Lib.hid (V7.out.below hb8)
                  have U8 := Lib.hid (U7.out.below hb8)
                  clear hb8 K7 B7 V7 U7
                  go_wp2_with fail
                  refine (told_calls _ _ _ (rtv_low (n := numv a) (d := (numv b)) HB0'.out HG'.out HZ.out V8.out U8.out) (mk_short LA.out LB.out HB0'.out HG'.out)).mono ?_
                  rintro e w7 ⟨v3, rfl, hfr, hb7⟩
                  obtain ⟨C1, y1, C2, y2, rfl, r1, r2, r3, r4⟩ := FrIn.shape hfr
                  have KF := K8.out.below hb7
                  have BF := bl_trans B8.out hb7
                  have m0 := KF.cell 0
                  have m1 := KF.cell 1
                  have m2 := KF.cell 2
                  have f1 := KF.free
                  clear hfr hb7
                  go_wp2
                  (refine bodyPost_ret (results_fe rfl _ _ w.heap.size 24 _ (0, 0) _ rfl (blk3 KF _ _ _) Try.underlying24 rfl (by kernel_rfl)) rfl ?_; exact ParsePost.yes HS.out ⟨_, _, rfl, r1.three m0 m1 m2 (boolne _) (slne _ _ _) (slne _ _ _) _ _ _, r2.three m0 m1 m2 (boolne _) (slne _ _ _) (slne _ _ _) _ _ _, r3, r4⟩ (three_below BF (Nat.le_refl _) _ _ _))
                · have HN := Lib.hid (show pars l = none by rw [HPT3.out]; exact if_pos (Or.inr (Or.inr (Or.inr hg))))
                  have HG := Lib.hid (decide_eq_false hg)
                  clear hg
                  go_wp2_with fail
                  refine (one_nm _ _ _ G7.out false HG.out).mono ?_
                  rintro e w8 ⟨rfl, hb8⟩
                  have K8 := K7.out.below hb8
                  have B8 := bl_trans B7.out hb8
                  have j0 := K8.cell 0
                  have j1 := K8.cell 1
                  have j2 := K8.cell 2
                  have jf := K8.free
                  clear hb8
                  go_wp2
                  (refine bodyPost_ret (results_fe rfl _ _ w.heap.size 24 _ (0, 0) _ rfl (blk3 K8 _ _ _) Try.underlying24 rfl (by kernel_rfl)) rfl ?_; exact ParsePost.no HN.out (three_below B8 (Nat.le_refl _) _ _ _))
          · rw [decide_eq_false hokb]
            have HN := Lib.hid (show pars l = none by rw [HPT3.out]; exact if_pos (Or.inl hokb))
            rw [if_neg hokb] at hv2
            obtain ⟨A2, c2, rfl⟩ := hv2.shape
            have j0 := K5.out.cell 0
            have j1 := K5.out.cell 1
            have j2 := K5.out.cell 2
            have jf := K5.out.free
            clear hokb hv2
            go_wp2
            (refine bodyPost_ret (results_fe rfl _ _ w.heap.size 24 _ (0, 0) _ rfl (blk3 K5.out _ _ _) Try.underlying24 rfl (by kernel_rfl)) rfl ?_; exact ParsePost.no HN.out (three_below B5.out (Nat.le_refl _) _ _ _))
  · rw [decide_eq_false hok]
    have HN := Lib.hid (HBAD.out (Or.inl hok))
    rw [if_neg hok] at hv1
    obtain ⟨A1, c1, rfl⟩ := hv1.shape
    have j0 := K3.out.cell 0
    have j1 := K3.out.cell 1
    have j2 := K3.out.cell 2
    have jf := K3.out.free
    clear hok hv1
    go_wp2
    (refine bodyPost_ret (results_fe rfl _ _ w.heap.size 24 _ (0, 0) _ rfl (blk3 K3.out _ _ _) Try.underlying24 rfl (by kernel_rfl)) rfl ?_; exact ParsePost.no HN.out (three_below B3.out (Nat.le_refl _) _ _ _))
end Go.Proofs.Ytdmgceckmciifaa
