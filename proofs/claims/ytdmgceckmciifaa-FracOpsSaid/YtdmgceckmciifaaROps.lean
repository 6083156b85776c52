/- FracOps returns true for every input: sum, difference, product, quotient, what is below zero turned, order, sign and floor of any two fractions are exact, as the statement says. No condition. -/
import Derived.Test.YtdmgceckmciifaaRows
import Derived.Test.YtdmgceckmciifaaRef22
import Derived.Test.YtdmgceckmciifaaFew
import Derived.Test.YtdmgceckmciifaaArg
set_option linter.unusedVariables false
set_option linter.unusedSimpArgs false
namespace Go.Proofs.Ytdmgceckmciifaa
open Go.ChangeShapes Go.WideShapes Go.ChangeAt Go.RowKit Go.Joins

/-- Four structs are boxed, each in a block of its own. -/
def Hold4 (w wb : World) (tb : Nat) (g1 : Nat) (a0 a1 a2 : Value) (g2 : Nat) (b0 b1 b2 : Value) (g3 : Nat) (c0 c1 c2 : Value) (g4 : Nat) (d0 d1 d2 : Value) (w' : World) : Prop :=
  Below w.heap.size w w' ∧ Below wb.heap.size wb w' ∧ Blk w' g1 tb #[a0, a1, a2] ∧ Blk w' g2 tb #[b0, b1, b2] ∧ Blk w' g3 tb #[c0, c1, c2] ∧ Blk w' g4 tb #[d0, d1, d2]
theorem Hold4.cells {w wb w' : World} {tb g1 g2 g3 g4 : Nat} {a0 a1 a2 b0 b1 b2 c0 c1 c2 d0 d1 d2 : Value} (h : Hold4 w wb tb g1 a0 a1 a2 g2 b0 b1 b2 g3 c0 c1 c2 g4 d0 d1 d2 w') : Hold4 w wb tb g1 a0 a1 a2 g2 b0 b1 b2 g3 c0 c1 c2 g4 d0 d1 d2 w' ∧
    (w'.cell? ⟨g1, 0, none⟩ = some a0 ∧ w'.cell? ⟨g1, 1, none⟩ = some a1 ∧ w'.cell? ⟨g1, 2, none⟩ = some a2) ∧ (w'.cell? ⟨g2, 0, none⟩ = some b0 ∧ w'.cell? ⟨g2, 1, none⟩ = some b1 ∧ w'.cell? ⟨g2, 2, none⟩ = some b2) ∧
    (w'.cell? ⟨g3, 0, none⟩ = some c0 ∧ w'.cell? ⟨g3, 1, none⟩ = some c1 ∧ w'.cell? ⟨g3, 2, none⟩ = some c2) ∧ (w'.cell? ⟨g4, 0, none⟩ = some d0 ∧ w'.cell? ⟨g4, 1, none⟩ = some d1 ∧ w'.cell? ⟨g4, 2, none⟩ = some d2) := by
  have hh := h
  obtain ⟨_, _, h1, h2, h3, h4⟩ := h
  exact ⟨hh, ⟨h1.cell 0, h1.cell 1, h1.cell 2⟩, ⟨h2.cell 0, h2.cell 1, h2.cell 2⟩, ⟨h3.cell 0, h3.cell 1, h3.cell 2⟩, ⟨h4.cell 0, h4.cell 1, h4.cell 2⟩⟩
theorem Hold4.next {w wb w1 w2 : World} {tb g1 g2 g3 g4 : Nat} {a0 a1 a2 b0 b1 b2 c0 c1 c2 d0 d1 d2 : Value} (k : Below w1.heap.size w1 w2) (h : Hold4 w wb tb g1 a0 a1 a2 g2 b0 b1 b2 g3 c0 c1 c2 g4 d0 d1 d2 w1) : Hold4 w wb tb g1 a0 a1 a2 g2 b0 b1 b2 g3 c0 c1 c2 g4 d0 d1 d2 w2 := by
  obtain ⟨h0, hb, h1, h2, h3, h4⟩ := h
  exact ⟨bl_trans h0 k, bl_trans hb k, h1.below k, h2.below k, h3.below k, h4.below k⟩
theorem Hold4.bl {w wb w1 : World} {tb g1 g2 g3 g4 : Nat} {a0 a1 a2 b0 b1 b2 c0 c1 c2 d0 d1 d2 : Value} (h : Hold4 w wb tb g1 a0 a1 a2 g2 b0 b1 b2 g3 c0 c1 c2 g4 d0 d1 d2 w1) : Below wb.heap.size wb w1 := h.2.1
def L2 (a b c d : Nat) (i : Nat) : Nat × Nat := if i = 0 then (a, b) else (c, d)
theorem few2_calls (w : World) (g : Nat) (k : Nat) {x0 y0 : Value} {A1 A2 A3 A4 : Option Addr} {a b c d c1 c2 c3 c4 : Nat} {t : Nat} (hb : Blk w g t #[x0, .slice A1 a c1, .slice A2 b c2, y0, .slice A3 c c3, .slice A4 d c4]) :
    Calls Try.prog 17 #[.int .i64 k, .slice (some ⟨g, 0, none⟩) 2 2] w fun e' w' => e' = .returned (.bool (decide ((a ≤ k ∧ b ≤ k) ∧ (c ≤ k ∧ d ≤ k)))) ∧ Below w.heap.size w w' := by
  refine (few_calls w k ⟨g, 0, none⟩ 2 2 (L2 a b c d) (by omega) (by omega) ?_).mono ?_
  · intro i hi
    rw [add_row]
    have : i = 0 ∨ i = 1 := by omega
    rcases this with rfl | rfl
    · exact ⟨_, _, _, _, hb.cell 1, hb.cell 2⟩
    · exact ⟨_, _, _, _, hb.cell 4, hb.cell 5⟩
  · rintro e' w' ⟨rfl, h⟩
    have : (∀ i, i < 2 → ((L2 a b c d i).1 : Int) ≤ (k : Int) ∧ ((L2 a b c d i).2 : Int) ≤ (k : Int)) ↔ ((a ≤ k ∧ b ≤ k) ∧ (c ≤ k ∧ d ≤ k)) := by
      constructor
      · intro h
        have h0 := h 0 (by omega)
        have h1 := h 1 (by omega)
        simp [L2] at h0 h1
        omega
      · rintro ⟨h0, h1⟩ i hi
        have : i = 0 ∨ i = 1 := by omega
        rcases this with rfl | rfl <;> simp [L2] <;> omega
    rw [decide_eq_decide.2 this]
    exact ⟨rfl, h⟩
set_option maxRecDepth 100000 in
set_option maxHeartbeats 8000000 in
theorem law_ops (w : World) (va vb : Value) (na nb : Bool) (lna lda lnb ldb : List Int) (ha : FrIn w va na lna lda) (hb : FrIn w vb nb lnb ldb) :
    Calls Try.prog 6 #[va, vb] w fun e w' => e = .returned (.bool true) ∧ Below w.heap.size w w' := by
  have ha' := ha
  have hb' := hb
  obtain ⟨A1, c1, A2, c2, rfl, _, _, wa1, wa2⟩ := ha.shape
  obtain ⟨A3, c3, A4, c4, rfl, _, _, wb1, wb2⟩ := hb.shape
  have H := heldQ_new w 24 (.bool na) (.slice A1 lna.length c1) (.slice A2 lda.length c2) (.bool nb) (.slice A3 lnb.length c3) (.slice A4 ldb.length c4)
  obtain ⟨W0, hW0⟩ : ∃ W, W = (w.alloc (.cells #[.bool na, .slice A1 lna.length c1, .slice A2 lda.length c2] 24)).alloc (.cells #[.bool nb, .slice A3 lnb.length c3, .slice A4 ldb.length c4] 24) := ⟨_, rfl⟩
  rw [← hW0] at H
  have hz : W0.heap.size = w.heap.size + 2 := by rw [hW0]; simp
  have K := Blk.new W0 24 #[.bool na, .slice A1 lna.length c1, .slice A2 lda.length c2, .bool nb, .slice A3 lnb.length c3, .slice A4 ldb.length c4]
  have H1 := HeldQ.next (below_alloc0 W0 (.cells #[.bool na, .slice A1 lna.length c1, .slice A2 lda.length c2, .bool nb, .slice A3 lnb.length c3, .slice A4 ldb.length c4] 24)) H
  rw [hz] at K
  by_cases hfew : (lna.length ≤ 12 ∧ lda.length ≤ 12) ∧ (lnb.length ≤ 12 ∧ ldb.length ≤ 12)
  · have HD := Lib.hid (decide_eq_true hfew)
    obtain ⟨⟨la1, la2⟩, lb1, lb2⟩ := hfew
    have hsa : lna.length + lda.length ≤ 4096 := by omega
    have hsb : lnb.length + ldb.length ≤ 4096 := by omega
    have za := szq_fix (neg := na) wa1 wa2 la1 la2 (by omega)
    have zb := szq_fix (neg := nb) wb1 wb2 lb1 lb2 (by omega)
    have sAdd := (szq_add za zb).short (by omega)
    have sSub := (szq_add za (szq_neg zb)).short (by omega)
    have sMul := (szq_mul za zb).short (by omega)
    have sDiv := (szq_mul za (szq_inv zb (by omega))).short (by omega)
    have sNeg := (szq_neg za).short (by omega)
    have sFlo := (szq_floor za (by omega)).short (by omega)
    obtain ⟨o, eo⟩ : ∃ o, o = rcmp (fixq na lna lda) (fixq nb lnb ldb) := ⟨_, rfl⟩
    have CM := Lib.hid eo.symm
    obtain ⟨s, es⟩ : ∃ s, s = (fixq na lna lda).num.sign := ⟨_, rfl⟩
    have SG := Lib.hid es.symm
    clear za zb eo es
    go_enter Try.func6, Try.ntmps6
    go_wp2_with fail
    rw [← hW0]
    refine (few2_calls _ _ 12 K).mono ?_
    rintro e w1 ⟨rfl, hb1⟩
    rw [HD.out]
    have H2 := HeldQ.next hb1 H1
    clear K H1 H hW0
    obtain ⟨_, ⟨p0, p1, p2⟩, ⟨p3, p4, p5⟩⟩ := H2.cells
    go_wp2_with fail
    refine (copyfrac_calls _ _ na lna lda (ha'.below H2.bl) (by omega) (by omega)).mono ?_
    rintro e w2 ⟨v, rfl, hca, hb2⟩
    obtain ⟨A5, c5, A6, c6, rfl, _, _, _, _⟩ := hca.shape
    have al2 := below_alloc0 w2 (.cells #[.bool na, .slice A5 lna.length c5, .slice A6 lda.length c6] 24)
    have K5 := Blk.new w2 24 #[.bool na, .slice A5 lna.length c5, .slice A6 lda.length c6]
    have H3 := HeldQ.next al2 (HeldQ.next hb2 H2)
    clear p0 p1 p2 p3 p4 p5
    obtain ⟨_, ⟨p0, p1, p2⟩, ⟨p3, p4, p5⟩⟩ := H3.cells
    go_wp2_with fail
    refine (copyfrac_calls _ _ nb lnb ldb (hb'.below H3.bl) (by omega) (by omega)).mono ?_
    rintro e w3 ⟨v, rfl, hcb, hb3⟩
    obtain ⟨A7, c7, A8, c8, rfl, _, _, _, _⟩ := hcb.shape
    have al3 := below_alloc0 w3 (.cells #[.bool nb, .slice A7 lnb.length c7, .slice A8 ldb.length c8] 24)
    have K6 := Blk.new w3 24 #[.bool nb, .slice A7 lnb.length c7, .slice A8 ldb.length c8]
    have H4 := HeldQ.next al3 (HeldQ.next hb3 H3)
    have K5' := (K5.below hb3).below al3
    have ca := (hca.below al2).below hb3
    have cb := hcb
    have oa := ha'.below (HeldQ.next hb3 H3).bl
    have ob := hb'.below (HeldQ.next hb3 H3).bl
    have HV : Hold4 w w3 24 w.heap.size (.bool na) (.slice A1 lna.length c1) (.slice A2 lda.length c2) (w.heap.size + 1) (.bool nb) (.slice A3 lnb.length c3) (.slice A4 ldb.length c4) w2.heap.size (.bool na) (.slice A5 lna.length c5) (.slice A6 lda.length c6) w3.heap.size (.bool nb) (.slice A7 lnb.length c7) (.slice A8 ldb.length c8) (w3.alloc (.cells #[.bool nb, .slice A7 lnb.length c7, .slice A8 ldb.length c8] 24)) := ⟨H4.1, al3, H4.2.1, H4.2.2, K5', K6⟩
    clear p0 p1 p2 p3 p4 p5 K5 K6 K5' H2 H3 H4 al2 al3 hb2 hb3 hca hcb hb1
    obtain ⟨_, ⟨p0, p1, p2⟩, ⟨p3, p4, p5⟩, ⟨p6, p7, p8⟩, ⟨p9, p10, p11⟩⟩ := HV.cells
    by_cases hz0 : (fixq nb lnb ldb) = 0
    · have HZ0 := Lib.hid hz0
      clear hz0
      go_wp2_with fail
      refine (frac_div_zero _ _ _ na nb lna lda lnb ldb (ca.below HV.bl) (cb.below HV.bl) hsa hsb HZ0.out).mono ?_
      rintro e w4 ⟨rfl, hb4⟩
      have HVa := Hold4.next (below_alloc0 w4 (.cells #[.bool false, .slice none 0 0, .slice none 0 0] 24)) (Hold4.next hb4 HV)
      clear p0 p1 p2 p3 p4 p5 p6 p7 p8 p9 p10 p11 HV hb4
      obtain ⟨_, ⟨p0, p1, p2⟩, ⟨p3, p4, p5⟩, ⟨p6, p7, p8⟩, ⟨p9, p10, p11⟩⟩ := HVa.cells
      go_wp2_with fail
      refine (rdiv_zero _ _ _ na nb lna lda lnb ldb (oa.below HVa.bl) (ob.below HVa.bl) hsa hsb HZ0.out).mono ?_
      rintro e w5 ⟨rfl, hb5⟩
      have HV := Hold4.next (below_alloc0 w5 (.cells #[.bool false, .slice none 0 0, .slice none 0 0] 24)) (Hold4.next hb5 HVa)
      clear p0 p1 p2 p3 p4 p5 p6 p7 p8 p9 p10 p11 HVa hb5 HZ0
      go_wp2_with fail
      have hs := (Hold4.next (bl_drew _) HV).cells
      go_region_held3 (fun w' => Hold4 w w3 24 w.heap.size (.bool na) (.slice A1 lna.length c1) (.slice A2 lda.length c2) (w.heap.size + 1) (.bool nb) (.slice A3 lnb.length c3) (.slice A4 ldb.length c4) w2.heap.size (.bool na) (.slice A5 lna.length c5) (.slice A6 lda.length c6) w3.heap.size (.bool nb) (.slice A7 lnb.length c7) (.slice A8 ldb.length c8) w' ∧ (w'.cell? ⟨w.heap.size, 0, none⟩ = some (.bool na) ∧ w'.cell? ⟨w.heap.size, 1, none⟩ = some (.slice A1 lna.length c1) ∧ w'.cell? ⟨w.heap.size, 2, none⟩ = some (.slice A2 lda.length c2)) ∧ (w'.cell? ⟨w.heap.size + 1, 0, none⟩ = some (.bool nb) ∧ w'.cell? ⟨w.heap.size + 1, 1, none⟩ = some (.slice A3 lnb.length c3) ∧ w'.cell? ⟨w.heap.size + 1, 2, none⟩ = some (.slice A4 ldb.length c4)) ∧ (w'.cell? ⟨w2.heap.size, 0, none⟩ = some (.bool na) ∧ w'.cell? ⟨w2.heap.size, 1, none⟩ = some (.slice A5 lna.length c5) ∧ w'.cell? ⟨w2.heap.size, 2, none⟩ = some (.slice A6 lda.length c6)) ∧ (w'.cell? ⟨w3.heap.size, 0, none⟩ = some (.bool nb) ∧ w'.cell? ⟨w3.heap.size, 1, none⟩ = some (.slice A7 lnb.length c7) ∧ w'.cell? ⟨w3.heap.size, 2, none⟩ = some (.slice A8 ldb.length c8)))
        ((first | exact hs | exact (Hold4.next hbN (And.left (by assumption))).cells))
        (first
        | (go_at_call 24; (with_reducible refine (frac_add_calls _ _ _ na nb lna lda lnb ldb ?_ ?_ hsa hsb sAdd).mono ?_); (exact ca.below (Hold4.bl (And.left (by assumption)))); (exact cb.below (Hold4.bl (And.left (by assumption)))); (rintro e w' ⟨v, rfl, h1, hbN⟩))
        | (go_at_call 31; (with_reducible refine (radd_calls _ _ _ na nb lna lda lnb ldb ?_ ?_ hsa hsb sAdd).mono ?_); (exact oa.below (Hold4.bl (And.left (by assumption)))); (exact ob.below (Hold4.bl (And.left (by assumption)))); (rintro e w' ⟨v, rfl, h2, hbN⟩); (have h1' := FrV.below h1 hbN))
        | (go_at_call 16; (with_reducible refine (same_calls _ _ _ ((fixq na lna lda) + (fixq nb lnb ldb)) h1' h2 sAdd).mono ?_); (rintro e w' ⟨rfl, hbN⟩))
        | (go_at_call 27; (with_reducible refine (frac_sub_calls _ _ _ na nb lna lda lnb ldb ?_ ?_ hsa hsb sSub).mono ?_); (exact ca.below (Hold4.bl (And.left (by assumption)))); (exact cb.below (Hold4.bl (And.left (by assumption)))); (rintro e w' ⟨v, rfl, h3, hbN⟩))
        | (go_at_call 32; (with_reducible refine (rsub_calls _ _ _ na nb lna lda lnb ldb ?_ ?_ hsa hsb sSub).mono ?_); (exact oa.below (Hold4.bl (And.left (by assumption)))); (exact ob.below (Hold4.bl (And.left (by assumption)))); (rintro e w' ⟨v, rfl, h4, hbN⟩); (have h3' := FrV.below h3 hbN))
        | (go_at_call 16; (with_reducible refine (same_calls _ _ _ ((fixq na lna lda) + -(fixq nb lnb ldb)) h3' h4 sSub).mono ?_); (rintro e w' ⟨rfl, hbN⟩))
        | (go_at_call 25; (with_reducible refine (frac_mul_calls _ _ _ na nb lna lda lnb ldb ?_ ?_ hsa hsb sMul).mono ?_); (exact ca.below (Hold4.bl (And.left (by assumption)))); (exact cb.below (Hold4.bl (And.left (by assumption)))); (rintro e w' ⟨v, rfl, h5, hbN⟩))
        | (go_at_call 33; (with_reducible refine (rmul_calls _ _ _ na nb lna lda lnb ldb ?_ ?_ hsa hsb sMul).mono ?_); (exact oa.below (Hold4.bl (And.left (by assumption)))); (exact ob.below (Hold4.bl (And.left (by assumption)))); (rintro e w' ⟨v, rfl, h6, hbN⟩); (have h5' := FrV.below h5 hbN))
        | (go_at_call 16; (with_reducible refine (same_calls _ _ _ ((fixq na lna lda) * (fixq nb lnb ldb)) h5' h6 sMul).mono ?_); (rintro e w' ⟨rfl, hbN⟩); (have HF := Hold4.next hbN (And.left (by assumption))))
        )
      have HV2 := HF
      clear hs HF
      go_wp2_with fail
      have hs := (Hold4.next (bl_drew _) HV2).cells
      go_region_held3 (fun w' => Hold4 w w3 24 w.heap.size (.bool na) (.slice A1 lna.length c1) (.slice A2 lda.length c2) (w.heap.size + 1) (.bool nb) (.slice A3 lnb.length c3) (.slice A4 ldb.length c4) w2.heap.size (.bool na) (.slice A5 lna.length c5) (.slice A6 lda.length c6) w3.heap.size (.bool nb) (.slice A7 lnb.length c7) (.slice A8 ldb.length c8) w' ∧ (w'.cell? ⟨w.heap.size, 0, none⟩ = some (.bool na) ∧ w'.cell? ⟨w.heap.size, 1, none⟩ = some (.slice A1 lna.length c1) ∧ w'.cell? ⟨w.heap.size, 2, none⟩ = some (.slice A2 lda.length c2)) ∧ (w'.cell? ⟨w.heap.size + 1, 0, none⟩ = some (.bool nb) ∧ w'.cell? ⟨w.heap.size + 1, 1, none⟩ = some (.slice A3 lnb.length c3) ∧ w'.cell? ⟨w.heap.size + 1, 2, none⟩ = some (.slice A4 ldb.length c4)) ∧ (w'.cell? ⟨w2.heap.size, 0, none⟩ = some (.bool na) ∧ w'.cell? ⟨w2.heap.size, 1, none⟩ = some (.slice A5 lna.length c5) ∧ w'.cell? ⟨w2.heap.size, 2, none⟩ = some (.slice A6 lda.length c6)) ∧ (w'.cell? ⟨w3.heap.size, 0, none⟩ = some (.bool nb) ∧ w'.cell? ⟨w3.heap.size, 1, none⟩ = some (.slice A7 lnb.length c7) ∧ w'.cell? ⟨w3.heap.size, 2, none⟩ = some (.slice A8 ldb.length c8)))
        ((first | exact hs | exact (Hold4.next hbN (And.left (by assumption))).cells))
        (first
        | (go_at_call 34; (with_reducible refine (frac_neg_calls _ _ na lna lda ?_ hsa sNeg).mono ?_); (exact ca.below (Hold4.bl (And.left (by assumption)))); (rintro e w' ⟨v, rfl, h7, hbN⟩))
        | (go_at_call 35; (with_reducible refine (rneg_calls _ _ na lna lda ?_ hsa).mono ?_); (exact oa.below (Hold4.bl (And.left (by assumption)))); (rintro e w' ⟨v, rfl, h8, hbN⟩); (have h7' := FrV.below h7 hbN))
        | (go_at_call 16; (with_reducible refine (same_calls _ _ _ (-(fixq na lna lda)) h7' h8 sNeg).mono ?_); (rintro e w' ⟨rfl, hbN⟩))
        | (go_at_call 28; (with_reducible refine (frac_floor_calls _ _ na lna lda ?_ hsa sFlo).mono ?_); (exact ca.below (Hold4.bl (And.left (by assumption)))); (rintro e w' ⟨v, rfl, h9, hbN⟩))
        | (go_at_call 36; (with_reducible refine (rfloor_calls _ _ na lna lda ?_ hsa sFlo).mono ?_); (exact oa.below (Hold4.bl (And.left (by assumption)))); (rintro e w' ⟨v, rfl, h10, hbN⟩); (have h9' := FrV.below h9 hbN))
        | (go_at_call 16; (with_reducible refine (same_calls _ _ _ (rfloor (fixq na lna lda) : Int) h9' h10 sFlo).mono ?_); (rintro e w' ⟨rfl, hbN⟩); (have HF := Hold4.next hbN (And.left (by assumption))))
        )
      have HV3 := HF
      clear hs HF
      go_wp2_with fail
      have hs := (Hold4.next (bl_drew _) HV3).cells
      go_region_held3 (fun w' => Hold4 w w3 24 w.heap.size (.bool na) (.slice A1 lna.length c1) (.slice A2 lda.length c2) (w.heap.size + 1) (.bool nb) (.slice A3 lnb.length c3) (.slice A4 ldb.length c4) w2.heap.size (.bool na) (.slice A5 lna.length c5) (.slice A6 lda.length c6) w3.heap.size (.bool nb) (.slice A7 lnb.length c7) (.slice A8 ldb.length c8) w' ∧ (w'.cell? ⟨w.heap.size, 0, none⟩ = some (.bool na) ∧ w'.cell? ⟨w.heap.size, 1, none⟩ = some (.slice A1 lna.length c1) ∧ w'.cell? ⟨w.heap.size, 2, none⟩ = some (.slice A2 lda.length c2)) ∧ (w'.cell? ⟨w.heap.size + 1, 0, none⟩ = some (.bool nb) ∧ w'.cell? ⟨w.heap.size + 1, 1, none⟩ = some (.slice A3 lnb.length c3) ∧ w'.cell? ⟨w.heap.size + 1, 2, none⟩ = some (.slice A4 ldb.length c4)) ∧ (w'.cell? ⟨w2.heap.size, 0, none⟩ = some (.bool na) ∧ w'.cell? ⟨w2.heap.size, 1, none⟩ = some (.slice A5 lna.length c5) ∧ w'.cell? ⟨w2.heap.size, 2, none⟩ = some (.slice A6 lda.length c6)) ∧ (w'.cell? ⟨w3.heap.size, 0, none⟩ = some (.bool nb) ∧ w'.cell? ⟨w3.heap.size, 1, none⟩ = some (.slice A7 lnb.length c7) ∧ w'.cell? ⟨w3.heap.size, 2, none⟩ = some (.slice A8 ldb.length c8)))
        ((first | exact hs | exact (Hold4.next hbN (And.left (by assumption))).cells))
        (first
        | (go_at_call 23; (with_reducible refine (frac_cmp_calls _ _ _ na nb lna lda lnb ldb ?_ ?_ hsa hsb).mono ?_); (exact ca.below (Hold4.bl (And.left (by assumption)))); (exact cb.below (Hold4.bl (And.left (by assumption)))); (rintro e w' ⟨rfl, hbN⟩); (rw [CM.out]))
        | (go_at_call 37; (with_reducible refine (rcmp_calls _ _ _ na nb lna lda lnb ldb ?_ ?_ hsa hsb).mono ?_); (exact oa.below (Hold4.bl (And.left (by assumption)))); (exact ob.below (Hold4.bl (And.left (by assumption)))); (rintro e w' ⟨rfl, hbN⟩); (rw [CM.out]))
        | (go_at_call 26; (with_reducible refine (frac_sign_calls _ _ na lna lda ?_ hsa).mono ?_); (exact ca.below (Hold4.bl (And.left (by assumption)))); (rintro e w' ⟨rfl, hbN⟩); (rw [SG.out]))
        | (go_at_call 38; (with_reducible refine (rsign_calls _ _ na lna lda ?_ hsa).mono ?_); (exact oa.below (Hold4.bl (And.left (by assumption)))); (rintro e w' ⟨rfl, hbN⟩); (rw [SG.out]); (have HF := Hold4.next hbN (And.left (by assumption))))
        )
      go_wp2
      go_ret
      exact ⟨rfl, HF.1⟩
    · have HZ0 := Lib.hid hz0
      clear hz0
      obtain ⟨s7, hs7⟩ : ∃ x, x = (fixq na lna lda * (fixq nb lnb ldb)⁻¹) := ⟨_, rfl⟩
      have S7 := Lib.hid hs7.symm
      have sD := sDiv
      rw [← hs7] at sD
      clear hs7
      go_wp2_with fail
      refine (frac_div_calls _ _ _ na nb lna lda lnb ldb (ca.below HV.bl) (cb.below HV.bl) hsa hsb HZ0.out sDiv).mono ?_
      rintro e w4 ⟨v7, rfl, hf7, hb4⟩
      rw [S7.out] at hf7
      have hf7' := hf7
      obtain ⟨E1, k1, E2, k2, rfl, _, _, _, _⟩ := FrIn.shape hf7
      have al7 := below_alloc0 w4 (.cells #[.bool (decide (s7.num < 0)), .slice E1 (dg s7.num.natAbs).length k1, .slice E2 (dg s7.den).length k2] 24)
      have K7 := Blk.new w4 24 #[.bool (decide (s7.num < 0)), .slice E1 (dg s7.num.natAbs).length k1, .slice E2 (dg s7.den).length k2]
      have HVa := Hold4.next al7 (Hold4.next hb4 HV)
      have hf7b := FrV.below hf7' al7
      clear p0 p1 p2 p3 p4 p5 p6 p7 p8 p9 p10 p11 HV hb4 hf7 hf7' al7
      obtain ⟨_, ⟨p0, p1, p2⟩, ⟨p3, p4, p5⟩, ⟨p6, p7, p8⟩, ⟨p9, p10, p11⟩⟩ := HVa.cells
      go_wp2_with fail
      refine (rdiv_calls _ _ _ na nb lna lda lnb ldb (oa.below HVa.bl) (ob.below HVa.bl) hsa hsb HZ0.out sDiv).mono ?_
      rintro e w5 ⟨v9, rfl, hf9, hb5⟩
      rw [S7.out] at hf9
      have hf9' := hf9
      obtain ⟨E3, k3, E4, k4, rfl, _, _, _, _⟩ := FrIn.shape hf9
      have al9 := below_alloc0 w5 (.cells #[.bool (decide (s7.num < 0)), .slice E3 (dg s7.num.natAbs).length k3, .slice E4 (dg s7.den).length k4] 24)
      have K9 := Blk.new w5 24 #[.bool (decide (s7.num < 0)), .slice E3 (dg s7.num.natAbs).length k3, .slice E4 (dg s7.den).length k4]
      have K7b := (K7.below hb5).below al9
      have HVb := Hold4.next al9 (Hold4.next hb5 HVa)
      have f7 := FrV.below (FrV.below hf7b hb5) al9
      have f9 := FrV.below hf9' al9
      clear p0 p1 p2 p3 p4 p5 p6 p7 p8 p9 p10 p11 HVa hb5 HZ0 hf7b hf9 hf9' al9 K7
      have t0 := K7b.cell 0
      have t1 := K7b.cell 1
      have t2 := K7b.cell 2
      have t3 := K9.cell 0
      have t4 := K9.cell 1
      have t5 := K9.cell 2
      go_wp2_with fail
      refine (same_calls _ _ _ s7 f7 f9 sD).mono ?_
      rintro e w6 ⟨rfl, hb6⟩
      have HV := Hold4.next hb6 HVb
      clear t0 t1 t2 t3 t4 t5 K7b K9 HVb hb6 f7 f9
      go_wp2_with fail
      have hs := (Hold4.next (bl_drew _) HV).cells
      go_region_held3 (fun w' => Hold4 w w3 24 w.heap.size (.bool na) (.slice A1 lna.length c1) (.slice A2 lda.length c2) (w.heap.size + 1) (.bool nb) (.slice A3 lnb.length c3) (.slice A4 ldb.length c4) w2.heap.size (.bool na) (.slice A5 lna.length c5) (.slice A6 lda.length c6) w3.heap.size (.bool nb) (.slice A7 lnb.length c7) (.slice A8 ldb.length c8) w' ∧ (w'.cell? ⟨w.heap.size, 0, none⟩ = some (.bool na) ∧ w'.cell? ⟨w.heap.size, 1, none⟩ = some (.slice A1 lna.length c1) ∧ w'.cell? ⟨w.heap.size, 2, none⟩ = some (.slice A2 lda.length c2)) ∧ (w'.cell? ⟨w.heap.size + 1, 0, none⟩ = some (.bool nb) ∧ w'.cell? ⟨w.heap.size + 1, 1, none⟩ = some (.slice A3 lnb.length c3) ∧ w'.cell? ⟨w.heap.size + 1, 2, none⟩ = some (.slice A4 ldb.length c4)) ∧ (w'.cell? ⟨w2.heap.size, 0, none⟩ = some (.bool na) ∧ w'.cell? ⟨w2.heap.size, 1, none⟩ = some (.slice A5 lna.length c5) ∧ w'.cell? ⟨w2.heap.size, 2, none⟩ = some (.slice A6 lda.length c6)) ∧ (w'.cell? ⟨w3.heap.size, 0, none⟩ = some (.bool nb) ∧ w'.cell? ⟨w3.heap.size, 1, none⟩ = some (.slice A7 lnb.length c7) ∧ w'.cell? ⟨w3.heap.size, 2, none⟩ = some (.slice A8 ldb.length c8)))
        ((first | exact hs | exact (Hold4.next hbN (And.left (by assumption))).cells))
        (first
        | (go_at_call 24; (with_reducible refine (frac_add_calls _ _ _ na nb lna lda lnb ldb ?_ ?_ hsa hsb sAdd).mono ?_); (exact ca.below (Hold4.bl (And.left (by assumption)))); (exact cb.below (Hold4.bl (And.left (by assumption)))); (rintro e w' ⟨v, rfl, h1, hbN⟩))
        | (go_at_call 31; (with_reducible refine (radd_calls _ _ _ na nb lna lda lnb ldb ?_ ?_ hsa hsb sAdd).mono ?_); (exact oa.below (Hold4.bl (And.left (by assumption)))); (exact ob.below (Hold4.bl (And.left (by assumption)))); (rintro e w' ⟨v, rfl, h2, hbN⟩); (have h1' := FrV.below h1 hbN))
        | (go_at_call 16; (with_reducible refine (same_calls _ _ _ ((fixq na lna lda) + (fixq nb lnb ldb)) h1' h2 sAdd).mono ?_); (rintro e w' ⟨rfl, hbN⟩))
        | (go_at_call 27; (with_reducible refine (frac_sub_calls _ _ _ na nb lna lda lnb ldb ?_ ?_ hsa hsb sSub).mono ?_); (exact ca.below (Hold4.bl (And.left (by assumption)))); (exact cb.below (Hold4.bl (And.left (by assumption)))); (rintro e w' ⟨v, rfl, h3, hbN⟩))
        | (go_at_call 32; (with_reducible refine (rsub_calls _ _ _ na nb lna lda lnb ldb ?_ ?_ hsa hsb sSub).mono ?_); (exact oa.below (Hold4.bl (And.left (by assumption)))); (exact ob.below (Hold4.bl (And.left (by assumption)))); (rintro e w' ⟨v, rfl, h4, hbN⟩); (have h3' := FrV.below h3 hbN))
        | (go_at_call 16; (with_reducible refine (same_calls _ _ _ ((fixq na lna lda) + -(fixq nb lnb ldb)) h3' h4 sSub).mono ?_); (rintro e w' ⟨rfl, hbN⟩))
        | (go_at_call 25; (with_reducible refine (frac_mul_calls _ _ _ na nb lna lda lnb ldb ?_ ?_ hsa hsb sMul).mono ?_); (exact ca.below (Hold4.bl (And.left (by assumption)))); (exact cb.below (Hold4.bl (And.left (by assumption)))); (rintro e w' ⟨v, rfl, h5, hbN⟩))
        | (go_at_call 33; (with_reducible refine (rmul_calls _ _ _ na nb lna lda lnb ldb ?_ ?_ hsa hsb sMul).mono ?_); (exact oa.below (Hold4.bl (And.left (by assumption)))); (exact ob.below (Hold4.bl (And.left (by assumption)))); (rintro e w' ⟨v, rfl, h6, hbN⟩); (have h5' := FrV.below h5 hbN))
        | (go_at_call 16; (with_reducible refine (same_calls _ _ _ ((fixq na lna lda) * (fixq nb lnb ldb)) h5' h6 sMul).mono ?_); (rintro e w' ⟨rfl, hbN⟩); (have HF := Hold4.next hbN (And.left (by assumption))))
        )
      have HV2 := HF
      clear hs HF
      go_wp2_with fail
      have hs := (Hold4.next (bl_drew _) HV2).cells
      go_region_held3 (fun w' => Hold4 w w3 24 w.heap.size (.bool na) (.slice A1 lna.length c1) (.slice A2 lda.length c2) (w.heap.size + 1) (.bool nb) (.slice A3 lnb.length c3) (.slice A4 ldb.length c4) w2.heap.size (.bool na) (.slice A5 lna.length c5) (.slice A6 lda.length c6) w3.heap.size (.bool nb) (.slice A7 lnb.length c7) (.slice A8 ldb.length c8) w' ∧ (w'.cell? ⟨w.heap.size, 0, none⟩ = some (.bool na) ∧ w'.cell? ⟨w.heap.size, 1, none⟩ = some (.slice A1 lna.length c1) ∧ w'.cell? ⟨w.heap.size, 2, none⟩ = some (.slice A2 lda.length c2)) ∧ (w'.cell? ⟨w.heap.size + 1, 0, none⟩ = some (.bool nb) ∧ w'.cell? ⟨w.heap.size + 1, 1, none⟩ = some (.slice A3 lnb.length c3) ∧ w'.cell? ⟨w.heap.size + 1, 2, none⟩ = some (.slice A4 ldb.length c4)) ∧ (w'.cell? ⟨w2.heap.size, 0, none⟩ = some (.bool na) ∧ w'.cell? ⟨w2.heap.size, 1, none⟩ = some (.slice A5 lna.length c5) ∧ w'.cell? ⟨w2.heap.size, 2, none⟩ = some (.slice A6 lda.length c6)) ∧ (w'.cell? ⟨w3.heap.size, 0, none⟩ = some (.bool nb) ∧ w'.cell? ⟨w3.heap.size, 1, none⟩ = some (.slice A7 lnb.length c7) ∧ w'.cell? ⟨w3.heap.size, 2, none⟩ = some (.slice A8 ldb.length c8)))
        ((first | exact hs | exact (Hold4.next hbN (And.left (by assumption))).cells))
        (first
        | (go_at_call 34; (with_reducible refine (frac_neg_calls _ _ na lna lda ?_ hsa sNeg).mono ?_); (exact ca.below (Hold4.bl (And.left (by assumption)))); (rintro e w' ⟨v, rfl, h7, hbN⟩))
        | (go_at_call 35; (with_reducible refine (rneg_calls _ _ na lna lda ?_ hsa).mono ?_); (exact oa.below (Hold4.bl (And.left (by assumption)))); (rintro e w' ⟨v, rfl, h8, hbN⟩); (have h7' := FrV.below h7 hbN))
        | (go_at_call 16; (with_reducible refine (same_calls _ _ _ (-(fixq na lna lda)) h7' h8 sNeg).mono ?_); (rintro e w' ⟨rfl, hbN⟩))
        | (go_at_call 28; (with_reducible refine (frac_floor_calls _ _ na lna lda ?_ hsa sFlo).mono ?_); (exact ca.below (Hold4.bl (And.left (by assumption)))); (rintro e w' ⟨v, rfl, h9, hbN⟩))
        | (go_at_call 36; (with_reducible refine (rfloor_calls _ _ na lna lda ?_ hsa sFlo).mono ?_); (exact oa.below (Hold4.bl (And.left (by assumption)))); (rintro e w' ⟨v, rfl, h10, hbN⟩); (have h9' := FrV.below h9 hbN))
        | (go_at_call 16; (with_reducible refine (same_calls _ _ _ (rfloor (fixq na lna lda) : Int) h9' h10 sFlo).mono ?_); (rintro e w' ⟨rfl, hbN⟩); (have HF := Hold4.next hbN (And.left (by assumption))))
        )
      have HV3 := HF
      clear hs HF
      go_wp2_with fail
      have hs := (Hold4.next (bl_drew _) HV3).cells
      go_region_held3 (fun w' => Hold4 w w3 24 w.heap.size (.bool na) (.slice A1 lna.length c1) (.slice A2 lda.length c2) (w.heap.size + 1) (.bool nb) (.slice A3 lnb.length c3) (.slice A4 ldb.length c4) w2.heap.size (.bool na) (.slice A5 lna.length c5) (.slice A6 lda.length c6) w3.heap.size (.bool nb) (.slice A7 lnb.length c7) (.slice A8 ldb.length c8) w' ∧ (w'.cell? ⟨w.heap.size, 0, none⟩ = some (.bool na) ∧ w'.cell? ⟨w.heap.size, 1, none⟩ = some (.slice A1 lna.length c1) ∧ w'.cell? ⟨w.heap.size, 2, none⟩ = some (.slice A2 lda.length c2)) ∧ (w'.cell? ⟨w.heap.size + 1, 0, none⟩ = some (.bool nb) ∧ w'.cell? ⟨w.heap.size + 1, 1, none⟩ = some (.slice A3 lnb.length c3) ∧ w'.cell? ⟨w.heap.size + 1, 2, none⟩ = some (.slice A4 ldb.length c4)) ∧ (w'.cell? ⟨w2.heap.size, 0, none⟩ = some (.bool na) ∧ w'.cell? ⟨w2.heap.size, 1, none⟩ = some (.slice A5 lna.length c5) ∧ w'.cell? ⟨w2.heap.size, 2, none⟩ = some (.slice A6 lda.length c6)) ∧ (w'.cell? ⟨w3.heap.size, 0, none⟩ = some (.bool nb) ∧ w'.cell? ⟨w3.heap.size, 1, none⟩ = some (.slice A7 lnb.length c7) ∧ w'.cell? ⟨w3.heap.size, 2, none⟩ = some (.slice A8 ldb.length c8)))
        ((first | exact hs | exact (Hold4.next hbN (And.left (by assumption))).cells))
        (first
        | (go_at_call 23; (with_reducible refine (frac_cmp_calls _ _ _ na nb lna lda lnb ldb ?_ ?_ hsa hsb).mono ?_); (exact ca.below (Hold4.bl (And.left (by assumption)))); (exact cb.below (Hold4.bl (And.left (by assumption)))); (rintro e w' ⟨rfl, hbN⟩); (rw [CM.out]))
        | (go_at_call 37; (with_reducible refine (rcmp_calls _ _ _ na nb lna lda lnb ldb ?_ ?_ hsa hsb).mono ?_); (exact oa.below (Hold4.bl (And.left (by assumption)))); (exact ob.below (Hold4.bl (And.left (by assumption)))); (rintro e w' ⟨rfl, hbN⟩); (rw [CM.out]))
        | (go_at_call 26; (with_reducible refine (frac_sign_calls _ _ na lna lda ?_ hsa).mono ?_); (exact ca.below (Hold4.bl (And.left (by assumption)))); (rintro e w' ⟨rfl, hbN⟩); (rw [SG.out]))
        | (go_at_call 38; (with_reducible refine (rsign_calls _ _ na lna lda ?_ hsa).mono ?_); (exact oa.below (Hold4.bl (And.left (by assumption)))); (rintro e w' ⟨rfl, hbN⟩); (rw [SG.out]); (have HF := Hold4.next hbN (And.left (by assumption))))
        )
      go_wp2
      go_ret
      exact ⟨rfl, HF.1⟩
  · have HD := Lib.hid (decide_eq_false hfew)
    clear hfew
    go_enter Try.func6, Try.ntmps6
    go_wp2_with fail
    rw [← hW0]
    refine (few2_calls _ _ 12 K).mono ?_
    rintro e w1 ⟨rfl, hb1⟩
    rw [HD.out]
    have hbw := (HeldQ.next hb1 H1).bl
    clear K H1 H hW0 hb1
    go_wp2
    go_ret
    exact ⟨rfl, hbw⟩
theorem ops_own : ownKnob Try.prog.godebug = none := by kernel_rfl
theorem ops_laid : laidOutB Try.prog = true := by kernel_rfl
set_option maxRecDepth 100000 in
theorem ops_lifted (os : Os) (started : os.Started) (H : Type) (enc : TypeId × Value → H) :
    ReturnsInHanded {} Try.checked os 6 .any (Rows.fracOpsSpec.pre6 enc Try.prog Try.f6 Rows.fracOpsRow.domain false) (Rows.fracOpsSpec.post enc Try.prog Try.f6 false true false false) := by
  refine returnsInHanded_of_change (C := Try.checked) ops_own started (by kernel_rfl) Try.func6
    (ChangeSpec.witness6 (enc := enc) (C := Try.checked) false ⟨#[], #[.agg #[.bool false, .slice none 0 0, .slice none 0 0], .agg #[.bool false, .slice none 0 0, .slice none 0 0]], []⟩ 8 (by kernel_rfl) (by kernel_rfl) (by kernel_rfl) (by kernel_rfl)) ?_
  intro W base args ds gs before hval0 hW hcnd _
  have hval : ∀ (j : Nat) t v, Try.f6.params[j]? = some t → args[j]? = some v → Value.okWide Try.prog W .any base t v := hval0
  have hW' := hW
  obtain ⟨p, q, hA0, hV, rfl, hfz, hnd⟩ := hW
  have hA : DataW.TrodAll enc Try.prog W 0 (fun _ => true) true Try.f6.params.toList args.toList ds p := hA0
  rw [Try.params6] at hA hval
  obtain ⟨v0, v1, d0, d1, p0, p1, rfl, rfl, rfl, h0, h1⟩ := trodAll_two hA
  obtain ⟨rfl, rfl⟩ := trodVars_none hV
  have lt0 : ∀ x ∈ p0, x.block < W.heap.size := by obtain ⟨m, hm⟩ := h0; exact DataW.trod_lt m _ _ _ hm
  have lt1 : ∀ x ∈ p1, x.block < W.heap.size := by obtain ⟨m, hm⟩ := h1; exact DataW.trod_lt m _ _ _ hm
  obtain ⟨n0, l0, e0, a0⟩ := frin_of_arg (hval 0 24 v0 rfl rfl) h0
  obtain ⟨n1, l1, e1, a1⟩ := frin_of_arg (hval 1 24 v1 rfl rfl) h1
  clear hA0 hval0
  refine (law_ops W v0 v1 n0 n1 l0 e0 l1 e1 a0 a1).mono fun e W' ⟨he, bel⟩ => ?_
  subst he
  exact ⟨_, rfl, _, _, _, [], _, [], hW', trodAll_mk1 (shut_bool Try.underlying4 _), trodAll_mk2 (Below.trod ops_laid (by kernel_rfl) (of_decide_eq_true (by kernel_rfl)) h0 bel lt0) (Below.trod ops_laid (by kernel_rfl) (of_decide_eq_true (by kernel_rfl)) h1 bel lt1), rfl, bel.frame _, fun h => by cases h⟩
theorem ops_holds : Rows.FracOpsSaid :=
  OpenClaim.holds_of_wide 6 Try.f6 rfl rfl rfl rfl rfl rfl rfl ⟨rfl, rfl, rfl, rfl, rfl⟩ rfl rfl rfl rfl rfl (by kernel_rfl) Try.func6 (by kernel_rfl)
    (of_decide_eq_true (by kernel_rfl)) (by unfold Func.isWrapper; first | (rw [if_pos (by decide +kernel)]; kernel_rfl) | (rw [if_neg (by decide +kernel)]; exact ⟨rfl, rfl⟩))
    (fun os started H enc _ => ops_lifted os started H enc)
#print axioms ops_holds
end Go.Proofs.Ytdmgceckmciifaa
