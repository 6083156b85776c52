/- FracOrder: the walk. -/
import Derived.Test.YtdmgceckmciifaaOrdLaw
set_option linter.unusedVariables false
set_option linter.unusedSimpArgs false
namespace Go.Proofs.Ytdmgceckmciifaa
open Go.RowKit

/-- Three structs of three cells are boxed. -/
def HeldT (w : World) (tb : Nat) (a0 a1 a2 b0 b1 b2 c0 c1 c2 : Value) (w' : World) : Prop := Below w.heap.size w w' ∧ Blk w' w.heap.size tb #[a0, a1, a2] ∧ Blk w' (w.heap.size + 1) tb #[b0, b1, b2] ∧ Blk w' (w.heap.size + 2) tb #[c0, c1, c2]
theorem HeldT.cells {w w' : World} {tb : Nat} {a0 a1 a2 b0 b1 b2 c0 c1 c2 : Value} (h : HeldT w tb a0 a1 a2 b0 b1 b2 c0 c1 c2 w') : HeldT w tb a0 a1 a2 b0 b1 b2 c0 c1 c2 w' ∧ (w'.cell? ⟨w.heap.size, 0, none⟩ = some a0 ∧ w'.cell? ⟨w.heap.size, 1, none⟩ = some a1 ∧ w'.cell? ⟨w.heap.size, 2, none⟩ = some a2) ∧ (w'.cell? ⟨w.heap.size + 1, 0, none⟩ = some b0 ∧ w'.cell? ⟨w.heap.size + 1, 1, none⟩ = some b1 ∧ w'.cell? ⟨w.heap.size + 1, 2, none⟩ = some b2) ∧ (w'.cell? ⟨w.heap.size + 2, 0, none⟩ = some c0 ∧ w'.cell? ⟨w.heap.size + 2, 1, none⟩ = some c1 ∧ w'.cell? ⟨w.heap.size + 2, 2, none⟩ = some c2) :=
  ⟨h, ⟨h.2.1.cell 0, h.2.1.cell 1, h.2.1.cell 2⟩, ⟨h.2.2.1.cell 0, h.2.2.1.cell 1, h.2.2.1.cell 2⟩, ⟨h.2.2.2.cell 0, h.2.2.2.cell 1, h.2.2.2.cell 2⟩⟩
theorem HeldT.next {w w1 w2 : World} {tb : Nat} {a0 a1 a2 b0 b1 b2 c0 c1 c2 : Value} (k : Below w1.heap.size w1 w2) (h : HeldT w tb a0 a1 a2 b0 b1 b2 c0 c1 c2 w1) : HeldT w tb a0 a1 a2 b0 b1 b2 c0 c1 c2 w2 :=
  ⟨bl_trans h.1 k, h.2.1.below k, h.2.2.1.below k, h.2.2.2.below k⟩
theorem HeldT.bl {w w1 : World} {tb : Nat} {a0 a1 a2 b0 b1 b2 c0 c1 c2 : Value} (h : HeldT w tb a0 a1 a2 b0 b1 b2 c0 c1 c2 w1) : Below w.heap.size w w1 := h.1
theorem heldT_new (w : World) (tb : Nat) (a0 a1 a2 b0 b1 b2 c0 c1 c2 : Value) : HeldT w tb a0 a1 a2 b0 b1 b2 c0 c1 c2 (((w.alloc (.cells #[a0, a1, a2] tb)).alloc (.cells #[b0, b1, b2] tb)).alloc (.cells #[c0, c1, c2] tb)) := by
  obtain ⟨K1, K2, K4⟩ := boxed3 w #[a0, a1, a2] #[b0, b1, b2] #[c0, c1, c2] tb tb tb
  exact ⟨bl_alloc3 _ _ _ _, K1, K2, K4⟩
/-- A whole number that is told: its denominator is the one word 1. -/
theorem FrV.whole_shape {w : World} {v : Value} {n : Int} (h : FrV w v (n : Rat)) : ∃ b A l c ad c2, v = .agg #[.bool b, .slice A l c, .slice (some ad) 1 c2] ∧ w.cell? ad = some (.int .u32 1) ∧ 1 ≤ c2 ∧ c2 ≤ 9223372036854775807 := by
  obtain ⟨v1, v2, rfl, h1, h2, _, _⟩ := h
  rw [Rat.den_intCast, dg_one] at h2
  obtain ⟨A, c, rfl, _⟩ := h1
  obtain ⟨A2, c2, rfl, k1, k2, hr⟩ := h2
  obtain ⟨ad, rfl, hc⟩ := hr (by simp)
  have h0 := hc 0 (by simp)
  rw [add0] at h0
  exact ⟨_, _, _, _, _, _, rfl, h0, k1, k2⟩
theorem make_one (w : World) : Calls Try.prog 13 #[.int .i64 1, .int .i64 1] w (FrePost 1 w) := by
  have h := frac_make_calls w 1 1 (by omega) (by omega) (by omega) (by omega) (by omega)
  have e : ((1 : Int) : Rat) * ((1 : Int) : Rat)⁻¹ = 1 := by
    rw [Rat.intCast_one]; exact Rat.mul_inv_cancel 1 (by decide)
  rwa [e] at h
/-- A struct of the arguments, and two of the law's own; nothing of the world wb is changed. -/
def HeldU (w wb : World) (tb : Nat) (a0 a1 a2 : Value) (gf : Nat) (f0 f1 f2 : Value) (go : Nat) (o0 o1 o2 : Value) (w' : World) : Prop := Below w.heap.size w w' ∧ Below wb.heap.size wb w' ∧ Blk w' w.heap.size tb #[a0, a1, a2] ∧ Blk w' gf tb #[f0, f1, f2] ∧ Blk w' go tb #[o0, o1, o2]
theorem HeldU.cells {w wb w' : World} {tb : Nat} {a0 a1 a2 : Value} {gf : Nat} {f0 f1 f2 : Value} {go : Nat} {o0 o1 o2 : Value} (h : HeldU w wb tb a0 a1 a2 gf f0 f1 f2 go o0 o1 o2 w') : HeldU w wb tb a0 a1 a2 gf f0 f1 f2 go o0 o1 o2 w' ∧ (w'.cell? ⟨w.heap.size, 0, none⟩ = some a0 ∧ w'.cell? ⟨w.heap.size, 1, none⟩ = some a1 ∧ w'.cell? ⟨w.heap.size, 2, none⟩ = some a2) ∧ (w'.cell? ⟨gf, 0, none⟩ = some f0 ∧ w'.cell? ⟨gf, 1, none⟩ = some f1 ∧ w'.cell? ⟨gf, 2, none⟩ = some f2) ∧ (w'.cell? ⟨go, 0, none⟩ = some o0 ∧ w'.cell? ⟨go, 1, none⟩ = some o1 ∧ w'.cell? ⟨go, 2, none⟩ = some o2) :=
  ⟨h, ⟨h.2.2.1.cell 0, h.2.2.1.cell 1, h.2.2.1.cell 2⟩, ⟨h.2.2.2.1.cell 0, h.2.2.2.1.cell 1, h.2.2.2.1.cell 2⟩, ⟨h.2.2.2.2.cell 0, h.2.2.2.2.cell 1, h.2.2.2.2.cell 2⟩⟩
theorem HeldU.next {w wb w1 w2 : World} {tb : Nat} {a0 a1 a2 : Value} {gf : Nat} {f0 f1 f2 : Value} {go : Nat} {o0 o1 o2 : Value} (k : Below w1.heap.size w1 w2) (h : HeldU w wb tb a0 a1 a2 gf f0 f1 f2 go o0 o1 o2 w1) : HeldU w wb tb a0 a1 a2 gf f0 f1 f2 go o0 o1 o2 w2 :=
  ⟨bl_trans h.1 k, bl_trans h.2.1 k, h.2.2.1.below k, h.2.2.2.1.below k, h.2.2.2.2.below k⟩
theorem HeldU.bl {w wb w1 : World} {tb : Nat} {a0 a1 a2 : Value} {gf : Nat} {f0 f1 f2 : Value} {go : Nat} {o0 o1 o2 : Value} (h : HeldU w wb tb a0 a1 a2 gf f0 f1 f2 go o0 o1 o2 w1) : Below w.heap.size w w1 := h.1
theorem HeldU.own {w wb w1 : World} {tb : Nat} {a0 a1 a2 : Value} {gf : Nat} {f0 f1 f2 : Value} {go : Nat} {o0 o1 o2 : Value} (h : HeldU w wb tb a0 a1 a2 gf f0 f1 f2 go o0 o1 o2 w1) : Below wb.heap.size wb w1 := h.2.1
theorem short_one : Short 1 := (szq_one 1 (by omega)).short (by omega)
/-- Three fractions of a list have few words. -/
def L3 (a b c d e f : Nat) (i : Nat) : Nat × Nat := if i = 0 then (a, b) else if i = 1 then (c, d) else (e, f)
theorem few3 (a b c d e f : Nat) (k : Nat) : (∀ i, i < 3 → ((L3 a b c d e f i).1 : Int) ≤ (k : Int) ∧ ((L3 a b c d e f i).2 : Int) ≤ (k : Int)) ↔ ((a ≤ k ∧ b ≤ k) ∧ (c ≤ k ∧ d ≤ k) ∧ (e ≤ k ∧ f ≤ k)) := by
  constructor
  · intro h
    have h0 := h 0 (by omega)
    have h1 := h 1 (by omega)
    have h2 := h 2 (by omega)
    simp [L3] at h0 h1 h2
    omega
  · rintro ⟨h0, h1, h2⟩ i hi
    have : i = 0 ∨ i = 1 ∨ i = 2 := by omega
    rcases this with rfl | rfl | rfl <;> simp [L3] <;> omega
theorem few3_calls (w : World) (g : Nat) (k : Nat) {x0 y0 z0 : Value} {A1 A2 A3 A4 A5 A6 : Option Addr} {a b c d e f c1 c2 c3 c4 c5 c6 : Nat} {t : Nat} (hb : Blk w g t #[x0, .slice A1 a c1, .slice A2 b c2, y0, .slice A3 c c3, .slice A4 d c4, z0, .slice A5 e c5, .slice A6 f c6]) :
    Calls Try.prog 17 #[.int .i64 k, .slice (some ⟨g, 0, none⟩) 3 3] w fun e' w' => e' = .returned (.bool (decide ((a ≤ k ∧ b ≤ k) ∧ (c ≤ k ∧ d ≤ k) ∧ (e ≤ k ∧ f ≤ k)))) ∧ Below w.heap.size w w' := by
  refine (few_calls w k ⟨g, 0, none⟩ 3 3 (L3 a b c d e f) (by omega) (by omega) ?_).mono ?_
  · intro i hi
    rw [add_row]
    have : i = 0 ∨ i = 1 ∨ i = 2 := by omega
    rcases this with rfl | rfl | rfl
    · exact ⟨_, _, _, _, hb.cell 1, hb.cell 2⟩
    · exact ⟨_, _, _, _, hb.cell 4, hb.cell 5⟩
    · exact ⟨_, _, _, _, hb.cell 7, hb.cell 8⟩
  · rintro e' w' ⟨rfl, h⟩
    rw [decide_eq_decide.2 (few3 a b c d e f k)]
    exact ⟨rfl, h⟩
set_option maxRecDepth 100000 in
set_option maxHeartbeats 4000000 in
theorem law_order (w : World) (va vb vc : Value) (na nb nc : Bool) (lna lda lnb ldb lnc ldc : List Int) (ha : FrIn w va na lna lda) (hb : FrIn w vb nb lnb ldb) (hc : FrIn w vc nc lnc ldc) :
    Calls Try.prog 5 #[va, vb, vc] w fun e w' => e = .returned (.bool true) ∧ Below w.heap.size w w' := by
  have ha' := ha
  have hb' := hb
  have hc' := hc
  obtain ⟨A1, c1, A2, c2, rfl, _, _, wa1, wa2⟩ := ha.shape
  obtain ⟨A3, c3, A4, c4, rfl, _, _, wb1, wb2⟩ := hb.shape
  obtain ⟨A5, c5, A6, c6, rfl, _, _, wc1, wc2⟩ := hc.shape
  have H := heldT_new w 24 (.bool na) (.slice A1 lna.length c1) (.slice A2 lda.length c2) (.bool nb) (.slice A3 lnb.length c3) (.slice A4 ldb.length c4) (.bool nc) (.slice A5 lnc.length c5) (.slice A6 ldc.length c6)
  obtain ⟨W0, hW0⟩ : ∃ W, W = (((w.alloc (.cells #[(.bool na), (.slice A1 lna.length c1), (.slice A2 lda.length c2)] 24)).alloc (.cells #[(.bool nb), (.slice A3 lnb.length c3), (.slice A4 ldb.length c4)] 24)).alloc (.cells #[(.bool nc), (.slice A5 lnc.length c5), (.slice A6 ldc.length c6)] 24)) := ⟨_, rfl⟩
  rw [← hW0] at H
  have hz : W0.heap.size = w.heap.size + 3 := by rw [hW0]; simp
  have K := Blk.new W0 24 #[(.bool na), (.slice A1 lna.length c1), (.slice A2 lda.length c2), (.bool nb), (.slice A3 lnb.length c3), (.slice A4 ldb.length c4), (.bool nc), (.slice A5 lnc.length c5), (.slice A6 ldc.length c6)]
  have H1 := HeldT.next (below_alloc0 W0 (.cells #[(.bool na), (.slice A1 lna.length c1), (.slice A2 lda.length c2), (.bool nb), (.slice A3 lnb.length c3), (.slice A4 ldb.length c4), (.bool nc), (.slice A5 lnc.length c5), (.slice A6 ldc.length c6)] 24)) H
  rw [hz] at K
  by_cases hfew : (lna.length ≤ 8 ∧ lda.length ≤ 8) ∧ (lnb.length ≤ 8 ∧ ldb.length ≤ 8) ∧ (lnc.length ≤ 8 ∧ ldc.length ≤ 8)
  · have HD := Lib.hid (decide_eq_true hfew)
    obtain ⟨⟨la1, la2⟩, ⟨lb1, lb2⟩, ⟨lc1, lc2⟩⟩ := hfew
    have QA := FrQ.mk ha' (by omega)
    have QB := FrQ.mk hb' (by omega)
    have QC := FrQ.mk hc' (by omega)
    have za := szq_fix (neg := na) wa1 wa2 la1 la2 (by omega)
    have zb := szq_fix (neg := nb) wb1 wb2 lb1 lb2 (by omega)
    have zc := szq_fix (neg := nc) wc1 wc2 lc1 lc2 (by omega)
    obtain ⟨a, ea⟩ : ∃ a, a = fixq na lna lda := ⟨_, rfl⟩
    obtain ⟨b, eb⟩ : ∃ b, b = fixq nb lnb ldb := ⟨_, rfl⟩
    obtain ⟨c, ec⟩ : ∃ c, c = fixq nc lnc ldc := ⟨_, rfl⟩
    rw [← ea] at za QA
    rw [← eb] at zb QB
    rw [← ec] at zc QC
    clear ea eb ec ha hb hc ha' hb' hc' wa1 wa2 wb1 wb2 wc1 wc2 la1 la2 lb1 lb2 lc1 lc2
    have sac := (szq_add za zc).short (by omega)
    have sbc := (szq_add zb zc).short (by omega)
    have mac := (szq_mul za zc).short (by omega)
    have mbc := (szq_mul zb zc).short (by omega)
    have sab := (szq_add za (szq_neg zb)).short (by omega)
    have sfl := (szq_floor za (by omega)).short (by omega)
    have sf1 := (szq_add (szq_floor za (by omega)) (szq_one 1 (by omega))).short (by omega)
    have f70 := floor_le a
    obtain ⟨f7, ef7⟩ : ∃ f, f = rcmp (rfloor a : Int) a := ⟨_, rfl⟩
    rw [← ef7] at f70
    have F7 := Lib.hid ef7.symm
    have F8 := Lib.hid (floor_gt a)
    clear ef7
    obtain ⟨o, eo⟩ : ∃ o, o = rcmp a b := ⟨_, rfl⟩
    obtain ⟨s, es⟩ : ∃ s, s = c.num.sign := ⟨_, rfl⟩
    have o0 : -1 ≤ o := by rw [eo]; exact rcmp_lo _ _
    have o1 : o ≤ 1 := by rw [eo]; exact rcmp_hi _ _
    have F0 := Lib.hid eo.symm
    have F1 := Lib.hid (show rcmp b a = -o by rw [eo]; exact rcmp_swap _ _)
    have F3 := Lib.hid (show rcmp (a + c) (b + c) = o by rw [eo]; exact rcmp_add _ _ _)
    have F4 := Lib.hid (show rcmp (a * c) (b * c) = o * s by rw [eo, es]; exact rcmp_mul _ _ _)
    have F5 := Lib.hid es.symm
    have F6 := Lib.hid (show (a + -b).num.sign = o by rw [eo]; exact rcmp_sub _ _)
    have s0 : -1 ≤ s := by rw [es, sign_rcmp]; exact rcmp_lo _ _
    have s1 : s ≤ 1 := by rw [es, sign_rcmp]; exact rcmp_hi _ _
    have ho3 : o = -1 ∨ o = 0 ∨ o = 1 := by omega
    have q1 : IntKind.i64.wrap (o * s) = o * s := by rcases ho3 with rfl | rfl | rfl <;> exact IntWalk.i64_in _ (by omega)
    have q2 : wrap64 (o * s) = o * s := by unfold wrap64; rcases ho3 with rfl | rfl | rfl <;> omega
    obtain ⟨p, ep⟩ : ∃ p, p = rcmp b c := ⟨_, rfl⟩
    have F2 := Lib.hid (show o = p → rcmp a c = o from fun h => by rw [eo] at h ⊢; rw [ep] at h; exact rcmp_trans h)
    have FP := Lib.hid ep.symm
    clear eo es ep ho3
    go_enter Try.func5, Try.ntmps5
    go_wp2_with fail
    rw [← hW0]
    refine (few3_calls _ _ 8 K).mono ?_
    rintro e w1 ⟨rfl, hb1⟩
    rw [HD.out]
    have H2 := HeldT.next hb1 H1
    clear K H1 H hW0
    obtain ⟨_, ⟨p0, p1, p2⟩, ⟨p3, p4, p5⟩, ⟨p6, p7, p8⟩⟩ := H2.cells
    go_wp2_with fail
    refine (cmpq _ _ _ a b (QA.below H2.bl) (QB.below H2.bl)).mono ?_
    rintro e w3 ⟨rfl, hb3⟩
    rw [F0.out]
    have H3 := HeldT.next hb3 H2
    clear p0 p1 p2 p3 p4 p5 p6 p7 p8
    obtain ⟨_, ⟨p0, p1, p2⟩, ⟨p3, p4, p5⟩, ⟨p6, p7, p8⟩⟩ := H3.cells
    go_wp2_with fail
    refine (cmpq _ _ _ b a (QB.below H3.bl) (QA.below H3.bl)).mono ?_
    rintro e w4 ⟨rfl, hb4⟩
    rw [F1.out]
    have H4 := HeldT.next hb4 H3
    clear p0 p1 p2 p3 p4 p5 p6 p7 p8
    obtain ⟨_, ⟨p0, p1, p2⟩, ⟨p3, p4, p5⟩, ⟨p6, p7, p8⟩⟩ := H4.cells
    go_wp2_with fail
    refine (cmpq _ _ _ b c (QB.below H4.bl) (QC.below H4.bl)).mono ?_
    rintro e w5 ⟨rfl, hb5⟩
    rw [FP.out]
    have H5 := HeldT.next hb5 H4
    clear p0 p1 p2 p3 p4 p5 p6 p7 p8
    obtain ⟨_, ⟨p0, p1, p2⟩, ⟨p3, p4, p5⟩, ⟨p6, p7, p8⟩⟩ := H5.cells
    by_cases hop : o = p
    · have g1 : (o == p) = true := by simp [hop]
      have F2' := Lib.hid (F2.out hop)
      clear hop F2
      go_wp2_with fail
      refine (cmpq _ _ _ a c (QA.below H5.bl) (QC.below H5.bl)).mono ?_
      rintro e w6 ⟨rfl, hb6⟩
      rw [F2'.out]
      have H6 := HeldT.next hb6 H5
      clear p0 p1 p2 p3 p4 p5 p6 p7 p8
      obtain ⟨_, ⟨p0, p1, p2⟩, ⟨p3, p4, p5⟩, ⟨p6, p7, p8⟩⟩ := H6.cells
      go_wp2_with fail
      have hs := (HeldT.next (bl_drew _) H6).cells
      go_region_held3 (fun w' => HeldT w 24 (.bool na) (.slice A1 lna.length c1) (.slice A2 lda.length c2) (.bool nb) (.slice A3 lnb.length c3) (.slice A4 ldb.length c4) (.bool nc) (.slice A5 lnc.length c5) (.slice A6 ldc.length c6) w' ∧ (w'.cell? ⟨w.heap.size, 0, none⟩ = some (.bool na) ∧ w'.cell? ⟨w.heap.size, 1, none⟩ = some (.slice A1 lna.length c1) ∧ w'.cell? ⟨w.heap.size, 2, none⟩ = some (.slice A2 lda.length c2)) ∧ (w'.cell? ⟨w.heap.size + 1, 0, none⟩ = some (.bool nb) ∧ w'.cell? ⟨w.heap.size + 1, 1, none⟩ = some (.slice A3 lnb.length c3) ∧ w'.cell? ⟨w.heap.size + 1, 2, none⟩ = some (.slice A4 ldb.length c4)) ∧ (w'.cell? ⟨w.heap.size + 2, 0, none⟩ = some (.bool nc) ∧ w'.cell? ⟨w.heap.size + 2, 1, none⟩ = some (.slice A5 lnc.length c5) ∧ w'.cell? ⟨w.heap.size + 2, 2, none⟩ = some (.slice A6 ldc.length c6)))
        ((first | exact hs | exact (HeldT.next hbN (And.left (by assumption))).cells))
        (first
        | (go_at_call 24; (with_reducible refine (addq _ _ _ a c ?_ ?_ sac).mono ?_); (exact QA.below (HeldT.bl (And.left (by assumption)))); (exact QC.below (HeldT.bl (And.left (by assumption)))); (rintro e w' ⟨v, rfl, hac, hbN⟩); (have hac1 := FrV.q hac sac))
        | (go_at_call 24; (with_reducible refine (addq _ _ _ b c ?_ ?_ sbc).mono ?_); (exact QB.below (HeldT.bl (And.left (by assumption)))); (exact QC.below (HeldT.bl (And.left (by assumption)))); (rintro e w' ⟨v, rfl, hbc, hbN⟩); (have hbc1 := FrV.q hbc sbc); (have hac2 := FrQ.below hac1 hbN))
        | (go_at_call 23; (with_reducible refine (cmpq _ _ _ (a + c) (b + c) hac2 hbc1).mono ?_); (rintro e w' ⟨rfl, hbN⟩); (rw [F3.out]))
        | (go_at_call 25; (with_reducible refine (mulq _ _ _ a c ?_ ?_ mac).mono ?_); (exact QA.below (HeldT.bl (And.left (by assumption)))); (exact QC.below (HeldT.bl (And.left (by assumption)))); (rintro e w' ⟨v, rfl, kac, hbN⟩); (have kac1 := FrV.q kac mac))
        | (go_at_call 25; (with_reducible refine (mulq _ _ _ b c ?_ ?_ mbc).mono ?_); (exact QB.below (HeldT.bl (And.left (by assumption)))); (exact QC.below (HeldT.bl (And.left (by assumption)))); (rintro e w' ⟨v, rfl, kbc, hbN⟩); (have kbc1 := FrV.q kbc mbc); (have kac2 := FrQ.below kac1 hbN))
        | (go_at_call 23; (with_reducible refine (cmpq _ _ _ (a * c) (b * c) kac2 kbc1).mono ?_); (rintro e w' ⟨rfl, hbN⟩); (rw [F4.out]))
        | (go_at_call 26; (with_reducible refine (signq _ _ c ?_).mono ?_); (exact QC.below (HeldT.bl (And.left (by assumption)))); (rintro e w' ⟨rfl, hbN⟩); (rw [F5.out]))
        | (go_at_call 27; (with_reducible refine (subq _ _ _ a b ?_ ?_ sab).mono ?_); (exact QA.below (HeldT.bl (And.left (by assumption)))); (exact QB.below (HeldT.bl (And.left (by assumption)))); (rintro e w' ⟨v, rfl, hsu, hbN⟩); (have hsu1 := FrV.q hsu sab))
        | (go_at_call 26; (with_reducible refine (signq _ _ (a + -b) hsu1).mono ?_); (rintro e w' ⟨rfl, hbN⟩); (rw [F6.out]); (have HN := HeldT.next hbN (And.left (by assumption))))
        )
      clear p0 p1 p2 p3 p4 p5 p6 p7 p8 hs QB QC zb zc sac sbc mac mbc sab o0 o1 s0 s1 q1 q2 g1 F0 F1 F3 F4 F5 F6 HD
      obtain ⟨_, ⟨p0, p1, p2⟩, _, _⟩ := HN.cells
      go_wp2_with fail
      refine (floorq _ _ a (QA.below HN.bl) sfl).mono ?_
      rintro e wf ⟨vf, rfl, hf, hbf⟩
      have hfq := FrV.q hf sfl
      obtain ⟨bf, A7, l7, c7, fa, c8, rfl, ff, ff1, ff2⟩ := FrV.whole_shape hf
      have Kf := Blk.new wf 24 #[.bool bf, .slice A7 l7 c7, .slice (some fa) 1 c8]
      have hbf2 := below_alloc0 wf (.cells #[.bool bf, .slice A7 l7 c7, .slice (some fa) 1 c8] 24)
      replace HN := HeldT.next hbf2 (HeldT.next hbf HN)
      clear p0 p1 p2
      go_wp2_with fail
      refine (make_one _).mono ?_
      rintro e wm ⟨vo, rfl, ho, hbm⟩
      have hoq := (FrV.q ho short_one)
      obtain ⟨A9, c9, A10, c10, rfl, _, _, _, _⟩ := FrIn.shape ho
      obtain ⟨bo, ebo⟩ : ∃ b, b = decide ((1 : Rat).num < 0) := ⟨_, rfl⟩
      obtain ⟨l9, el9⟩ : ∃ l, l = (dg (1 : Rat).num.natAbs).length := ⟨_, rfl⟩
      obtain ⟨l10, el10⟩ : ∃ l, l = (dg (1 : Rat).den).length := ⟨_, rfl⟩
      rw [← ebo, ← el9, ← el10] at hoq ⊢
      have hwm := below_alloc0 wm (.cells #[.bool bo, .slice A9 l9 c9, .slice A10 l10 c10] 24)
      obtain ⟨wb, hwb⟩ : ∃ W, W = wm.alloc (.cells #[.bool bo, .slice A9 l9 c9, .slice A10 l10 c10] 24) := ⟨_, rfl⟩
      rw [← hwb] at hwm
      have HU0 : HeldU w wb 24 (.bool na) (.slice A1 lna.length c1) (.slice A2 lda.length c2) wf.heap.size (.bool bf) (.slice A7 l7 c7) (.slice (some fa) 1 c8) wm.heap.size (.bool bo) (.slice A9 l9 c9) (.slice A10 l10 c10) wb :=
        ⟨bl_trans (bl_trans HN.1 hbm) hwm, by rw [hwb]; exact Below.refl _ _, (HN.2.1.below hbm).below hwm, (Kf.below hbm).below hwm, by rw [hwb]; exact Blk.new wm _ _⟩
      have hff := cell_below hwm (cell_below hbm (cell_below hbf2 ff))
      have m2 := ((Kf.below hbm).below hwm).cell 2
      replace hfq := ((hfq.below hbf2).below hbm).below hwm
      replace hoq := hoq.below hwm
      clear ho hf ebo el9 el10 Kf ff HN
      rw [hwb] at hff m2
      have f72 := decide_eq_true f70
      go_wp2_with fail
      rw [← hwb]
      clear hwb hff m2
      have hs := (HeldU.next (bl_drew _) HU0).cells
      go_region_held3 (fun w' => HeldU w wb 24 (.bool na) (.slice A1 lna.length c1) (.slice A2 lda.length c2) wf.heap.size (.bool bf) (.slice A7 l7 c7) (.slice (some fa) 1 c8) wm.heap.size (.bool bo) (.slice A9 l9 c9) (.slice A10 l10 c10) w' ∧ (w'.cell? ⟨w.heap.size, 0, none⟩ = some (.bool na) ∧ w'.cell? ⟨w.heap.size, 1, none⟩ = some (.slice A1 lna.length c1) ∧ w'.cell? ⟨w.heap.size, 2, none⟩ = some (.slice A2 lda.length c2)) ∧ (w'.cell? ⟨wf.heap.size, 0, none⟩ = some (.bool bf) ∧ w'.cell? ⟨wf.heap.size, 1, none⟩ = some (.slice A7 l7 c7) ∧ w'.cell? ⟨wf.heap.size, 2, none⟩ = some (.slice (some fa) 1 c8)) ∧ (w'.cell? ⟨wm.heap.size, 0, none⟩ = some (.bool bo) ∧ w'.cell? ⟨wm.heap.size, 1, none⟩ = some (.slice A9 l9 c9) ∧ w'.cell? ⟨wm.heap.size, 2, none⟩ = some (.slice A10 l10 c10)))
        ((first | exact hs | exact (HeldU.next hbN (And.left (by assumption))).cells))
        (first
        | (go_at_call 23; (with_reducible refine (cmpq _ _ _ (rfloor a : Int) a ?_ ?_).mono ?_); (exact hfq.below (HeldU.own (And.left (by assumption)))); (exact QA.below (HeldU.bl (And.left (by assumption)))); (rintro e w' ⟨rfl, hbN⟩); (rw [F7.out]))
        | (go_at_call 24; (with_reducible refine (addq _ _ _ (rfloor a : Int) 1 ?_ ?_ sf1).mono ?_); (exact hfq.below (HeldU.own (And.left (by assumption)))); (exact hoq.below (HeldU.own (And.left (by assumption)))); (rintro e w' ⟨v, rfl, hfo, hbN⟩); (have hfo1 := FrV.q hfo sf1))
        | (go_at_call 23; (with_reducible refine (cmpq _ _ _ ((rfloor a : Int) + 1) a hfo1 ?_).mono ?_); (exact QA.below (HeldU.bl (And.left (by assumption)))); (rintro e w' ⟨rfl, hbN⟩); (rw [F8.out]); (have HM := HeldU.next hbN (And.left (by assumption))))
        )
      go_wp2
      go_ret
      exact ⟨rfl, HM.bl⟩
    · have g1 : (o == p) = false := by simp [hop]
      clear hop F2
      go_wp2_with fail
      have hs := (HeldT.next (bl_drew _) H5).cells
      go_region_held3 (fun w' => HeldT w 24 (.bool na) (.slice A1 lna.length c1) (.slice A2 lda.length c2) (.bool nb) (.slice A3 lnb.length c3) (.slice A4 ldb.length c4) (.bool nc) (.slice A5 lnc.length c5) (.slice A6 ldc.length c6) w' ∧ (w'.cell? ⟨w.heap.size, 0, none⟩ = some (.bool na) ∧ w'.cell? ⟨w.heap.size, 1, none⟩ = some (.slice A1 lna.length c1) ∧ w'.cell? ⟨w.heap.size, 2, none⟩ = some (.slice A2 lda.length c2)) ∧ (w'.cell? ⟨w.heap.size + 1, 0, none⟩ = some (.bool nb) ∧ w'.cell? ⟨w.heap.size + 1, 1, none⟩ = some (.slice A3 lnb.length c3) ∧ w'.cell? ⟨w.heap.size + 1, 2, none⟩ = some (.slice A4 ldb.length c4)) ∧ (w'.cell? ⟨w.heap.size + 2, 0, none⟩ = some (.bool nc) ∧ w'.cell? ⟨w.heap.size + 2, 1, none⟩ = some (.slice A5 lnc.length c5) ∧ w'.cell? ⟨w.heap.size + 2, 2, none⟩ = some (.slice A6 ldc.length c6)))
        ((first | exact hs | exact (HeldT.next hbN (And.left (by assumption))).cells))
        (first
        | (go_at_call 24; (with_reducible refine (addq _ _ _ a c ?_ ?_ sac).mono ?_); (exact QA.below (HeldT.bl (And.left (by assumption)))); (exact QC.below (HeldT.bl (And.left (by assumption)))); (rintro e w' ⟨v, rfl, hac, hbN⟩); (have hac1 := FrV.q hac sac))
        | (go_at_call 24; (with_reducible refine (addq _ _ _ b c ?_ ?_ sbc).mono ?_); (exact QB.below (HeldT.bl (And.left (by assumption)))); (exact QC.below (HeldT.bl (And.left (by assumption)))); (rintro e w' ⟨v, rfl, hbc, hbN⟩); (have hbc1 := FrV.q hbc sbc); (have hac2 := FrQ.below hac1 hbN))
        | (go_at_call 23; (with_reducible refine (cmpq _ _ _ (a + c) (b + c) hac2 hbc1).mono ?_); (rintro e w' ⟨rfl, hbN⟩); (rw [F3.out]))
        | (go_at_call 25; (with_reducible refine (mulq _ _ _ a c ?_ ?_ mac).mono ?_); (exact QA.below (HeldT.bl (And.left (by assumption)))); (exact QC.below (HeldT.bl (And.left (by assumption)))); (rintro e w' ⟨v, rfl, kac, hbN⟩); (have kac1 := FrV.q kac mac))
        | (go_at_call 25; (with_reducible refine (mulq _ _ _ b c ?_ ?_ mbc).mono ?_); (exact QB.below (HeldT.bl (And.left (by assumption)))); (exact QC.below (HeldT.bl (And.left (by assumption)))); (rintro e w' ⟨v, rfl, kbc, hbN⟩); (have kbc1 := FrV.q kbc mbc); (have kac2 := FrQ.below kac1 hbN))
        | (go_at_call 23; (with_reducible refine (cmpq _ _ _ (a * c) (b * c) kac2 kbc1).mono ?_); (rintro e w' ⟨rfl, hbN⟩); (rw [F4.out]))
        | (go_at_call 26; (with_reducible refine (signq _ _ c ?_).mono ?_); (exact QC.below (HeldT.bl (And.left (by assumption)))); (rintro e w' ⟨rfl, hbN⟩); (rw [F5.out]))
        | (go_at_call 27; (with_reducible refine (subq _ _ _ a b ?_ ?_ sab).mono ?_); (exact QA.below (HeldT.bl (And.left (by assumption)))); (exact QB.below (HeldT.bl (And.left (by assumption)))); (rintro e w' ⟨v, rfl, hsu, hbN⟩); (have hsu1 := FrV.q hsu sab))
        | (go_at_call 26; (with_reducible refine (signq _ _ (a + -b) hsu1).mono ?_); (rintro e w' ⟨rfl, hbN⟩); (rw [F6.out]); (have HN := HeldT.next hbN (And.left (by assumption))))
        )
      clear p0 p1 p2 p3 p4 p5 p6 p7 p8 hs QB QC zb zc sac sbc mac mbc sab o0 o1 s0 s1 q1 q2 g1 F0 F1 F3 F4 F5 F6 HD
      obtain ⟨_, ⟨p0, p1, p2⟩, _, _⟩ := HN.cells
      go_wp2_with fail
      refine (floorq _ _ a (QA.below HN.bl) sfl).mono ?_
      rintro e wf ⟨vf, rfl, hf, hbf⟩
      have hfq := FrV.q hf sfl
      obtain ⟨bf, A7, l7, c7, fa, c8, rfl, ff, ff1, ff2⟩ := FrV.whole_shape hf
      have Kf := Blk.new wf 24 #[.bool bf, .slice A7 l7 c7, .slice (some fa) 1 c8]
      have hbf2 := below_alloc0 wf (.cells #[.bool bf, .slice A7 l7 c7, .slice (some fa) 1 c8] 24)
      replace HN := HeldT.next hbf2 (HeldT.next hbf HN)
      clear p0 p1 p2
      go_wp2_with fail
      refine (make_one _).mono ?_
      rintro e wm ⟨vo, rfl, ho, hbm⟩
      have hoq := (FrV.q ho short_one)
      obtain ⟨A9, c9, A10, c10, rfl, _, _, _, _⟩ := FrIn.shape ho
      obtain ⟨bo, ebo⟩ : ∃ b, b = decide ((1 : Rat).num < 0) := ⟨_, rfl⟩
      obtain ⟨l9, el9⟩ : ∃ l, l = (dg (1 : Rat).num.natAbs).length := ⟨_, rfl⟩
      obtain ⟨l10, el10⟩ : ∃ l, l = (dg (1 : Rat).den).length := ⟨_, rfl⟩
      rw [← ebo, ← el9, ← el10] at hoq ⊢
      have hwm := below_alloc0 wm (.cells #[.bool bo, .slice A9 l9 c9, .slice A10 l10 c10] 24)
      obtain ⟨wb, hwb⟩ : ∃ W, W = wm.alloc (.cells #[.bool bo, .slice A9 l9 c9, .slice A10 l10 c10] 24) := ⟨_, rfl⟩
      rw [← hwb] at hwm
      have HU0 : HeldU w wb 24 (.bool na) (.slice A1 lna.length c1) (.slice A2 lda.length c2) wf.heap.size (.bool bf) (.slice A7 l7 c7) (.slice (some fa) 1 c8) wm.heap.size (.bool bo) (.slice A9 l9 c9) (.slice A10 l10 c10) wb :=
        ⟨bl_trans (bl_trans HN.1 hbm) hwm, by rw [hwb]; exact Below.refl _ _, (HN.2.1.below hbm).below hwm, (Kf.below hbm).below hwm, by rw [hwb]; exact Blk.new wm _ _⟩
      have hff := cell_below hwm (cell_below hbm (cell_below hbf2 ff))
      have m2 := ((Kf.below hbm).below hwm).cell 2
      replace hfq := ((hfq.below hbf2).below hbm).below hwm
      replace hoq := hoq.below hwm
      clear ho hf ebo el9 el10 Kf ff HN
      rw [hwb] at hff m2
      have f72 := decide_eq_true f70
      go_wp2_with fail
      rw [← hwb]
      clear hwb hff m2
      have hs := (HeldU.next (bl_drew _) HU0).cells
      go_region_held3 (fun w' => HeldU w wb 24 (.bool na) (.slice A1 lna.length c1) (.slice A2 lda.length c2) wf.heap.size (.bool bf) (.slice A7 l7 c7) (.slice (some fa) 1 c8) wm.heap.size (.bool bo) (.slice A9 l9 c9) (.slice A10 l10 c10) w' ∧ (w'.cell? ⟨w.heap.size, 0, none⟩ = some (.bool na) ∧ w'.cell? ⟨w.heap.size, 1, none⟩ = some (.slice A1 lna.length c1) ∧ w'.cell? ⟨w.heap.size, 2, none⟩ = some (.slice A2 lda.length c2)) ∧ (w'.cell? ⟨wf.heap.size, 0, none⟩ = some (.bool bf) ∧ w'.cell? ⟨wf.heap.size, 1, none⟩ = some (.slice A7 l7 c7) ∧ w'.cell? ⟨wf.heap.size, 2, none⟩ = some (.slice (some fa) 1 c8)) ∧ (w'.cell? ⟨wm.heap.size, 0, none⟩ = some (.bool bo) ∧ w'.cell? ⟨wm.heap.size, 1, none⟩ = some (.slice A9 l9 c9) ∧ w'.cell? ⟨wm.heap.size, 2, none⟩ = some (.slice A10 l10 c10)))
        ((first | exact hs | exact (HeldU.next hbN (And.left (by assumption))).cells))
        (first
        | (go_at_call 23; (with_reducible refine (cmpq _ _ _ (rfloor a : Int) a ?_ ?_).mono ?_); (exact hfq.below (HeldU.own (And.left (by assumption)))); (exact QA.below (HeldU.bl (And.left (by assumption)))); (rintro e w' ⟨rfl, hbN⟩); (rw [F7.out]))
        | (go_at_call 24; (with_reducible refine (addq _ _ _ (rfloor a : Int) 1 ?_ ?_ sf1).mono ?_); (exact hfq.below (HeldU.own (And.left (by assumption)))); (exact hoq.below (HeldU.own (And.left (by assumption)))); (rintro e w' ⟨v, rfl, hfo, hbN⟩); (have hfo1 := FrV.q hfo sf1))
        | (go_at_call 23; (with_reducible refine (cmpq _ _ _ ((rfloor a : Int) + 1) a hfo1 ?_).mono ?_); (exact QA.below (HeldU.bl (And.left (by assumption)))); (rintro e w' ⟨rfl, hbN⟩); (rw [F8.out]); (have HM := HeldU.next hbN (And.left (by assumption))))
        )
      go_wp2
      go_ret
      exact ⟨rfl, HM.bl⟩
  · have HD := Lib.hid (decide_eq_false hfew)
    clear hfew ha hb hc ha' hb' hc'
    go_enter Try.func5, Try.ntmps5
    go_wp2_with fail
    rw [← hW0]
    refine (few3_calls _ _ 8 K).mono ?_
    rintro e w1 ⟨rfl, hb1⟩
    rw [HD.out]
    have H2 := HeldT.next hb1 H1
    clear K H1 H hW0
    go_wp2
    go_ret
    exact ⟨rfl, H2.bl⟩
end Go.Proofs.Ytdmgceckmciifaa
