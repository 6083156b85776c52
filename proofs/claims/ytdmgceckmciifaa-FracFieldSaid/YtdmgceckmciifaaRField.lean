/- FracField returns true for every input: any three fractions are of a field, as the statement says. No condition. -/
import Derived.Test.YtdmgceckmciifaaRows
import Derived.Test.YtdmgceckmciifaaRef22
import Derived.Test.YtdmgceckmciifaaHalf
import Derived.Test.YtdmgceckmciifaaArg
set_option linter.unusedVariables false
set_option linter.unusedSimpArgs false
namespace Go.Proofs.Ytdmgceckmciifaa
open Go.ChangeShapes Go.WideShapes Go.ChangeAt Go.RowKit Go.Joins

/-- Three structs are boxed. -/
def Hold3 (w : World) (tb : Nat) (a0 a1 a2 b0 b1 b2 c0 c1 c2 : Value) (w' : World) : Prop := Below w.heap.size w w' ∧ Blk w' w.heap.size tb #[a0, a1, a2] ∧ Blk w' (w.heap.size + 1) tb #[b0, b1, b2] ∧ Blk w' (w.heap.size + 2) tb #[c0, c1, c2]
theorem Hold3.cells {w w' : World} {tb : Nat} {a0 a1 a2 b0 b1 b2 c0 c1 c2 : Value} (h : Hold3 w tb a0 a1 a2 b0 b1 b2 c0 c1 c2 w') : Hold3 w tb a0 a1 a2 b0 b1 b2 c0 c1 c2 w' ∧ (w'.cell? ⟨w.heap.size, 0, none⟩ = some a0 ∧ w'.cell? ⟨w.heap.size, 1, none⟩ = some a1 ∧ w'.cell? ⟨w.heap.size, 2, none⟩ = some a2) ∧ (w'.cell? ⟨w.heap.size + 1, 0, none⟩ = some b0 ∧ w'.cell? ⟨w.heap.size + 1, 1, none⟩ = some b1 ∧ w'.cell? ⟨w.heap.size + 1, 2, none⟩ = some b2) ∧ (w'.cell? ⟨w.heap.size + 2, 0, none⟩ = some c0 ∧ w'.cell? ⟨w.heap.size + 2, 1, none⟩ = some c1 ∧ w'.cell? ⟨w.heap.size + 2, 2, none⟩ = some c2) :=
  ⟨h, ⟨h.2.1.cell 0, h.2.1.cell 1, h.2.1.cell 2⟩, ⟨h.2.2.1.cell 0, h.2.2.1.cell 1, h.2.2.1.cell 2⟩, ⟨h.2.2.2.cell 0, h.2.2.2.cell 1, h.2.2.2.cell 2⟩⟩
theorem Hold3.next {w w1 w2 : World} {tb : Nat} {a0 a1 a2 b0 b1 b2 c0 c1 c2 : Value} (k : Below w1.heap.size w1 w2) (h : Hold3 w tb a0 a1 a2 b0 b1 b2 c0 c1 c2 w1) : Hold3 w tb a0 a1 a2 b0 b1 b2 c0 c1 c2 w2 := ⟨bl_trans h.1 k, h.2.1.below k, h.2.2.1.below k, h.2.2.2.below k⟩
theorem Hold3.bl {w w1 : World} {tb : Nat} {a0 a1 a2 b0 b1 b2 c0 c1 c2 : Value} (h : Hold3 w tb a0 a1 a2 b0 b1 b2 c0 c1 c2 w1) : Below w.heap.size w w1 := h.1
/-- The same, and rows of words that read. -/
def Box3 (w : World) (tb : Nat) (a0 a1 a2 b0 b1 b2 c0 c1 c2 : Value) (ps : List (Value × List Int)) (w' : World) : Prop := Below w.heap.size w w' ∧ Blk w' w.heap.size tb #[a0, a1, a2] ∧ Blk w' (w.heap.size + 1) tb #[b0, b1, b2] ∧ Blk w' (w.heap.size + 2) tb #[c0, c1, c2] ∧ ∀ p ∈ ps, RdI .u32 w' p.1 p.2
theorem Box3.setA {w w1 : World} {tb : Nat} {a0 a1 a2 b0 b1 b2 c0 c1 c2 : Value} {ps : List (Value × List Int)} (h : Box3 w tb a0 a1 a2 b0 b1 b2 c0 c1 c2 ps w1) (n0 : ∀ n, a0 ≠ .int .u32 n) (n1 : ∀ n, a1 ≠ .int .u32 n) (n2 : ∀ n, a2 ≠ .int .u32 n) (y0 y1 y2 : Value) :
    Box3 w tb y0 y1 y2 b0 b1 b2 c0 c1 c2 ps (((w1.setCell ⟨w.heap.size, 0, none⟩ y0).setCell ⟨w.heap.size, 1, none⟩ y1).setCell ⟨w.heap.size, 2, none⟩ y2) := by
  obtain ⟨t, t0, t1, t2, hp⟩ := h
  exact ⟨three_below t (by omega) _ _ _, blk3 t0 _ _ _, ((t1.other _ _ (by simp)).other _ _ (by simp)).other _ _ (by simp), ((t2.other _ _ (by simp)).other _ _ (by simp)).other _ _ (by simp), fun p m => (hp p m).three (t0.cell 0) (t0.cell 1) (t0.cell 2) n0 n1 n2 _ _ _⟩
theorem Box3.setB {w w1 : World} {tb : Nat} {a0 a1 a2 b0 b1 b2 c0 c1 c2 : Value} {ps : List (Value × List Int)} (h : Box3 w tb a0 a1 a2 b0 b1 b2 c0 c1 c2 ps w1) (n0 : ∀ n, b0 ≠ .int .u32 n) (n1 : ∀ n, b1 ≠ .int .u32 n) (n2 : ∀ n, b2 ≠ .int .u32 n) (y0 y1 y2 : Value) :
    Box3 w tb a0 a1 a2 y0 y1 y2 c0 c1 c2 ps (((w1.setCell ⟨w.heap.size + 1, 0, none⟩ y0).setCell ⟨w.heap.size + 1, 1, none⟩ y1).setCell ⟨w.heap.size + 1, 2, none⟩ y2) := by
  obtain ⟨t, t0, t1, t2, hp⟩ := h
  exact ⟨three_below t (by omega) _ _ _, ((t0.other _ _ (by simp)).other _ _ (by simp)).other _ _ (by simp), blk3 t1 _ _ _, ((t2.other _ _ (by simp)).other _ _ (by simp)).other _ _ (by simp), fun p m => (hp p m).three (t1.cell 0) (t1.cell 1) (t1.cell 2) n0 n1 n2 _ _ _⟩
theorem Box3.setC {w w1 : World} {tb : Nat} {a0 a1 a2 b0 b1 b2 c0 c1 c2 : Value} {ps : List (Value × List Int)} (h : Box3 w tb a0 a1 a2 b0 b1 b2 c0 c1 c2 ps w1) (n0 : ∀ n, c0 ≠ .int .u32 n) (n1 : ∀ n, c1 ≠ .int .u32 n) (n2 : ∀ n, c2 ≠ .int .u32 n) (y0 y1 y2 : Value) :
    Box3 w tb a0 a1 a2 b0 b1 b2 y0 y1 y2 ps (((w1.setCell ⟨w.heap.size + 2, 0, none⟩ y0).setCell ⟨w.heap.size + 2, 1, none⟩ y1).setCell ⟨w.heap.size + 2, 2, none⟩ y2) := by
  obtain ⟨t, t0, t1, t2, hp⟩ := h
  exact ⟨three_below t (by omega) _ _ _, ((t0.other _ _ (by simp)).other _ _ (by simp)).other _ _ (by simp), ((t1.other _ _ (by simp)).other _ _ (by simp)).other _ _ (by simp), blk3 t2 _ _ _, fun p m => (hp p m).three (t2.cell 0) (t2.cell 1) (t2.cell 2) n0 n1 n2 _ _ _⟩
/-- The same, and nothing of the world wb is changed. -/
def HoldT (w wb : World) (tb : Nat) (a0 a1 a2 b0 b1 b2 c0 c1 c2 : Value) (w' : World) : Prop := Hold3 w tb a0 a1 a2 b0 b1 b2 c0 c1 c2 w' ∧ Below wb.heap.size wb w'
theorem HoldT.cells {w wb w' : World} {tb : Nat} {a0 a1 a2 b0 b1 b2 c0 c1 c2 : Value} (h : HoldT w wb tb a0 a1 a2 b0 b1 b2 c0 c1 c2 w') : HoldT w wb tb a0 a1 a2 b0 b1 b2 c0 c1 c2 w' ∧ (w'.cell? ⟨w.heap.size, 0, none⟩ = some a0 ∧ w'.cell? ⟨w.heap.size, 1, none⟩ = some a1 ∧ w'.cell? ⟨w.heap.size, 2, none⟩ = some a2) ∧ (w'.cell? ⟨w.heap.size + 1, 0, none⟩ = some b0 ∧ w'.cell? ⟨w.heap.size + 1, 1, none⟩ = some b1 ∧ w'.cell? ⟨w.heap.size + 1, 2, none⟩ = some b2) ∧ (w'.cell? ⟨w.heap.size + 2, 0, none⟩ = some c0 ∧ w'.cell? ⟨w.heap.size + 2, 1, none⟩ = some c1 ∧ w'.cell? ⟨w.heap.size + 2, 2, none⟩ = some c2) := ⟨h, h.1.cells.2⟩
theorem HoldT.next {w wb w1 w2 : World} {tb : Nat} {a0 a1 a2 b0 b1 b2 c0 c1 c2 : Value} (k : Below w1.heap.size w1 w2) (h : HoldT w wb tb a0 a1 a2 b0 b1 b2 c0 c1 c2 w1) : HoldT w wb tb a0 a1 a2 b0 b1 b2 c0 c1 c2 w2 := ⟨Hold3.next k h.1, bl_trans h.2 k⟩
theorem HoldT.bl {w wb w1 : World} {tb : Nat} {a0 a1 a2 b0 b1 b2 c0 c1 c2 : Value} (h : HoldT w wb tb a0 a1 a2 b0 b1 b2 c0 c1 c2 w1) : Below wb.heap.size wb w1 := h.2
/-- The same, and one struct more. -/
def HoldX (w wb : World) (tb : Nat) (a0 a1 a2 b0 b1 b2 c0 c1 c2 : Value) (g : Nat) (d0 d1 d2 : Value) (w' : World) : Prop := HoldT w wb tb a0 a1 a2 b0 b1 b2 c0 c1 c2 w' ∧ Blk w' g tb #[d0, d1, d2]
theorem HoldX.cells {w wb w' : World} {tb : Nat} {a0 a1 a2 b0 b1 b2 c0 c1 c2 : Value} {g : Nat} {d0 d1 d2 : Value} (h : HoldX w wb tb a0 a1 a2 b0 b1 b2 c0 c1 c2 g d0 d1 d2 w') : HoldX w wb tb a0 a1 a2 b0 b1 b2 c0 c1 c2 g d0 d1 d2 w' ∧ (w'.cell? ⟨w.heap.size, 0, none⟩ = some a0 ∧ w'.cell? ⟨w.heap.size, 1, none⟩ = some a1 ∧ w'.cell? ⟨w.heap.size, 2, none⟩ = some a2) ∧ (w'.cell? ⟨w.heap.size + 1, 0, none⟩ = some b0 ∧ w'.cell? ⟨w.heap.size + 1, 1, none⟩ = some b1 ∧ w'.cell? ⟨w.heap.size + 1, 2, none⟩ = some b2) ∧ (w'.cell? ⟨w.heap.size + 2, 0, none⟩ = some c0 ∧ w'.cell? ⟨w.heap.size + 2, 1, none⟩ = some c1 ∧ w'.cell? ⟨w.heap.size + 2, 2, none⟩ = some c2) ∧ (w'.cell? ⟨g, 0, none⟩ = some d0 ∧ w'.cell? ⟨g, 1, none⟩ = some d1 ∧ w'.cell? ⟨g, 2, none⟩ = some d2) :=
  ⟨h, h.1.cells.2.1, h.1.cells.2.2.1, h.1.cells.2.2.2, ⟨h.2.cell 0, h.2.cell 1, h.2.cell 2⟩⟩
theorem HoldX.next {w wb w1 w2 : World} {tb : Nat} {a0 a1 a2 b0 b1 b2 c0 c1 c2 : Value} {g : Nat} {d0 d1 d2 : Value} (k : Below w1.heap.size w1 w2) (h : HoldX w wb tb a0 a1 a2 b0 b1 b2 c0 c1 c2 g d0 d1 d2 w1) : HoldX w wb tb a0 a1 a2 b0 b1 b2 c0 c1 c2 g d0 d1 d2 w2 := ⟨HoldT.next k h.1, h.2.below k⟩
theorem HoldX.bl {w wb w1 : World} {tb : Nat} {a0 a1 a2 b0 b1 b2 c0 c1 c2 : Value} {g : Nat} {d0 d1 d2 : Value} (h : HoldX w wb tb a0 a1 a2 b0 b1 b2 c0 c1 c2 g d0 d1 d2 w1) : Below wb.heap.size wb w1 := h.1.2
theorem exactq (w : World) (va vb : Value) (q : Rat) (ha : FrV w va q) (hb : FrV w vb q) : Calls Try.prog 39 #[va, vb] w fun e w' => e = .returned (.bool true) ∧ Below w.heap.size w w' := exact_calls w va vb _ _ _ ha hb
theorem negq (w : World) (va : Value) (a : Rat) (ha : FrQ w va a) (hs : Short (-a)) : Calls Try.prog 34 #[va] w (FrPost (-a) w) := by
  obtain ⟨n, l, d, h, h2, rfl⟩ := ha
  exact frac_neg_calls w va n l d h h2 hs
theorem divq (w : World) (va vb : Value) (a b : Rat) (ha : FrQ w va a) (hb : FrQ w vb b) (h0 : b ≠ 0) (hs : Short (a * b⁻¹)) : Calls Try.prog 29 #[va, vb] w (FrePost (a * b⁻¹) w) := by
  obtain ⟨n, l, d, h, h2, rfl⟩ := ha
  obtain ⟨n', l', d', h', h2', rfl⟩ := hb
  exact frac_div_calls w va vb n n' l d l' d' h h' h2 h2' h0 hs
theorem divq_zero (w : World) (va vb : Value) (a b : Rat) (ha : FrQ w va a) (hb : FrQ w vb b) (h0 : b = 0) : Calls Try.prog 29 #[va, vb] w (NonePost 11 w) := by
  obtain ⟨n, l, d, h, h2, rfl⟩ := ha
  obtain ⟨n', l', d', h', h2', rfl⟩ := hb
  exact frac_div_zero w va vb n n' l d l' d' h h' h2 h2' h0
def M3 (a b c d e f : Nat) (i : Nat) : Nat × Nat := if i = 0 then (a, b) else if i = 1 then (c, d) else (e, f)
theorem fewm_calls (w : World) (g : Nat) (k : Nat) {x0 y0 z0 : Value} {A1 A2 A3 A4 A5 A6 : Option Addr} {a b c d e f c1 c2 c3 c4 c5 c6 : Nat} {t : Nat} (hb : Blk w g t #[x0, .slice A1 a c1, .slice A2 b c2, y0, .slice A3 c c3, .slice A4 d c4, z0, .slice A5 e c5, .slice A6 f c6]) :
    Calls Try.prog 17 #[.int .i64 k, .slice (some ⟨g, 0, none⟩) 3 3] w fun e' w' => e' = .returned (.bool (decide ((a ≤ k ∧ b ≤ k) ∧ (c ≤ k ∧ d ≤ k) ∧ (e ≤ k ∧ f ≤ k)))) ∧ Below w.heap.size w w' := by
  refine (few_calls w k ⟨g, 0, none⟩ 3 3 (M3 a b c d e f) (by omega) (by omega) ?_).mono ?_
  · intro i hi
    rw [add_row]
    have : i = 0 ∨ i = 1 ∨ i = 2 := by omega
    rcases this with rfl | rfl | rfl
    · exact ⟨_, _, _, _, hb.cell 1, hb.cell 2⟩
    · exact ⟨_, _, _, _, hb.cell 4, hb.cell 5⟩
    · exact ⟨_, _, _, _, hb.cell 7, hb.cell 8⟩
  · rintro e' w' ⟨rfl, h⟩
    have : (∀ i, i < 3 → ((M3 a b c d e f i).1 : Int) ≤ (k : Int) ∧ ((M3 a b c d e f i).2 : Int) ≤ (k : Int)) ↔ ((a ≤ k ∧ b ≤ k) ∧ (c ≤ k ∧ d ≤ k) ∧ (e ≤ k ∧ f ≤ k)) := by
      constructor
      · intro h
        have h0 := h 0 (by omega)
        have h1 := h 1 (by omega)
        have h2 := h 2 (by omega)
        simp [M3] at h0 h1 h2
        omega
      · rintro ⟨h0, h1, h2⟩ i hi
        have : i = 0 ∨ i = 1 ∨ i = 2 := by omega
        rcases this with rfl | rfl | rfl <;> simp [M3] <;> omega
    rw [decide_eq_decide.2 this]
    exact ⟨rfl, h⟩
/-- The three boxes hold three fractions. -/
def Fixed3 (w : World) (a b c : Rat) (wx : World) : Prop := ∃ P1 i1 P2 i2 Q1 j1 Q2 j2 R1 k1 R2 k2, Box3 w 24 (.bool (decide (a.num < 0))) (.slice P1 (dg a.num.natAbs).length i1) (.slice P2 (dg a.den).length i2) (.bool (decide (b.num < 0))) (.slice Q1 (dg b.num.natAbs).length j1) (.slice Q2 (dg b.den).length j2) (.bool (decide (c.num < 0))) (.slice R1 (dg c.num.natAbs).length k1) (.slice R2 (dg c.den).length k2) [((.slice P1 (dg a.num.natAbs).length i1), dg a.num.natAbs), ((.slice P2 (dg a.den).length i2), dg a.den), ((.slice Q1 (dg b.num.natAbs).length j1), dg b.num.natAbs), ((.slice Q2 (dg b.den).length j2), dg b.den), ((.slice R1 (dg c.num.natAbs).length k1), dg c.num.natAbs), ((.slice R2 (dg c.den).length k2), dg c.den)] wx
set_option maxRecDepth 100000 in
set_option maxHeartbeats 8000000 in
theorem law_field (w : World) (va vb vc : Value) (na nb nc : Bool) (lna lda lnb ldb lnc ldc : List Int) (ha : FrIn w va na lna lda) (hb : FrIn w vb nb lnb ldb) (hc : FrIn w vc nc lnc ldc) :
    Calls Try.prog 7 #[va, vb, vc] w fun e w' => e = .returned (.bool true) ∧ Below w.heap.size w w' := by
  have ha' := ha
  have hb' := hb
  have hc' := hc
  obtain ⟨A1, c1, A2, c2, rfl, _, _, wa1, wa2⟩ := ha.shape
  obtain ⟨A3, c3, A4, c4, rfl, _, _, wb1, wb2⟩ := hb.shape
  obtain ⟨A5, c5, A6, c6, rfl, _, _, wc1, wc2⟩ := hc.shape
  obtain ⟨W0, hW0⟩ : ∃ W, W = ((w.alloc (.cells #[.bool na, .slice A1 lna.length c1, .slice A2 lda.length c2] 24)).alloc (.cells #[.bool nb, .slice A3 lnb.length c3, .slice A4 ldb.length c4] 24)).alloc (.cells #[.bool nc, .slice A5 lnc.length c5, .slice A6 ldc.length c6] 24) := ⟨_, rfl⟩
  have H : Hold3 w 24 (.bool na) (.slice A1 lna.length c1) (.slice A2 lda.length c2) (.bool nb) (.slice A3 lnb.length c3) (.slice A4 ldb.length c4) (.bool nc) (.slice A5 lnc.length c5) (.slice A6 ldc.length c6) W0 := by
    rw [hW0]
    obtain ⟨K1, K2, K4⟩ := boxed3 w #[.bool na, .slice A1 lna.length c1, .slice A2 lda.length c2] #[.bool nb, .slice A3 lnb.length c3, .slice A4 ldb.length c4] #[.bool nc, .slice A5 lnc.length c5, .slice A6 ldc.length c6] 24 24 24
    exact ⟨bl_alloc3 _ _ _ _, K1, K2, K4⟩
  have hz : W0.heap.size = w.heap.size + 3 := by rw [hW0]; simp
  have K := Blk.new W0 24 #[.bool na, .slice A1 lna.length c1, .slice A2 lda.length c2, .bool nb, .slice A3 lnb.length c3, .slice A4 ldb.length c4, .bool nc, .slice A5 lnc.length c5, .slice A6 ldc.length c6]
  have H1 := Hold3.next (below_alloc0 W0 (.cells #[.bool na, .slice A1 lna.length c1, .slice A2 lda.length c2, .bool nb, .slice A3 lnb.length c3, .slice A4 ldb.length c4, .bool nc, .slice A5 lnc.length c5, .slice A6 ldc.length c6] 24)) H
  rw [hz] at K
  by_cases hfew : (lna.length ≤ 8 ∧ lda.length ≤ 8) ∧ (lnb.length ≤ 8 ∧ ldb.length ≤ 8) ∧ (lnc.length ≤ 8 ∧ ldc.length ≤ 8)
  · have HD := Lib.hid (decide_eq_true hfew)
    obtain ⟨⟨la1, la2⟩, ⟨lb1, lb2⟩, lc1, lc2⟩ := hfew
    have hsa : lna.length + lda.length ≤ 4096 := by omega
    have hsb : lnb.length + ldb.length ≤ 4096 := by omega
    have hsc : lnc.length + ldc.length ≤ 4096 := by omega
    have za := szq_fix (neg := na) wa1 wa2 la1 la2 (by omega)
    have zb := szq_fix (neg := nb) wb1 wb2 lb1 lb2 (by omega)
    have zc := szq_fix (neg := nc) wc1 wc2 lc1 lc2 (by omega)
    have hra := Lib.hid (za.short (by omega))
    have hrb := Lib.hid (zb.short (by omega))
    have hrc := Lib.hid (zc.short (by omega))
    obtain ⟨a, ea⟩ : ∃ a, a = fixq na lna lda := ⟨_, rfl⟩
    obtain ⟨b, eb⟩ : ∃ b, b = fixq nb lnb ldb := ⟨_, rfl⟩
    obtain ⟨c, ec⟩ : ∃ c, c = fixq nc lnc ldc := ⟨_, rfl⟩
    have Ea := Lib.hid ea.symm
    have Eb := Lib.hid eb.symm
    have Ec := Lib.hid ec.symm
    rw [← ea] at za
    rw [← eb] at zb
    rw [← ec] at zc
    clear ea eb ec wa1 wa2 wb1 wb2 wc1 wc2 la1 la2 lb1 lb2 lc1 lc2
    go_enter Try.func7, Try.ntmps7
    go_wp2_with fail
    rw [← hW0]
    refine (fewm_calls _ _ 8 K).mono ?_
    rintro e w0 ⟨rfl, hb0⟩
    rw [HD.out]
    have H2 := Hold3.next hb0 H1
    clear K H1 H hW0 hb0
    go_upto_region 3 with fail
    go_cut [6] (fun s6 wx => s6 = .bool false ∧ Fixed3 w a b c wx)
    case first =>
      go_wp2_with fail
      have hd := Hold3.next (bl_drew _) H2
      obtain ⟨_, ⟨j0, j1, j2⟩, ⟨j3, j4, j5⟩, ⟨j6, j7, j8⟩⟩ := hd.cells
      go_region_law (first
        | (go_simp; go_at_call 21; (with_reducible refine (frac_fix_calls _ _ na lna lda (ha.below hd.bl) hsa hra.out).mono ?_); (rintro e w1 ⟨v, rfl, ga, hb1⟩); (rw [Ea.out] at ga); (have U := Hold3.next hb1 hd); (obtain ⟨_, ⟨U0, U1, U2⟩, ⟨U3, U4, U5⟩, ⟨U6, U7, U8⟩⟩ := U.cells); (obtain ⟨P1, i1, P2, i2, rfl, ra1, ra2, _, _⟩ := FrIn.shape ga))
        | (go_simp; go_at_call 21; (with_reducible refine (frac_fix_calls _ _ nb lnb ldb (hb.below U.bl) hsb hrb.out).mono ?_); (rintro e w2 ⟨v, rfl, gb, hb2⟩); (rw [Eb.out] at gb); (have V := Hold3.next hb2 U); (obtain ⟨_, ⟨V0, V1, V2⟩, ⟨V3, V4, V5⟩, ⟨V6, V7, V8⟩⟩ := V.cells); (obtain ⟨Q1, j1, Q2, j2, rfl, rb1, rb2, _, _⟩ := FrIn.shape gb))
        | (go_simp; go_at_call 21; (with_reducible refine (frac_fix_calls _ _ nc lnc ldc (hc.below V.bl) hsc hrc.out).mono ?_); (rintro e w3 ⟨v, rfl, gc, hb3⟩); (rw [Ec.out] at gc); (have X := Hold3.next hb3 V); (obtain ⟨_, ⟨X0, X1, X2⟩, ⟨X3, X4, X5⟩, ⟨X6, X7, X8⟩⟩ := X.cells); (obtain ⟨R1, k1, R2, k2, rfl, rc1, rc2, _, _⟩ := FrIn.shape gc); (have f1 := X.2.1.free); (have f2 := X.2.2.1.free); (have f3 := X.2.2.2.free))
        )
      all_goals
        have B0 : Box3 w 24 (.bool na) (.slice A1 lna.length c1) (.slice A2 lda.length c2) (.bool nb) (.slice A3 lnb.length c3) (.slice A4 ldb.length c4) (.bool nc) (.slice A5 lnc.length c5) (.slice A6 ldc.length c6) [((.slice P1 (dg a.num.natAbs).length i1), dg a.num.natAbs), ((.slice P2 (dg a.den).length i2), dg a.den), ((.slice Q1 (dg b.num.natAbs).length j1), dg b.num.natAbs), ((.slice Q2 (dg b.den).length j2), dg b.den), ((.slice R1 (dg c.num.natAbs).length k1), dg c.num.natAbs), ((.slice R2 (dg c.den).length k2), dg c.den)] w3 := by
          obtain ⟨x1, x2, x3, x4⟩ := X
          refine ⟨x1, x2, x3, x4, fun p m => ?_⟩
          simp only [List.mem_cons, List.not_mem_nil, or_false] at m
          rcases m with rfl | rfl | rfl | rfl | rfl | rfl
          · exact RdI.below (RdI.below ra1 hb2) hb3
          · exact RdI.below (RdI.below ra2 hb2) hb3
          · exact RdI.below rb1 hb3
          · exact RdI.below rb2 hb3
          · exact rc1
          · exact rc2
        go_wp2
        go_meet
        case rel => first | exact ⟨rfl, _, _, _, _, _, _, _, _, _, _, _, _, (((B0.setA (boolne _) (slne _ _ _) (slne _ _ _) _ _ _).setB (boolne _) (slne _ _ _) (slne _ _ _) _ _ _).setC (boolne _) (slne _ _ _) (slne _ _ _) _ _ _)⟩ | exact ⟨rfl, _, _, _, _, _, _, _, _, _, _, _, _, (((B0.setA (boolne _) (slne _ _ _) (slne _ _ _) _ _ _).setC (boolne _) (slne _ _ _) (slne _ _ _) _ _ _).setB (boolne _) (slne _ _ _) (slne _ _ _) _ _ _)⟩ | exact ⟨rfl, _, _, _, _, _, _, _, _, _, _, _, _, (((B0.setB (boolne _) (slne _ _ _) (slne _ _ _) _ _ _).setA (boolne _) (slne _ _ _) (slne _ _ _) _ _ _).setC (boolne _) (slne _ _ _) (slne _ _ _) _ _ _)⟩ | exact ⟨rfl, _, _, _, _, _, _, _, _, _, _, _, _, (((B0.setB (boolne _) (slne _ _ _) (slne _ _ _) _ _ _).setC (boolne _) (slne _ _ _) (slne _ _ _) _ _ _).setA (boolne _) (slne _ _ _) (slne _ _ _) _ _ _)⟩ | exact ⟨rfl, _, _, _, _, _, _, _, _, _, _, _, _, (((B0.setC (boolne _) (slne _ _ _) (slne _ _ _) _ _ _).setA (boolne _) (slne _ _ _) (slne _ _ _) _ _ _).setB (boolne _) (slne _ _ _) (slne _ _ _) _ _ _)⟩ | exact ⟨rfl, _, _, _, _, _, _, _, _, _, _, _, _, (((B0.setC (boolne _) (slne _ _ _) (slne _ _ _) _ _ _).setB (boolne _) (slne _ _ _) (slne _ _ _) _ _ _).setA (boolne _) (slne _ _ _) (slne _ _ _) _ _ _)⟩
    case rest =>
      clear H2 ha hb hc ha' hb' hc' hra hrb hrc Ea Eb Ec hsa hsb hsc
      obtain ⟨rfl, P1, i1, P2, i2, Q1, j1, Q2, j2, R1, k1, R2, k2, hbx⟩ := hcut
      obtain ⟨wb, hwb⟩ : ∃ wb, wb = wc := ⟨_, rfl⟩
      have HV : HoldT w wb 24 (.bool (decide (a.num < 0))) (.slice P1 (dg a.num.natAbs).length i1) (.slice P2 (dg a.den).length i2) (.bool (decide (b.num < 0))) (.slice Q1 (dg b.num.natAbs).length j1) (.slice Q2 (dg b.den).length j2) (.bool (decide (c.num < 0))) (.slice R1 (dg c.num.natAbs).length k1) (.slice R2 (dg c.den).length k2) wc := ⟨⟨hbx.1, hbx.2.1, hbx.2.2.1, hbx.2.2.2.1⟩, by rw [hwb]; exact Below.refl _ _⟩
      have hp := hbx.2.2.2.2
      rw [← hwb] at hp
      have VA : FrV wb (.agg #[.bool (decide (a.num < 0)), .slice P1 (dg a.num.natAbs).length i1, .slice P2 (dg a.den).length i2]) a := ⟨_, _, rfl, hp (.slice P1 (dg a.num.natAbs).length i1, dg a.num.natAbs) (by simp), hp (.slice P2 (dg a.den).length i2, dg a.den) (by simp), Wd_dg _, Wd_dg _⟩
      have VB : FrV wb (.agg #[.bool (decide (b.num < 0)), .slice Q1 (dg b.num.natAbs).length j1, .slice Q2 (dg b.den).length j2]) b := ⟨_, _, rfl, hp (.slice Q1 (dg b.num.natAbs).length j1, dg b.num.natAbs) (by simp), hp (.slice Q2 (dg b.den).length j2, dg b.den) (by simp), Wd_dg _, Wd_dg _⟩
      have VC : FrV wb (.agg #[.bool (decide (c.num < 0)), .slice R1 (dg c.num.natAbs).length k1, .slice R2 (dg c.den).length k2]) c := ⟨_, _, rfl, hp (.slice R1 (dg c.num.natAbs).length k1, dg c.num.natAbs) (by simp), hp (.slice R2 (dg c.den).length k2, dg c.den) (by simp), Wd_dg _, Wd_dg _⟩
      have QA := VA.q (za.short (by omega))
      have QB := VB.q (zb.short (by omega))
      have QC := VC.q (zc.short (by omega))
      clear hbx hp hwb VB VC
      have sbc := (szq_add zb zc).short (by omega)
      have sabc := (szq_add za (szq_add zb zc)).short (by omega)
      have sba := (szq_add zb za).short (by omega)
      have sbac := (szq_add (szq_add zb za) zc).short (by omega)
      have mbc := (szq_mul zb zc).short (by omega)
      have mabc := (szq_mul za (szq_mul zb zc)).short (by omega)
      have mba := (szq_mul zb za).short (by omega)
      have mbac := (szq_mul (szq_mul zb za) zc).short (by omega)
      have mas := (szq_mul za (szq_add zb zc)).short (by omega)
      have mab := (szq_mul za zb).short (by omega)
      have mac := (szq_mul za zc).short (by omega)
      have sab := (szq_add (szq_mul za zb) (szq_mul za zc)).short (by omega)
      have dab := (szq_add za (szq_neg zb)).short (by omega)
      have dabb := (szq_add (szq_add za (szq_neg zb)) zb).short (by omega)
      have na1 := (szq_neg za).short (by omega)
      have na2 := (szq_neg (szq_neg za)).short (by omega)
      have qab := (szq_mul za (szq_inv zb (by omega))).short (by omega)
      have m7' := (szq_mul (szq_mul za (szq_inv zb (by omega))) zb).short (by omega)
      have E4 := Lib.hid (show b + a + c = a + (b + c) by grind)
      have E5 := Lib.hid (show b * a * c = a * (b * c) by grind)
      have E6 := Lib.hid (show a * b + a * c = a * (b + c) by grind)
      have E7 := Lib.hid (show a + -b + b = a by grind)
      have E8 := Lib.hid (show - -a = a by grind)
      clear za zb zc
      go_wp2_with fail
      have hs := (HoldT.next (bl_drew _) HV).cells
      go_region_held3 (fun w' => HoldT w wb 24 (.bool (decide (a.num < 0))) (.slice P1 (dg a.num.natAbs).length i1) (.slice P2 (dg a.den).length i2) (.bool (decide (b.num < 0))) (.slice Q1 (dg b.num.natAbs).length j1) (.slice Q2 (dg b.den).length j2) (.bool (decide (c.num < 0))) (.slice R1 (dg c.num.natAbs).length k1) (.slice R2 (dg c.den).length k2) w' ∧ (w'.cell? ⟨w.heap.size, 0, none⟩ = some (.bool (decide (a.num < 0))) ∧ w'.cell? ⟨w.heap.size, 1, none⟩ = some (.slice P1 (dg a.num.natAbs).length i1) ∧ w'.cell? ⟨w.heap.size, 2, none⟩ = some (.slice P2 (dg a.den).length i2)) ∧ (w'.cell? ⟨w.heap.size + 1, 0, none⟩ = some (.bool (decide (b.num < 0))) ∧ w'.cell? ⟨w.heap.size + 1, 1, none⟩ = some (.slice Q1 (dg b.num.natAbs).length j1) ∧ w'.cell? ⟨w.heap.size + 1, 2, none⟩ = some (.slice Q2 (dg b.den).length j2)) ∧ (w'.cell? ⟨w.heap.size + 2, 0, none⟩ = some (.bool (decide (c.num < 0))) ∧ w'.cell? ⟨w.heap.size + 2, 1, none⟩ = some (.slice R1 (dg c.num.natAbs).length k1) ∧ w'.cell? ⟨w.heap.size + 2, 2, none⟩ = some (.slice R2 (dg c.den).length k2)))
        ((first | exact hs | exact (HoldT.next hbN (And.left (by assumption))).cells))
        (first
        | (go_at_call 24; (with_reducible refine (addq _ _ _ b c ?_ ?_ sbc).mono ?_); (exact QB.below (HoldT.bl (And.left (by assumption)))); (exact QC.below (HoldT.bl (And.left (by assumption)))); (rintro e w' ⟨v, rfl, h1, hbN⟩))
        | (go_at_call 24; (with_reducible refine (addq _ _ _ a (b + c) ?_ (FrV.q h1 sbc) sabc).mono ?_); (exact QA.below (HoldT.bl (And.left (by assumption)))); (rintro e w' ⟨v, rfl, h2, hbN⟩))
        | (go_at_call 24; (with_reducible refine (addq _ _ _ b a ?_ ?_ sba).mono ?_); (exact QB.below (HoldT.bl (And.left (by assumption)))); (exact QA.below (HoldT.bl (And.left (by assumption)))); (rintro e w' ⟨v, rfl, h3, hbN⟩); (have h2' := FrV.below h2 hbN))
        | (go_at_call 24; (with_reducible refine (addq _ _ _ (b + a) c (FrV.q h3 sba) ?_ sbac).mono ?_); (exact QC.below (HoldT.bl (And.left (by assumption)))); (rintro e w' ⟨v, rfl, h4, hbN⟩); (have h2'' := FrV.below h2' hbN); (rw [E4.out] at h4))
        | (go_at_call 39; (with_reducible refine (exactq _ _ _ (a + (b + c)) h2'' h4).mono ?_); (rintro e w' ⟨rfl, hbN⟩); (have HF := HoldT.next hbN (And.left (by assumption))))
        )
      clear hs HV
      have HV := HF
      clear HF
      go_wp2_with fail
      have hs := (HoldT.next (bl_drew _) HV).cells
      go_region_held3 (fun w' => HoldT w wb 24 (.bool (decide (a.num < 0))) (.slice P1 (dg a.num.natAbs).length i1) (.slice P2 (dg a.den).length i2) (.bool (decide (b.num < 0))) (.slice Q1 (dg b.num.natAbs).length j1) (.slice Q2 (dg b.den).length j2) (.bool (decide (c.num < 0))) (.slice R1 (dg c.num.natAbs).length k1) (.slice R2 (dg c.den).length k2) w' ∧ (w'.cell? ⟨w.heap.size, 0, none⟩ = some (.bool (decide (a.num < 0))) ∧ w'.cell? ⟨w.heap.size, 1, none⟩ = some (.slice P1 (dg a.num.natAbs).length i1) ∧ w'.cell? ⟨w.heap.size, 2, none⟩ = some (.slice P2 (dg a.den).length i2)) ∧ (w'.cell? ⟨w.heap.size + 1, 0, none⟩ = some (.bool (decide (b.num < 0))) ∧ w'.cell? ⟨w.heap.size + 1, 1, none⟩ = some (.slice Q1 (dg b.num.natAbs).length j1) ∧ w'.cell? ⟨w.heap.size + 1, 2, none⟩ = some (.slice Q2 (dg b.den).length j2)) ∧ (w'.cell? ⟨w.heap.size + 2, 0, none⟩ = some (.bool (decide (c.num < 0))) ∧ w'.cell? ⟨w.heap.size + 2, 1, none⟩ = some (.slice R1 (dg c.num.natAbs).length k1) ∧ w'.cell? ⟨w.heap.size + 2, 2, none⟩ = some (.slice R2 (dg c.den).length k2)))
        ((first | exact hs | exact (HoldT.next hbN (And.left (by assumption))).cells))
        (first
        | (go_at_call 25; (with_reducible refine (mulq _ _ _ b c ?_ ?_ mbc).mono ?_); (exact QB.below (HoldT.bl (And.left (by assumption)))); (exact QC.below (HoldT.bl (And.left (by assumption)))); (rintro e w' ⟨v, rfl, h1, hbN⟩))
        | (go_at_call 25; (with_reducible refine (mulq _ _ _ a (b * c) ?_ (FrV.q h1 mbc) mabc).mono ?_); (exact QA.below (HoldT.bl (And.left (by assumption)))); (rintro e w' ⟨v, rfl, h2, hbN⟩))
        | (go_at_call 25; (with_reducible refine (mulq _ _ _ b a ?_ ?_ mba).mono ?_); (exact QB.below (HoldT.bl (And.left (by assumption)))); (exact QA.below (HoldT.bl (And.left (by assumption)))); (rintro e w' ⟨v, rfl, h3, hbN⟩); (have h2' := FrV.below h2 hbN))
        | (go_at_call 25; (with_reducible refine (mulq _ _ _ (b * a) c (FrV.q h3 mba) ?_ mbac).mono ?_); (exact QC.below (HoldT.bl (And.left (by assumption)))); (rintro e w' ⟨v, rfl, h4, hbN⟩); (have h2'' := FrV.below h2' hbN); (rw [E5.out] at h4))
        | (go_at_call 39; (with_reducible refine (exactq _ _ _ (a * (b * c)) h2'' h4).mono ?_); (rintro e w' ⟨rfl, hbN⟩); (have HF := HoldT.next hbN (And.left (by assumption))))
        )
      clear hs HV
      have HV := HF
      clear HF
      go_wp2_with fail
      have hs := (HoldT.next (bl_drew _) HV).cells
      go_region_held3 (fun w' => HoldT w wb 24 (.bool (decide (a.num < 0))) (.slice P1 (dg a.num.natAbs).length i1) (.slice P2 (dg a.den).length i2) (.bool (decide (b.num < 0))) (.slice Q1 (dg b.num.natAbs).length j1) (.slice Q2 (dg b.den).length j2) (.bool (decide (c.num < 0))) (.slice R1 (dg c.num.natAbs).length k1) (.slice R2 (dg c.den).length k2) w' ∧ (w'.cell? ⟨w.heap.size, 0, none⟩ = some (.bool (decide (a.num < 0))) ∧ w'.cell? ⟨w.heap.size, 1, none⟩ = some (.slice P1 (dg a.num.natAbs).length i1) ∧ w'.cell? ⟨w.heap.size, 2, none⟩ = some (.slice P2 (dg a.den).length i2)) ∧ (w'.cell? ⟨w.heap.size + 1, 0, none⟩ = some (.bool (decide (b.num < 0))) ∧ w'.cell? ⟨w.heap.size + 1, 1, none⟩ = some (.slice Q1 (dg b.num.natAbs).length j1) ∧ w'.cell? ⟨w.heap.size + 1, 2, none⟩ = some (.slice Q2 (dg b.den).length j2)) ∧ (w'.cell? ⟨w.heap.size + 2, 0, none⟩ = some (.bool (decide (c.num < 0))) ∧ w'.cell? ⟨w.heap.size + 2, 1, none⟩ = some (.slice R1 (dg c.num.natAbs).length k1) ∧ w'.cell? ⟨w.heap.size + 2, 2, none⟩ = some (.slice R2 (dg c.den).length k2)))
        ((first | exact hs | exact (HoldT.next hbN (And.left (by assumption))).cells))
        (first
        | (go_at_call 24; (with_reducible refine (addq _ _ _ b c ?_ ?_ sbc).mono ?_); (exact QB.below (HoldT.bl (And.left (by assumption)))); (exact QC.below (HoldT.bl (And.left (by assumption)))); (rintro e w' ⟨v, rfl, h1, hbN⟩))
        | (go_at_call 25; (with_reducible refine (mulq _ _ _ a (b + c) ?_ (FrV.q h1 sbc) mas).mono ?_); (exact QA.below (HoldT.bl (And.left (by assumption)))); (rintro e w' ⟨v, rfl, h2, hbN⟩))
        | (go_at_call 25; (with_reducible refine (mulq _ _ _ a b ?_ ?_ mab).mono ?_); (exact QA.below (HoldT.bl (And.left (by assumption)))); (exact QB.below (HoldT.bl (And.left (by assumption)))); (rintro e w' ⟨v, rfl, h3, hbN⟩); (have h2' := FrV.below h2 hbN))
        | (go_at_call 25; (with_reducible refine (mulq _ _ _ a c ?_ ?_ mac).mono ?_); (exact QA.below (HoldT.bl (And.left (by assumption)))); (exact QC.below (HoldT.bl (And.left (by assumption)))); (rintro e w' ⟨v, rfl, h4, hbN⟩); (have h2'' := FrV.below h2' hbN); (have h3' := FrV.below h3 hbN))
        | (go_at_call 24; (with_reducible refine (addq _ _ _ (a * b) (a * c) (FrV.q h3' mab) (FrV.q h4 mac) sab).mono ?_); (rintro e w' ⟨v, rfl, h5, hbN⟩); (have h2q := FrV.below h2'' hbN); (rw [E6.out] at h5))
        | (go_at_call 39; (with_reducible refine (exactq _ _ _ (a * (b + c)) h2q h5).mono ?_); (rintro e w' ⟨rfl, hbN⟩); (have HF := HoldT.next hbN (And.left (by assumption))))
        )
      clear hs HV
      have HV := HF
      clear HF
      go_wp2_with fail
      have hs := (HoldT.next (bl_drew _) HV).cells
      go_region_held3 (fun w' => HoldT w wb 24 (.bool (decide (a.num < 0))) (.slice P1 (dg a.num.natAbs).length i1) (.slice P2 (dg a.den).length i2) (.bool (decide (b.num < 0))) (.slice Q1 (dg b.num.natAbs).length j1) (.slice Q2 (dg b.den).length j2) (.bool (decide (c.num < 0))) (.slice R1 (dg c.num.natAbs).length k1) (.slice R2 (dg c.den).length k2) w' ∧ (w'.cell? ⟨w.heap.size, 0, none⟩ = some (.bool (decide (a.num < 0))) ∧ w'.cell? ⟨w.heap.size, 1, none⟩ = some (.slice P1 (dg a.num.natAbs).length i1) ∧ w'.cell? ⟨w.heap.size, 2, none⟩ = some (.slice P2 (dg a.den).length i2)) ∧ (w'.cell? ⟨w.heap.size + 1, 0, none⟩ = some (.bool (decide (b.num < 0))) ∧ w'.cell? ⟨w.heap.size + 1, 1, none⟩ = some (.slice Q1 (dg b.num.natAbs).length j1) ∧ w'.cell? ⟨w.heap.size + 1, 2, none⟩ = some (.slice Q2 (dg b.den).length j2)) ∧ (w'.cell? ⟨w.heap.size + 2, 0, none⟩ = some (.bool (decide (c.num < 0))) ∧ w'.cell? ⟨w.heap.size + 2, 1, none⟩ = some (.slice R1 (dg c.num.natAbs).length k1) ∧ w'.cell? ⟨w.heap.size + 2, 2, none⟩ = some (.slice R2 (dg c.den).length k2)))
        ((first | exact hs | exact (HoldT.next hbN (And.left (by assumption))).cells))
        (first
        | (go_at_call 27; (with_reducible refine (subq _ _ _ a b ?_ ?_ dab).mono ?_); (exact QA.below (HoldT.bl (And.left (by assumption)))); (exact QB.below (HoldT.bl (And.left (by assumption)))); (rintro e w' ⟨v, rfl, h1, hbN⟩))
        | (go_at_call 24; (with_reducible refine (addq _ _ _ (a + -b) b (FrV.q h1 dab) ?_ dabb).mono ?_); (exact QB.below (HoldT.bl (And.left (by assumption)))); (rintro e w' ⟨v, rfl, h2, hbN⟩); (rw [E7.out] at h2))
        | (go_at_call 39; (with_reducible refine (exactq _ _ _ a h2 ?_).mono ?_); (exact VA.below (HoldT.bl (And.left (by assumption)))); (rintro e w' ⟨rfl, hbN⟩))
        | (go_at_call 34; (with_reducible refine (negq _ _ a ?_ na1).mono ?_); (exact QA.below (HoldT.bl (And.left (by assumption)))); (rintro e w' ⟨v, rfl, h3, hbN⟩))
        | (go_at_call 34; (with_reducible refine (negq _ _ (-a) (FrV.q h3 na1) na2).mono ?_); (rintro e w' ⟨v, rfl, h4, hbN⟩); (rw [E8.out] at h4))
        | (go_at_call 39; (with_reducible refine (exactq _ _ _ a h4 ?_).mono ?_); (exact VA.below (HoldT.bl (And.left (by assumption)))); (rintro e w' ⟨rfl, hbN⟩); (have HF := HoldT.next hbN (And.left (by assumption))))
        )
      clear hs HV
      have HV := HF
      clear HF
      clear sbc sabc sba sbac mbc mabc mba mbac mas mab mac sab dab dabb na1 na2 E4 E5 E6 E7 E8
      by_cases hz0 : b = 0
      · have HZ0 := Lib.hid hz0
        have SG := Lib.hid (show b.num.sign = 0 by rw [hz0]; rfl)
        clear hz0
        obtain ⟨_, ⟨p0, p1, p2⟩, ⟨p3, p4, p5⟩, ⟨p6, p7, p8⟩⟩ := HV.cells
        go_wp2_with fail
        refine (divq_zero _ _ _ a b (QA.below HV.bl) (QB.below HV.bl) HZ0.out).mono ?_
        rintro e w4 ⟨rfl, hb4⟩
        have HVa := HoldT.next (below_alloc0 w4 (.cells #[.bool false, .slice none 0 0, .slice none 0 0] 24)) (HoldT.next hb4 HV)
        clear p0 p1 p2 p3 p4 p5 p6 p7 p8
        clear HV hb4
        have HV := HVa
        clear HVa
        obtain ⟨_, ⟨p0, p1, p2⟩, ⟨p3, p4, p5⟩, ⟨p6, p7, p8⟩⟩ := HV.cells
        go_wp2_with fail
        refine (signq _ _ b (QB.below HV.bl)).mono ?_
        rintro e w5 ⟨rfl, hb5⟩
        rw [SG.out]
        have HVa := HoldT.next hb5 HV
        clear p0 p1 p2 p3 p4 p5 p6 p7 p8
        clear HV hb5
        go_wp2_with fail
        refine (half_calls _).mono ?_
        rintro e w6 ⟨rfl, hb6⟩
        go_wp2
        go_ret
        exact ⟨rfl, (HoldT.next hb6 HVa).1.1⟩
      · have HZ0 := Lib.hid hz0
        obtain ⟨sg, hsg⟩ : ∃ x, x = b.num.sign := ⟨_, rfl⟩
        have SG := Lib.hid hsg.symm
        have sg0 : (sg == 0) = false := beq_eq_false_iff_ne.2 (fun h => hz0 (Rat.num_eq_zero.1 (Int.sign_eq_zero_iff_zero.1 (by rw [← hsg]; exact h))))
        have sg1 : (sg != 0) = true := by rw [bne, sg0]; rfl
        obtain ⟨s7, hs7⟩ : ∃ x, x = a * b⁻¹ := ⟨_, rfl⟩
        have S7 := Lib.hid hs7.symm
        have s7s := qab
        have m7 := m7'
        rw [← hs7] at s7s m7
        have E9 := Lib.hid (show s7 * b = a by rw [hs7, Rat.mul_assoc, Rat.inv_mul_cancel _ hz0, Rat.mul_one])
        clear hz0 hsg hs7
        obtain ⟨_, ⟨p0, p1, p2⟩, ⟨p3, p4, p5⟩, ⟨p6, p7, p8⟩⟩ := HV.cells
        go_wp2_with fail
        refine (divq _ _ _ a b (QA.below HV.bl) (QB.below HV.bl) HZ0.out qab).mono ?_
        rintro e w4 ⟨v7, rfl, hf7, hb4⟩
        rw [S7.out] at hf7
        have hf7' := hf7
        obtain ⟨E1, k1', E2, k2', rfl, _, _, _, _⟩ := FrIn.shape hf7
        have al7 := below_alloc0 w4 (.cells #[.bool (decide (s7.num < 0)), .slice E1 (dg s7.num.natAbs).length k1', .slice E2 (dg s7.den).length k2'] 24)
        have K7 := Blk.new w4 24 #[.bool (decide (s7.num < 0)), .slice E1 (dg s7.num.natAbs).length k1', .slice E2 (dg s7.den).length k2']
        have HX : HoldX w wb 24 (.bool (decide (a.num < 0))) (.slice P1 (dg a.num.natAbs).length i1) (.slice P2 (dg a.den).length i2) (.bool (decide (b.num < 0))) (.slice Q1 (dg b.num.natAbs).length j1) (.slice Q2 (dg b.den).length j2) (.bool (decide (c.num < 0))) (.slice R1 (dg c.num.natAbs).length k1) (.slice R2 (dg c.den).length k2) w4.heap.size (.bool (decide (s7.num < 0))) (.slice E1 (dg s7.num.natAbs).length k1') (.slice E2 (dg s7.den).length k2') _ := ⟨HoldT.next al7 (HoldT.next hb4 HV), K7⟩
        have q7 := FrV.q (FrV.below hf7' al7) s7s
        clear p0 p1 p2 p3 p4 p5 p6 p7 p8
        clear HV hb4 hf7 hf7' al7 K7
        obtain ⟨_, ⟨p0, p1, p2⟩, ⟨p3, p4, p5⟩, ⟨p6, p7, p8⟩, _⟩ := HX.cells
        go_wp2_with fail
        refine (signq _ _ b (QB.below HX.1.2)).mono ?_
        rintro e w5 ⟨rfl, hb5⟩
        rw [SG.out]
        replace HX := HoldX.next hb5 HX
        have q8 := FrQ.below q7 hb5
        clear p0 p1 p2 p3 p4 p5 p6 p7 p8
        clear hb5 q7
        go_wp2_with fail
        have hs := (HoldX.next (bl_drew _) HX).cells
        have q9 := FrQ.below q8 (bl_drew _)
        go_region_held3 (fun w' => HoldX w wb 24 (.bool (decide (a.num < 0))) (.slice P1 (dg a.num.natAbs).length i1) (.slice P2 (dg a.den).length i2) (.bool (decide (b.num < 0))) (.slice Q1 (dg b.num.natAbs).length j1) (.slice Q2 (dg b.den).length j2) (.bool (decide (c.num < 0))) (.slice R1 (dg c.num.natAbs).length k1) (.slice R2 (dg c.den).length k2) w4.heap.size (.bool (decide (s7.num < 0))) (.slice E1 (dg s7.num.natAbs).length k1') (.slice E2 (dg s7.den).length k2') w' ∧ (w'.cell? ⟨w.heap.size, 0, none⟩ = some (.bool (decide (a.num < 0))) ∧ w'.cell? ⟨w.heap.size, 1, none⟩ = some (.slice P1 (dg a.num.natAbs).length i1) ∧ w'.cell? ⟨w.heap.size, 2, none⟩ = some (.slice P2 (dg a.den).length i2)) ∧ (w'.cell? ⟨w.heap.size + 1, 0, none⟩ = some (.bool (decide (b.num < 0))) ∧ w'.cell? ⟨w.heap.size + 1, 1, none⟩ = some (.slice Q1 (dg b.num.natAbs).length j1) ∧ w'.cell? ⟨w.heap.size + 1, 2, none⟩ = some (.slice Q2 (dg b.den).length j2)) ∧ (w'.cell? ⟨w.heap.size + 2, 0, none⟩ = some (.bool (decide (c.num < 0))) ∧ w'.cell? ⟨w.heap.size + 2, 1, none⟩ = some (.slice R1 (dg c.num.natAbs).length k1) ∧ w'.cell? ⟨w.heap.size + 2, 2, none⟩ = some (.slice R2 (dg c.den).length k2)) ∧ (w'.cell? ⟨w4.heap.size, 0, none⟩ = some (.bool (decide (s7.num < 0))) ∧ w'.cell? ⟨w4.heap.size, 1, none⟩ = some (.slice E1 (dg s7.num.natAbs).length k1') ∧ w'.cell? ⟨w4.heap.size, 2, none⟩ = some (.slice E2 (dg s7.den).length k2')))
          ((first | exact hs | exact (HoldX.next hbN (And.left (by assumption))).cells))
          (first
          | (go_at_call 25; (with_reducible refine (mulq _ _ _ s7 b q9 ?_ m7).mono ?_); (exact QB.below (HoldX.bl (And.left (by assumption)))); (rintro e w' ⟨v, rfl, h2, hbN⟩); (rw [E9.out] at h2))
          | (go_at_call 39; (with_reducible refine (exactq _ _ _ a h2 ?_).mono ?_); (exact VA.below (HoldX.bl (And.left (by assumption)))); (rintro e w' ⟨rfl, hbN⟩); (have HF := HoldX.next hbN (And.left (by assumption))))
          )
        clear hs
        go_wp2_with fail
        refine (half_calls _).mono ?_
        rintro e w6 ⟨rfl, hb6⟩
        go_wp2
        go_ret
        exact ⟨rfl, (HoldX.next hb6 HF).1.1.1⟩
  · have HD := Lib.hid (decide_eq_false hfew)
    clear hfew
    go_enter Try.func7, Try.ntmps7
    go_wp2_with fail
    rw [← hW0]
    refine (fewm_calls _ _ 8 K).mono ?_
    rintro e w1 ⟨rfl, hb1⟩
    rw [HD.out]
    have hbw := (Hold3.next hb1 H1).bl
    clear K H1 H hW0 hb1
    go_wp2
    go_ret
    exact ⟨rfl, hbw⟩
theorem field_own : ownKnob Try.prog.godebug = none := by kernel_rfl
theorem field_laid : laidOutB Try.prog = true := by kernel_rfl
set_option maxRecDepth 100000 in
theorem field_lifted (os : Os) (started : os.Started) (H : Type) (enc : TypeId × Value → H) :
    ReturnsInHanded {} Try.checked os 7 .any (Rows.fracFieldSpec.pre6 enc Try.prog Try.f7 Rows.fracFieldRow.domain false) (Rows.fracFieldSpec.post enc Try.prog Try.f7 false true false false) := by
  refine returnsInHanded_of_change (C := Try.checked) field_own started (by kernel_rfl) Try.func7
    (ChangeSpec.witness6 (enc := enc) (C := Try.checked) false ⟨#[], #[.agg #[.bool false, .slice none 0 0, .slice none 0 0], .agg #[.bool false, .slice none 0 0, .slice none 0 0], .agg #[.bool false, .slice none 0 0, .slice none 0 0]], []⟩ 8 (by kernel_rfl) (by kernel_rfl) (by kernel_rfl) (by kernel_rfl)) ?_
  intro W base args ds gs before hval0 hW hcnd _
  have hval : ∀ (j : Nat) t v, Try.f7.params[j]? = some t → args[j]? = some v → Value.okWide Try.prog W .any base t v := hval0
  have hW' := hW
  obtain ⟨p, q, hA0, hV, rfl, hfz, hnd⟩ := hW
  have hA : DataW.TrodAll enc Try.prog W 0 (fun _ => true) true Try.f7.params.toList args.toList ds p := hA0
  rw [Try.params7] at hA hval
  obtain ⟨v0, v1, v2, d0, d1, d2, p0, p1, p2, rfl, rfl, rfl, h0, h1, h2⟩ := trodAll_three hA
  obtain ⟨rfl, rfl⟩ := trodVars_none hV
  have lt0 : ∀ x ∈ p0, x.block < W.heap.size := by obtain ⟨m, hm⟩ := h0; exact DataW.trod_lt m _ _ _ hm
  have lt1 : ∀ x ∈ p1, x.block < W.heap.size := by obtain ⟨m, hm⟩ := h1; exact DataW.trod_lt m _ _ _ hm
  have lt2 : ∀ x ∈ p2, x.block < W.heap.size := by obtain ⟨m, hm⟩ := h2; exact DataW.trod_lt m _ _ _ hm
  obtain ⟨n0, l0, e0, a0⟩ := frin_of_arg (hval 0 24 v0 rfl rfl) h0
  obtain ⟨n1, l1, e1, a1⟩ := frin_of_arg (hval 1 24 v1 rfl rfl) h1
  obtain ⟨n2, l2, e2, a2⟩ := frin_of_arg (hval 2 24 v2 rfl rfl) h2
  clear hA0 hval0
  refine (law_field W v0 v1 v2 n0 n1 n2 l0 e0 l1 e1 l2 e2 a0 a1 a2).mono fun e W' ⟨he, bel⟩ => ?_
  subst he
  exact ⟨_, rfl, _, _, _, [], _, [], hW', trodAll_mk1 (shut_bool Try.underlying4 _), trodAll_mk3 (Below.trod field_laid (by kernel_rfl) (of_decide_eq_true (by kernel_rfl)) h0 bel lt0) (Below.trod field_laid (by kernel_rfl) (of_decide_eq_true (by kernel_rfl)) h1 bel lt1) (Below.trod field_laid (by kernel_rfl) (of_decide_eq_true (by kernel_rfl)) h2 bel lt2), rfl, bel.frame _, fun h => by cases h⟩
theorem field_holds : Rows.FracFieldSaid :=
  OpenClaim.holds_of_wide 7 Try.f7 rfl rfl rfl rfl rfl rfl rfl ⟨rfl, rfl, rfl, rfl, rfl⟩ rfl rfl rfl rfl rfl (by kernel_rfl) Try.func7 (by kernel_rfl)
    (of_decide_eq_true (by kernel_rfl)) (by unfold Func.isWrapper; first | (rw [if_pos (by decide +kernel)]; kernel_rfl) | (rw [if_neg (by decide +kernel)]; exact ⟨rfl, rfl⟩))
    (fun os started H enc _ => field_lifted os started H enc)
#print axioms field_holds
end Go.Proofs.Ytdmgceckmciifaa
