/- The reference: Sign, Floor; frac.Div. -/
import Derived.Test.YtajckdheecgceaaRef16
import Derived.Deep.RegionLaw
import Derived.Laws.AppendOwn
import Derived.OwnWalk
set_option linter.unusedVariables false
set_option linter.unusedSimpArgs false
namespace Go.Proofs.Ytajckdheecgceaa
open Go.RowKit

theorem sgn_sign (n : Int) : n.sign = if n.natAbs = 0 then 0 else if decide (n < 0) = true then -1 else 1 := by
  rcases Int.lt_trichotomy n 0 with h | h | h
  · rw [Int.sign_eq_neg_one_of_neg h]; simp [h]; omega
  · rw [h]; rfl
  · rw [Int.sign_eq_one_of_pos h]
    have h1 : ¬ n.natAbs = 0 := by omega
    have h2 : ¬ n < 0 := by omega
    simp [h2]; omega
theorem rsign_calls (w : World) (va : Value) (na : Bool) (lna lda : List Int) (ha : FrIn w va na lna lda) (hsa : lna.length + lda.length ≤ 4096) :
    Calls Try.prog 22 #[va] w fun e w' => e = .returned (.int .i64 (fixq na lna lda).num.sign) ∧ Below w.heap.size w w' := by
  have hf := ha
  obtain ⟨A, c, A2, c2, rfl, _, _, _, _⟩ := ha.shape
  have hbl0 := below_alloc0 w (.cells #[.bool na, .slice A lna.length c, .slice A2 lda.length c2] 38)
  have K := Blk.new w 38 #[.bool na, .slice A lna.length c, .slice A2 lda.length c2]
  obtain ⟨q, hq⟩ : ∃ q, q = fixq na lna lda := ⟨_, rfl⟩
  have HQ := Lib.hid hq
  have HS := Lib.hid (sgn_sign q.num)
  rw [← hq]
  clear hq
  go_enter Try.func22, Try.ntmps22
  go_wp2_with fail
  refine (rfix_calls _ _ na lna lda (hf.below hbl0) hsa).mono ?_
  rintro e w1 ⟨v, rfl, hfr, hb1⟩
  rw [← HQ.out] at hfr
  have K1 := K.below hb1
  have hbw := bl_trans hbl0 hb1
  have j0 := K1.cell 0
  have j1 := K1.cell 1
  have j2 := K1.cell 2
  have jf := K1.free
  obtain ⟨B1, d1, B2, d2, rfl, r1, r2, r3, r4⟩ := FrIn.shape hfr
  obtain ⟨b, hb⟩ : ∃ b, b = decide (q.num < 0) := ⟨_, rfl⟩
  have HB := Lib.hid hb
  rw [← hb] at hfr ⊢
  have hfin := Lib.hid (three_below hbw (Nat.le_refl _) (.bool b) (.slice B1 (dg q.num.natAbs).length d1) (.slice B2 (dg q.den).length d2))
  clear hb hfr r1 r2 r3 r4 K K1 hbl0 hb1 hbw
  by_cases h0 : (dg q.num.natAbs).length = 0
  · have H0 := Lib.hid h0
    have HE := Lib.hid (show q.num.sign = 0 by rw [HS.out, if_pos (dg_len_zero.1 h0)])
    have hfin2 := hfin.out
    rw [h0] at hfin2 ⊢
    have HF2 := Lib.hid hfin2
    clear h0 hfin2
    go_wp2
    go_ret
    exact ⟨by rw [HE.out]; rfl, HF2.out⟩
  · have g0 : (((dg q.num.natAbs).length : Int) == 0) = false := int_ne0 (by omega)
    have hn0 : ¬ q.num.natAbs = 0 := fun h => h0 (dg_len_zero.2 h)
    have HE := Lib.hid (show q.num.sign = if b = true then -1 else 1 by rw [HS.out, if_neg hn0, HB.out])
    clear h0 hn0
    cases b
    · go_wp2
      go_ret
      exact ⟨by rw [HE.out]; rfl, hfin.out⟩
    · go_wp2
      go_ret
      exact ⟨by rw [HE.out]; rfl, hfin.out⟩
/-- A box, a cell for the result, and the parts. -/
def HoldF (w : World) (a0 a1 a2 : Value) (g : Nat) (q r : Value) (w' : World) : Prop := Below w.heap.size w w' ∧ Blk w' w.heap.size 38 #[a0, a1, a2] ∧ Blk w' g 130 #[q, r] ∧ ∃ x0 x1 x2, ((∀ n, x0 ≠ .int .u32 n) ∧ (∀ n, x1 ≠ .int .u32 n) ∧ ∀ n, x2 ≠ .int .u32 n) ∧ Blk w' (w.heap.size + 1) 38 #[x0, x1, x2]
theorem HoldF.cells {w w' : World} {a0 a1 a2 : Value} {g : Nat} {q r : Value} (h : HoldF w a0 a1 a2 g q r w') : HoldF w a0 a1 a2 g q r w' ∧ (w'.cell? ⟨w.heap.size, 0, none⟩ = some a0 ∧ w'.cell? ⟨w.heap.size, 1, none⟩ = some a1 ∧ w'.cell? ⟨w.heap.size, 2, none⟩ = some a2) ∧ (w'.cell? ⟨g, 0, none⟩ = some q ∧ w'.cell? ⟨g, 1, none⟩ = some r) :=
  ⟨h, ⟨h.2.1.cell 0, h.2.1.cell 1, h.2.1.cell 2⟩, ⟨h.2.2.1.cell 0, h.2.2.1.cell 1⟩⟩
theorem HoldF.next {w w1 w2 : World} {a0 a1 a2 : Value} {g : Nat} {q r : Value} (k : Below w1.heap.size w1 w2) (h : HoldF w a0 a1 a2 g q r w1) : HoldF w a0 a1 a2 g q r w2 := by
  obtain ⟨h0, h1, h2, x0, x1, x2, h3, h4⟩ := h
  exact ⟨bl_trans h0 k, h1.below k, h2.below k, x0, x1, x2, h3, h4.below k⟩
theorem HoldF.held {w w1 : World} {a0 a1 a2 : Value} {g : Nat} {q r : Value} (h : HoldF w a0 a1 a2 g q r w1) : Held1 w 38 38 a0 a1 a2 w1 := by
  obtain ⟨h0, h1, h2, h3⟩ := h
  exact ⟨h0, h1, h3⟩
theorem HoldF.set {w w1 : World} {a0 a1 a2 : Value} {g : Nat} {q r : Value} (h : HoldF w a0 a1 a2 g q r w1) (hg : g ≠ w.heap.size + 1) (y0 y1 y2 : Value) (n0 : ∀ n, y0 ≠ .int .u32 n) (n1 : ∀ n, y1 ≠ .int .u32 n) (n2 : ∀ n, y2 ≠ .int .u32 n) : HoldF w a0 a1 a2 g q r (((w1.setCell ⟨w.heap.size + 1, 0, none⟩ y0).setCell ⟨w.heap.size + 1, 1, none⟩ y1).setCell ⟨w.heap.size + 1, 2, none⟩ y2) := by
  obtain ⟨h0, h1, h2, x0, x1, x2, h3, h4⟩ := h
  exact ⟨three_below h0 (by omega) _ _ _, ((h1.other _ _ (by simp)).other _ _ (by simp)).other _ _ (by simp), ((h2.other _ _ (by simpa using hg)).other _ _ (by simpa using hg)).other _ _ (by simpa using hg), _, _, _, ⟨n0, n1, n2⟩, blk3 h4 _ _ _⟩
theorem mk1 (z : Int) : mkRat z 1 = (z : Rat) := Rat.mkRat_one z
/-- Two boxes, a cell for the result, and a ratio. -/
def HoldV (w : World) (a0 a1 a2 b0 b1 b2 : Value) (g : Nat) (r0 r1 r2 : Value) (w' : World) : Prop := HeldB w 38 38 a0 a1 a2 b0 b1 b2 w' ∧ Blk w' g 113 #[r0, r1, r2]
theorem HoldV.cells {w w' : World} {a0 a1 a2 b0 b1 b2 r0 r1 r2 : Value} {g : Nat} (h : HoldV w a0 a1 a2 b0 b1 b2 g r0 r1 r2 w') : HoldV w a0 a1 a2 b0 b1 b2 g r0 r1 r2 w' ∧ (w'.cell? ⟨w.heap.size, 0, none⟩ = some a0 ∧ w'.cell? ⟨w.heap.size, 1, none⟩ = some a1 ∧ w'.cell? ⟨w.heap.size, 2, none⟩ = some a2) ∧ (w'.cell? ⟨g, 0, none⟩ = some r0 ∧ w'.cell? ⟨g, 1, none⟩ = some r1 ∧ w'.cell? ⟨g, 2, none⟩ = some r2) :=
  ⟨h, h.1.cells.2.1, ⟨h.2.cell 0, h.2.cell 1, h.2.cell 2⟩⟩
theorem HoldV.next {w w1 w2 : World} {a0 a1 a2 b0 b1 b2 r0 r1 r2 : Value} {g : Nat} (k : Below w1.heap.size w1 w2) (h : HoldV w a0 a1 a2 b0 b1 b2 g r0 r1 r2 w1) : HoldV w a0 a1 a2 b0 b1 b2 g r0 r1 r2 w2 := ⟨HeldB.next k h.1, h.2.below k⟩
theorem HoldV.set {w w1 : World} {a0 a1 a2 b0 b1 b2 r0 r1 r2 : Value} {g : Nat} (h : HoldV w a0 a1 a2 b0 b1 b2 g r0 r1 r2 w1) (hg : g ≠ w.heap.size + 2) (y0 y1 y2 : Value) (n0 : ∀ n, y0 ≠ .int .u32 n) (n1 : ∀ n, y1 ≠ .int .u32 n) (n2 : ∀ n, y2 ≠ .int .u32 n) : HoldV w a0 a1 a2 b0 b1 b2 g r0 r1 r2 (((w1.setCell ⟨w.heap.size + 2, 0, none⟩ y0).setCell ⟨w.heap.size + 2, 1, none⟩ y1).setCell ⟨w.heap.size + 2, 2, none⟩ y2) :=
  ⟨HeldB.set h.1 y0 y1 y2 n0 n1 n2, ((h.2.other _ _ (by simpa using hg)).other _ _ (by simpa using hg)).other _ _ (by simpa using hg)⟩
end Go.Proofs.Ytajckdheecgceaa
