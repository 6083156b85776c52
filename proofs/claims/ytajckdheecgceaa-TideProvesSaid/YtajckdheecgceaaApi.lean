/- The functions of frac: Add, Sub, Mul, Cmp, Sign, Neg, Fix. -/
import Derived.Test.YtajckdheecgceaaOrder
import Derived.Test.YtajckdheecgceaaTaken
set_option linter.unusedVariables false
set_option linter.unusedSimpArgs false
namespace Go.Proofs.Ytajckdheecgceaa
open Go.RowKit

/-- Two structs of three cells are boxed (type tb), and a cell for the result (type tr). -/
def HeldB (w : World) (tb tr : Nat) (a0 a1 a2 b0 b1 b2 : Value) (w' : World) : Prop := Below w.heap.size w w' ∧ Blk w' w.heap.size tb #[a0, a1, a2] ∧ Blk w' (w.heap.size + 1) tb #[b0, b1, b2] ∧ ∃ x0 x1 x2, ((∀ n, x0 ≠ .int .u32 n) ∧ (∀ n, x1 ≠ .int .u32 n) ∧ ∀ n, x2 ≠ .int .u32 n) ∧ Blk w' (w.heap.size + 2) tr #[x0, x1, x2]
theorem HeldB.cells {w w' : World} {tb tr : Nat} {a0 a1 a2 b0 b1 b2 : Value} (h : HeldB w tb tr a0 a1 a2 b0 b1 b2 w') : HeldB w tb tr a0 a1 a2 b0 b1 b2 w' ∧ (w'.cell? ⟨w.heap.size, 0, none⟩ = some a0 ∧ w'.cell? ⟨w.heap.size, 1, none⟩ = some a1 ∧ w'.cell? ⟨w.heap.size, 2, none⟩ = some a2) ∧ (w'.cell? ⟨w.heap.size + 1, 0, none⟩ = some b0 ∧ w'.cell? ⟨w.heap.size + 1, 1, none⟩ = some b1 ∧ w'.cell? ⟨w.heap.size + 1, 2, none⟩ = some b2) :=
  ⟨h, ⟨h.2.1.cell 0, h.2.1.cell 1, h.2.1.cell 2⟩, ⟨h.2.2.1.cell 0, h.2.2.1.cell 1, h.2.2.1.cell 2⟩⟩
theorem HeldB.next {w w1 w2 : World} {tb tr : Nat} {a0 a1 a2 b0 b1 b2 : Value} (k : Below w1.heap.size w1 w2) (h : HeldB w tb tr a0 a1 a2 b0 b1 b2 w1) : HeldB w tb tr a0 a1 a2 b0 b1 b2 w2 := by
  obtain ⟨h0, h1, h2, x0, x1, x2, h3, h4⟩ := h
  exact ⟨bl_trans h0 k, h1.below k, h2.below k, x0, x1, x2, h3, h4.below k⟩
theorem HeldB.bl {w w1 : World} {tb tr : Nat} {a0 a1 a2 b0 b1 b2 : Value} (h : HeldB w tb tr a0 a1 a2 b0 b1 b2 w1) : Below w.heap.size w w1 := h.1
theorem HeldB.set {w w1 : World} {tb tr : Nat} {a0 a1 a2 b0 b1 b2 : Value} (h : HeldB w tb tr a0 a1 a2 b0 b1 b2 w1) (y0 y1 y2 : Value) (n0 : ∀ n, y0 ≠ .int .u32 n) (n1 : ∀ n, y1 ≠ .int .u32 n) (n2 : ∀ n, y2 ≠ .int .u32 n) : HeldB w tb tr a0 a1 a2 b0 b1 b2 (((w1.setCell ⟨w.heap.size + 2, 0, none⟩ y0).setCell ⟨w.heap.size + 2, 1, none⟩ y1).setCell ⟨w.heap.size + 2, 2, none⟩ y2) := by
  obtain ⟨h0, h1, h2, x0, x1, x2, h3, h4⟩ := h
  exact ⟨three_below h0 (by omega) _ _ _, ((h1.other _ _ (by simp)).other _ _ (by simp)).other _ _ (by simp), ((h2.other _ _ (by simp)).other _ _ (by simp)).other _ _ (by simp), _, _, _, ⟨n0, n1, n2⟩, blk3 h4 _ _ _⟩
theorem HeldB.store {w w1 : World} {tb tr : Nat} {a0 a1 a2 b0 b1 b2 : Value} (h : HeldB w tb tr a0 a1 a2 b0 b1 b2 w1) : (∃ x0 x1 x2, w1.cell? ⟨w.heap.size + 2, 0, none⟩ = some x0 ∧ w1.cell? ⟨w.heap.size + 2, 1, none⟩ = some x1 ∧ w1.cell? ⟨w.heap.size + 2, 2, none⟩ = some x2) ∧ ∀ j, w1.frozen? ⟨w.heap.size + 2, j, none⟩ = false := by
  obtain ⟨h0, h1, h2, x0, x1, x2, h3, h4⟩ := h
  exact ⟨⟨x0, x1, x2, h4.cell 0, h4.cell 1, h4.cell 2⟩, h4.free⟩
theorem HeldB.kept {w w1 : World} {tb tr : Nat} {a0 a1 a2 b0 b1 b2 : Value} (h : HeldB w tb tr a0 a1 a2 b0 b1 b2 w1) {k : List Int} {v : Value} (hr : RdI .u32 w1 v k) (y0 y1 y2 : Value) :
    RdI .u32 (((w1.setCell ⟨w.heap.size + 2, 0, none⟩ y0).setCell ⟨w.heap.size + 2, 1, none⟩ y1).setCell ⟨w.heap.size + 2, 2, none⟩ y2) v k := by
  obtain ⟨h0, h1, h2, x0, x1, x2, h3, h4⟩ := h
  exact RdI.three hr (h4.cell 0) (h4.cell 1) (h4.cell 2) h3.1 h3.2.1 h3.2.2 y0 y1 y2
theorem HeldB.res {w w1 : World} {tb tr : Nat} {a0 a1 a2 b0 b1 b2 : Value} (h : HeldB w tb tr a0 a1 a2 b0 b1 b2 w1) (y0 y1 y2 : Value) :
    Below w.heap.size w (((w1.setCell ⟨w.heap.size + 2, 0, none⟩ y0).setCell ⟨w.heap.size + 2, 1, none⟩ y1).setCell ⟨w.heap.size + 2, 2, none⟩ y2) ∧ Blk (((w1.setCell ⟨w.heap.size + 2, 0, none⟩ y0).setCell ⟨w.heap.size + 2, 1, none⟩ y1).setCell ⟨w.heap.size + 2, 2, none⟩ y2) (w.heap.size + 2) tr #[y0, y1, y2] := by
  obtain ⟨h0, h1, h2, x0, x1, x2, h3, h4⟩ := h
  exact ⟨three_below h0 (by omega) _ _ _, blk3 h4 _ _ _⟩
theorem heldB_new (w : World) (tb tr : Nat) (a0 a1 a2 b0 b1 b2 x0 x1 x2 : Value) (n0 : ∀ n, x0 ≠ .int .u32 n) (n1 : ∀ n, x1 ≠ .int .u32 n) (n2 : ∀ n, x2 ≠ .int .u32 n) : HeldB w tb tr a0 a1 a2 b0 b1 b2 (((w.alloc (.cells #[a0, a1, a2] tb)).alloc (.cells #[b0, b1, b2] tb)).alloc (.cells #[x0, x1, x2] tr)) := by
  obtain ⟨K1, K2, K4⟩ := boxed3 w #[a0, a1, a2] #[b0, b1, b2] #[x0, x1, x2] tb tb tr
  exact ⟨bl_alloc3 _ _ _ _, K1, K2, _, _, _, ⟨n0, n1, n2⟩, K4⟩
/-- Two structs are boxed. -/
def HeldQ (w : World) (tb : Nat) (a0 a1 a2 b0 b1 b2 : Value) (w' : World) : Prop := Below w.heap.size w w' ∧ Blk w' w.heap.size tb #[a0, a1, a2] ∧ Blk w' (w.heap.size + 1) tb #[b0, b1, b2]
theorem HeldQ.cells {w w' : World} {tb : Nat} {a0 a1 a2 b0 b1 b2 : Value} (h : HeldQ w tb a0 a1 a2 b0 b1 b2 w') : HeldQ w tb a0 a1 a2 b0 b1 b2 w' ∧ (w'.cell? ⟨w.heap.size, 0, none⟩ = some a0 ∧ w'.cell? ⟨w.heap.size, 1, none⟩ = some a1 ∧ w'.cell? ⟨w.heap.size, 2, none⟩ = some a2) ∧ (w'.cell? ⟨w.heap.size + 1, 0, none⟩ = some b0 ∧ w'.cell? ⟨w.heap.size + 1, 1, none⟩ = some b1 ∧ w'.cell? ⟨w.heap.size + 1, 2, none⟩ = some b2) :=
  ⟨h, ⟨h.2.1.cell 0, h.2.1.cell 1, h.2.1.cell 2⟩, ⟨h.2.2.cell 0, h.2.2.cell 1, h.2.2.cell 2⟩⟩
theorem HeldQ.next {w w1 w2 : World} {tb : Nat} {a0 a1 a2 b0 b1 b2 : Value} (k : Below w1.heap.size w1 w2) (h : HeldQ w tb a0 a1 a2 b0 b1 b2 w1) : HeldQ w tb a0 a1 a2 b0 b1 b2 w2 :=
  ⟨bl_trans h.1 k, h.2.1.below k, h.2.2.below k⟩
theorem HeldQ.bl {w w1 : World} {tb : Nat} {a0 a1 a2 b0 b1 b2 : Value} (h : HeldQ w tb a0 a1 a2 b0 b1 b2 w1) : Below w.heap.size w w1 := h.1
theorem heldQ_new (w : World) (tb : Nat) (a0 a1 a2 b0 b1 b2 : Value) : HeldQ w tb a0 a1 a2 b0 b1 b2 ((w.alloc (.cells #[a0, a1, a2] tb)).alloc (.cells #[b0, b1, b2] tb)) := by
  refine ⟨bl_trans (below_alloc0 _ _) (below_alloc0 _ _), (Blk.new w _ _).below (below_alloc0 _ _), ?_⟩
  have h2 := Blk.new (w.alloc (.cells #[a0, a1, a2] tb)) tb #[b0, b1, b2]
  rwa [show (w.alloc (.cells #[a0, a1, a2] tb)).heap.size = w.heap.size + 1 by simp] at h2
theorem Short.ok {q : Rat} (h : Short q) : (dg q.num.natAbs).length + (dg q.den).length ≤ 4096 := h
theorem boolne (b : Bool) : ∀ n, Value.bool b ≠ .int .u32 n := fun n h => by cases h
theorem slne (A : Option Addr) (l c : Nat) : ∀ n, Value.slice A l c ≠ .int .u32 n := fun n h => by cases h
theorem FrIn.wd {w : World} {v : Value} {neg : Bool} {ln ld : List Int} (h : FrIn w v neg ln ld) : Wd ln ∧ Wd ld := by
  obtain ⟨v1, v2, _, _, _, h1, h2⟩ := h
  exact ⟨h1, h2⟩
theorem frac_add_calls (w : World) (va vb : Value) (na nb : Bool) (lna lda lnb ldb : List Int) (ha : FrIn w va na lna lda) (hb : FrIn w vb nb lnb ldb) (hsa : lna.length + lda.length ≤ 4096) (hsb : lnb.length + ldb.length ≤ 4096) (hres : Short ((fixq na lna lda) + (fixq nb lnb ldb))) :
    Calls Try.prog 75 #[va, vb] w (FrPost ((fixq na lna lda) + (fixq nb lnb ldb)) w) := by
  have s1 : Szq 500000000 (fixq na lna lda) := (szq_fix (k := 4097) ha.wd.1 ha.wd.2 (by omega) (by omega) (by omega)).big (by omega)
  have s2 : Szq 500000000 (fixq nb lnb ldb) := (szq_fix (k := 4097) hb.wd.1 hb.wd.2 (by omega) (by omega) (by omega)).big (by omega)
  obtain ⟨A, c, A2, c2, rfl, _, _, _, _⟩ := ha.shape
  obtain ⟨A3, c3, A4, c4, rfl, _, _, _, _⟩ := hb.shape
  have H := heldB_new w 38 38 (.bool na) (.slice A lna.length c) (.slice A2 lda.length c2) (.bool nb) (.slice A3 lnb.length c3) (.slice A4 ldb.length c4) (.bool false) (.slice none 0 0) (.slice none 0 0) (boolne _) (slne _ _ _) (slne _ _ _)
  go_enter Try.func75, Try.ntmps75
  go_wp2_with fail
  have hs := (HeldB.next (bl_drew _) H).cells
  go_region_held3 (fun w' => HeldB w 38 38 (.bool na) (.slice A lna.length c) (.slice A2 lda.length c2) (.bool nb) (.slice A3 lnb.length c3) (.slice A4 ldb.length c4) w' ∧ (w'.cell? ⟨w.heap.size, 0, none⟩ = some (.bool na) ∧ w'.cell? ⟨w.heap.size, 1, none⟩ = some (.slice A lna.length c) ∧ w'.cell? ⟨w.heap.size, 2, none⟩ = some (.slice A2 lda.length c2)) ∧ (w'.cell? ⟨w.heap.size + 1, 0, none⟩ = some (.bool nb) ∧ w'.cell? ⟨w.heap.size + 1, 1, none⟩ = some (.slice A3 lnb.length c3) ∧ w'.cell? ⟨w.heap.size + 1, 2, none⟩ = some (.slice A4 ldb.length c4)))
    ((first | exact hs | exact (HeldB.set H1 _ _ _ (boolne _) (slne _ _ _) (slne _ _ _)).cells | exact (HeldB.next hbN (And.left (by assumption))).cells))
    (first
    | (go_at_call 90; (with_reducible refine (taken_calls _ _ na lna lda ?_ hsa).mono ?_); (exact ha.below (HeldB.bl (And.left (by assumption)))); (rintro e w' ⟨v, rfl, hva, hbN⟩))
    | (go_at_call 90; (with_reducible refine (taken_calls _ _ nb lnb ldb ?_ hsb).mono ?_); (exact hb.below (HeldB.bl (And.left (by assumption)))); (rintro e w' ⟨v, rfl, hvb, hbN⟩))
    | (go_at_call 98; (with_reducible refine (plus_calls _ _ _ (fixq na lna lda) (fixq nb lnb ldb) (RtV.below hva hbN) hvb s1 s2).mono ?_); (rintro e w' ⟨v, rfl, hvr, hbN⟩))
    | (go_at_call 92; (with_reducible refine (told_calls _ _ ((fixq na lna lda) + (fixq nb lnb ldb)) hvr (Short.ok hres)).mono ?_); (rintro e w' ⟨v, rfl, hfr, hbN⟩); (obtain ⟨B1, d1, B2, d2, rfl, r1, r2, r3, r4⟩ := FrIn.shape hfr); (have H1 := HeldB.next hbN (And.left (by assumption))); (obtain ⟨⟨x0, x1, x2, m0, m1, m2⟩, f1⟩ := H1.store))
    )
  go_wp2
  obtain ⟨t1, t2⟩ := H1.res (.bool (decide (((fixq na lna lda) + (fixq nb lnb ldb)).num < 0))) (.slice B1 (dg ((fixq na lna lda) + (fixq nb lnb ldb)).num.natAbs).length d1) (.slice B2 (dg ((fixq na lna lda) + (fixq nb lnb ldb)).den).length d2)
  exact bodyPost_ret (results_cell_row rfl _ _ (w.heap.size + 2) 38 _ (0, 0) _ rfl t2 Try.underlying38 rfl (by kernel_rfl)) rfl ⟨_, rfl, ⟨_, _, rfl, H1.kept r1 _ _ _, H1.kept r2 _ _ _, r3, r4⟩, t1⟩
theorem frac_mul_calls (w : World) (va vb : Value) (na nb : Bool) (lna lda lnb ldb : List Int) (ha : FrIn w va na lna lda) (hb : FrIn w vb nb lnb ldb) (hsa : lna.length + lda.length ≤ 4096) (hsb : lnb.length + ldb.length ≤ 4096) (hres : Short ((fixq na lna lda) * (fixq nb lnb ldb))) :
    Calls Try.prog 73 #[va, vb] w (FrPost ((fixq na lna lda) * (fixq nb lnb ldb)) w) := by
  have s1 : Szq 500000000 (fixq na lna lda) := (szq_fix (k := 4097) ha.wd.1 ha.wd.2 (by omega) (by omega) (by omega)).big (by omega)
  have s2 : Szq 500000000 (fixq nb lnb ldb) := (szq_fix (k := 4097) hb.wd.1 hb.wd.2 (by omega) (by omega) (by omega)).big (by omega)
  obtain ⟨A, c, A2, c2, rfl, _, _, _, _⟩ := ha.shape
  obtain ⟨A3, c3, A4, c4, rfl, _, _, _, _⟩ := hb.shape
  have H := heldB_new w 38 38 (.bool na) (.slice A lna.length c) (.slice A2 lda.length c2) (.bool nb) (.slice A3 lnb.length c3) (.slice A4 ldb.length c4) (.bool false) (.slice none 0 0) (.slice none 0 0) (boolne _) (slne _ _ _) (slne _ _ _)
  go_enter Try.func73, Try.ntmps73
  go_wp2_with fail
  have hs := (HeldB.next (bl_drew _) H).cells
  go_region_held3 (fun w' => HeldB w 38 38 (.bool na) (.slice A lna.length c) (.slice A2 lda.length c2) (.bool nb) (.slice A3 lnb.length c3) (.slice A4 ldb.length c4) w' ∧ (w'.cell? ⟨w.heap.size, 0, none⟩ = some (.bool na) ∧ w'.cell? ⟨w.heap.size, 1, none⟩ = some (.slice A lna.length c) ∧ w'.cell? ⟨w.heap.size, 2, none⟩ = some (.slice A2 lda.length c2)) ∧ (w'.cell? ⟨w.heap.size + 1, 0, none⟩ = some (.bool nb) ∧ w'.cell? ⟨w.heap.size + 1, 1, none⟩ = some (.slice A3 lnb.length c3) ∧ w'.cell? ⟨w.heap.size + 1, 2, none⟩ = some (.slice A4 ldb.length c4)))
    ((first | exact hs | exact (HeldB.set H1 _ _ _ (boolne _) (slne _ _ _) (slne _ _ _)).cells | exact (HeldB.next hbN (And.left (by assumption))).cells))
    (first
    | (go_at_call 90; (with_reducible refine (taken_calls _ _ na lna lda ?_ hsa).mono ?_); (exact ha.below (HeldB.bl (And.left (by assumption)))); (rintro e w' ⟨v, rfl, hva, hbN⟩))
    | (go_at_call 90; (with_reducible refine (taken_calls _ _ nb lnb ldb ?_ hsb).mono ?_); (exact hb.below (HeldB.bl (And.left (by assumption)))); (rintro e w' ⟨v, rfl, hvb, hbN⟩))
    | (go_at_call 102; (with_reducible refine (times_calls _ _ _ (fixq na lna lda) (fixq nb lnb ldb) (RtV.below hva hbN) hvb s1 s2).mono ?_); (rintro e w' ⟨v, rfl, hvr, hbN⟩))
    | (go_at_call 92; (with_reducible refine (told_calls _ _ ((fixq na lna lda) * (fixq nb lnb ldb)) hvr (Short.ok hres)).mono ?_); (rintro e w' ⟨v, rfl, hfr, hbN⟩); (obtain ⟨B1, d1, B2, d2, rfl, r1, r2, r3, r4⟩ := FrIn.shape hfr); (have H1 := HeldB.next hbN (And.left (by assumption))); (obtain ⟨⟨x0, x1, x2, m0, m1, m2⟩, f1⟩ := H1.store))
    )
  go_wp2
  obtain ⟨t1, t2⟩ := H1.res (.bool (decide (((fixq na lna lda) * (fixq nb lnb ldb)).num < 0))) (.slice B1 (dg ((fixq na lna lda) * (fixq nb lnb ldb)).num.natAbs).length d1) (.slice B2 (dg ((fixq na lna lda) * (fixq nb lnb ldb)).den).length d2)
  exact bodyPost_ret (results_cell_row rfl _ _ (w.heap.size + 2) 38 _ (0, 0) _ rfl t2 Try.underlying38 rfl (by kernel_rfl)) rfl ⟨_, rfl, ⟨_, _, rfl, H1.kept r1 _ _ _, H1.kept r2 _ _ _, r3, r4⟩, t1⟩
theorem frac_sub_calls (w : World) (va vb : Value) (na nb : Bool) (lna lda lnb ldb : List Int) (ha : FrIn w va na lna lda) (hb : FrIn w vb nb lnb ldb) (hsa : lna.length + lda.length ≤ 4096) (hsb : lnb.length + ldb.length ≤ 4096) (hres : Short ((fixq na lna lda) + -(fixq nb lnb ldb))) :
    Calls Try.prog 67 #[va, vb] w (FrPost ((fixq na lna lda) + -(fixq nb lnb ldb)) w) := by
  have s1 : Szq 500000000 (fixq na lna lda) := (szq_fix (k := 4097) ha.wd.1 ha.wd.2 (by omega) (by omega) (by omega)).big (by omega)
  have s2 : Szq 500000000 (fixq nb lnb ldb) := (szq_fix (k := 4097) hb.wd.1 hb.wd.2 (by omega) (by omega) (by omega)).big (by omega)
  obtain ⟨A, c, A2, c2, rfl, _, _, _, _⟩ := ha.shape
  obtain ⟨A3, c3, A4, c4, rfl, _, _, _, _⟩ := hb.shape
  have H := heldB_new w 38 38 (.bool na) (.slice A lna.length c) (.slice A2 lda.length c2) (.bool nb) (.slice A3 lnb.length c3) (.slice A4 ldb.length c4) (.bool false) (.slice none 0 0) (.slice none 0 0) (boolne _) (slne _ _ _) (slne _ _ _)
  go_enter Try.func67, Try.ntmps67
  go_wp2_with fail
  have hs := (HeldB.next (bl_drew _) H).cells
  go_region_held3 (fun w' => HeldB w 38 38 (.bool na) (.slice A lna.length c) (.slice A2 lda.length c2) (.bool nb) (.slice A3 lnb.length c3) (.slice A4 ldb.length c4) w' ∧ (w'.cell? ⟨w.heap.size, 0, none⟩ = some (.bool na) ∧ w'.cell? ⟨w.heap.size, 1, none⟩ = some (.slice A lna.length c) ∧ w'.cell? ⟨w.heap.size, 2, none⟩ = some (.slice A2 lda.length c2)) ∧ (w'.cell? ⟨w.heap.size + 1, 0, none⟩ = some (.bool nb) ∧ w'.cell? ⟨w.heap.size + 1, 1, none⟩ = some (.slice A3 lnb.length c3) ∧ w'.cell? ⟨w.heap.size + 1, 2, none⟩ = some (.slice A4 ldb.length c4)))
    ((first | exact hs | exact (HeldB.set H1 _ _ _ (boolne _) (slne _ _ _) (slne _ _ _)).cells | exact (HeldB.next hbN (And.left (by assumption))).cells))
    (first
    | (go_at_call 90; (with_reducible refine (taken_calls _ _ na lna lda ?_ hsa).mono ?_); (exact ha.below (HeldB.bl (And.left (by assumption)))); (rintro e w' ⟨v, rfl, hva, hbN⟩))
    | (go_at_call 90; (with_reducible refine (taken_calls _ _ nb lnb ldb ?_ hsb).mono ?_); (exact hb.below (HeldB.bl (And.left (by assumption)))); (rintro e w' ⟨v, rfl, hvb, hbB⟩); (have hbN := hbB))
    | (go_at_call 99; (with_reducible refine (minus_calls _ _ (fixq nb lnb ldb) hvb).mono ?_); (rintro e w' ⟨v, rfl, hvm, hbM⟩); (have hbN := hbM))
    | (go_at_call 98; (with_reducible refine (plus_calls _ _ _ (fixq na lna lda) (-(fixq nb lnb ldb)) (RtV.below (RtV.below hva hbB) hbM) hvm s1 (szq_neg s2)).mono ?_); (rintro e w' ⟨v, rfl, hvr, hbN⟩))
    | (go_at_call 92; (with_reducible refine (told_calls _ _ ((fixq na lna lda) + -(fixq nb lnb ldb)) hvr (Short.ok hres)).mono ?_); (rintro e w' ⟨v, rfl, hfr, hbN⟩); (obtain ⟨B1, d1, B2, d2, rfl, r1, r2, r3, r4⟩ := FrIn.shape hfr); (have H1 := HeldB.next hbN (And.left (by assumption))); (obtain ⟨⟨x0, x1, x2, m0, m1, m2⟩, f1⟩ := H1.store))
    )
  go_wp2
  obtain ⟨t1, t2⟩ := H1.res (.bool (decide (((fixq na lna lda) + -(fixq nb lnb ldb)).num < 0))) (.slice B1 (dg ((fixq na lna lda) + -(fixq nb lnb ldb)).num.natAbs).length d1) (.slice B2 (dg ((fixq na lna lda) + -(fixq nb lnb ldb)).den).length d2)
  exact bodyPost_ret (results_cell_row rfl _ _ (w.heap.size + 2) 38 _ (0, 0) _ rfl t2 Try.underlying38 rfl (by kernel_rfl)) rfl ⟨_, rfl, ⟨_, _, rfl, H1.kept r1 _ _ _, H1.kept r2 _ _ _, r3, r4⟩, t1⟩
theorem frac_cmp_calls (w : World) (va vb : Value) (na nb : Bool) (lna lda lnb ldb : List Int) (ha : FrIn w va na lna lda) (hb : FrIn w vb nb lnb ldb) (hsa : lna.length + lda.length ≤ 4096) (hsb : lnb.length + ldb.length ≤ 4096) :
    Calls Try.prog 71 #[va, vb] w fun e w' => e = .returned (.int .i64 (rcmp (fixq na lna lda) (fixq nb lnb ldb))) ∧ Below w.heap.size w w' := by
  have s1 : Szq 500000000 (fixq na lna lda) := (szq_fix (k := 4097) ha.wd.1 ha.wd.2 (by omega) (by omega) (by omega)).big (by omega)
  have s2 : Szq 500000000 (fixq nb lnb ldb) := (szq_fix (k := 4097) hb.wd.1 hb.wd.2 (by omega) (by omega) (by omega)).big (by omega)
  obtain ⟨A, c, A2, c2, rfl, _, _, _, _⟩ := ha.shape
  obtain ⟨A3, c3, A4, c4, rfl, _, _, _, _⟩ := hb.shape
  have H := heldQ_new w 38 (.bool na) (.slice A lna.length c) (.slice A2 lda.length c2) (.bool nb) (.slice A3 lnb.length c3) (.slice A4 ldb.length c4)
  go_enter Try.func71, Try.ntmps71
  go_wp2_with fail
  have hs := (HeldQ.next (bl_drew _) H).cells
  go_region_held3 (fun w' => HeldQ w 38 (.bool na) (.slice A lna.length c) (.slice A2 lda.length c2) (.bool nb) (.slice A3 lnb.length c3) (.slice A4 ldb.length c4) w' ∧ (w'.cell? ⟨w.heap.size, 0, none⟩ = some (.bool na) ∧ w'.cell? ⟨w.heap.size, 1, none⟩ = some (.slice A lna.length c) ∧ w'.cell? ⟨w.heap.size, 2, none⟩ = some (.slice A2 lda.length c2)) ∧ (w'.cell? ⟨w.heap.size + 1, 0, none⟩ = some (.bool nb) ∧ w'.cell? ⟨w.heap.size + 1, 1, none⟩ = some (.slice A3 lnb.length c3) ∧ w'.cell? ⟨w.heap.size + 1, 2, none⟩ = some (.slice A4 ldb.length c4)))
    ((first | exact hs | exact (HeldQ.next hbN (And.left (by assumption))).cells))
    (first
    | (go_at_call 90; (with_reducible refine (taken_calls _ _ na lna lda ?_ hsa).mono ?_); (exact ha.below (HeldQ.bl (And.left (by assumption)))); (rintro e w' ⟨v, rfl, hva, hbN⟩))
    | (go_at_call 90; (with_reducible refine (taken_calls _ _ nb lnb ldb ?_ hsb).mono ?_); (exact hb.below (HeldQ.bl (And.left (by assumption)))); (rintro e w' ⟨v, rfl, hvb, hbN⟩))
    | (go_at_call 100; (with_reducible refine (order_calls _ _ _ (fixq na lna lda) (fixq nb lnb ldb) (RtV.below hva hbN) hvb s1 s2).mono ?_); (rintro e w' ⟨rfl, hbN⟩); (have H1 := HeldQ.next hbN (And.left (by assumption))))
    )
  go_wp2
  go_ret
  exact ⟨rfl, H1.bl⟩

theorem results_fe {P : Program} {fn : Func} {p u : Tmp} {ty : TypeId} (h : fn.results = #[.cell p ty, .tmp u]) (tmps : Array Value) (w : World) (g : Nat) (t : TypeId) (cs : Array Value) (fr : Nat × Nat) (d : TypeDesc)
    (hp : tmps.getD p undef = .pointer (some ⟨g, 0, none⟩)) (hg : w.heap[g]? = some (.cells cs t fr))
    (hu : P.underlying ty = some d) (hd : (match d with | .struct _ | .array _ _ => true | _ => false) = true) (hi : (P.info? ty).map (·.size) = some cs.size) :
    (results fn tmps).run P w = .ok (.tuple #[.agg cs, tmps.getD u undef]) w := by
  have hp' : tmps[p]?.getD undef = .pointer (some ⟨g, 0, none⟩) := by simpa using hp
  simp [results, h, hp', asAddr, run_loadVar_row w g t ty cs fr d hg hu hd hi]
theorem frac_sign_calls (w : World) (va : Value) (na : Bool) (lna lda : List Int) (ha : FrIn w va na lna lda) (hsa : lna.length + lda.length ≤ 4096) :
    Calls Try.prog 55 #[va] w fun e w' => e = .returned (.int .i64 (fixq na lna lda).num.sign) ∧ Below w.heap.size w w' := by
  have hf := ha
  obtain ⟨A, c, A2, c2, rfl, _, _, _, _⟩ := ha.shape
  have hb0 := below_alloc0 w (.cells #[.bool na, .slice A lna.length c, .slice A2 lda.length c2] 38)
  go_enter Try.func55, Try.ntmps55
  go_wp2_with fail
  refine (taken_calls _ _ na lna lda (hf.below hb0) hsa).mono ?_
  rintro e w1 ⟨v, rfl, hva, hb1⟩
  go_wp2_with fail
  refine (sign_calls _ _ _ hva).mono ?_
  rintro e w2 ⟨rfl, hb2⟩
  clear hf hva
  go_wp2
  go_ret
  exact ⟨rfl, bl_trans (bl_trans hb0 hb1) hb2⟩
theorem frac_fix_calls (w : World) (va : Value) (na : Bool) (lna lda : List Int) (ha : FrIn w va na lna lda) (hsa : lna.length + lda.length ≤ 4096) (hres : Short ((fixq na lna lda))) :
    Calls Try.prog 58 #[va] w (FrPost ((fixq na lna lda)) w) := by
  have hf := ha
  obtain ⟨A, c, A2, c2, rfl, _, _, _, _⟩ := ha.shape
  have H := held1_new w 38 38 (.bool na) (.slice A lna.length c) (.slice A2 lda.length c2) (.bool false) (.slice none 0 0) (.slice none 0 0) (boolne _) (slne _ _ _) (slne _ _ _)
  go_enter Try.func58, Try.ntmps58
  go_wp2_with fail
  refine (taken_calls _ _ na lna lda (hf.below H.bl) hsa).mono ?_
  rintro e w1 ⟨v, rfl, hva, hb1⟩
  have Ha := Held1.next hb1 H
  go_wp2_with fail
  refine (told_calls _ _ _ hva hres).mono ?_
  rintro e w3 ⟨v3, rfl, hfr, hb3⟩
  have H1 := Held1.next hb3 Ha
  clear hf hva hres H Ha
  obtain ⟨B1, d1, B2, d2, rfl, r1, r2, r3, r4⟩ := FrIn.shape hfr
  obtain ⟨⟨x0, x1, x2, m0, m1, m2⟩, f1⟩ := H1.store
  go_wp2
  obtain ⟨t1, t2⟩ := H1.res (.bool (decide (((fixq na lna lda)).num < 0))) (.slice B1 (dg ((fixq na lna lda)).num.natAbs).length d1) (.slice B2 (dg ((fixq na lna lda)).den).length d2)
  exact bodyPost_ret (results_cell_row rfl _ _ (w.heap.size + 1) 38 _ (0, 0) _ rfl t2 Try.underlying38 rfl (by kernel_rfl)) rfl ⟨_, rfl, ⟨_, _, rfl, H1.kept r1 _ _ _, H1.kept r2 _ _ _, r3, r4⟩, t1⟩
/-- What is handed back is the fraction q, and that all is well. -/
def FrePost (q : Rat) (w : World) (e : Ending) (w' : World) : Prop := ∃ v, e = .returned (.tuple #[v, .int .i64 0]) ∧ FrV w' v q ∧ Below w.heap.size w w'
theorem frac_make_zero (w : World) (p : Int) :
    Calls Try.prog 72 #[.int .i64 p, .int .i64 0] w fun e w' => e = .returned (.tuple #[.agg #[.bool false, .slice none 0 0, .slice none 0 0], .int .i64 11]) ∧ Below w.heap.size w w' := by
  go_enter Try.func72, Try.ntmps72
  go_wp2
  exact bodyPost_ret (results_fe rfl _ _ w.heap.size 38 _ (0, 0) _ rfl (Blk.new w 38 _) Try.underlying38 rfl (by kernel_rfl)) rfl ⟨rfl, below_alloc0 _ _⟩
theorem int_len {n : Int} (h0 : -9223372036854775808 ≤ n) (h1 : n ≤ 9223372036854775807) : Szq 2 (n : Rat) := by
  constructor
  · refine dg_len_le ?_
    rw [Rat.num_intCast]
    have : n.natAbs < 18446744073709551616 := by omega
    simpa using this
  · rw [Rat.den_intCast, dg_one]; simp
theorem frac_make_calls (w : World) (p q : Int) (hq : q ≠ 0) (p0 : -9223372036854775808 ≤ p) (p1 : p ≤ 9223372036854775807) (q0 : -9223372036854775808 ≤ q) (q1 : q ≤ 9223372036854775807) :
    Calls Try.prog 72 #[.int .i64 p, .int .i64 q] w (FrePost ((p : Rat) * (q : Rat)⁻¹) w) := by
  obtain ⟨r, hr⟩ : ∃ r, r = (p : Rat) * (q : Rat)⁻¹ := ⟨_, rfl⟩
  rw [← hr]
  have e0 : (q == 0) = false := beq_eq_false_iff_ne.2 hq
  have hq' : (q : Rat) ≠ 0 := by exact_mod_cast hq
  have sp := int_len p0 p1
  have sq := szq_inv (int_len q0 q1) (by omega)
  have hres := (szq_mul sp sq).short (by omega)
  have hb0 := below_alloc0 w (.cells #[.bool false, .slice none 0 0, .slice none 0 0] 38)
  have K := Blk.new w 38 #[.bool false, .slice none 0 0, .slice none 0 0]
  have HQ := Lib.hid hq'
  have HR := Lib.hid hr
  rw [← hr] at hres
  clear hq hq' hr
  go_enter Try.func72, Try.ntmps72
  go_wp2_with fail
  refine (whole_calls _ p p0 p1).mono ?_
  rintro e w1 ⟨v, rfl, hp, hb1⟩
  go_wp2_with fail
  refine (whole_calls _ q q0 q1).mono ?_
  rintro e w2 ⟨v2, rfl, hv2, hb2⟩
  go_wp2_with fail
  refine (over_calls _ _ _ hv2 HQ.out).mono ?_
  rintro e w3 ⟨v3, rfl, hv3, hb3⟩
  go_wp2_with fail
  refine (times_calls _ _ _ _ _ (RtV.below (RtV.below hp hb2) hb3) hv3 (sp.big (by omega)) (sq.big (by omega))).mono ?_
  rintro e w4 ⟨v4, rfl, hv4, hb4⟩
  rw [← HR.out] at hv4
  go_wp2_with fail
  refine (told_calls _ _ _ hv4 hres).mono ?_
  rintro e w5 ⟨v5, rfl, hfr, hb5⟩
  have hb := bl_trans (bl_trans (bl_trans (bl_trans hb1 hb2) hb3) hb4) hb5
  have K5 := K.below hb
  have hbw := bl_trans hb0 hb
  have m0 := K5.cell 0
  have m1 := K5.cell 1
  have m2 := K5.cell 2
  have f1 := K5.free
  clear hv4 hv3 hv2 hp hres sp sq HQ
  obtain ⟨B1, d1, B2, d2, rfl, r1, r2, r3, r4⟩ := FrIn.shape hfr
  go_wp2
  exact bodyPost_ret (results_fe rfl _ _ w.heap.size 38 _ (0, 0) _ rfl (blk3 K5 _ _ _) Try.underlying38 rfl (by kernel_rfl)) rfl ⟨_, rfl, ⟨_, _, rfl, r1.three m0 m1 m2 (boolne _) (slne _ _ _) (slne _ _ _) _ _ _, r2.three m0 m1 m2 (boolne _) (slne _ _ _) (slne _ _ _) _ _ _, r3, r4⟩, three_below hbw (Nat.le_refl _) _ _ _⟩

end Go.Proofs.Ytajckdheecgceaa
