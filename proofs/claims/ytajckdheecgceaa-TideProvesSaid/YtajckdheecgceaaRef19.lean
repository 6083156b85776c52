/- The reference: words, CopyFrac, Exact; same. -/
import Derived.Test.YtajckdheecgceaaOrdLaw
import Derived.Test.YtajckdheecgceaaRef16
import Derived.Deep.RegionLaw
import Derived.Laws.AppendOwn
import Derived.OwnWalk
set_option linter.unusedVariables false
set_option linter.unusedSimpArgs false
namespace Go.Proofs.Ytajckdheecgceaa
open Go.RowKit

theorem bl_grown {B : Nat} {w0 w1 w2 : World} {base e size n : Nat} {v : Value} {xs : List Value} (h : Below B w0 w1) (hg : w1.grownBy w2 v.ownBlock) (ho : w1.ownsRow base e size v n xs) (hB : B ≤ base) (hs : B ≤ w1.heap.size) : Below B w0 w2 :=
  h.grown hg hs (fun k hk => Nat.le_trans hB (ho.lt k hk).1)
theorem rd_owned {w : World} {base n : Nat} {v : Value} {l : List Int} (h : w.ownsRow base 101 1 v n (l.map (Value.int .u32))) : RdI .u32 w v l ∧ n = l.length := by
  have h1 := h.1
  simp only [List.length_map, Nat.mul_one] at h1
  refine ⟨?_, h1.symm⟩
  subst h1
  have hh := h
  rcases h.2 with ⟨rfl, h0⟩ | ⟨g, cap, cur, rfl, hb, hg, hn, hm, hc, ht⟩
  · have : l = [] := List.length_eq_zero_iff.1 h0
    subst this
    exact ⟨none, 0, rfl, by simp, by omega, fun h => absurd h (by simp)⟩
  · refine ⟨_, cap, rfl, hn, by simp only [maxLen] at hm; omega, fun _ => ⟨_, rfl, fun j hj => ?_⟩⟩
    refine hh.cells (g := g) rfl j _ ?_
    simp [wat, List.getD_eq_getElem?_getD, hj]
theorem take_snoc (l : List Int) {k : Nat} (h : k < l.length) : (l.map (Value.int .u32)).take k ++ [.int .u32 (wat l k)] = (l.map (Value.int .u32)).take (k + 1) := by
  rw [List.take_add_one, List.getElem?_map, show l[k]? = some (wat l k) by simp [wat, List.getD_eq_getElem?_getD, h]]
  rfl
theorem rcmp_flag {q r : Rat} (h : decide (q.num < 0) = decide (r.num < 0)) : rcmp q r = if decide (q.num < 0) = true then - ncmp (q.num.natAbs * r.den) (r.num.natAbs * q.den) else ncmp (q.num.natAbs * r.den) (r.num.natAbs * q.den) := by
  by_cases hn : q.num < 0
  · have hm : r.num < 0 := by simpa [hn] using h.symm
    rw [rcmp_same (by rw [Int.sign_eq_neg_one_of_neg hn, Int.sign_eq_neg_one_of_neg hm])]
    simp [hn]
  · have hm : ¬ r.num < 0 := by
      intro hm
      simp [hn, hm] at h
    have e1 : q.num * r.den = ((q.num.natAbs * r.den : Nat) : Int) := by
      rw [Int.natCast_mul]; congr 1; omega
    have e2 : r.num * q.den = ((r.num.natAbs * q.den : Nat) : Int) := by
      rw [Int.natCast_mul]; congr 1; omega
    simp only [rcmp, Rat.lt_iff, e1, e2, hn, decide_false, Bool.false_eq_true, if_false, ncmp, Int.ofNat_lt]
theorem rcmp_neg_pos {q r : Rat} (h : q.num < 0) (h2 : ¬ r.num < 0) : rcmp q r = -1 := by
  refine rcmp_lt (sign_lt q r ?_)
  rw [Int.sign_eq_neg_one_of_neg h]
  rcases Int.lt_trichotomy r.num 0 with b | b | b
  · exact absurd b h2
  · rw [b]; decide
  · rw [Int.sign_eq_one_of_pos b]; decide
theorem rcmp_pos_neg {q r : Rat} (h : ¬ q.num < 0) (h2 : r.num < 0) : rcmp q r = 1 := by
  rw [rcmp_swap r q, rcmp_neg_pos h2 h]; rfl
/-- Two boxes that hold two fractions. -/
def BoxQ (w : World) (q r : Rat) (wx : World) : Prop := ∃ A c A2 c2 A3 c3 A4 c4, HeldQ w 38 (.bool (decide (q.num < 0))) (.slice A (dg q.num.natAbs).length c) (.slice A2 (dg q.den).length c2) (.bool (decide (r.num < 0))) (.slice A3 (dg r.num.natAbs).length c3) (.slice A4 (dg r.den).length c4) wx ∧
  FrV wx (.agg #[.bool (decide (q.num < 0)), .slice A (dg q.num.natAbs).length c, .slice A2 (dg q.den).length c2]) q ∧ FrV wx (.agg #[.bool (decide (r.num < 0)), .slice A3 (dg r.num.natAbs).length c3, .slice A4 (dg r.den).length c4]) r
theorem box_ab {w w1 : World} {q r : Rat} {n1 n2 : Bool} {A A2 A3 A4 B1 B2 B3 B4 : Option Addr} {la l2 l3 l4 c c2 c3 c4 d1 d2 d3 d4 : Nat} (h : HeldQ w 38 (.bool n1) (.slice A la c) (.slice A2 l2 c2) (.bool n2) (.slice A3 l3 c3) (.slice A4 l4 c4) w1)
    (r1 : RdI .u32 w1 (.slice B1 (dg q.num.natAbs).length d1) (dg q.num.natAbs)) (r2 : RdI .u32 w1 (.slice B2 (dg q.den).length d2) (dg q.den)) (r3 : RdI .u32 w1 (.slice B3 (dg r.num.natAbs).length d3) (dg r.num.natAbs)) (r4 : RdI .u32 w1 (.slice B4 (dg r.den).length d4) (dg r.den)) :
    BoxQ w q r ((((((w1.setCell ⟨w.heap.size, 0, none⟩ (.bool (decide (q.num < 0)))).setCell ⟨w.heap.size, 1, none⟩ (.slice B1 (dg q.num.natAbs).length d1)).setCell ⟨w.heap.size, 2, none⟩ (.slice B2 (dg q.den).length d2)).setCell ⟨w.heap.size + 1, 0, none⟩ (.bool (decide (r.num < 0)))).setCell ⟨w.heap.size + 1, 1, none⟩ (.slice B3 (dg r.num.natAbs).length d3)).setCell ⟨w.heap.size + 1, 2, none⟩ (.slice B4 (dg r.den).length d4)) := by
  obtain ⟨h0, h1, h2⟩ := h
  have k1 := blk3 h1 (.bool (decide (q.num < 0))) (.slice B1 (dg q.num.natAbs).length d1) (.slice B2 (dg q.den).length d2)
  have k2 := ((h2.other ⟨w.heap.size, 0, none⟩ (.bool (decide (q.num < 0))) (by simp)).other ⟨w.heap.size, 1, none⟩ (.slice B1 (dg q.num.natAbs).length d1) (by simp)).other ⟨w.heap.size, 2, none⟩ (.slice B2 (dg q.den).length d2) (by simp)
  have keep : ∀ {v : Value} {l : List Int}, RdI .u32 w1 v l → RdI .u32 ((((((w1.setCell ⟨w.heap.size, 0, none⟩ (.bool (decide (q.num < 0)))).setCell ⟨w.heap.size, 1, none⟩ (.slice B1 (dg q.num.natAbs).length d1)).setCell ⟨w.heap.size, 2, none⟩ (.slice B2 (dg q.den).length d2)).setCell ⟨w.heap.size + 1, 0, none⟩ (.bool (decide (r.num < 0)))).setCell ⟨w.heap.size + 1, 1, none⟩ (.slice B3 (dg r.num.natAbs).length d3)).setCell ⟨w.heap.size + 1, 2, none⟩ (.slice B4 (dg r.den).length d4)) v l := fun k =>
    (k.three (h1.cell 0) (h1.cell 1) (h1.cell 2) (boolne _) (slne _ _ _) (slne _ _ _) _ _ _).three (k2.cell 0) (k2.cell 1) (k2.cell 2) (boolne _) (slne _ _ _) (slne _ _ _) _ _ _
  refine ⟨B1, d1, B2, d2, B3, d3, B4, d4, ⟨three_below (three_below h0 (Nat.le_refl _) _ _ _) (by omega) _ _ _, ((k1.other _ _ (by simp)).other _ _ (by simp)).other _ _ (by simp), blk3 k2 _ _ _⟩, ⟨_, _, rfl, keep r1, keep r2, Wd_dg _, Wd_dg _⟩, ⟨_, _, rfl, keep r3, keep r4, Wd_dg _, Wd_dg _⟩⟩
theorem box_ba {w w1 : World} {q r : Rat} {n1 n2 : Bool} {A A2 A3 A4 B1 B2 B3 B4 : Option Addr} {la l2 l3 l4 c c2 c3 c4 d1 d2 d3 d4 : Nat} (h : HeldQ w 38 (.bool n1) (.slice A la c) (.slice A2 l2 c2) (.bool n2) (.slice A3 l3 c3) (.slice A4 l4 c4) w1)
    (r1 : RdI .u32 w1 (.slice B1 (dg q.num.natAbs).length d1) (dg q.num.natAbs)) (r2 : RdI .u32 w1 (.slice B2 (dg q.den).length d2) (dg q.den)) (r3 : RdI .u32 w1 (.slice B3 (dg r.num.natAbs).length d3) (dg r.num.natAbs)) (r4 : RdI .u32 w1 (.slice B4 (dg r.den).length d4) (dg r.den)) :
    BoxQ w q r ((((((w1.setCell ⟨w.heap.size + 1, 0, none⟩ (.bool (decide (r.num < 0)))).setCell ⟨w.heap.size + 1, 1, none⟩ (.slice B3 (dg r.num.natAbs).length d3)).setCell ⟨w.heap.size + 1, 2, none⟩ (.slice B4 (dg r.den).length d4)).setCell ⟨w.heap.size, 0, none⟩ (.bool (decide (q.num < 0)))).setCell ⟨w.heap.size, 1, none⟩ (.slice B1 (dg q.num.natAbs).length d1)).setCell ⟨w.heap.size, 2, none⟩ (.slice B2 (dg q.den).length d2)) := by
  obtain ⟨h0, h1, h2⟩ := h
  have k2 := blk3 h2 (.bool (decide (r.num < 0))) (.slice B3 (dg r.num.natAbs).length d3) (.slice B4 (dg r.den).length d4)
  have k1 := ((h1.other ⟨w.heap.size + 1, 0, none⟩ (.bool (decide (r.num < 0))) (by simp)).other ⟨w.heap.size + 1, 1, none⟩ (.slice B3 (dg r.num.natAbs).length d3) (by simp)).other ⟨w.heap.size + 1, 2, none⟩ (.slice B4 (dg r.den).length d4) (by simp)
  have keep : ∀ {v : Value} {l : List Int}, RdI .u32 w1 v l → RdI .u32 ((((((w1.setCell ⟨w.heap.size + 1, 0, none⟩ (.bool (decide (r.num < 0)))).setCell ⟨w.heap.size + 1, 1, none⟩ (.slice B3 (dg r.num.natAbs).length d3)).setCell ⟨w.heap.size + 1, 2, none⟩ (.slice B4 (dg r.den).length d4)).setCell ⟨w.heap.size, 0, none⟩ (.bool (decide (q.num < 0)))).setCell ⟨w.heap.size, 1, none⟩ (.slice B1 (dg q.num.natAbs).length d1)).setCell ⟨w.heap.size, 2, none⟩ (.slice B2 (dg q.den).length d2)) v l := fun k =>
    (k.three (h2.cell 0) (h2.cell 1) (h2.cell 2) (boolne _) (slne _ _ _) (slne _ _ _) _ _ _).three (k1.cell 0) (k1.cell 1) (k1.cell 2) (boolne _) (slne _ _ _) (slne _ _ _) _ _ _
  refine ⟨B1, d1, B2, d2, B3, d3, B4, d4, ⟨three_below (three_below h0 (by omega) _ _ _) (Nat.le_refl _) _ _ _, blk3 k1 _ _ _, ((k2.other _ _ (by simp)).other _ _ (by simp)).other _ _ (by simp)⟩, ⟨_, _, rfl, keep r1, keep r2, Wd_dg _, Wd_dg _⟩, ⟨_, _, rfl, keep r3, keep r4, Wd_dg _, Wd_dg _⟩⟩
theorem FrV.nms {w : World} {b v1 v2 : Value} {q : Rat} (h : FrV w (.agg #[b, v1, v2]) q) : Nm w v1 q.num.natAbs ∧ Nm w v2 q.den := by
  obtain ⟨x, y, h, k1, k2, _, _⟩ := h
  obtain ⟨_, rfl, rfl⟩ : b = .bool (decide (q.num < 0)) ∧ v1 = x ∧ v2 = y := by simpa using h
  exact ⟨k1, k2⟩
theorem rcmp_calls (w : World) (va vb : Value) (na nb : Bool) (lna lda lnb ldb : List Int) (ha : FrIn w va na lna lda) (hb : FrIn w vb nb lnb ldb) (hsa : lna.length + lda.length ≤ 4096) (hsb : lnb.length + ldb.length ≤ 4096) :
    Calls Try.prog 23 #[va, vb] w fun e w' => e = .returned (.int .i64 (rcmp (fixq na lna lda) (fixq nb lnb ldb))) ∧ Below w.heap.size w w' := by
  have s1 : Szq 500000000 (fixq na lna lda) := (szq_fix (k := 4097) ha.wd.1 ha.wd.2 (by omega) (by omega) (by omega)).big (by omega)
  have s2 : Szq 500000000 (fixq nb lnb ldb) := (szq_fix (k := 4097) hb.wd.1 hb.wd.2 (by omega) (by omega) (by omega)).big (by omega)
  obtain ⟨q, hq⟩ : ∃ q, q = fixq na lna lda := ⟨_, rfl⟩
  obtain ⟨r, hr⟩ : ∃ q, q = fixq nb lnb ldb := ⟨_, rfl⟩
  have EQ := Lib.hid hq
  have ER := Lib.hid hr
  rw [← hq] at s1 ⊢
  rw [← hr] at s2 ⊢
  clear hq hr
  obtain ⟨A, c, A2, c2, rfl, _, _, _, _⟩ := ha.shape
  obtain ⟨A3, c3, A4, c4, rfl, _, _, _, _⟩ := hb.shape
  have H := heldQ_new w 38 (.bool na) (.slice A lna.length c) (.slice A2 lda.length c2) (.bool nb) (.slice A3 lnb.length c3) (.slice A4 ldb.length c4)
  go_enter Try.func23, Try.ntmps23
  go_upto_region 1 with fail
  go_cut [4] (fun s4 wx => s4 = .int .i64 0 ∧ BoxQ w q r wx)
  case first =>
    go_wp2_with fail
    have hd := HeldQ.next (bl_drew _) H
    obtain ⟨_, ⟨j0, j1, j2⟩, ⟨j3, j4, j5⟩⟩ := hd.cells
    go_region_law (first
      | (go_simp; go_at_call 62; (with_reducible refine (rfix_calls _ _ na lna lda (ha.below hd.bl) hsa).mono ?_); (rintro e w' ⟨v, rfl, hva, hbN⟩); (rw [← EQ.out] at hva); (have H1 := HeldQ.next hbN hd); (obtain ⟨_, ⟨p0, p1, p2⟩, ⟨p3, p4, p5⟩⟩ := H1.cells); (obtain ⟨B1, d1, B2, d2, rfl, r1, r2, r3, r4⟩ := FrIn.shape hva))
      | (go_simp; go_at_call 62; (with_reducible refine (rfix_calls _ _ nb lnb ldb (hb.below H1.bl) hsb).mono ?_); (rintro e w'' ⟨v, rfl, hvb, hbM⟩); (rw [← ER.out] at hvb); (have H2 := HeldQ.next hbM H1); (obtain ⟨_, ⟨q0, q1, q2⟩, ⟨q3, q4, q5⟩⟩ := H2.cells); (obtain ⟨B3, d3, B4, d4, rfl, r5, r6, r7, r8⟩ := FrIn.shape hvb); (have qf := H2.2.1.free); (have qg := H2.2.2.free))
      )
    all_goals
      go_wp2
      go_meet
      case rel => first | exact ⟨rfl, box_ab H2 (RdI.below r1 hbM) (RdI.below r2 hbM) r5 r6⟩ | exact ⟨rfl, box_ba H2 (RdI.below r1 hbM) (RdI.below r2 hbM) r5 r6⟩
  case rest =>
    clear H ha hb
    obtain ⟨rfl, A, c, A2, c2, A3, c3, A4, c4, H, f1, f2⟩ := hcut
    obtain ⟨n1, hn1⟩ : ∃ n, n = decide (q.num < 0) := ⟨_, rfl⟩
    obtain ⟨n2, hn2⟩ : ∃ n, n = decide (r.num < 0) := ⟨_, rfl⟩
    obtain ⟨m1, m2⟩ := f1.nms
    obtain ⟨m3, m4⟩ := f2.nms
    have HN1 := Lib.hid hn1
    have HN2 := Lib.hid hn2
    rw [← hn1, ← hn2] at H
    have ya : (dg q.num.natAbs).length ≤ 1073741824 := Nat.le_trans s1.1 (by omega)
    have yb : (dg q.den).length ≤ 1073741824 := Nat.le_trans s1.2 (by omega)
    have yc : (dg r.num.natAbs).length ≤ 1073741824 := Nat.le_trans s2.1 (by omega)
    have yd : (dg r.den).length ≤ 1073741824 := Nat.le_trans s2.2 (by omega)
    clear hn1 hn2 f1 f2 s1 s2
    obtain ⟨_, ⟨j0, j1, j2⟩, ⟨j3, j4, j5⟩⟩ := H.cells
    by_cases hn : n1 = n2
    · subst hn
      have hf := rcmp_flag (q := q) (r := r) (by rw [← HN1.out, ← HN2.out])
      rw [← HN1.out] at hf
      have HF := Lib.hid hf
      have g0 : (n1 != n1) = false := by simp
      have g1 : (!n1 == n1) = false := by simp
      clear hf
      go_wp2_with fail
      have hs := (HeldQ.next (bl_drew _) H).cells
      go_region_held3 (fun w' => HeldQ w 38 (.bool n1) (.slice A (dg q.num.natAbs).length c) (.slice A2 (dg q.den).length c2) (.bool n1) (.slice A3 (dg r.num.natAbs).length c3) (.slice A4 (dg r.den).length c4) w' ∧ (w'.cell? ⟨w.heap.size, 0, none⟩ = some (.bool n1) ∧ w'.cell? ⟨w.heap.size, 1, none⟩ = some (.slice A (dg q.num.natAbs).length c) ∧ w'.cell? ⟨w.heap.size, 2, none⟩ = some (.slice A2 (dg q.den).length c2)) ∧ (w'.cell? ⟨w.heap.size + 1, 0, none⟩ = some (.bool n1) ∧ w'.cell? ⟨w.heap.size + 1, 1, none⟩ = some (.slice A3 (dg r.num.natAbs).length c3) ∧ w'.cell? ⟨w.heap.size + 1, 2, none⟩ = some (.slice A4 (dg r.den).length c4)))
        ((first | exact hs | exact (HeldQ.next hbN (And.left (by assumption))).cells))
        (first
          | (go_at_call 64; (with_reducible refine (rtimes_calls _ _ _ q.num.natAbs r.den ?_ ?_ ya yd).mono ?_); (exact Nm.next (bl_drew _) m1); (exact Nm.next (bl_drew _) m4); (rintro e w' ⟨v, rfl, hv1, hbN⟩); (have hbA := hbN))
          | (go_at_call 64; (with_reducible refine (rtimes_calls _ _ _ r.num.natAbs q.den ?_ ?_ yc yb).mono ?_); (exact Nm.next hbA (Nm.next (bl_drew _) m3)); (exact Nm.next hbA (Nm.next (bl_drew _) m2)); (rintro e w' ⟨v, rfl, hv2, hbN⟩); (have hbB := hbN))
          | (go_at_call 63; (with_reducible refine (rorder_calls _ _ _ (q.num.natAbs * r.den) (r.num.natAbs * q.den) (Nm.next hbB hv1) hv2).mono ?_); (rintro e w' ⟨rfl, hbN⟩); (have H1 := HeldQ.next hbN (And.left (by assumption)))))
      obtain ⟨X, hX⟩ : ∃ X, X = ncmp (q.num.natAbs * r.den) (r.num.natAbs * q.den) := ⟨_, rfl⟩
      have HXX := Lib.hid hX
      have hXb : -1 ≤ X ∧ X ≤ 1 := by
        rw [hX]
        unfold ncmp
        split
        · omega
        · split <;> omega
      have hXa := hXb.1
      have hXc := hXb.2
      rw [← hX]
      clear j0 j1 j2 j3 j4 j5 hX hXb
      obtain ⟨_, ⟨j0, j1, j2⟩, ⟨j3, j4, j5⟩⟩ := H1.cells
      cases n1
      · go_wp2
        go_ret
        exact ⟨by rw [HF.out, ← HXX.out]; rfl, H1.bl⟩
      · go_wp2
        go_ret
        exact ⟨by rw [HF.out, ← HXX.out]; rfl, H1.bl⟩
    · cases n1
      · obtain rfl : n2 = true := by cases n2; · exact absurd rfl hn
                                     · rfl
        have HR := Lib.hid (rcmp_pos_neg (q := q) (r := r) (of_decide_eq_false HN1.out.symm) (of_decide_eq_true HN2.out.symm))
        clear hn
        go_wp2
        go_ret
        exact ⟨by rw [HR.out]; rfl, H.bl⟩
      · obtain rfl : n2 = false := by cases n2; · rfl
                                      · exact absurd rfl hn
        have HR := Lib.hid (rcmp_neg_pos (q := q) (r := r) (of_decide_eq_true HN1.out.symm) (of_decide_eq_false HN2.out.symm))
        clear hn
        go_wp2
        go_ret
        exact ⟨by rw [HR.out]; rfl, H.bl⟩

/-- Two boxes that hold two fractions, and a cell for the result. -/
def BoxB (w : World) (q r : Rat) (wx : World) : Prop := BoxQ w q r wx ∧ ∃ x0 x1 x2, ((∀ n, x0 ≠ .int .u32 n) ∧ (∀ n, x1 ≠ .int .u32 n) ∧ ∀ n, x2 ≠ .int .u32 n) ∧ Blk wx (w.heap.size + 2) 38 #[x0, x1, x2]
theorem boxb_ab {w w1 : World} {q r : Rat} {n1 n2 : Bool} {A A2 A3 A4 B1 B2 B3 B4 : Option Addr} {la l2 l3 l4 c c2 c3 c4 d1 d2 d3 d4 : Nat} (h : HeldB w 38 38 (.bool n1) (.slice A la c) (.slice A2 l2 c2) (.bool n2) (.slice A3 l3 c3) (.slice A4 l4 c4) w1)
    (r1 : RdI .u32 w1 (.slice B1 (dg q.num.natAbs).length d1) (dg q.num.natAbs)) (r2 : RdI .u32 w1 (.slice B2 (dg q.den).length d2) (dg q.den)) (r3 : RdI .u32 w1 (.slice B3 (dg r.num.natAbs).length d3) (dg r.num.natAbs)) (r4 : RdI .u32 w1 (.slice B4 (dg r.den).length d4) (dg r.den)) :
    BoxB w q r ((((((w1.setCell ⟨w.heap.size, 0, none⟩ (.bool (decide (q.num < 0)))).setCell ⟨w.heap.size, 1, none⟩ (.slice B1 (dg q.num.natAbs).length d1)).setCell ⟨w.heap.size, 2, none⟩ (.slice B2 (dg q.den).length d2)).setCell ⟨w.heap.size + 1, 0, none⟩ (.bool (decide (r.num < 0)))).setCell ⟨w.heap.size + 1, 1, none⟩ (.slice B3 (dg r.num.natAbs).length d3)).setCell ⟨w.heap.size + 1, 2, none⟩ (.slice B4 (dg r.den).length d4)) := by
  obtain ⟨h0, h1, h2, x0, x1, x2, h3, h4⟩ := h
  exact ⟨box_ab ⟨h0, h1, h2⟩ r1 r2 r3 r4, x0, x1, x2, h3, (((((h4.other _ _ (by simp)).other _ _ (by simp)).other _ _ (by simp)).other _ _ (by simp)).other _ _ (by simp)).other _ _ (by simp)⟩
theorem boxb_ba {w w1 : World} {q r : Rat} {n1 n2 : Bool} {A A2 A3 A4 B1 B2 B3 B4 : Option Addr} {la l2 l3 l4 c c2 c3 c4 d1 d2 d3 d4 : Nat} (h : HeldB w 38 38 (.bool n1) (.slice A la c) (.slice A2 l2 c2) (.bool n2) (.slice A3 l3 c3) (.slice A4 l4 c4) w1)
    (r1 : RdI .u32 w1 (.slice B1 (dg q.num.natAbs).length d1) (dg q.num.natAbs)) (r2 : RdI .u32 w1 (.slice B2 (dg q.den).length d2) (dg q.den)) (r3 : RdI .u32 w1 (.slice B3 (dg r.num.natAbs).length d3) (dg r.num.natAbs)) (r4 : RdI .u32 w1 (.slice B4 (dg r.den).length d4) (dg r.den)) :
    BoxB w q r ((((((w1.setCell ⟨w.heap.size + 1, 0, none⟩ (.bool (decide (r.num < 0)))).setCell ⟨w.heap.size + 1, 1, none⟩ (.slice B3 (dg r.num.natAbs).length d3)).setCell ⟨w.heap.size + 1, 2, none⟩ (.slice B4 (dg r.den).length d4)).setCell ⟨w.heap.size, 0, none⟩ (.bool (decide (q.num < 0)))).setCell ⟨w.heap.size, 1, none⟩ (.slice B1 (dg q.num.natAbs).length d1)).setCell ⟨w.heap.size, 2, none⟩ (.slice B2 (dg q.den).length d2)) := by
  obtain ⟨h0, h1, h2, x0, x1, x2, h3, h4⟩ := h
  exact ⟨box_ba ⟨h0, h1, h2⟩ r1 r2 r3 r4, x0, x1, x2, h3, (((((h4.other _ _ (by simp)).other _ _ (by simp)).other _ _ (by simp)).other _ _ (by simp)).other _ _ (by simp)).other _ _ (by simp)⟩
theorem inv_parts {q : Rat} (h : q ≠ 0) : decide ((q⁻¹).num < 0) = decide (q.num < 0) ∧ (q⁻¹).num.natAbs = q.den ∧ (q⁻¹).den = q.num.natAbs := by
  have hn0 : q.num ≠ 0 := fun h2 => h (Rat.num_eq_zero.1 h2)
  refine ⟨?_, ?_, by rw [Rat.den_inv, if_neg hn0]⟩
  · rw [Rat.num_inv]
    have hd := q.den_pos
    rcases Int.lt_trichotomy q.num 0 with h | h | h
    · rw [Int.sign_eq_neg_one_of_neg h]; simp [h]; omega
    · exact absurd h hn0
    · rw [Int.sign_eq_one_of_pos h]; simp; omega
  · rw [Rat.num_inv, Int.natAbs_mul]
    rcases Int.lt_trichotomy q.num 0 with h | h | h
    · rw [Int.sign_eq_neg_one_of_neg h]; simp
    · exact absurd h hn0
    · rw [Int.sign_eq_one_of_pos h]; simp
theorem mk_div {q r : Rat} (h : r ≠ 0) : mkRat (sgn (!(decide (q.num < 0) == decide (r.num < 0))) (q.num.natAbs * r.den)) (q.den * r.num.natAbs) = q * r⁻¹ := by
  have h1 := mk_mul q r⁻¹
  obtain ⟨h2, h3, h4⟩ := inv_parts h
  rw [h2, h3, h4] at h1
  exact h1
/-- What is handed back where nothing is told, but a number that says why. -/
def NonePost (n : Int) (w : World) (e : Ending) (w' : World) : Prop := e = .returned (.tuple #[.agg #[.bool false, .slice none 0 0, .slice none 0 0], .int .i64 n]) ∧ Below w.heap.size w w'
theorem mk_whole (n : Int) : mkRat (sgn (decide (n < 0)) n.natAbs) 1 = (n : Rat) := by
  rw [sgn_num]; exact (Rat.mkRat_one n)
theorem rint_calls (w : World) (n : Int) (h0 : -9223372036854775808 ≤ n) (h1 : n ≤ 9223372036854775807) :
    Calls Try.prog 52 #[.int .i64 n] w (FrPost (n : Rat) w) := by
  have hsh : Short (n : Rat) := (int_len h0 h1).short (by omega)
  have hmw := mk_whole n
  obtain ⟨s, hse⟩ : ∃ s, s = (n : Rat) := ⟨_, rfl⟩
  rw [← hse] at hsh hmw ⊢
  have hl : (dg n.natAbs).length ≤ 1073741823 := by
    have h := (int_len h0 h1).1
    rw [Rat.num_intCast] at h
    omega
  have hbl0 := below_alloc0 w (.cells #[.bool false, .slice none 0 0, .slice none 0 0] 38)
  have K := Blk.new w 38 #[.bool false, .slice none 0 0, .slice none 0 0]
  by_cases hn : n < 0
  · rw [decide_eq_true hn] at hmw
    have HM := Lib.hid hmw
    have HS := Lib.hid (show Short (mkRat (sgn true n.natAbs) 1) by rw [hmw]; exact hsh)
    clear hmw hse hsh
    go_enter Try.func52, Try.ntmps52
    go_wp2_with fail
    refine (rwide_calls _ _ n.natAbs ⟨by omega, by omega⟩).mono ?_
    rintro e w1 ⟨v, rfl, hv, hb1⟩
    go_wp2_with fail
    refine (rone_calls _).mono ?_
    rintro e w2 ⟨v2, rfl, hv2, hb2⟩
    go_wp2_with fail
    refine (rlowest_calls _ _ _ n.natAbs 1 true (hv.below hb2) hv2 (by omega) hl (by rw [dg_one]; simp) HS.out).mono ?_
    rintro e w3 ⟨v3, rfl, hfr, hb3⟩
    rw [HM.out] at hfr
    obtain ⟨B1, d1, B2, d2, rfl, r1, r2, r3, r4⟩ := FrIn.shape hfr
    have K3 := ((K.below hb1).below hb2).below hb3
    have hbw := bl_trans (bl_trans (bl_trans hbl0 hb1) hb2) hb3
    have m0 := K3.cell 0
    have m1 := K3.cell 1
    have m2 := K3.cell 2
    have f1 := K3.free
    clear hv hv2 hfr hb1 hb2 hb3 K hbl0
    go_wp2
    exact bodyPost_ret (results_cell_row rfl _ _ w.heap.size 38 _ (0, 0) _ rfl (blk3 K3 _ _ _) Try.underlying38 rfl (by kernel_rfl)) rfl ⟨_, rfl, ⟨_, _, rfl, r1.three m0 m1 m2 (boolne _) (slne _ _ _) (slne _ _ _) _ _ _, r2.three m0 m1 m2 (boolne _) (slne _ _ _) (slne _ _ _) _ _ _, r3, r4⟩, three_below hbw (Nat.le_refl _) _ _ _⟩
  · rw [decide_eq_false hn] at hmw
    have HM := Lib.hid hmw
    have HS := Lib.hid (show Short (mkRat (sgn false n.natAbs) 1) by rw [hmw]; exact hsh)
    clear hmw hse hsh
    go_enter Try.func52, Try.ntmps52
    go_wp2_with fail
    refine (rwide_calls _ _ n.natAbs ⟨by omega, by omega⟩).mono ?_
    rintro e w1 ⟨v, rfl, hv, hb1⟩
    go_wp2_with fail
    refine (rone_calls _).mono ?_
    rintro e w2 ⟨v2, rfl, hv2, hb2⟩
    go_wp2_with fail
    refine (rlowest_calls _ _ _ n.natAbs 1 false (hv.below hb2) hv2 (by omega) hl (by rw [dg_one]; simp) HS.out).mono ?_
    rintro e w3 ⟨v3, rfl, hfr, hb3⟩
    rw [HM.out] at hfr
    obtain ⟨B1, d1, B2, d2, rfl, r1, r2, r3, r4⟩ := FrIn.shape hfr
    have K3 := ((K.below hb1).below hb2).below hb3
    have hbw := bl_trans (bl_trans (bl_trans hbl0 hb1) hb2) hb3
    have m0 := K3.cell 0
    have m1 := K3.cell 1
    have m2 := K3.cell 2
    have f1 := K3.free
    clear hv hv2 hfr hb1 hb2 hb3 K hbl0
    go_wp2
    exact bodyPost_ret (results_cell_row rfl _ _ w.heap.size 38 _ (0, 0) _ rfl (blk3 K3 _ _ _) Try.underlying38 rfl (by kernel_rfl)) rfl ⟨_, rfl, ⟨_, _, rfl, r1.three m0 m1 m2 (boolne _) (slne _ _ _) (slne _ _ _) _ _ _, r2.three m0 m1 m2 (boolne _) (slne _ _ _) (slne _ _ _) _ _ _, r3, r4⟩, three_below hbw (Nat.le_refl _) _ _ _⟩
end Go.Proofs.Ytajckdheecgceaa
