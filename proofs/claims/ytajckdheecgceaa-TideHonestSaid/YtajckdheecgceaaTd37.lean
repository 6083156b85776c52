/- Tides: what one has by what a report brings. -/
import Derived.Test.YtajckdheecgceaaTd28
set_option linter.unusedVariables false
set_option linter.unusedSimpArgs false
namespace Go.Proofs.Ytajckdheecgceaa
open Go.RowKit

/-- What one has by what a report brings. -/
def hasq (a : Rat) (d : Int) (p : Rat) : Rat := (if d = 0 then 0 else a) + -p
theorem hasq_szq {k : Nat} {a p : Rat} (ha : Szq k a) (hp : Szq k p) (hk : 1 ≤ k) (d : Int) : Szq (2 * k + 1) (hasq a d p) := by
  unfold hasq
  by_cases h : d = 0
  · rw [if_pos h]; exact (szq_add (szq_zero k hk) (szq_neg hp)).mono (by omega)
  · rw [if_neg h]; exact (szq_add ha (szq_neg hp)).mono (by omega)
theorem FrQ.shape {w : World} {v : Value} {q : Rat} (h : FrQ w v q) : ∃ b A n c A2 n2 c2, v = .agg #[.bool b, .slice A n c, .slice A2 n2 c2] := by
  obtain ⟨neg, ln, ld, h1, _, _⟩ := h
  obtain ⟨A, c, A2, c2, rfl, _⟩ := h1.shape
  exact ⟨_, _, _, _, _, _, _, rfl⟩
set_option maxRecDepth 100000 in
set_option maxHeartbeats 4000000 in
theorem rhas_calls (w : World) (va vp : Value) (a p : Rat) (d : Int) (ha : FrQ w va a) (hp : FrQ w vp p) (hs : Short (hasq a d p)) :
    Calls Try.prog 69 #[va, .int .i64 d, vp] w (FrPost (hasq a d p) w) := by
  obtain ⟨s, hse⟩ : ∃ s, s = hasq a d p := ⟨_, rfl⟩
  rw [← hse] at hs ⊢
  have HSH := Lib.hid hs
  have HA := Lib.hid ha
  have HP := Lib.hid hp
  obtain ⟨na, A, n, c, A2, n2, c2, rfl⟩ := ha.shape
  obtain ⟨nb, A3, n3, c3, A4, n4, c4, rfl⟩ := hp.shape
  have H := heldB_new w 38 38 (.bool na) (.slice A n c) (.slice A2 n2 c2) (.bool nb) (.slice A3 n3 c3) (.slice A4 n4 c4) (.bool false) (.slice none 0 0) (.slice none 0 0) (boolne _) (slne _ _ _) (slne _ _ _)
  clear ha hp hs
  by_cases hd : d = 0
  · have g1 : ((d : Int) == 0) = true := by rw [hd]; rfl
    have HE := Lib.hid (show (0 : Rat) + -p = s by rw [hse]; unfold hasq; rw [if_pos hd])
    clear hse hd
    go_enter Try.func69, Try.ntmps69
    go_wp2_with fail
    have hs := (HeldB.next (bl_drew _) H).cells
    go_region_held3 (fun w' => HeldB w 38 38 (.bool na) (.slice A n c) (.slice A2 n2 c2) (.bool nb) (.slice A3 n3 c3) (.slice A4 n4 c4) w' ∧ (w'.cell? ⟨w.heap.size, 0, none⟩ = some (.bool na) ∧ w'.cell? ⟨w.heap.size, 1, none⟩ = some (.slice A n c) ∧ w'.cell? ⟨w.heap.size, 2, none⟩ = some (.slice A2 n2 c2)) ∧ (w'.cell? ⟨w.heap.size + 1, 0, none⟩ = some (.bool nb) ∧ w'.cell? ⟨w.heap.size + 1, 1, none⟩ = some (.slice A3 n3 c3) ∧ w'.cell? ⟨w.heap.size + 1, 2, none⟩ = some (.slice A4 n4 c4)))
      ((first | exact hs | exact (HeldB.set H1 _ _ _ (boolne _) (slne _ _ _) (slne _ _ _)).cells | exact (HeldB.next hbN (And.left (by assumption))).cells))
      (first
        | (go_at_call 52; (with_reducible refine (rint_calls _ 0 (by omega) (by omega)).mono ?_); (rintro e w' ⟨v, rfl, hva, hbN⟩))
        | (go_at_call 66; (with_reducible refine (rsubq _ _ _ 0 p ?_ ?_ (by rw [HE.out]; exact HSH.out)).mono ?_); (exact (FrV.below hva (by first | exact hbN | exact Below.refl _ _)).q ((szq_zero 1 (by omega)).short (by omega))); (exact HP.out.below (HeldB.bl (And.left (by assumption)))); (rintro e w' ⟨v, rfl, hfr, hbN⟩); (rw [HE.out] at hfr); (obtain ⟨B1, d1, B2, d2, rfl, r1, r2, r3, r4⟩ := FrIn.shape hfr); (have H1 := HeldB.next hbN (And.left (by assumption))); (obtain ⟨⟨x0, x1, x2, m0, m1, m2⟩, f1⟩ := H1.store)))
    go_wp2
    obtain ⟨t1, t2⟩ := H1.res (.bool (decide (s.num < 0))) (.slice B1 (dg s.num.natAbs).length d1) (.slice B2 (dg s.den).length d2)
    exact bodyPost_ret (results_cell_row rfl _ _ (w.heap.size + 2) 38 _ (0, 0) _ rfl t2 Try.underlying38 rfl (by kernel_rfl)) rfl ⟨_, rfl, ⟨_, _, rfl, H1.kept r1 _ _ _, H1.kept r2 _ _ _, r3, r4⟩, t1⟩
  · have g1 : ((d : Int) == 0) = false := beq_eq_false_iff_ne.2 hd
    have HE := Lib.hid (show a + -p = s by rw [hse]; unfold hasq; rw [if_neg hd])
    clear hse hd
    have hq1 := HA.out.below H.bl
    have hq2 := HP.out.below H.bl
    have hc := H.cells
    obtain ⟨_, ⟨e0, e1, e2⟩, ⟨e3, e4, e5⟩⟩ := hc
    go_enter Try.func69, Try.ntmps69
    go_wp2_with fail
    refine (rsubq _ _ _ a p hq1 hq2 (by rw [HE.out]; exact HSH.out)).mono ?_
    rintro e w' ⟨v, rfl, hfr, hbN⟩
    rw [HE.out] at hfr
    obtain ⟨B1, d1, B2, d2, rfl, r1, r2, r3, r4⟩ := FrIn.shape hfr
    have H1 := HeldB.next hbN H
    obtain ⟨⟨x0, x1, x2, m0, m1, m2⟩, f1⟩ := H1.store
    clear e0 e1 e2 e3 e4 e5 hq1 hq2 H
    go_wp2
    obtain ⟨t1, t2⟩ := H1.res (.bool (decide (s.num < 0))) (.slice B1 (dg s.num.natAbs).length d1) (.slice B2 (dg s.den).length d2)
    exact bodyPost_ret (results_cell_row rfl _ _ (w.heap.size + 2) 38 _ (0, 0) _ rfl t2 Try.underlying38 rfl (by kernel_rfl)) rfl ⟨_, rfl, ⟨_, _, rfl, H1.kept r1 _ _ _, H1.kept r2 _ _ _, r3, r4⟩, t1⟩

/-- A report that brings what it can not. -/
def badR (T : Td) (dd : Nat → Int) (i : Nat) : Prop := T.come i < 1 ∨ T.go i < T.come i ∨ (dd i ≠ 0 ∧ ¬ (T.come i ≤ dd i ∧ dd i ≤ T.go i))
/-- A report k that gains in the place of i. -/
def lieB (T : Td) (dd : Nat → Int) (pp : Nat → Rat) (i k : Nat) : Prop := k ≠ i ∧ (T.come i ≤ T.come k ∧ T.go k ≤ T.go i) ∧ hasq (T.q i) (dd i) (pp i) < hasq (T.q i) (dd k) (pp k)
/-- The first one. -/
def FirstL (T : Td) (dd : Nat → Int) (pp : Nat → Rat) (i k : Nat) : Prop := i < T.n ∧ k < T.n ∧ lieB T dd pp i k ∧ (∀ k', k' < k → ¬ lieB T dd pp i k') ∧ ∀ i', i' < i → ∀ k', k' < T.n → ¬ lieB T dd pp i' k'
def HonR (T : Td) (dd : Nat → Int) (pp : Nat → Rat) (ok : Prop) (x y : Int) (b : Bool) : Prop :=
  (¬ ok ∧ x = -1 ∧ y = -1 ∧ b = false) ∨ (ok ∧ ((∃ i k : Nat, x = (i : Int) ∧ y = (k : Int) ∧ b = false ∧ FirstL T dd pp i k) ∨ (x = -1 ∧ y = -1 ∧ b = true ∧ ∀ i, i < T.n → ∀ k, k < T.n → ¬ lieB T dd pp i k)))
theorem FirstL.det {T : Td} {dd : Nat → Int} {pp : Nat → Rat} {i k i' k' : Nat} (h : FirstL T dd pp i k) (h' : FirstL T dd pp i' k') : i = i' ∧ k = k' := by
  obtain ⟨a1, a2, a3, a4, a5⟩ := h
  obtain ⟨b1, b2, b3, b4, b5⟩ := h'
  have hi : i = i' := by
    rcases Nat.lt_trichotomy i i' with h | h | h
    · exact absurd a3 (b5 i h k a2)
    · exact h
    · exact absurd b3 (a5 i' h k' b2)
  subst hi
  refine ⟨rfl, ?_⟩
  rcases Nat.lt_trichotomy k k' with h | h | h
  · exact absurd a3 (b4 k h)
  · exact h
  · exact absurd b3 (a4 k' h)
theorem HonR.det {T : Td} {dd : Nat → Int} {pp : Nat → Rat} {ok : Prop} {x y x' y' : Int} {b b' : Bool} (h : HonR T dd pp ok x y b) (h' : HonR T dd pp ok x' y' b') : x = x' ∧ y = y' ∧ b = b' := by
  rcases h with ⟨n, rfl, rfl, rfl⟩ | ⟨o, h⟩
  · rcases h' with ⟨_, rfl, rfl, rfl⟩ | ⟨o', _⟩
    · exact ⟨rfl, rfl, rfl⟩
    · exact absurd o' n
  · rcases h' with ⟨n, _⟩ | ⟨_, h'⟩
    · exact absurd o n
    rcases h with ⟨i, k, rfl, rfl, rfl, f⟩ | ⟨rfl, rfl, rfl, f⟩
    · rcases h' with ⟨i', k', rfl, rfl, rfl, f'⟩ | ⟨_, _, _, f'⟩
      · obtain ⟨rfl, rfl⟩ := f.det f'
        exact ⟨rfl, rfl, rfl⟩
      · exact absurd f.2.2.1 (f' i f.1 k f.2.1)
    · rcases h' with ⟨i', k', _, _, _, f'⟩ | ⟨rfl, rfl, rfl, _⟩
      · exact absurd f'.2.2.1 (f i' f'.1 k' f'.2.1)
      · exact ⟨rfl, rfl, rfl⟩
def ppay (P : List (Bool × List Int × List Int)) (i : Nat) : Rat := fqd (P.getD i (dq 0))
theorem ppay_at {P : List (Bool × List Int × List Int)} {i : Nat} {p : Bool × List Int × List Int} (h : P[i]? = some p) : ppay P i = fqd p := by unfold ppay; rw [List.getD_eq_getElem?_getD, h]; rfl
/-- A table that is one. -/
def okH (L : List VD) (dl : List Int) (P : List (Bool × List Int × List Int)) : Prop := L.length ≤ 12 ∧ dl.length = L.length ∧ P.length = L.length ∧ ∀ i, i < L.length → ¬ badR (tdOf L) (pday dl) i
/-- What Honest tells. -/
def HonP (L : List VD) (dl : List Int) (P : List (Bool × List Int × List Int)) (w : World) (e : Ending) (w' : World) : Prop := ∃ (x y : Int) (b : Bool), e = .returned (.tuple #[.int .i64 x, .int .i64 y, .bool b]) ∧ HonR (tdOf L) (pday dl) (ppay P) (okH L dl P) x y b ∧ Below w.heap.size w w'
theorem HonR.no {T : Td} {dd : Nat → Int} {pp : Nat → Rat} {ok : Prop} (h : ¬ ok) : HonR T dd pp ok (-1) (-1) false := .inl ⟨h, rfl, rfl, rfl⟩
theorem few_szp {P : List (Bool × List Int × List Int)} {n k : Nat} (hn : 1 ≤ n) (hf : FewD n P) (hw : ∀ d ∈ P, Wd d.2.1 ∧ Wd d.2.2) {p : Bool × List Int × List Int} (h : P[k]? = some p) : Szq n (fqd p) := by
  have hm := List.mem_of_getElem? h
  exact szq_fix (hw p hm).1 (hw p hm).2 (hf p hm).1 (hf p hm).2 hn
theorem few_szv {L : List VD} {n k : Nat} (hn : 1 ≤ n) (hf : FewV n L) (hw : ∀ d ∈ L, Wd d.2.2.2.1 ∧ Wd d.2.2.2.2) {x : VD} (h : L[k]? = some x) : Szq n (fqd x.2.2) := by
  have hm := List.mem_of_getElem? h
  exact szq_fix (hw x hm).1 (hw x hm).2 (hf x hm).1 (hf x hm).2 hn
open Go in
section
variable {P : Program} {md : Region.Mode} {ops : Array Oper} {Q : Exit → Act → World → Prop} {S : World → Prop} {z : Nat}
/-- Numbers i and j are the only ones that may come up. -/
theorem wpAnyT_two {i j : Nat} {o o' : Oper} {fuel : Nat} {listed : Array Bool} {a : Act} {w : World} (ho : ops[i]? = some o) (ho' : ops[j]? = some o') (hr : Region.ready md ops listed = [i, j]) (hg : o.guard = none) (hg' : o'.guard = none)
    (h : ∀ K : Act → World → Prop, Hid (∀ a w, (i ≠ z → S w) → wpAnyT P md ops Q S z fuel (listed.setIfInBounds i true) a w → K a w) → Oper.wp P o a w K Q)
    (h' : ∀ K : Act → World → Prop, Hid (∀ a w, (j ≠ z → S w) → wpAnyT P md ops Q S z fuel (listed.setIfInBounds j true) a w → K a w) → Oper.wp P o' a w K Q) : wpAnyT P md ops Q S z (fuel + 1) listed a w := by
  refine ⟨fun h0 => (by rw [hr] at h0; cases h0), fun k hk => ?_⟩
  rw [hr] at hk
  rcases (by simpa using hk : k = i ∨ k = j) with rfl | rfl
  · unfold wpOp
    rw [ho]
    have hw : Region.wanted o (yielded ops a.tmps) = true := by simp [Region.wanted, hg]
    simp only [hw, if_true]
    exact Or.inl (h _ (Lib.hid (fun a w h1 h2 => ⟨h1, h2⟩)))
  · unfold wpOp
    rw [ho']
    have hw : Region.wanted o' (yielded ops a.tmps) = true := by simp [Region.wanted, hg']
    simp only [hw, if_true]
    exact Or.inl (h' _ (Lib.hid (fun a w h1 h2 => ⟨h1, h2⟩)))
end
theorem tc6_next {w w1 w2 : World} {a0 a1 a2 a3 a4 a5 : Addr} {x0 x1 x2 x3 x4 x5 : Value} (hb : Below w1.heap.size w1 w2) (h : Below w.heap.size w w1 ∧ w1.cell? a0 = some x0 ∧ w1.cell? a1 = some x1 ∧ w1.cell? a2 = some x2 ∧ w1.cell? a3 = some x3 ∧ w1.cell? a4 = some x4 ∧ w1.cell? a5 = some x5) : Below w.heap.size w w2 ∧ w2.cell? a0 = some x0 ∧ w2.cell? a1 = some x1 ∧ w2.cell? a2 = some x2 ∧ w2.cell? a3 = some x3 ∧ w2.cell? a4 = some x4 ∧ w2.cell? a5 = some x5 := by
  obtain ⟨h, e0, e1, e2, e3, e4, e5⟩ := h
  exact ⟨bl_trans h hb, cell_below hb e0, cell_below hb e1, cell_below hb e2, cell_below hb e3, cell_below hb e4, cell_below hb e5⟩
theorem tc9_next {w w1 w2 : World} {a0 a1 a2 a3 a4 a5 a6 a7 a8 : Addr} {x0 x1 x2 x3 x4 x5 x6 x7 x8 : Value} (hb : Below w1.heap.size w1 w2) (h : Below w.heap.size w w1 ∧ w1.cell? a0 = some x0 ∧ w1.cell? a1 = some x1 ∧ w1.cell? a2 = some x2 ∧ w1.cell? a3 = some x3 ∧ w1.cell? a4 = some x4 ∧ w1.cell? a5 = some x5 ∧ w1.cell? a6 = some x6 ∧ w1.cell? a7 = some x7 ∧ w1.cell? a8 = some x8) : Below w.heap.size w w2 ∧ w2.cell? a0 = some x0 ∧ w2.cell? a1 = some x1 ∧ w2.cell? a2 = some x2 ∧ w2.cell? a3 = some x3 ∧ w2.cell? a4 = some x4 ∧ w2.cell? a5 = some x5 ∧ w2.cell? a6 = some x6 ∧ w2.cell? a7 = some x7 ∧ w2.cell? a8 = some x8 := by
  obtain ⟨h, e0, e1, e2, e3, e4, e5, e6, e7, e8⟩ := h
  exact ⟨bl_trans h hb, cell_below hb e0, cell_below hb e1, cell_below hb e2, cell_below hb e3, cell_below hb e4, cell_below hb e5, cell_below hb e6, cell_below hb e7, cell_below hb e8⟩
theorem tc17_next {w w1 w2 : World} {a0 a1 a2 a3 a4 a5 a6 a7 a8 a9 a10 a11 a12 a13 a14 a15 a16 : Addr} {x0 x1 x2 x3 x4 x5 x6 x7 x8 x9 x10 x11 x12 x13 x14 x15 x16 : Value} (hb : Below w1.heap.size w1 w2) (h : Below w.heap.size w w1 ∧ w1.cell? a0 = some x0 ∧ w1.cell? a1 = some x1 ∧ w1.cell? a2 = some x2 ∧ w1.cell? a3 = some x3 ∧ w1.cell? a4 = some x4 ∧ w1.cell? a5 = some x5 ∧ w1.cell? a6 = some x6 ∧ w1.cell? a7 = some x7 ∧ w1.cell? a8 = some x8 ∧ w1.cell? a9 = some x9 ∧ w1.cell? a10 = some x10 ∧ w1.cell? a11 = some x11 ∧ w1.cell? a12 = some x12 ∧ w1.cell? a13 = some x13 ∧ w1.cell? a14 = some x14 ∧ w1.cell? a15 = some x15 ∧ w1.cell? a16 = some x16) : Below w.heap.size w w2 ∧ w2.cell? a0 = some x0 ∧ w2.cell? a1 = some x1 ∧ w2.cell? a2 = some x2 ∧ w2.cell? a3 = some x3 ∧ w2.cell? a4 = some x4 ∧ w2.cell? a5 = some x5 ∧ w2.cell? a6 = some x6 ∧ w2.cell? a7 = some x7 ∧ w2.cell? a8 = some x8 ∧ w2.cell? a9 = some x9 ∧ w2.cell? a10 = some x10 ∧ w2.cell? a11 = some x11 ∧ w2.cell? a12 = some x12 ∧ w2.cell? a13 = some x13 ∧ w2.cell? a14 = some x14 ∧ w2.cell? a15 = some x15 ∧ w2.cell? a16 = some x16 := by
  obtain ⟨h, e0, e1, e2, e3, e4, e5, e6, e7, e8, e9, e10, e11, e12, e13, e14, e15, e16⟩ := h
  exact ⟨bl_trans h hb, cell_below hb e0, cell_below hb e1, cell_below hb e2, cell_below hb e3, cell_below hb e4, cell_below hb e5, cell_below hb e6, cell_below hb e7, cell_below hb e8, cell_below hb e9, cell_below hb e10, cell_below hb e11, cell_below hb e12, cell_below hb e13, cell_below hb e14, cell_below hb e15, cell_below hb e16⟩
set_option maxRecDepth 100000 in
set_option maxHeartbeats 16000000 in
theorem rhonest_calls (w : World) (A B C : Option Addr) (c cb cp : Nat) (L : List VD) (dl : List Int) (P : List (Bool × List Int × List Int)) (h : VL w (.slice A L.length c) L) (g : IL w (.slice B dl.length cb) dl) (f : FL w (.slice C P.length cp) P) (hf : FewV 1000 L) (hf2 : FewD 1000 P) :
    Calls Try.prog 33 #[.slice A L.length c, .slice B dl.length cb, .slice C P.length cp] w (HonP L dl P w) := by
  have HV := Lib.hid h
  have HD := Lib.hid g
  have HP := Lib.hid f
  have hcc := h.bounds
  have hcb := g.bounds
  have HF := Lib.hid hf
  have HF2 := Lib.hid hf2
  have HWD := Lib.hid h.wd
  have HWP := Lib.hid f.wd
  clear h g f hf hf2
  go_enter Try.func33, Try.ntmps33
  by_cases h12 : 12 < L.length
  · have g1 : decide ((12 : Int) < (L.length : Int)) = true := decide_eq_true (by omega)
    have g2 : (12 : Int) < (L.length : Int) := by omega
    have HN := Lib.hid (show ¬ okH L dl P from fun h => by have := h.1; omega)
    clear h12
    go_wp2
    go_ret3
    exact ⟨-1, -1, false, rfl, .no HN.out, Below.refl _ _⟩
  have g1 : decide ((12 : Int) < (L.length : Int)) = false := decide_eq_false (by omega)
  have g2 : ¬ (12 : Int) < (L.length : Int) := by omega
  by_cases hd : dl.length = L.length
  case neg =>
    have g3 : ((dl.length : Int) != (L.length : Int)) = true := bne_iff_ne.2 (by omega)
    have HN := Lib.hid (show ¬ okH L dl P from fun h => hd h.2.1)
    clear hd
    go_wp2
    go_ret3
    exact ⟨-1, -1, false, rfl, .no HN.out, Below.refl _ _⟩
  have g3 : ((dl.length : Int) != (L.length : Int)) = false := by rw [hd]; simp
  by_cases hp : P.length = L.length
  case neg =>
    have g4 : ((P.length : Int) != (L.length : Int)) = true := bne_iff_ne.2 (by omega)
    have HN := Lib.hid (show ¬ okH L dl P from fun h => hp h.2.2.1)
    clear hp
    go_wp2
    go_ret3
    exact ⟨-1, -1, false, rfl, .no HN.out, Below.refl _ _⟩
  have g4 : ((P.length : Int) != (L.length : Int)) = false := by rw [hp]; simp
  have HDL := Lib.hid hd
  have HPL := Lib.hid hp
  clear hd hp
  go_wp2
  clear g1 g2 g3 g4
  go_loopw [10] (fun i wr => ∃ k : Nat, k ≤ L.length ∧ i = .int .i64 (k : Int) ∧ Below w.heap.size w wr ∧ ∀ j, j < k → ¬ badR (tdOf L) (pday dl) j) (fun i _ => L.length - (intOf i).toNat)
  case atStart => exact ⟨0, by omega, rfl, Below.refl _ _, fun j hj => by omega⟩
  case round =>
    obtain ⟨k, hk, rfl, hb, hgood⟩ := hrel
    have HB := Lib.hid hb
    have HG := Lib.hid hgood
    clear hgood
    by_cases hx : k < L.length
    · obtain ⟨x, hx1⟩ : ∃ x, L[k]? = some x := ⟨_, List.getElem?_eq_getElem hx⟩
      obtain ⟨d, hd1⟩ : ∃ d, dl[k]? = some d := ⟨_, List.getElem?_eq_getElem (by have := HDL.out; omega)⟩
      obtain ⟨ad, A1, a1, A2, a2, rfl, e0, e1, e2, e3, e4, hfx⟩ := (HV.out.below hb).at hx1
      obtain ⟨bd, rfl, d0⟩ := (HD.out.below hb).at hd1
      have q1 : (k : Int) < (L.length : Int) := by omega
      have q2 : (k : Int) < (dl.length : Int) := by have := HDL.out; omega
      have hs : (fun (w' : World) => Below wr.heap.size wr w' ∧ w'.cell? (ad.add (k * 5)) = some (.int .i64 x.1) ∧ w'.cell? ⟨(ad.add (k * 5)).block, (ad.add (k * 5)).off + 1, none⟩ = some (.int .i64 x.2.1) ∧ w'.cell? ⟨(ad.add (k * 5)).block, (ad.add (k * 5)).off + 2, none⟩ = some (.bool x.2.2.1) ∧ w'.cell? ⟨(ad.add (k * 5)).block, (ad.add (k * 5)).off + 3, none⟩ = some (.slice A1 x.2.2.2.1.length a1) ∧ w'.cell? ⟨(ad.add (k * 5)).block, (ad.add (k * 5)).off + 4, none⟩ = some (.slice A2 x.2.2.2.2.length a2) ∧ w'.cell? (bd.add k) = some (.int .i64 d)) wr.drew := tc6_next (bl_drew wr) ⟨Below.refl _ _, e0, e1, e2, e3, e4, d0⟩
      have HS := Lib.hid hs
      have hbad : badR (tdOf L) (pday dl) k ↔ (x.1 < 1 ∨ x.2.1 < x.1 ∨ (d ≠ 0 ∧ ¬ (x.1 ≤ d ∧ d ≤ x.2.1))) := by
        unfold badR
        rw [(tdOf_at hx1).1, (tdOf_at hx1).2.1, pday_at hd1]
      obtain ⟨bb, hbb⟩ : ∃ b : Bool, b = decide (x.1 < 1 ∨ x.2.1 < x.1 ∨ (d ≠ 0 ∧ ¬ (x.1 ≤ d ∧ d ≤ x.2.1))) := ⟨_, rfl⟩
      have HBAD := Lib.hid hbad
      have HBB := Lib.hid hbb
      have HXL := Lib.hid hx
      clear hb hx1 hd1 hfx e0 e1 e2 e3 e4 d0 hs hbad hbb
      go_upto_region 7 with fail
      go_cut [72] (fun t72 wx => t72 = .bool bb ∧ Below wr.heap.size wr wx)
      case first =>
        have hS0 := HS.out
        have hbb := HBB.out
        by_cases h1 : x.1 < 1
        · have g1 : decide (x.1 < 1) = true := decide_eq_true h1
          obtain rfl : bb = true := by rw [hbb]; exact decide_eq_true (.inl h1)
          clear h1 hbb
          go_wp2_with fail
          have hS := hS0
          refine wp_region_held_drew (S := fun (w' : World) => Below wr.heap.size wr w' ∧ w'.cell? (ad.add (k * 5)) = some (.int .i64 x.1) ∧ w'.cell? ⟨(ad.add (k * 5)).block, (ad.add (k * 5)).off + 1, none⟩ = some (.int .i64 x.2.1) ∧ w'.cell? ⟨(ad.add (k * 5)).block, (ad.add (k * 5)).off + 2, none⟩ = some (.bool x.2.2.1) ∧ w'.cell? ⟨(ad.add (k * 5)).block, (ad.add (k * 5)).off + 3, none⟩ = some (.slice A1 x.2.2.2.1.length a1) ∧ w'.cell? ⟨(ad.add (k * 5)).block, (ad.add (k * 5)).off + 4, none⟩ = some (.slice A2 x.2.2.2.2.length a2) ∧ w'.cell? (bd.add k) = some (.int .i64 d)) (by kernel_rfl) hS (fun _ => ?_)
          simp only [List.size_toArray, List.length_cons, List.length_nil, Nat.reduceAdd]
          refine wpAnyH_takeD 0 (some 35) (v := ?vh1_0) rfl rfl (by kernel_rfl) (by kernel_rfl) (by kernel_rfl) (fun _ _ _ h => h) (.inl ⟨by kernel_rfl, ?hyh1_0⟩) hS ?resth1_0
          case hyh1_0 => (intro w hSw; (try dsimp only at hSw); go_simp; (try with_reducible rfl))
          (try simp only [Act.put, List.setIfInBounds_toArray, List.set_cons_zero, List.set_cons_succ])
          refine wpAnyH_takeD 1 (some 36) (v := ?vh1_1) rfl rfl (by kernel_rfl) (by kernel_rfl) (by kernel_rfl) (fun _ _ _ h => h) (.inl ⟨by kernel_rfl, ?hyh1_1⟩) hS ?resth1_1
          case hyh1_1 => (intro w hSw; (try dsimp only at hSw); go_simp; (try with_reducible rfl))
          (try simp only [Act.put, List.setIfInBounds_toArray, List.set_cons_zero, List.set_cons_succ])
          refine wpAnyH_takeD 2 (some 37) (v := ?vh1_2) rfl rfl (by kernel_rfl) (by kernel_rfl) (by kernel_rfl) (fun _ _ _ h => h) (.inl ⟨by kernel_rfl, ?hyh1_2⟩) hS ?resth1_2
          case hyh1_2 => (intro w hSw; (try dsimp only at hSw); go_simp; (try with_reducible rfl))
          (try simp only [Act.put, List.setIfInBounds_toArray, List.set_cons_zero, List.set_cons_succ])
          refine wpAnyH_takeD 3 (some 38) (v := ?vh1_3) rfl rfl (by kernel_rfl) (by kernel_rfl) (by kernel_rfl) (fun _ _ _ h => h) (.inl ⟨by kernel_rfl, ?hyh1_3⟩) hS ?resth1_3
          case hyh1_3 => (intro w hSw; (try dsimp only at hSw); go_simp; (try with_reducible rfl))
          (try simp only [Act.put, List.setIfInBounds_toArray, List.set_cons_zero, List.set_cons_succ])
          refine wpAnyH_takeD 4 (some 39) (v := ?vh1_4) rfl rfl (by kernel_rfl) (by kernel_rfl) (by kernel_rfl) (fun _ _ _ h => h) (.inl ⟨by kernel_rfl, ?hyh1_4⟩) hS ?resth1_4
          case hyh1_4 => (intro w hSw; (try dsimp only at hSw); go_simp; (try with_reducible rfl))
          (try simp only [Act.put, List.setIfInBounds_toArray, List.set_cons_zero, List.set_cons_succ])
          refine wpAnyH_takeD 5 (some 40) (v := ?vh1_5) rfl rfl (by kernel_rfl) (by kernel_rfl) (by kernel_rfl) (fun _ _ _ h => h) (.inl ⟨by kernel_rfl, ?hyh1_5⟩) hS ?resth1_5
          case hyh1_5 => (intro w hSw; (try dsimp only at hSw); go_simp; (try with_reducible rfl))
          (try simp only [Act.put, List.setIfInBounds_toArray, List.set_cons_zero, List.set_cons_succ])
          refine wpAnyH_takeD 6 (some 41) (v := ?vh1_6) rfl rfl (by kernel_rfl) (by kernel_rfl) (by kernel_rfl) (fun _ _ _ h => h) (.inl ⟨by kernel_rfl, ?hyh1_6⟩) hS ?resth1_6
          case hyh1_6 => (intro w hSw; (try dsimp only at hSw); go_simp; (try with_reducible rfl))
          (try simp only [Act.put, List.setIfInBounds_toArray, List.set_cons_zero, List.set_cons_succ])
          refine wpAnyH_takeD 7 (some 42) (v := undef) rfl rfl (by kernel_rfl) (by kernel_rfl) (by kernel_rfl) (fun _ _ _ h => h) (.inr ⟨by kernel_rfl, rfl⟩) hS ?_
          (try simp only [Act.put, List.setIfInBounds_toArray, List.set_cons_zero, List.set_cons_succ])
          refine wpAnyH_takeD 8 (some 43) (v := undef) rfl rfl (by kernel_rfl) (by kernel_rfl) (by kernel_rfl) (fun _ _ _ h => h) (.inr ⟨by kernel_rfl, rfl⟩) hS ?_
          (try simp only [Act.put, List.setIfInBounds_toArray, List.set_cons_zero, List.set_cons_succ])
          refine wpAnyH_takeD 9 (some 44) (v := undef) rfl rfl (by kernel_rfl) (by kernel_rfl) (by kernel_rfl) (fun _ _ _ h => h) (.inr ⟨by kernel_rfl, rfl⟩) hS ?_
          (try simp only [Act.put, List.setIfInBounds_toArray, List.set_cons_zero, List.set_cons_succ])
          refine wpAnyH_takeD 10 (some 45) (v := undef) rfl rfl (by kernel_rfl) (by kernel_rfl) (by kernel_rfl) (fun _ _ _ h => h) (.inr ⟨by kernel_rfl, rfl⟩) hS ?_
          (try simp only [Act.put, List.setIfInBounds_toArray, List.set_cons_zero, List.set_cons_succ])
          refine wpAnyH_takeD 11 (some 46) (v := undef) rfl rfl (by kernel_rfl) (by kernel_rfl) (by kernel_rfl) (fun _ _ _ h => h) (.inr ⟨by kernel_rfl, rfl⟩) hS ?_
          (try simp only [Act.put, List.setIfInBounds_toArray, List.set_cons_zero, List.set_cons_succ])
          refine wpAnyH_takeD 12 (some 47) (v := undef) rfl rfl (by kernel_rfl) (by kernel_rfl) (by kernel_rfl) (fun _ _ _ h => h) (.inr ⟨by kernel_rfl, rfl⟩) hS ?_
          (try simp only [Act.put, List.setIfInBounds_toArray, List.set_cons_zero, List.set_cons_succ])
          refine wpAnyH_takeD 13 (some 48) (v := undef) rfl rfl (by kernel_rfl) (by kernel_rfl) (by kernel_rfl) (fun _ _ _ h => h) (.inr ⟨by kernel_rfl, rfl⟩) hS ?_
          (try simp only [Act.put, List.setIfInBounds_toArray, List.set_cons_zero, List.set_cons_succ])
          refine wpAnyH_takeD 14 (some 49) (v := undef) rfl rfl (by kernel_rfl) (by kernel_rfl) (by kernel_rfl) (fun _ _ _ h => h) (.inr ⟨by kernel_rfl, rfl⟩) hS ?_
          (try simp only [Act.put, List.setIfInBounds_toArray, List.set_cons_zero, List.set_cons_succ])
          refine wpAnyH_takeD 15 (some 50) (v := undef) rfl rfl (by kernel_rfl) (by kernel_rfl) (by kernel_rfl) (fun _ _ _ h => h) (.inr ⟨by kernel_rfl, rfl⟩) hS ?_
          (try simp only [Act.put, List.setIfInBounds_toArray, List.set_cons_zero, List.set_cons_succ])
          refine wpAnyH_takeD 16 (some 51) (v := undef) rfl rfl (by kernel_rfl) (by kernel_rfl) (by kernel_rfl) (fun _ _ _ h => h) (.inr ⟨by kernel_rfl, rfl⟩) hS ?_
          (try simp only [Act.put, List.setIfInBounds_toArray, List.set_cons_zero, List.set_cons_succ])
          refine wpAnyH_takeD 17 (some 52) (v := undef) rfl rfl (by kernel_rfl) (by kernel_rfl) (by kernel_rfl) (fun _ _ _ h => h) (.inr ⟨by kernel_rfl, rfl⟩) hS ?_
          (try simp only [Act.put, List.setIfInBounds_toArray, List.set_cons_zero, List.set_cons_succ])
          refine wpAnyH_takeD 18 (some 53) (v := ?vh1_18) rfl rfl (by kernel_rfl) (by kernel_rfl) (by kernel_rfl) (fun _ _ _ h => h) (.inl ⟨by kernel_rfl, ?hyh1_18⟩) hS ?resth1_18
          case hyh1_18 => (intro w hSw; (try dsimp only at hSw); go_simp; (try with_reducible rfl))
          (try simp only [Act.put, List.setIfInBounds_toArray, List.set_cons_zero, List.set_cons_succ])
          refine wpAnyH_takeD 19 (some 54) (v := ?vh1_19) rfl rfl (by kernel_rfl) (by kernel_rfl) (by kernel_rfl) (fun _ _ _ h => h) (.inl ⟨by kernel_rfl, ?hyh1_19⟩) hS ?resth1_19
          case hyh1_19 => (intro w hSw; (try dsimp only at hSw); go_simp; (try with_reducible rfl))
          (try simp only [Act.put, List.setIfInBounds_toArray, List.set_cons_zero, List.set_cons_succ])
          refine wpAnyH_takeD 20 (some 55) (v := undef) rfl rfl (by kernel_rfl) (by kernel_rfl) (by kernel_rfl) (fun _ _ _ h => h) (.inr ⟨by kernel_rfl, rfl⟩) hS ?_
          (try simp only [Act.put, List.setIfInBounds_toArray, List.set_cons_zero, List.set_cons_succ])
          refine wpAnyH_takeD 21 (some 56) (v := undef) rfl rfl (by kernel_rfl) (by kernel_rfl) (by kernel_rfl) (fun _ _ _ h => h) (.inr ⟨by kernel_rfl, rfl⟩) hS ?_
          (try simp only [Act.put, List.setIfInBounds_toArray, List.set_cons_zero, List.set_cons_succ])
          refine wpAnyH_takeD 22 (some 57) (v := undef) rfl rfl (by kernel_rfl) (by kernel_rfl) (by kernel_rfl) (fun _ _ _ h => h) (.inr ⟨by kernel_rfl, rfl⟩) hS ?_
          (try simp only [Act.put, List.setIfInBounds_toArray, List.set_cons_zero, List.set_cons_succ])
          refine wpAnyH_takeD 23 (some 58) (v := undef) rfl rfl (by kernel_rfl) (by kernel_rfl) (by kernel_rfl) (fun _ _ _ h => h) (.inr ⟨by kernel_rfl, rfl⟩) hS ?_
          (try simp only [Act.put, List.setIfInBounds_toArray, List.set_cons_zero, List.set_cons_succ])
          refine wpAnyH_takeD 24 (some 59) (v := undef) rfl rfl (by kernel_rfl) (by kernel_rfl) (by kernel_rfl) (fun _ _ _ h => h) (.inr ⟨by kernel_rfl, rfl⟩) hS ?_
          (try simp only [Act.put, List.setIfInBounds_toArray, List.set_cons_zero, List.set_cons_succ])
          refine wpAnyH_takeD 25 (some 60) (v := undef) rfl rfl (by kernel_rfl) (by kernel_rfl) (by kernel_rfl) (fun _ _ _ h => h) (.inr ⟨by kernel_rfl, rfl⟩) hS ?_
          (try simp only [Act.put, List.setIfInBounds_toArray, List.set_cons_zero, List.set_cons_succ])
          refine wpAnyH_takeD 26 (some 61) (v := undef) rfl rfl (by kernel_rfl) (by kernel_rfl) (by kernel_rfl) (fun _ _ _ h => h) (.inr ⟨by kernel_rfl, rfl⟩) hS ?_
          (try simp only [Act.put, List.setIfInBounds_toArray, List.set_cons_zero, List.set_cons_succ])
          refine wpAnyH_takeD 27 (some 62) (v := undef) rfl rfl (by kernel_rfl) (by kernel_rfl) (by kernel_rfl) (fun _ _ _ h => h) (.inr ⟨by kernel_rfl, rfl⟩) hS ?_
          (try simp only [Act.put, List.setIfInBounds_toArray, List.set_cons_zero, List.set_cons_succ])
          refine wpAnyH_takeD 28 (some 63) (v := undef) rfl rfl (by kernel_rfl) (by kernel_rfl) (by kernel_rfl) (fun _ _ _ h => h) (.inr ⟨by kernel_rfl, rfl⟩) hS ?_
          (try simp only [Act.put, List.setIfInBounds_toArray, List.set_cons_zero, List.set_cons_succ])
          refine wpAnyH_takeD 29 (some 64) (v := undef) rfl rfl (by kernel_rfl) (by kernel_rfl) (by kernel_rfl) (fun _ _ _ h => h) (.inr ⟨by kernel_rfl, rfl⟩) hS ?_
          (try simp only [Act.put, List.setIfInBounds_toArray, List.set_cons_zero, List.set_cons_succ])
          refine wpAnyH_takeD 30 (some 65) (v := undef) rfl rfl (by kernel_rfl) (by kernel_rfl) (by kernel_rfl) (fun _ _ _ h => h) (.inr ⟨by kernel_rfl, rfl⟩) hS ?_
          (try simp only [Act.put, List.setIfInBounds_toArray, List.set_cons_zero, List.set_cons_succ])
          refine wpAnyH_takeD 31 (some 66) (v := undef) rfl rfl (by kernel_rfl) (by kernel_rfl) (by kernel_rfl) (fun _ _ _ h => h) (.inr ⟨by kernel_rfl, rfl⟩) hS ?_
          (try simp only [Act.put, List.setIfInBounds_toArray, List.set_cons_zero, List.set_cons_succ])
          refine wpAnyH_takeD 32 (some 67) (v := undef) rfl rfl (by kernel_rfl) (by kernel_rfl) (by kernel_rfl) (fun _ _ _ h => h) (.inr ⟨by kernel_rfl, rfl⟩) hS ?_
          (try simp only [Act.put, List.setIfInBounds_toArray, List.set_cons_zero, List.set_cons_succ])
          refine wpAnyH_takeD 33 (some 68) (v := undef) rfl rfl (by kernel_rfl) (by kernel_rfl) (by kernel_rfl) (fun _ _ _ h => h) (.inr ⟨by kernel_rfl, rfl⟩) hS ?_
          (try simp only [Act.put, List.setIfInBounds_toArray, List.set_cons_zero, List.set_cons_succ])
          refine wpAnyH_ready (rs := [34]) (by kernel_rfl) (by simp) ?_
          refine AllReadyH.cons (o := { dst := some 69, op := Op.call { callee := Callee.value (Operand.func 68), args := #[Operand.tmp 64, Operand.tmp 68], argTypes := #[40, 3] }, type := 4, pos := "ref.go:233", after := #[{ on := 29, ground := Ground.data }, { on := 33, ground := Ground.data }, { on := 25, ground := Ground.chain }, { on := 25, ground := Ground.guard }], guard := some (25, true) }) ?hoh1_34 ?hth1_34 ?hnh1_34
          case hoh1_34 => rfl
          case hnh1_34 => exact AllReadyH.nil
          intro K hK
          refine iteN (by kernel_rfl) ?_
          refine hK.out _ _ hS (fun _ => ?_)
          clear hK K
          (try simp only [Act.put, List.setIfInBounds_toArray, List.set_cons_zero, List.set_cons_succ])
          refine wpAnyH_takeD 35 (some 70) (v := undef) rfl rfl (by kernel_rfl) (by kernel_rfl) (by kernel_rfl) (fun _ _ _ h => h) (.inr ⟨by kernel_rfl, rfl⟩) hS ?_
          (try simp only [Act.put, List.setIfInBounds_toArray, List.set_cons_zero, List.set_cons_succ])
          refine wpAnyH_takeD 36 (some 71) (v := undef) rfl rfl (by kernel_rfl) (by kernel_rfl) (by kernel_rfl) (fun _ _ _ h => h) (.inr ⟨by kernel_rfl, rfl⟩) hS ?_
          (try simp only [Act.put, List.setIfInBounds_toArray, List.set_cons_zero, List.set_cons_succ])
          refine wpAnyH_takeD 37 (some 72) (v := ?vh1_37) rfl rfl (by kernel_rfl) (by kernel_rfl) (by kernel_rfl) (fun _ _ _ h => h) (.inl ⟨by kernel_rfl, ?hyh1_37⟩) hS ?resth1_37
          case hyh1_37 => (intro w hSw; (try dsimp only at hSw); go_simp; (try with_reducible rfl))
          (try simp only [Act.put, List.setIfInBounds_toArray, List.set_cons_zero, List.set_cons_succ])
          refine wpAnyH_done (by kernel_rfl) ?_ _
          go_wp2
          go_meet
          case rel => exact ⟨rfl, hS.1⟩
        have g1 : decide (x.1 < 1) = false := decide_eq_false h1
        by_cases h2 : x.2.1 < x.1
        · have g2 : decide (x.2.1 < x.1) = true := decide_eq_true h2
          obtain rfl : bb = true := by rw [hbb]; exact decide_eq_true (.inr (.inl h2))
          clear h1 h2 hbb
          go_wp2_with fail
          have hS := hS0
          refine wp_region_held_drew (S := fun (w' : World) => Below wr.heap.size wr w' ∧ w'.cell? (ad.add (k * 5)) = some (.int .i64 x.1) ∧ w'.cell? ⟨(ad.add (k * 5)).block, (ad.add (k * 5)).off + 1, none⟩ = some (.int .i64 x.2.1) ∧ w'.cell? ⟨(ad.add (k * 5)).block, (ad.add (k * 5)).off + 2, none⟩ = some (.bool x.2.2.1) ∧ w'.cell? ⟨(ad.add (k * 5)).block, (ad.add (k * 5)).off + 3, none⟩ = some (.slice A1 x.2.2.2.1.length a1) ∧ w'.cell? ⟨(ad.add (k * 5)).block, (ad.add (k * 5)).off + 4, none⟩ = some (.slice A2 x.2.2.2.2.length a2) ∧ w'.cell? (bd.add k) = some (.int .i64 d)) (by kernel_rfl) hS (fun _ => ?_)
          simp only [List.size_toArray, List.length_cons, List.length_nil, Nat.reduceAdd]
          refine wpAnyH_takeD 0 (some 35) (v := ?vh2_0) rfl rfl (by kernel_rfl) (by kernel_rfl) (by kernel_rfl) (fun _ _ _ h => h) (.inl ⟨by kernel_rfl, ?hyh2_0⟩) hS ?resth2_0
          case hyh2_0 => (intro w hSw; (try dsimp only at hSw); go_simp; (try with_reducible rfl))
          (try simp only [Act.put, List.setIfInBounds_toArray, List.set_cons_zero, List.set_cons_succ])
          refine wpAnyH_takeD 1 (some 36) (v := ?vh2_1) rfl rfl (by kernel_rfl) (by kernel_rfl) (by kernel_rfl) (fun _ _ _ h => h) (.inl ⟨by kernel_rfl, ?hyh2_1⟩) hS ?resth2_1
          case hyh2_1 => (intro w hSw; (try dsimp only at hSw); go_simp; (try with_reducible rfl))
          (try simp only [Act.put, List.setIfInBounds_toArray, List.set_cons_zero, List.set_cons_succ])
          refine wpAnyH_takeD 2 (some 37) (v := ?vh2_2) rfl rfl (by kernel_rfl) (by kernel_rfl) (by kernel_rfl) (fun _ _ _ h => h) (.inl ⟨by kernel_rfl, ?hyh2_2⟩) hS ?resth2_2
          case hyh2_2 => (intro w hSw; (try dsimp only at hSw); go_simp; (try with_reducible rfl))
          (try simp only [Act.put, List.setIfInBounds_toArray, List.set_cons_zero, List.set_cons_succ])
          refine wpAnyH_takeD 3 (some 38) (v := ?vh2_3) rfl rfl (by kernel_rfl) (by kernel_rfl) (by kernel_rfl) (fun _ _ _ h => h) (.inl ⟨by kernel_rfl, ?hyh2_3⟩) hS ?resth2_3
          case hyh2_3 => (intro w hSw; (try dsimp only at hSw); go_simp; (try with_reducible rfl))
          (try simp only [Act.put, List.setIfInBounds_toArray, List.set_cons_zero, List.set_cons_succ])
          refine wpAnyH_takeD 4 (some 39) (v := ?vh2_4) rfl rfl (by kernel_rfl) (by kernel_rfl) (by kernel_rfl) (fun _ _ _ h => h) (.inl ⟨by kernel_rfl, ?hyh2_4⟩) hS ?resth2_4
          case hyh2_4 => (intro w hSw; (try dsimp only at hSw); go_simp; (try with_reducible rfl))
          (try simp only [Act.put, List.setIfInBounds_toArray, List.set_cons_zero, List.set_cons_succ])
          refine wpAnyH_takeD 5 (some 40) (v := ?vh2_5) rfl rfl (by kernel_rfl) (by kernel_rfl) (by kernel_rfl) (fun _ _ _ h => h) (.inl ⟨by kernel_rfl, ?hyh2_5⟩) hS ?resth2_5
          case hyh2_5 => (intro w hSw; (try dsimp only at hSw); go_simp; (try with_reducible rfl))
          (try simp only [Act.put, List.setIfInBounds_toArray, List.set_cons_zero, List.set_cons_succ])
          refine wpAnyH_takeD 6 (some 41) (v := ?vh2_6) rfl rfl (by kernel_rfl) (by kernel_rfl) (by kernel_rfl) (fun _ _ _ h => h) (.inl ⟨by kernel_rfl, ?hyh2_6⟩) hS ?resth2_6
          case hyh2_6 => (intro w hSw; (try dsimp only at hSw); go_simp; (try with_reducible rfl))
          (try simp only [Act.put, List.setIfInBounds_toArray, List.set_cons_zero, List.set_cons_succ])
          refine wpAnyH_takeD 7 (some 42) (v := ?vh2_7) rfl rfl (by kernel_rfl) (by kernel_rfl) (by kernel_rfl) (fun _ _ _ h => h) (.inl ⟨by kernel_rfl, ?hyh2_7⟩) hS ?resth2_7
          case hyh2_7 => (intro w hSw; (try dsimp only at hSw); go_simp; (try with_reducible rfl))
          (try simp only [Act.put, List.setIfInBounds_toArray, List.set_cons_zero, List.set_cons_succ])
          refine wpAnyH_takeD 8 (some 43) (v := ?vh2_8) rfl rfl (by kernel_rfl) (by kernel_rfl) (by kernel_rfl) (fun _ _ _ h => h) (.inl ⟨by kernel_rfl, ?hyh2_8⟩) hS ?resth2_8
          case hyh2_8 => (intro w hSw; (try dsimp only at hSw); go_simp; (try with_reducible rfl))
          (try simp only [Act.put, List.setIfInBounds_toArray, List.set_cons_zero, List.set_cons_succ])
          refine wpAnyH_takeD 9 (some 44) (v := ?vh2_9) rfl rfl (by kernel_rfl) (by kernel_rfl) (by kernel_rfl) (fun _ _ _ h => h) (.inl ⟨by kernel_rfl, ?hyh2_9⟩) hS ?resth2_9
          case hyh2_9 => (intro w hSw; (try dsimp only at hSw); go_simp; (try with_reducible rfl))
          (try simp only [Act.put, List.setIfInBounds_toArray, List.set_cons_zero, List.set_cons_succ])
          refine wpAnyH_takeD 10 (some 45) (v := ?vh2_10) rfl rfl (by kernel_rfl) (by kernel_rfl) (by kernel_rfl) (fun _ _ _ h => h) (.inl ⟨by kernel_rfl, ?hyh2_10⟩) hS ?resth2_10
          case hyh2_10 => (intro w hSw; (try dsimp only at hSw); go_simp; (try with_reducible rfl))
          (try simp only [Act.put, List.setIfInBounds_toArray, List.set_cons_zero, List.set_cons_succ])
          refine wpAnyH_takeD 11 (some 46) (v := ?vh2_11) rfl rfl (by kernel_rfl) (by kernel_rfl) (by kernel_rfl) (fun _ _ _ h => h) (.inl ⟨by kernel_rfl, ?hyh2_11⟩) hS ?resth2_11
          case hyh2_11 => (intro w hSw; (try dsimp only at hSw); go_simp; (try with_reducible rfl))
          (try simp only [Act.put, List.setIfInBounds_toArray, List.set_cons_zero, List.set_cons_succ])
          refine wpAnyH_takeD 12 (some 47) (v := ?vh2_12) rfl rfl (by kernel_rfl) (by kernel_rfl) (by kernel_rfl) (fun _ _ _ h => h) (.inl ⟨by kernel_rfl, ?hyh2_12⟩) hS ?resth2_12
          case hyh2_12 => (intro w hSw; (try dsimp only at hSw); go_simp; (try with_reducible rfl))
          (try simp only [Act.put, List.setIfInBounds_toArray, List.set_cons_zero, List.set_cons_succ])
          refine wpAnyH_takeD 13 (some 48) (v := ?vh2_13) rfl rfl (by kernel_rfl) (by kernel_rfl) (by kernel_rfl) (fun _ _ _ h => h) (.inl ⟨by kernel_rfl, ?hyh2_13⟩) hS ?resth2_13
          case hyh2_13 => (intro w hSw; (try dsimp only at hSw); go_simp; (try with_reducible rfl))
          (try simp only [Act.put, List.setIfInBounds_toArray, List.set_cons_zero, List.set_cons_succ])
          refine wpAnyH_takeD 14 (some 49) (v := ?vh2_14) rfl rfl (by kernel_rfl) (by kernel_rfl) (by kernel_rfl) (fun _ _ _ h => h) (.inl ⟨by kernel_rfl, ?hyh2_14⟩) hS ?resth2_14
          case hyh2_14 => (intro w hSw; (try dsimp only at hSw); go_simp; (try with_reducible rfl))
          (try simp only [Act.put, List.setIfInBounds_toArray, List.set_cons_zero, List.set_cons_succ])
          refine wpAnyH_takeD 15 (some 50) (v := ?vh2_15) rfl rfl (by kernel_rfl) (by kernel_rfl) (by kernel_rfl) (fun _ _ _ h => h) (.inl ⟨by kernel_rfl, ?hyh2_15⟩) hS ?resth2_15
          case hyh2_15 => (intro w hSw; (try dsimp only at hSw); go_simp; (try with_reducible rfl))
          (try simp only [Act.put, List.setIfInBounds_toArray, List.set_cons_zero, List.set_cons_succ])
          refine wpAnyH_takeD 16 (some 51) (v := ?vh2_16) rfl rfl (by kernel_rfl) (by kernel_rfl) (by kernel_rfl) (fun _ _ _ h => h) (.inl ⟨by kernel_rfl, ?hyh2_16⟩) hS ?resth2_16
          case hyh2_16 => (intro w hSw; (try dsimp only at hSw); go_simp; (try with_reducible rfl))
          (try simp only [Act.put, List.setIfInBounds_toArray, List.set_cons_zero, List.set_cons_succ])
          refine wpAnyH_takeD 17 (some 52) (v := ?vh2_17) rfl rfl (by kernel_rfl) (by kernel_rfl) (by kernel_rfl) (fun _ _ _ h => h) (.inl ⟨by kernel_rfl, ?hyh2_17⟩) hS ?resth2_17
          case hyh2_17 => (intro w hSw; (try dsimp only at hSw); go_simp; (try with_reducible rfl))
          (try simp only [Act.put, List.setIfInBounds_toArray, List.set_cons_zero, List.set_cons_succ])
          refine wpAnyH_takeD 18 (some 53) (v := ?vh2_18) rfl rfl (by kernel_rfl) (by kernel_rfl) (by kernel_rfl) (fun _ _ _ h => h) (.inl ⟨by kernel_rfl, ?hyh2_18⟩) hS ?resth2_18
          case hyh2_18 => (intro w hSw; (try dsimp only at hSw); go_simp; (try with_reducible rfl))
          (try simp only [Act.put, List.setIfInBounds_toArray, List.set_cons_zero, List.set_cons_succ])
          refine wpAnyH_takeD 19 (some 54) (v := ?vh2_19) rfl rfl (by kernel_rfl) (by kernel_rfl) (by kernel_rfl) (fun _ _ _ h => h) (.inl ⟨by kernel_rfl, ?hyh2_19⟩) hS ?resth2_19
          case hyh2_19 => (intro w hSw; (try dsimp only at hSw); go_simp; (try with_reducible rfl))
          (try simp only [Act.put, List.setIfInBounds_toArray, List.set_cons_zero, List.set_cons_succ])
          refine wpAnyH_takeD 20 (some 55) (v := undef) rfl rfl (by kernel_rfl) (by kernel_rfl) (by kernel_rfl) (fun _ _ _ h => h) (.inr ⟨by kernel_rfl, rfl⟩) hS ?_
          (try simp only [Act.put, List.setIfInBounds_toArray, List.set_cons_zero, List.set_cons_succ])
          refine wpAnyH_takeD 21 (some 56) (v := undef) rfl rfl (by kernel_rfl) (by kernel_rfl) (by kernel_rfl) (fun _ _ _ h => h) (.inr ⟨by kernel_rfl, rfl⟩) hS ?_
          (try simp only [Act.put, List.setIfInBounds_toArray, List.set_cons_zero, List.set_cons_succ])
          refine wpAnyH_takeD 22 (some 57) (v := undef) rfl rfl (by kernel_rfl) (by kernel_rfl) (by kernel_rfl) (fun _ _ _ h => h) (.inr ⟨by kernel_rfl, rfl⟩) hS ?_
          (try simp only [Act.put, List.setIfInBounds_toArray, List.set_cons_zero, List.set_cons_succ])
          refine wpAnyH_takeD 23 (some 58) (v := undef) rfl rfl (by kernel_rfl) (by kernel_rfl) (by kernel_rfl) (fun _ _ _ h => h) (.inr ⟨by kernel_rfl, rfl⟩) hS ?_
          (try simp only [Act.put, List.setIfInBounds_toArray, List.set_cons_zero, List.set_cons_succ])
          refine wpAnyH_takeD 24 (some 59) (v := undef) rfl rfl (by kernel_rfl) (by kernel_rfl) (by kernel_rfl) (fun _ _ _ h => h) (.inr ⟨by kernel_rfl, rfl⟩) hS ?_
          (try simp only [Act.put, List.setIfInBounds_toArray, List.set_cons_zero, List.set_cons_succ])
          refine wpAnyH_takeD 25 (some 60) (v := undef) rfl rfl (by kernel_rfl) (by kernel_rfl) (by kernel_rfl) (fun _ _ _ h => h) (.inr ⟨by kernel_rfl, rfl⟩) hS ?_
          (try simp only [Act.put, List.setIfInBounds_toArray, List.set_cons_zero, List.set_cons_succ])
          refine wpAnyH_takeD 26 (some 61) (v := undef) rfl rfl (by kernel_rfl) (by kernel_rfl) (by kernel_rfl) (fun _ _ _ h => h) (.inr ⟨by kernel_rfl, rfl⟩) hS ?_
          (try simp only [Act.put, List.setIfInBounds_toArray, List.set_cons_zero, List.set_cons_succ])
          refine wpAnyH_takeD 27 (some 62) (v := undef) rfl rfl (by kernel_rfl) (by kernel_rfl) (by kernel_rfl) (fun _ _ _ h => h) (.inr ⟨by kernel_rfl, rfl⟩) hS ?_
          (try simp only [Act.put, List.setIfInBounds_toArray, List.set_cons_zero, List.set_cons_succ])
          refine wpAnyH_takeD 28 (some 63) (v := undef) rfl rfl (by kernel_rfl) (by kernel_rfl) (by kernel_rfl) (fun _ _ _ h => h) (.inr ⟨by kernel_rfl, rfl⟩) hS ?_
          (try simp only [Act.put, List.setIfInBounds_toArray, List.set_cons_zero, List.set_cons_succ])
          refine wpAnyH_takeD 29 (some 64) (v := undef) rfl rfl (by kernel_rfl) (by kernel_rfl) (by kernel_rfl) (fun _ _ _ h => h) (.inr ⟨by kernel_rfl, rfl⟩) hS ?_
          (try simp only [Act.put, List.setIfInBounds_toArray, List.set_cons_zero, List.set_cons_succ])
          refine wpAnyH_takeD 30 (some 65) (v := undef) rfl rfl (by kernel_rfl) (by kernel_rfl) (by kernel_rfl) (fun _ _ _ h => h) (.inr ⟨by kernel_rfl, rfl⟩) hS ?_
          (try simp only [Act.put, List.setIfInBounds_toArray, List.set_cons_zero, List.set_cons_succ])
          refine wpAnyH_takeD 31 (some 66) (v := undef) rfl rfl (by kernel_rfl) (by kernel_rfl) (by kernel_rfl) (fun _ _ _ h => h) (.inr ⟨by kernel_rfl, rfl⟩) hS ?_
          (try simp only [Act.put, List.setIfInBounds_toArray, List.set_cons_zero, List.set_cons_succ])
          refine wpAnyH_takeD 32 (some 67) (v := undef) rfl rfl (by kernel_rfl) (by kernel_rfl) (by kernel_rfl) (fun _ _ _ h => h) (.inr ⟨by kernel_rfl, rfl⟩) hS ?_
          (try simp only [Act.put, List.setIfInBounds_toArray, List.set_cons_zero, List.set_cons_succ])
          refine wpAnyH_takeD 33 (some 68) (v := undef) rfl rfl (by kernel_rfl) (by kernel_rfl) (by kernel_rfl) (fun _ _ _ h => h) (.inr ⟨by kernel_rfl, rfl⟩) hS ?_
          (try simp only [Act.put, List.setIfInBounds_toArray, List.set_cons_zero, List.set_cons_succ])
          refine wpAnyH_ready (rs := [34]) (by kernel_rfl) (by simp) ?_
          refine AllReadyH.cons (o := { dst := some 69, op := Op.call { callee := Callee.value (Operand.func 68), args := #[Operand.tmp 64, Operand.tmp 68], argTypes := #[40, 3] }, type := 4, pos := "ref.go:233", after := #[{ on := 29, ground := Ground.data }, { on := 33, ground := Ground.data }, { on := 25, ground := Ground.chain }, { on := 25, ground := Ground.guard }], guard := some (25, true) }) ?hoh2_34 ?hth2_34 ?hnh2_34
          case hoh2_34 => rfl
          case hnh2_34 => exact AllReadyH.nil
          intro K hK
          refine iteN (by kernel_rfl) ?_
          refine hK.out _ _ hS (fun _ => ?_)
          clear hK K
          (try simp only [Act.put, List.setIfInBounds_toArray, List.set_cons_zero, List.set_cons_succ])
          refine wpAnyH_takeD 35 (some 70) (v := undef) rfl rfl (by kernel_rfl) (by kernel_rfl) (by kernel_rfl) (fun _ _ _ h => h) (.inr ⟨by kernel_rfl, rfl⟩) hS ?_
          (try simp only [Act.put, List.setIfInBounds_toArray, List.set_cons_zero, List.set_cons_succ])
          refine wpAnyH_takeD 36 (some 71) (v := undef) rfl rfl (by kernel_rfl) (by kernel_rfl) (by kernel_rfl) (fun _ _ _ h => h) (.inr ⟨by kernel_rfl, rfl⟩) hS ?_
          (try simp only [Act.put, List.setIfInBounds_toArray, List.set_cons_zero, List.set_cons_succ])
          refine wpAnyH_takeD 37 (some 72) (v := ?vh2_37) rfl rfl (by kernel_rfl) (by kernel_rfl) (by kernel_rfl) (fun _ _ _ h => h) (.inl ⟨by kernel_rfl, ?hyh2_37⟩) hS ?resth2_37
          case hyh2_37 => (intro w hSw; (try dsimp only at hSw); go_simp; (try with_reducible rfl))
          (try simp only [Act.put, List.setIfInBounds_toArray, List.set_cons_zero, List.set_cons_succ])
          refine wpAnyH_done (by kernel_rfl) ?_ _
          go_wp2
          go_meet
          case rel => exact ⟨rfl, hS.1⟩
        have g2 : decide (x.2.1 < x.1) = false := decide_eq_false h2
        by_cases h3 : d = 0
        · have g3 : ((d : Int) != 0) = false := by rw [h3]; rfl
          obtain rfl : bb = false := by rw [hbb]; exact decide_eq_false (fun h => by rcases h with h | h | h; exact h1 h; exact h2 h; exact h.1 h3)
          clear h1 h2 h3 hbb
          go_wp2_with fail
          have hS := hS0
          refine wp_region_held_drew (S := fun (w' : World) => Below wr.heap.size wr w' ∧ w'.cell? (ad.add (k * 5)) = some (.int .i64 x.1) ∧ w'.cell? ⟨(ad.add (k * 5)).block, (ad.add (k * 5)).off + 1, none⟩ = some (.int .i64 x.2.1) ∧ w'.cell? ⟨(ad.add (k * 5)).block, (ad.add (k * 5)).off + 2, none⟩ = some (.bool x.2.2.1) ∧ w'.cell? ⟨(ad.add (k * 5)).block, (ad.add (k * 5)).off + 3, none⟩ = some (.slice A1 x.2.2.2.1.length a1) ∧ w'.cell? ⟨(ad.add (k * 5)).block, (ad.add (k * 5)).off + 4, none⟩ = some (.slice A2 x.2.2.2.2.length a2) ∧ w'.cell? (bd.add k) = some (.int .i64 d)) (by kernel_rfl) hS (fun _ => ?_)
          simp only [List.size_toArray, List.length_cons, List.length_nil, Nat.reduceAdd]
          refine wpAnyH_takeD 0 (some 35) (v := ?vh3_0) rfl rfl (by kernel_rfl) (by kernel_rfl) (by kernel_rfl) (fun _ _ _ h => h) (.inl ⟨by kernel_rfl, ?hyh3_0⟩) hS ?resth3_0
          case hyh3_0 => (intro w hSw; (try dsimp only at hSw); go_simp; (try with_reducible rfl))
          (try simp only [Act.put, List.setIfInBounds_toArray, List.set_cons_zero, List.set_cons_succ])
          refine wpAnyH_takeD 1 (some 36) (v := ?vh3_1) rfl rfl (by kernel_rfl) (by kernel_rfl) (by kernel_rfl) (fun _ _ _ h => h) (.inl ⟨by kernel_rfl, ?hyh3_1⟩) hS ?resth3_1
          case hyh3_1 => (intro w hSw; (try dsimp only at hSw); go_simp; (try with_reducible rfl))
          (try simp only [Act.put, List.setIfInBounds_toArray, List.set_cons_zero, List.set_cons_succ])
          refine wpAnyH_takeD 2 (some 37) (v := ?vh3_2) rfl rfl (by kernel_rfl) (by kernel_rfl) (by kernel_rfl) (fun _ _ _ h => h) (.inl ⟨by kernel_rfl, ?hyh3_2⟩) hS ?resth3_2
          case hyh3_2 => (intro w hSw; (try dsimp only at hSw); go_simp; (try with_reducible rfl))
          (try simp only [Act.put, List.setIfInBounds_toArray, List.set_cons_zero, List.set_cons_succ])
          refine wpAnyH_takeD 3 (some 38) (v := ?vh3_3) rfl rfl (by kernel_rfl) (by kernel_rfl) (by kernel_rfl) (fun _ _ _ h => h) (.inl ⟨by kernel_rfl, ?hyh3_3⟩) hS ?resth3_3
          case hyh3_3 => (intro w hSw; (try dsimp only at hSw); go_simp; (try with_reducible rfl))
          (try simp only [Act.put, List.setIfInBounds_toArray, List.set_cons_zero, List.set_cons_succ])
          refine wpAnyH_takeD 4 (some 39) (v := ?vh3_4) rfl rfl (by kernel_rfl) (by kernel_rfl) (by kernel_rfl) (fun _ _ _ h => h) (.inl ⟨by kernel_rfl, ?hyh3_4⟩) hS ?resth3_4
          case hyh3_4 => (intro w hSw; (try dsimp only at hSw); go_simp; (try with_reducible rfl))
          (try simp only [Act.put, List.setIfInBounds_toArray, List.set_cons_zero, List.set_cons_succ])
          refine wpAnyH_takeD 5 (some 40) (v := ?vh3_5) rfl rfl (by kernel_rfl) (by kernel_rfl) (by kernel_rfl) (fun _ _ _ h => h) (.inl ⟨by kernel_rfl, ?hyh3_5⟩) hS ?resth3_5
          case hyh3_5 => (intro w hSw; (try dsimp only at hSw); go_simp; (try with_reducible rfl))
          (try simp only [Act.put, List.setIfInBounds_toArray, List.set_cons_zero, List.set_cons_succ])
          refine wpAnyH_takeD 6 (some 41) (v := ?vh3_6) rfl rfl (by kernel_rfl) (by kernel_rfl) (by kernel_rfl) (fun _ _ _ h => h) (.inl ⟨by kernel_rfl, ?hyh3_6⟩) hS ?resth3_6
          case hyh3_6 => (intro w hSw; (try dsimp only at hSw); go_simp; (try with_reducible rfl))
          (try simp only [Act.put, List.setIfInBounds_toArray, List.set_cons_zero, List.set_cons_succ])
          refine wpAnyH_takeD 7 (some 42) (v := ?vh3_7) rfl rfl (by kernel_rfl) (by kernel_rfl) (by kernel_rfl) (fun _ _ _ h => h) (.inl ⟨by kernel_rfl, ?hyh3_7⟩) hS ?resth3_7
          case hyh3_7 => (intro w hSw; (try dsimp only at hSw); go_simp; (try with_reducible rfl))
          (try simp only [Act.put, List.setIfInBounds_toArray, List.set_cons_zero, List.set_cons_succ])
          refine wpAnyH_takeD 8 (some 43) (v := ?vh3_8) rfl rfl (by kernel_rfl) (by kernel_rfl) (by kernel_rfl) (fun _ _ _ h => h) (.inl ⟨by kernel_rfl, ?hyh3_8⟩) hS ?resth3_8
          case hyh3_8 => (intro w hSw; (try dsimp only at hSw); go_simp; (try with_reducible rfl))
          (try simp only [Act.put, List.setIfInBounds_toArray, List.set_cons_zero, List.set_cons_succ])
          refine wpAnyH_takeD 9 (some 44) (v := ?vh3_9) rfl rfl (by kernel_rfl) (by kernel_rfl) (by kernel_rfl) (fun _ _ _ h => h) (.inl ⟨by kernel_rfl, ?hyh3_9⟩) hS ?resth3_9
          case hyh3_9 => (intro w hSw; (try dsimp only at hSw); go_simp; (try with_reducible rfl))
          (try simp only [Act.put, List.setIfInBounds_toArray, List.set_cons_zero, List.set_cons_succ])
          refine wpAnyH_takeD 10 (some 45) (v := ?vh3_10) rfl rfl (by kernel_rfl) (by kernel_rfl) (by kernel_rfl) (fun _ _ _ h => h) (.inl ⟨by kernel_rfl, ?hyh3_10⟩) hS ?resth3_10
          case hyh3_10 => (intro w hSw; (try dsimp only at hSw); go_simp; (try with_reducible rfl))
          (try simp only [Act.put, List.setIfInBounds_toArray, List.set_cons_zero, List.set_cons_succ])
          refine wpAnyH_takeD 11 (some 46) (v := ?vh3_11) rfl rfl (by kernel_rfl) (by kernel_rfl) (by kernel_rfl) (fun _ _ _ h => h) (.inl ⟨by kernel_rfl, ?hyh3_11⟩) hS ?resth3_11
          case hyh3_11 => (intro w hSw; (try dsimp only at hSw); go_simp; (try with_reducible rfl))
          (try simp only [Act.put, List.setIfInBounds_toArray, List.set_cons_zero, List.set_cons_succ])
          refine wpAnyH_takeD 12 (some 47) (v := ?vh3_12) rfl rfl (by kernel_rfl) (by kernel_rfl) (by kernel_rfl) (fun _ _ _ h => h) (.inl ⟨by kernel_rfl, ?hyh3_12⟩) hS ?resth3_12
          case hyh3_12 => (intro w hSw; (try dsimp only at hSw); go_simp; (try with_reducible rfl))
          (try simp only [Act.put, List.setIfInBounds_toArray, List.set_cons_zero, List.set_cons_succ])
          refine wpAnyH_takeD 13 (some 48) (v := ?vh3_13) rfl rfl (by kernel_rfl) (by kernel_rfl) (by kernel_rfl) (fun _ _ _ h => h) (.inl ⟨by kernel_rfl, ?hyh3_13⟩) hS ?resth3_13
          case hyh3_13 => (intro w hSw; (try dsimp only at hSw); go_simp; (try with_reducible rfl))
          (try simp only [Act.put, List.setIfInBounds_toArray, List.set_cons_zero, List.set_cons_succ])
          refine wpAnyH_takeD 14 (some 49) (v := ?vh3_14) rfl rfl (by kernel_rfl) (by kernel_rfl) (by kernel_rfl) (fun _ _ _ h => h) (.inl ⟨by kernel_rfl, ?hyh3_14⟩) hS ?resth3_14
          case hyh3_14 => (intro w hSw; (try dsimp only at hSw); go_simp; (try with_reducible rfl))
          (try simp only [Act.put, List.setIfInBounds_toArray, List.set_cons_zero, List.set_cons_succ])
          refine wpAnyH_takeD 15 (some 50) (v := ?vh3_15) rfl rfl (by kernel_rfl) (by kernel_rfl) (by kernel_rfl) (fun _ _ _ h => h) (.inl ⟨by kernel_rfl, ?hyh3_15⟩) hS ?resth3_15
          case hyh3_15 => (intro w hSw; (try dsimp only at hSw); go_simp; (try with_reducible rfl))
          (try simp only [Act.put, List.setIfInBounds_toArray, List.set_cons_zero, List.set_cons_succ])
          refine wpAnyH_takeD 16 (some 51) (v := ?vh3_16) rfl rfl (by kernel_rfl) (by kernel_rfl) (by kernel_rfl) (fun _ _ _ h => h) (.inl ⟨by kernel_rfl, ?hyh3_16⟩) hS ?resth3_16
          case hyh3_16 => (intro w hSw; (try dsimp only at hSw); go_simp; (try with_reducible rfl))
          (try simp only [Act.put, List.setIfInBounds_toArray, List.set_cons_zero, List.set_cons_succ])
          refine wpAnyH_takeD 17 (some 52) (v := ?vh3_17) rfl rfl (by kernel_rfl) (by kernel_rfl) (by kernel_rfl) (fun _ _ _ h => h) (.inl ⟨by kernel_rfl, ?hyh3_17⟩) hS ?resth3_17
          case hyh3_17 => (intro w hSw; (try dsimp only at hSw); go_simp; (try with_reducible rfl))
          (try simp only [Act.put, List.setIfInBounds_toArray, List.set_cons_zero, List.set_cons_succ])
          refine wpAnyH_takeD 18 (some 53) (v := ?vh3_18) rfl rfl (by kernel_rfl) (by kernel_rfl) (by kernel_rfl) (fun _ _ _ h => h) (.inl ⟨by kernel_rfl, ?hyh3_18⟩) hS ?resth3_18
          case hyh3_18 => (intro w hSw; (try dsimp only at hSw); go_simp; (try with_reducible rfl))
          (try simp only [Act.put, List.setIfInBounds_toArray, List.set_cons_zero, List.set_cons_succ])
          refine wpAnyH_takeD 19 (some 54) (v := ?vh3_19) rfl rfl (by kernel_rfl) (by kernel_rfl) (by kernel_rfl) (fun _ _ _ h => h) (.inl ⟨by kernel_rfl, ?hyh3_19⟩) hS ?resth3_19
          case hyh3_19 => (intro w hSw; (try dsimp only at hSw); go_simp; (try with_reducible rfl))
          (try simp only [Act.put, List.setIfInBounds_toArray, List.set_cons_zero, List.set_cons_succ])
          refine wpAnyH_takeD 20 (some 55) (v := ?vh3_20) rfl rfl (by kernel_rfl) (by kernel_rfl) (by kernel_rfl) (fun _ _ _ h => h) (.inl ⟨by kernel_rfl, ?hyh3_20⟩) hS ?resth3_20
          case hyh3_20 => (intro w hSw; (try dsimp only at hSw); go_simp; (try with_reducible rfl))
          (try simp only [Act.put, List.setIfInBounds_toArray, List.set_cons_zero, List.set_cons_succ])
          refine wpAnyH_takeD 21 (some 56) (v := ?vh3_21) rfl rfl (by kernel_rfl) (by kernel_rfl) (by kernel_rfl) (fun _ _ _ h => h) (.inl ⟨by kernel_rfl, ?hyh3_21⟩) hS ?resth3_21
          case hyh3_21 => (intro w hSw; (try dsimp only at hSw); go_simp; (try with_reducible rfl))
          (try simp only [Act.put, List.setIfInBounds_toArray, List.set_cons_zero, List.set_cons_succ])
          refine wpAnyH_takeD 22 (some 57) (v := ?vh3_22) rfl rfl (by kernel_rfl) (by kernel_rfl) (by kernel_rfl) (fun _ _ _ h => h) (.inl ⟨by kernel_rfl, ?hyh3_22⟩) hS ?resth3_22
          case hyh3_22 => (intro w hSw; (try dsimp only at hSw); go_simp; (try with_reducible rfl))
          (try simp only [Act.put, List.setIfInBounds_toArray, List.set_cons_zero, List.set_cons_succ])
          refine wpAnyH_takeD 23 (some 58) (v := ?vh3_23) rfl rfl (by kernel_rfl) (by kernel_rfl) (by kernel_rfl) (fun _ _ _ h => h) (.inl ⟨by kernel_rfl, ?hyh3_23⟩) hS ?resth3_23
          case hyh3_23 => (intro w hSw; (try dsimp only at hSw); go_simp; (try with_reducible rfl))
          (try simp only [Act.put, List.setIfInBounds_toArray, List.set_cons_zero, List.set_cons_succ])
          refine wpAnyH_takeD 24 (some 59) (v := ?vh3_24) rfl rfl (by kernel_rfl) (by kernel_rfl) (by kernel_rfl) (fun _ _ _ h => h) (.inl ⟨by kernel_rfl, ?hyh3_24⟩) hS ?resth3_24
          case hyh3_24 => (intro w hSw; (try dsimp only at hSw); go_simp; (try with_reducible rfl))
          (try simp only [Act.put, List.setIfInBounds_toArray, List.set_cons_zero, List.set_cons_succ])
          refine wpAnyH_takeD 25 (some 60) (v := ?vh3_25) rfl rfl (by kernel_rfl) (by kernel_rfl) (by kernel_rfl) (fun _ _ _ h => h) (.inl ⟨by kernel_rfl, ?hyh3_25⟩) hS ?resth3_25
          case hyh3_25 => (intro w hSw; (try dsimp only at hSw); go_simp; (try with_reducible rfl))
          (try simp only [Act.put, List.setIfInBounds_toArray, List.set_cons_zero, List.set_cons_succ])
          refine wpAnyH_takeD 26 (some 61) (v := undef) rfl rfl (by kernel_rfl) (by kernel_rfl) (by kernel_rfl) (fun _ _ _ h => h) (.inr ⟨by kernel_rfl, rfl⟩) hS ?_
          (try simp only [Act.put, List.setIfInBounds_toArray, List.set_cons_zero, List.set_cons_succ])
          refine wpAnyH_takeD 27 (some 62) (v := undef) rfl rfl (by kernel_rfl) (by kernel_rfl) (by kernel_rfl) (fun _ _ _ h => h) (.inr ⟨by kernel_rfl, rfl⟩) hS ?_
          (try simp only [Act.put, List.setIfInBounds_toArray, List.set_cons_zero, List.set_cons_succ])
          refine wpAnyH_takeD 28 (some 63) (v := undef) rfl rfl (by kernel_rfl) (by kernel_rfl) (by kernel_rfl) (fun _ _ _ h => h) (.inr ⟨by kernel_rfl, rfl⟩) hS ?_
          (try simp only [Act.put, List.setIfInBounds_toArray, List.set_cons_zero, List.set_cons_succ])
          refine wpAnyH_takeD 29 (some 64) (v := undef) rfl rfl (by kernel_rfl) (by kernel_rfl) (by kernel_rfl) (fun _ _ _ h => h) (.inr ⟨by kernel_rfl, rfl⟩) hS ?_
          (try simp only [Act.put, List.setIfInBounds_toArray, List.set_cons_zero, List.set_cons_succ])
          refine wpAnyH_takeD 30 (some 65) (v := undef) rfl rfl (by kernel_rfl) (by kernel_rfl) (by kernel_rfl) (fun _ _ _ h => h) (.inr ⟨by kernel_rfl, rfl⟩) hS ?_
          (try simp only [Act.put, List.setIfInBounds_toArray, List.set_cons_zero, List.set_cons_succ])
          refine wpAnyH_takeD 31 (some 66) (v := undef) rfl rfl (by kernel_rfl) (by kernel_rfl) (by kernel_rfl) (fun _ _ _ h => h) (.inr ⟨by kernel_rfl, rfl⟩) hS ?_
          (try simp only [Act.put, List.setIfInBounds_toArray, List.set_cons_zero, List.set_cons_succ])
          refine wpAnyH_takeD 32 (some 67) (v := undef) rfl rfl (by kernel_rfl) (by kernel_rfl) (by kernel_rfl) (fun _ _ _ h => h) (.inr ⟨by kernel_rfl, rfl⟩) hS ?_
          (try simp only [Act.put, List.setIfInBounds_toArray, List.set_cons_zero, List.set_cons_succ])
          refine wpAnyH_takeD 33 (some 68) (v := undef) rfl rfl (by kernel_rfl) (by kernel_rfl) (by kernel_rfl) (fun _ _ _ h => h) (.inr ⟨by kernel_rfl, rfl⟩) hS ?_
          (try simp only [Act.put, List.setIfInBounds_toArray, List.set_cons_zero, List.set_cons_succ])
          refine wpAnyH_ready (rs := [34]) (by kernel_rfl) (by simp) ?_
          refine AllReadyH.cons (o := { dst := some 69, op := Op.call { callee := Callee.value (Operand.func 68), args := #[Operand.tmp 64, Operand.tmp 68], argTypes := #[40, 3] }, type := 4, pos := "ref.go:233", after := #[{ on := 29, ground := Ground.data }, { on := 33, ground := Ground.data }, { on := 25, ground := Ground.chain }, { on := 25, ground := Ground.guard }], guard := some (25, true) }) ?hoh3_34 ?hth3_34 ?hnh3_34
          case hoh3_34 => rfl
          case hnh3_34 => exact AllReadyH.nil
          intro K hK
          refine iteN (by kernel_rfl) ?_
          refine hK.out _ _ hS (fun _ => ?_)
          clear hK K
          (try simp only [Act.put, List.setIfInBounds_toArray, List.set_cons_zero, List.set_cons_succ])
          refine wpAnyH_takeD 35 (some 70) (v := undef) rfl rfl (by kernel_rfl) (by kernel_rfl) (by kernel_rfl) (fun _ _ _ h => h) (.inr ⟨by kernel_rfl, rfl⟩) hS ?_
          (try simp only [Act.put, List.setIfInBounds_toArray, List.set_cons_zero, List.set_cons_succ])
          refine wpAnyH_takeD 36 (some 71) (v := ?vh3_36) rfl rfl (by kernel_rfl) (by kernel_rfl) (by kernel_rfl) (fun _ _ _ h => h) (.inl ⟨by kernel_rfl, ?hyh3_36⟩) hS ?resth3_36
          case hyh3_36 => (intro w hSw; (try dsimp only at hSw); go_simp; (try with_reducible rfl))
          (try simp only [Act.put, List.setIfInBounds_toArray, List.set_cons_zero, List.set_cons_succ])
          refine wpAnyH_takeD 37 (some 72) (v := ?vh3_37) rfl rfl (by kernel_rfl) (by kernel_rfl) (by kernel_rfl) (fun _ _ _ h => h) (.inl ⟨by kernel_rfl, ?hyh3_37⟩) hS ?resth3_37
          case hyh3_37 => (intro w hSw; (try dsimp only at hSw); go_simp; (try with_reducible rfl))
          (try simp only [Act.put, List.setIfInBounds_toArray, List.set_cons_zero, List.set_cons_succ])
          refine wpAnyH_done (by kernel_rfl) ?_ _
          go_wp2
          go_meet
          case rel => exact ⟨rfl, hS.1⟩
        have g3 : ((d : Int) != 0) = true := bne_iff_ne.2 h3
        obtain ⟨tb, htb⟩ : ∃ b : Bool, b = decide (x.1 ≤ d ∧ d ≤ x.2.1) := ⟨_, rfl⟩
        have HTB := Lib.hid htb
        cases tb
        case true =>
          have ht := of_decide_eq_true htb.symm
          obtain rfl : bb = false := by rw [hbb]; exact decide_eq_false (fun h => by rcases h with h | h | h; exact h1 h; exact h2 h; exact h.2 ht)
          clear h1 h2 h3 hbb htb ht
          go_wp2_with fail
          have hS := hS0
          refine wp_region_held_drew (S := fun (w' : World) => Below wr.heap.size wr w' ∧ w'.cell? (ad.add (k * 5)) = some (.int .i64 x.1) ∧ w'.cell? ⟨(ad.add (k * 5)).block, (ad.add (k * 5)).off + 1, none⟩ = some (.int .i64 x.2.1) ∧ w'.cell? ⟨(ad.add (k * 5)).block, (ad.add (k * 5)).off + 2, none⟩ = some (.bool x.2.2.1) ∧ w'.cell? ⟨(ad.add (k * 5)).block, (ad.add (k * 5)).off + 3, none⟩ = some (.slice A1 x.2.2.2.1.length a1) ∧ w'.cell? ⟨(ad.add (k * 5)).block, (ad.add (k * 5)).off + 4, none⟩ = some (.slice A2 x.2.2.2.2.length a2) ∧ w'.cell? (bd.add k) = some (.int .i64 d)) (by kernel_rfl) hS (fun _ => ?_)
          simp only [List.size_toArray, List.length_cons, List.length_nil, Nat.reduceAdd]
          refine wpAnyH_takeD 0 (some 35) (v := ?vh4_0) rfl rfl (by kernel_rfl) (by kernel_rfl) (by kernel_rfl) (fun _ _ _ h => h) (.inl ⟨by kernel_rfl, ?hyh4_0⟩) hS ?resth4_0
          case hyh4_0 => (intro w hSw; (try dsimp only at hSw); go_simp; (try with_reducible rfl))
          (try simp only [Act.put, List.setIfInBounds_toArray, List.set_cons_zero, List.set_cons_succ])
          refine wpAnyH_takeD 1 (some 36) (v := ?vh4_1) rfl rfl (by kernel_rfl) (by kernel_rfl) (by kernel_rfl) (fun _ _ _ h => h) (.inl ⟨by kernel_rfl, ?hyh4_1⟩) hS ?resth4_1
          case hyh4_1 => (intro w hSw; (try dsimp only at hSw); go_simp; (try with_reducible rfl))
          (try simp only [Act.put, List.setIfInBounds_toArray, List.set_cons_zero, List.set_cons_succ])
          refine wpAnyH_takeD 2 (some 37) (v := ?vh4_2) rfl rfl (by kernel_rfl) (by kernel_rfl) (by kernel_rfl) (fun _ _ _ h => h) (.inl ⟨by kernel_rfl, ?hyh4_2⟩) hS ?resth4_2
          case hyh4_2 => (intro w hSw; (try dsimp only at hSw); go_simp; (try with_reducible rfl))
          (try simp only [Act.put, List.setIfInBounds_toArray, List.set_cons_zero, List.set_cons_succ])
          refine wpAnyH_takeD 3 (some 38) (v := ?vh4_3) rfl rfl (by kernel_rfl) (by kernel_rfl) (by kernel_rfl) (fun _ _ _ h => h) (.inl ⟨by kernel_rfl, ?hyh4_3⟩) hS ?resth4_3
          case hyh4_3 => (intro w hSw; (try dsimp only at hSw); go_simp; (try with_reducible rfl))
          (try simp only [Act.put, List.setIfInBounds_toArray, List.set_cons_zero, List.set_cons_succ])
          refine wpAnyH_takeD 4 (some 39) (v := ?vh4_4) rfl rfl (by kernel_rfl) (by kernel_rfl) (by kernel_rfl) (fun _ _ _ h => h) (.inl ⟨by kernel_rfl, ?hyh4_4⟩) hS ?resth4_4
          case hyh4_4 => (intro w hSw; (try dsimp only at hSw); go_simp; (try with_reducible rfl))
          (try simp only [Act.put, List.setIfInBounds_toArray, List.set_cons_zero, List.set_cons_succ])
          refine wpAnyH_takeD 5 (some 40) (v := ?vh4_5) rfl rfl (by kernel_rfl) (by kernel_rfl) (by kernel_rfl) (fun _ _ _ h => h) (.inl ⟨by kernel_rfl, ?hyh4_5⟩) hS ?resth4_5
          case hyh4_5 => (intro w hSw; (try dsimp only at hSw); go_simp; (try with_reducible rfl))
          (try simp only [Act.put, List.setIfInBounds_toArray, List.set_cons_zero, List.set_cons_succ])
          refine wpAnyH_takeD 6 (some 41) (v := ?vh4_6) rfl rfl (by kernel_rfl) (by kernel_rfl) (by kernel_rfl) (fun _ _ _ h => h) (.inl ⟨by kernel_rfl, ?hyh4_6⟩) hS ?resth4_6
          case hyh4_6 => (intro w hSw; (try dsimp only at hSw); go_simp; (try with_reducible rfl))
          (try simp only [Act.put, List.setIfInBounds_toArray, List.set_cons_zero, List.set_cons_succ])
          refine wpAnyH_takeD 7 (some 42) (v := ?vh4_7) rfl rfl (by kernel_rfl) (by kernel_rfl) (by kernel_rfl) (fun _ _ _ h => h) (.inl ⟨by kernel_rfl, ?hyh4_7⟩) hS ?resth4_7
          case hyh4_7 => (intro w hSw; (try dsimp only at hSw); go_simp; (try with_reducible rfl))
          (try simp only [Act.put, List.setIfInBounds_toArray, List.set_cons_zero, List.set_cons_succ])
          refine wpAnyH_takeD 8 (some 43) (v := ?vh4_8) rfl rfl (by kernel_rfl) (by kernel_rfl) (by kernel_rfl) (fun _ _ _ h => h) (.inl ⟨by kernel_rfl, ?hyh4_8⟩) hS ?resth4_8
          case hyh4_8 => (intro w hSw; (try dsimp only at hSw); go_simp; (try with_reducible rfl))
          (try simp only [Act.put, List.setIfInBounds_toArray, List.set_cons_zero, List.set_cons_succ])
          refine wpAnyH_takeD 9 (some 44) (v := ?vh4_9) rfl rfl (by kernel_rfl) (by kernel_rfl) (by kernel_rfl) (fun _ _ _ h => h) (.inl ⟨by kernel_rfl, ?hyh4_9⟩) hS ?resth4_9
          case hyh4_9 => (intro w hSw; (try dsimp only at hSw); go_simp; (try with_reducible rfl))
          (try simp only [Act.put, List.setIfInBounds_toArray, List.set_cons_zero, List.set_cons_succ])
          refine wpAnyH_takeD 10 (some 45) (v := ?vh4_10) rfl rfl (by kernel_rfl) (by kernel_rfl) (by kernel_rfl) (fun _ _ _ h => h) (.inl ⟨by kernel_rfl, ?hyh4_10⟩) hS ?resth4_10
          case hyh4_10 => (intro w hSw; (try dsimp only at hSw); go_simp; (try with_reducible rfl))
          (try simp only [Act.put, List.setIfInBounds_toArray, List.set_cons_zero, List.set_cons_succ])
          refine wpAnyH_takeD 11 (some 46) (v := ?vh4_11) rfl rfl (by kernel_rfl) (by kernel_rfl) (by kernel_rfl) (fun _ _ _ h => h) (.inl ⟨by kernel_rfl, ?hyh4_11⟩) hS ?resth4_11
          case hyh4_11 => (intro w hSw; (try dsimp only at hSw); go_simp; (try with_reducible rfl))
          (try simp only [Act.put, List.setIfInBounds_toArray, List.set_cons_zero, List.set_cons_succ])
          refine wpAnyH_takeD 12 (some 47) (v := ?vh4_12) rfl rfl (by kernel_rfl) (by kernel_rfl) (by kernel_rfl) (fun _ _ _ h => h) (.inl ⟨by kernel_rfl, ?hyh4_12⟩) hS ?resth4_12
          case hyh4_12 => (intro w hSw; (try dsimp only at hSw); go_simp; (try with_reducible rfl))
          (try simp only [Act.put, List.setIfInBounds_toArray, List.set_cons_zero, List.set_cons_succ])
          refine wpAnyH_takeD 13 (some 48) (v := ?vh4_13) rfl rfl (by kernel_rfl) (by kernel_rfl) (by kernel_rfl) (fun _ _ _ h => h) (.inl ⟨by kernel_rfl, ?hyh4_13⟩) hS ?resth4_13
          case hyh4_13 => (intro w hSw; (try dsimp only at hSw); go_simp; (try with_reducible rfl))
          (try simp only [Act.put, List.setIfInBounds_toArray, List.set_cons_zero, List.set_cons_succ])
          refine wpAnyH_takeD 14 (some 49) (v := ?vh4_14) rfl rfl (by kernel_rfl) (by kernel_rfl) (by kernel_rfl) (fun _ _ _ h => h) (.inl ⟨by kernel_rfl, ?hyh4_14⟩) hS ?resth4_14
          case hyh4_14 => (intro w hSw; (try dsimp only at hSw); go_simp; (try with_reducible rfl))
          (try simp only [Act.put, List.setIfInBounds_toArray, List.set_cons_zero, List.set_cons_succ])
          refine wpAnyH_takeD 15 (some 50) (v := ?vh4_15) rfl rfl (by kernel_rfl) (by kernel_rfl) (by kernel_rfl) (fun _ _ _ h => h) (.inl ⟨by kernel_rfl, ?hyh4_15⟩) hS ?resth4_15
          case hyh4_15 => (intro w hSw; (try dsimp only at hSw); go_simp; (try with_reducible rfl))
          (try simp only [Act.put, List.setIfInBounds_toArray, List.set_cons_zero, List.set_cons_succ])
          refine wpAnyH_takeD 16 (some 51) (v := ?vh4_16) rfl rfl (by kernel_rfl) (by kernel_rfl) (by kernel_rfl) (fun _ _ _ h => h) (.inl ⟨by kernel_rfl, ?hyh4_16⟩) hS ?resth4_16
          case hyh4_16 => (intro w hSw; (try dsimp only at hSw); go_simp; (try with_reducible rfl))
          (try simp only [Act.put, List.setIfInBounds_toArray, List.set_cons_zero, List.set_cons_succ])
          refine wpAnyH_takeD 17 (some 52) (v := ?vh4_17) rfl rfl (by kernel_rfl) (by kernel_rfl) (by kernel_rfl) (fun _ _ _ h => h) (.inl ⟨by kernel_rfl, ?hyh4_17⟩) hS ?resth4_17
          case hyh4_17 => (intro w hSw; (try dsimp only at hSw); go_simp; (try with_reducible rfl))
          (try simp only [Act.put, List.setIfInBounds_toArray, List.set_cons_zero, List.set_cons_succ])
          refine wpAnyH_takeD 18 (some 53) (v := ?vh4_18) rfl rfl (by kernel_rfl) (by kernel_rfl) (by kernel_rfl) (fun _ _ _ h => h) (.inl ⟨by kernel_rfl, ?hyh4_18⟩) hS ?resth4_18
          case hyh4_18 => (intro w hSw; (try dsimp only at hSw); go_simp; (try with_reducible rfl))
          (try simp only [Act.put, List.setIfInBounds_toArray, List.set_cons_zero, List.set_cons_succ])
          refine wpAnyH_takeD 19 (some 54) (v := ?vh4_19) rfl rfl (by kernel_rfl) (by kernel_rfl) (by kernel_rfl) (fun _ _ _ h => h) (.inl ⟨by kernel_rfl, ?hyh4_19⟩) hS ?resth4_19
          case hyh4_19 => (intro w hSw; (try dsimp only at hSw); go_simp; (try with_reducible rfl))
          (try simp only [Act.put, List.setIfInBounds_toArray, List.set_cons_zero, List.set_cons_succ])
          refine wpAnyH_takeD 20 (some 55) (v := ?vh4_20) rfl rfl (by kernel_rfl) (by kernel_rfl) (by kernel_rfl) (fun _ _ _ h => h) (.inl ⟨by kernel_rfl, ?hyh4_20⟩) hS ?resth4_20
          case hyh4_20 => (intro w hSw; (try dsimp only at hSw); go_simp; (try with_reducible rfl))
          (try simp only [Act.put, List.setIfInBounds_toArray, List.set_cons_zero, List.set_cons_succ])
          refine wpAnyH_takeD 21 (some 56) (v := ?vh4_21) rfl rfl (by kernel_rfl) (by kernel_rfl) (by kernel_rfl) (fun _ _ _ h => h) (.inl ⟨by kernel_rfl, ?hyh4_21⟩) hS ?resth4_21
          case hyh4_21 => (intro w hSw; (try dsimp only at hSw); go_simp; (try with_reducible rfl))
          (try simp only [Act.put, List.setIfInBounds_toArray, List.set_cons_zero, List.set_cons_succ])
          refine wpAnyH_takeD 22 (some 57) (v := ?vh4_22) rfl rfl (by kernel_rfl) (by kernel_rfl) (by kernel_rfl) (fun _ _ _ h => h) (.inl ⟨by kernel_rfl, ?hyh4_22⟩) hS ?resth4_22
          case hyh4_22 => (intro w hSw; (try dsimp only at hSw); go_simp; (try with_reducible rfl))
          (try simp only [Act.put, List.setIfInBounds_toArray, List.set_cons_zero, List.set_cons_succ])
          refine wpAnyH_takeD 23 (some 58) (v := ?vh4_23) rfl rfl (by kernel_rfl) (by kernel_rfl) (by kernel_rfl) (fun _ _ _ h => h) (.inl ⟨by kernel_rfl, ?hyh4_23⟩) hS ?resth4_23
          case hyh4_23 => (intro w hSw; (try dsimp only at hSw); go_simp; (try with_reducible rfl))
          (try simp only [Act.put, List.setIfInBounds_toArray, List.set_cons_zero, List.set_cons_succ])
          refine wpAnyH_takeD 24 (some 59) (v := ?vh4_24) rfl rfl (by kernel_rfl) (by kernel_rfl) (by kernel_rfl) (fun _ _ _ h => h) (.inl ⟨by kernel_rfl, ?hyh4_24⟩) hS ?resth4_24
          case hyh4_24 => (intro w hSw; (try dsimp only at hSw); go_simp; (try with_reducible rfl))
          (try simp only [Act.put, List.setIfInBounds_toArray, List.set_cons_zero, List.set_cons_succ])
          refine wpAnyH_takeD 25 (some 60) (v := ?vh4_25) rfl rfl (by kernel_rfl) (by kernel_rfl) (by kernel_rfl) (fun _ _ _ h => h) (.inl ⟨by kernel_rfl, ?hyh4_25⟩) hS ?resth4_25
          case hyh4_25 => (intro w hSw; (try dsimp only at hSw); go_simp; (try with_reducible rfl))
          (try simp only [Act.put, List.setIfInBounds_toArray, List.set_cons_zero, List.set_cons_succ])
          refine wpAnyH_takeD 26 (some 61) (v := ?vh4_26) rfl rfl (by kernel_rfl) (by kernel_rfl) (by kernel_rfl) (fun _ _ _ h => h) (.inl ⟨by kernel_rfl, ?hyh4_26⟩) hS ?resth4_26
          case hyh4_26 => (intro w hSw; (try dsimp only at hSw); go_simp; (try with_reducible rfl))
          (try simp only [Act.put, List.setIfInBounds_toArray, List.set_cons_zero, List.set_cons_succ])
          refine wpAnyH_takeD 27 (some 62) (v := ?vh4_27) rfl rfl (by kernel_rfl) (by kernel_rfl) (by kernel_rfl) (fun _ _ _ h => h) (.inl ⟨by kernel_rfl, ?hyh4_27⟩) hS ?resth4_27
          case hyh4_27 => (intro w hSw; (try dsimp only at hSw); go_simp; (try with_reducible rfl))
          (try simp only [Act.put, List.setIfInBounds_toArray, List.set_cons_zero, List.set_cons_succ])
          refine wpAnyH_takeD 28 (some 63) (v := ?vh4_28) rfl rfl (by kernel_rfl) (by kernel_rfl) (by kernel_rfl) (fun _ _ _ h => h) (.inl ⟨by kernel_rfl, ?hyh4_28⟩) hS ?resth4_28
          case hyh4_28 => (intro w hSw; (try dsimp only at hSw); go_simp; (try with_reducible rfl))
          (try simp only [Act.put, List.setIfInBounds_toArray, List.set_cons_zero, List.set_cons_succ])
          refine wpAnyH_takeD 29 (some 64) (v := ?vh4_29) rfl rfl (by kernel_rfl) (by kernel_rfl) (by kernel_rfl) (fun _ _ _ h => h) (.inl ⟨by kernel_rfl, ?hyh4_29⟩) hS ?resth4_29
          case hyh4_29 => (intro w hSw; (try dsimp only at hSw); go_simp; (try with_reducible rfl))
          (try simp only [Act.put, List.setIfInBounds_toArray, List.set_cons_zero, List.set_cons_succ])
          refine wpAnyH_takeD 30 (some 65) (v := ?vh4_30) rfl rfl (by kernel_rfl) (by kernel_rfl) (by kernel_rfl) (fun _ _ _ h => h) (.inl ⟨by kernel_rfl, ?hyh4_30⟩) hS ?resth4_30
          case hyh4_30 => (intro w hSw; (try dsimp only at hSw); go_simp; (try with_reducible rfl))
          (try simp only [Act.put, List.setIfInBounds_toArray, List.set_cons_zero, List.set_cons_succ])
          refine wpAnyH_takeD 31 (some 66) (v := ?vh4_31) rfl rfl (by kernel_rfl) (by kernel_rfl) (by kernel_rfl) (fun _ _ _ h => h) (.inl ⟨by kernel_rfl, ?hyh4_31⟩) hS ?resth4_31
          case hyh4_31 => (intro w hSw; (try dsimp only at hSw); go_simp; (try with_reducible rfl))
          (try simp only [Act.put, List.setIfInBounds_toArray, List.set_cons_zero, List.set_cons_succ])
          refine wpAnyH_takeD 32 (some 67) (v := ?vh4_32) rfl rfl (by kernel_rfl) (by kernel_rfl) (by kernel_rfl) (fun _ _ _ h => h) (.inl ⟨by kernel_rfl, ?hyh4_32⟩) hS ?resth4_32
          case hyh4_32 => (intro w hSw; (try dsimp only at hSw); go_simp; (try with_reducible rfl))
          (try simp only [Act.put, List.setIfInBounds_toArray, List.set_cons_zero, List.set_cons_succ])
          refine wpAnyH_takeD 33 (some 68) (v := ?vh4_33) rfl rfl (by kernel_rfl) (by kernel_rfl) (by kernel_rfl) (fun _ _ _ h => h) (.inl ⟨by kernel_rfl, ?hyh4_33⟩) hS ?resth4_33
          case hyh4_33 => (intro w hSw; (try dsimp only at hSw); go_simp; (try with_reducible rfl))
          (try simp only [Act.put, List.setIfInBounds_toArray, List.set_cons_zero, List.set_cons_succ])
          refine wpAnyH_ready (rs := [34]) (by kernel_rfl) (by simp) ?_
          refine AllReadyH.cons (o := { dst := some 69, op := Op.call { callee := Callee.value (Operand.func 68), args := #[Operand.tmp 64, Operand.tmp 68], argTypes := #[40, 3] }, type := 4, pos := "ref.go:233", after := #[{ on := 29, ground := Ground.data }, { on := 33, ground := Ground.data }, { on := 25, ground := Ground.chain }, { on := 25, ground := Ground.guard }], guard := some (25, true) }) ?hoh4_34 ?hth4_34 ?hnh4_34
          case hoh4_34 => rfl
          case hnh4_34 => exact AllReadyH.nil
          intro K hK
          refine iteP (by kernel_rfl) ?_
          go_simp
          go_at_call 68
          with_reducible refine (there_calls _ _ _ _ _ _ _ _ _ _ _).mono ?_
          rintro e w8 ⟨rfl, hb8⟩
          rw [← HTB.out]
          have hS8 := tc6_next hb8 hS
          refine hK.out _ _ hS8 (fun _ => ?_)
          clear hS K hK
          have hS := hS8
          clear hS8
          (try simp only [Act.put, List.setIfInBounds_toArray, List.set_cons_zero, List.set_cons_succ])
          refine wpAnyH_takeD 35 (some 70) (v := ?vh4_35) rfl rfl (by kernel_rfl) (by kernel_rfl) (by kernel_rfl) (fun _ _ _ h => h) (.inl ⟨by kernel_rfl, ?hyh4_35⟩) hS ?resth4_35
          case hyh4_35 => (intro w hSw; (try dsimp only at hSw); go_simp; (try with_reducible rfl))
          (try simp only [Act.put, List.setIfInBounds_toArray, List.set_cons_zero, List.set_cons_succ])
          refine wpAnyH_takeD 36 (some 71) (v := ?vh4_36) rfl rfl (by kernel_rfl) (by kernel_rfl) (by kernel_rfl) (fun _ _ _ h => h) (.inl ⟨by kernel_rfl, ?hyh4_36⟩) hS ?resth4_36
          case hyh4_36 => (intro w hSw; (try dsimp only at hSw); go_simp; (try with_reducible rfl))
          (try simp only [Act.put, List.setIfInBounds_toArray, List.set_cons_zero, List.set_cons_succ])
          refine wpAnyH_takeD 37 (some 72) (v := ?vh4_37) rfl rfl (by kernel_rfl) (by kernel_rfl) (by kernel_rfl) (fun _ _ _ h => h) (.inl ⟨by kernel_rfl, ?hyh4_37⟩) hS ?resth4_37
          case hyh4_37 => (intro w hSw; (try dsimp only at hSw); go_simp; (try with_reducible rfl))
          (try simp only [Act.put, List.setIfInBounds_toArray, List.set_cons_zero, List.set_cons_succ])
          refine wpAnyH_done (by kernel_rfl) ?_ _
          go_wp2
          go_meet
          case rel => exact ⟨rfl, hS.1⟩
        case false =>
          have ht := of_decide_eq_false htb.symm
          obtain rfl : bb = true := by rw [hbb]; exact decide_eq_true (.inr (.inr ⟨h3, ht⟩))
          clear h1 h2 h3 hbb htb ht
          go_wp2_with fail
          have hS := hS0
          refine wp_region_held_drew (S := fun (w' : World) => Below wr.heap.size wr w' ∧ w'.cell? (ad.add (k * 5)) = some (.int .i64 x.1) ∧ w'.cell? ⟨(ad.add (k * 5)).block, (ad.add (k * 5)).off + 1, none⟩ = some (.int .i64 x.2.1) ∧ w'.cell? ⟨(ad.add (k * 5)).block, (ad.add (k * 5)).off + 2, none⟩ = some (.bool x.2.2.1) ∧ w'.cell? ⟨(ad.add (k * 5)).block, (ad.add (k * 5)).off + 3, none⟩ = some (.slice A1 x.2.2.2.1.length a1) ∧ w'.cell? ⟨(ad.add (k * 5)).block, (ad.add (k * 5)).off + 4, none⟩ = some (.slice A2 x.2.2.2.2.length a2) ∧ w'.cell? (bd.add k) = some (.int .i64 d)) (by kernel_rfl) hS (fun _ => ?_)
          simp only [List.size_toArray, List.length_cons, List.length_nil, Nat.reduceAdd]
          refine wpAnyH_takeD 0 (some 35) (v := ?vh5_0) rfl rfl (by kernel_rfl) (by kernel_rfl) (by kernel_rfl) (fun _ _ _ h => h) (.inl ⟨by kernel_rfl, ?hyh5_0⟩) hS ?resth5_0
          case hyh5_0 => (intro w hSw; (try dsimp only at hSw); go_simp; (try with_reducible rfl))
          (try simp only [Act.put, List.setIfInBounds_toArray, List.set_cons_zero, List.set_cons_succ])
          refine wpAnyH_takeD 1 (some 36) (v := ?vh5_1) rfl rfl (by kernel_rfl) (by kernel_rfl) (by kernel_rfl) (fun _ _ _ h => h) (.inl ⟨by kernel_rfl, ?hyh5_1⟩) hS ?resth5_1
          case hyh5_1 => (intro w hSw; (try dsimp only at hSw); go_simp; (try with_reducible rfl))
          (try simp only [Act.put, List.setIfInBounds_toArray, List.set_cons_zero, List.set_cons_succ])
          refine wpAnyH_takeD 2 (some 37) (v := ?vh5_2) rfl rfl (by kernel_rfl) (by kernel_rfl) (by kernel_rfl) (fun _ _ _ h => h) (.inl ⟨by kernel_rfl, ?hyh5_2⟩) hS ?resth5_2
          case hyh5_2 => (intro w hSw; (try dsimp only at hSw); go_simp; (try with_reducible rfl))
          (try simp only [Act.put, List.setIfInBounds_toArray, List.set_cons_zero, List.set_cons_succ])
          refine wpAnyH_takeD 3 (some 38) (v := ?vh5_3) rfl rfl (by kernel_rfl) (by kernel_rfl) (by kernel_rfl) (fun _ _ _ h => h) (.inl ⟨by kernel_rfl, ?hyh5_3⟩) hS ?resth5_3
          case hyh5_3 => (intro w hSw; (try dsimp only at hSw); go_simp; (try with_reducible rfl))
          (try simp only [Act.put, List.setIfInBounds_toArray, List.set_cons_zero, List.set_cons_succ])
          refine wpAnyH_takeD 4 (some 39) (v := ?vh5_4) rfl rfl (by kernel_rfl) (by kernel_rfl) (by kernel_rfl) (fun _ _ _ h => h) (.inl ⟨by kernel_rfl, ?hyh5_4⟩) hS ?resth5_4
          case hyh5_4 => (intro w hSw; (try dsimp only at hSw); go_simp; (try with_reducible rfl))
          (try simp only [Act.put, List.setIfInBounds_toArray, List.set_cons_zero, List.set_cons_succ])
          refine wpAnyH_takeD 5 (some 40) (v := ?vh5_5) rfl rfl (by kernel_rfl) (by kernel_rfl) (by kernel_rfl) (fun _ _ _ h => h) (.inl ⟨by kernel_rfl, ?hyh5_5⟩) hS ?resth5_5
          case hyh5_5 => (intro w hSw; (try dsimp only at hSw); go_simp; (try with_reducible rfl))
          (try simp only [Act.put, List.setIfInBounds_toArray, List.set_cons_zero, List.set_cons_succ])
          refine wpAnyH_takeD 6 (some 41) (v := ?vh5_6) rfl rfl (by kernel_rfl) (by kernel_rfl) (by kernel_rfl) (fun _ _ _ h => h) (.inl ⟨by kernel_rfl, ?hyh5_6⟩) hS ?resth5_6
          case hyh5_6 => (intro w hSw; (try dsimp only at hSw); go_simp; (try with_reducible rfl))
          (try simp only [Act.put, List.setIfInBounds_toArray, List.set_cons_zero, List.set_cons_succ])
          refine wpAnyH_takeD 7 (some 42) (v := ?vh5_7) rfl rfl (by kernel_rfl) (by kernel_rfl) (by kernel_rfl) (fun _ _ _ h => h) (.inl ⟨by kernel_rfl, ?hyh5_7⟩) hS ?resth5_7
          case hyh5_7 => (intro w hSw; (try dsimp only at hSw); go_simp; (try with_reducible rfl))
          (try simp only [Act.put, List.setIfInBounds_toArray, List.set_cons_zero, List.set_cons_succ])
          refine wpAnyH_takeD 8 (some 43) (v := ?vh5_8) rfl rfl (by kernel_rfl) (by kernel_rfl) (by kernel_rfl) (fun _ _ _ h => h) (.inl ⟨by kernel_rfl, ?hyh5_8⟩) hS ?resth5_8
          case hyh5_8 => (intro w hSw; (try dsimp only at hSw); go_simp; (try with_reducible rfl))
          (try simp only [Act.put, List.setIfInBounds_toArray, List.set_cons_zero, List.set_cons_succ])
          refine wpAnyH_takeD 9 (some 44) (v := ?vh5_9) rfl rfl (by kernel_rfl) (by kernel_rfl) (by kernel_rfl) (fun _ _ _ h => h) (.inl ⟨by kernel_rfl, ?hyh5_9⟩) hS ?resth5_9
          case hyh5_9 => (intro w hSw; (try dsimp only at hSw); go_simp; (try with_reducible rfl))
          (try simp only [Act.put, List.setIfInBounds_toArray, List.set_cons_zero, List.set_cons_succ])
          refine wpAnyH_takeD 10 (some 45) (v := ?vh5_10) rfl rfl (by kernel_rfl) (by kernel_rfl) (by kernel_rfl) (fun _ _ _ h => h) (.inl ⟨by kernel_rfl, ?hyh5_10⟩) hS ?resth5_10
          case hyh5_10 => (intro w hSw; (try dsimp only at hSw); go_simp; (try with_reducible rfl))
          (try simp only [Act.put, List.setIfInBounds_toArray, List.set_cons_zero, List.set_cons_succ])
          refine wpAnyH_takeD 11 (some 46) (v := ?vh5_11) rfl rfl (by kernel_rfl) (by kernel_rfl) (by kernel_rfl) (fun _ _ _ h => h) (.inl ⟨by kernel_rfl, ?hyh5_11⟩) hS ?resth5_11
          case hyh5_11 => (intro w hSw; (try dsimp only at hSw); go_simp; (try with_reducible rfl))
          (try simp only [Act.put, List.setIfInBounds_toArray, List.set_cons_zero, List.set_cons_succ])
          refine wpAnyH_takeD 12 (some 47) (v := ?vh5_12) rfl rfl (by kernel_rfl) (by kernel_rfl) (by kernel_rfl) (fun _ _ _ h => h) (.inl ⟨by kernel_rfl, ?hyh5_12⟩) hS ?resth5_12
          case hyh5_12 => (intro w hSw; (try dsimp only at hSw); go_simp; (try with_reducible rfl))
          (try simp only [Act.put, List.setIfInBounds_toArray, List.set_cons_zero, List.set_cons_succ])
          refine wpAnyH_takeD 13 (some 48) (v := ?vh5_13) rfl rfl (by kernel_rfl) (by kernel_rfl) (by kernel_rfl) (fun _ _ _ h => h) (.inl ⟨by kernel_rfl, ?hyh5_13⟩) hS ?resth5_13
          case hyh5_13 => (intro w hSw; (try dsimp only at hSw); go_simp; (try with_reducible rfl))
          (try simp only [Act.put, List.setIfInBounds_toArray, List.set_cons_zero, List.set_cons_succ])
          refine wpAnyH_takeD 14 (some 49) (v := ?vh5_14) rfl rfl (by kernel_rfl) (by kernel_rfl) (by kernel_rfl) (fun _ _ _ h => h) (.inl ⟨by kernel_rfl, ?hyh5_14⟩) hS ?resth5_14
          case hyh5_14 => (intro w hSw; (try dsimp only at hSw); go_simp; (try with_reducible rfl))
          (try simp only [Act.put, List.setIfInBounds_toArray, List.set_cons_zero, List.set_cons_succ])
          refine wpAnyH_takeD 15 (some 50) (v := ?vh5_15) rfl rfl (by kernel_rfl) (by kernel_rfl) (by kernel_rfl) (fun _ _ _ h => h) (.inl ⟨by kernel_rfl, ?hyh5_15⟩) hS ?resth5_15
          case hyh5_15 => (intro w hSw; (try dsimp only at hSw); go_simp; (try with_reducible rfl))
          (try simp only [Act.put, List.setIfInBounds_toArray, List.set_cons_zero, List.set_cons_succ])
          refine wpAnyH_takeD 16 (some 51) (v := ?vh5_16) rfl rfl (by kernel_rfl) (by kernel_rfl) (by kernel_rfl) (fun _ _ _ h => h) (.inl ⟨by kernel_rfl, ?hyh5_16⟩) hS ?resth5_16
          case hyh5_16 => (intro w hSw; (try dsimp only at hSw); go_simp; (try with_reducible rfl))
          (try simp only [Act.put, List.setIfInBounds_toArray, List.set_cons_zero, List.set_cons_succ])
          refine wpAnyH_takeD 17 (some 52) (v := ?vh5_17) rfl rfl (by kernel_rfl) (by kernel_rfl) (by kernel_rfl) (fun _ _ _ h => h) (.inl ⟨by kernel_rfl, ?hyh5_17⟩) hS ?resth5_17
          case hyh5_17 => (intro w hSw; (try dsimp only at hSw); go_simp; (try with_reducible rfl))
          (try simp only [Act.put, List.setIfInBounds_toArray, List.set_cons_zero, List.set_cons_succ])
          refine wpAnyH_takeD 18 (some 53) (v := ?vh5_18) rfl rfl (by kernel_rfl) (by kernel_rfl) (by kernel_rfl) (fun _ _ _ h => h) (.inl ⟨by kernel_rfl, ?hyh5_18⟩) hS ?resth5_18
          case hyh5_18 => (intro w hSw; (try dsimp only at hSw); go_simp; (try with_reducible rfl))
          (try simp only [Act.put, List.setIfInBounds_toArray, List.set_cons_zero, List.set_cons_succ])
          refine wpAnyH_takeD 19 (some 54) (v := ?vh5_19) rfl rfl (by kernel_rfl) (by kernel_rfl) (by kernel_rfl) (fun _ _ _ h => h) (.inl ⟨by kernel_rfl, ?hyh5_19⟩) hS ?resth5_19
          case hyh5_19 => (intro w hSw; (try dsimp only at hSw); go_simp; (try with_reducible rfl))
          (try simp only [Act.put, List.setIfInBounds_toArray, List.set_cons_zero, List.set_cons_succ])
          refine wpAnyH_takeD 20 (some 55) (v := ?vh5_20) rfl rfl (by kernel_rfl) (by kernel_rfl) (by kernel_rfl) (fun _ _ _ h => h) (.inl ⟨by kernel_rfl, ?hyh5_20⟩) hS ?resth5_20
          case hyh5_20 => (intro w hSw; (try dsimp only at hSw); go_simp; (try with_reducible rfl))
          (try simp only [Act.put, List.setIfInBounds_toArray, List.set_cons_zero, List.set_cons_succ])
          refine wpAnyH_takeD 21 (some 56) (v := ?vh5_21) rfl rfl (by kernel_rfl) (by kernel_rfl) (by kernel_rfl) (fun _ _ _ h => h) (.inl ⟨by kernel_rfl, ?hyh5_21⟩) hS ?resth5_21
          case hyh5_21 => (intro w hSw; (try dsimp only at hSw); go_simp; (try with_reducible rfl))
          (try simp only [Act.put, List.setIfInBounds_toArray, List.set_cons_zero, List.set_cons_succ])
          refine wpAnyH_takeD 22 (some 57) (v := ?vh5_22) rfl rfl (by kernel_rfl) (by kernel_rfl) (by kernel_rfl) (fun _ _ _ h => h) (.inl ⟨by kernel_rfl, ?hyh5_22⟩) hS ?resth5_22
          case hyh5_22 => (intro w hSw; (try dsimp only at hSw); go_simp; (try with_reducible rfl))
          (try simp only [Act.put, List.setIfInBounds_toArray, List.set_cons_zero, List.set_cons_succ])
          refine wpAnyH_takeD 23 (some 58) (v := ?vh5_23) rfl rfl (by kernel_rfl) (by kernel_rfl) (by kernel_rfl) (fun _ _ _ h => h) (.inl ⟨by kernel_rfl, ?hyh5_23⟩) hS ?resth5_23
          case hyh5_23 => (intro w hSw; (try dsimp only at hSw); go_simp; (try with_reducible rfl))
          (try simp only [Act.put, List.setIfInBounds_toArray, List.set_cons_zero, List.set_cons_succ])
          refine wpAnyH_takeD 24 (some 59) (v := ?vh5_24) rfl rfl (by kernel_rfl) (by kernel_rfl) (by kernel_rfl) (fun _ _ _ h => h) (.inl ⟨by kernel_rfl, ?hyh5_24⟩) hS ?resth5_24
          case hyh5_24 => (intro w hSw; (try dsimp only at hSw); go_simp; (try with_reducible rfl))
          (try simp only [Act.put, List.setIfInBounds_toArray, List.set_cons_zero, List.set_cons_succ])
          refine wpAnyH_takeD 25 (some 60) (v := ?vh5_25) rfl rfl (by kernel_rfl) (by kernel_rfl) (by kernel_rfl) (fun _ _ _ h => h) (.inl ⟨by kernel_rfl, ?hyh5_25⟩) hS ?resth5_25
          case hyh5_25 => (intro w hSw; (try dsimp only at hSw); go_simp; (try with_reducible rfl))
          (try simp only [Act.put, List.setIfInBounds_toArray, List.set_cons_zero, List.set_cons_succ])
          refine wpAnyH_takeD 26 (some 61) (v := ?vh5_26) rfl rfl (by kernel_rfl) (by kernel_rfl) (by kernel_rfl) (fun _ _ _ h => h) (.inl ⟨by kernel_rfl, ?hyh5_26⟩) hS ?resth5_26
          case hyh5_26 => (intro w hSw; (try dsimp only at hSw); go_simp; (try with_reducible rfl))
          (try simp only [Act.put, List.setIfInBounds_toArray, List.set_cons_zero, List.set_cons_succ])
          refine wpAnyH_takeD 27 (some 62) (v := ?vh5_27) rfl rfl (by kernel_rfl) (by kernel_rfl) (by kernel_rfl) (fun _ _ _ h => h) (.inl ⟨by kernel_rfl, ?hyh5_27⟩) hS ?resth5_27
          case hyh5_27 => (intro w hSw; (try dsimp only at hSw); go_simp; (try with_reducible rfl))
          (try simp only [Act.put, List.setIfInBounds_toArray, List.set_cons_zero, List.set_cons_succ])
          refine wpAnyH_takeD 28 (some 63) (v := ?vh5_28) rfl rfl (by kernel_rfl) (by kernel_rfl) (by kernel_rfl) (fun _ _ _ h => h) (.inl ⟨by kernel_rfl, ?hyh5_28⟩) hS ?resth5_28
          case hyh5_28 => (intro w hSw; (try dsimp only at hSw); go_simp; (try with_reducible rfl))
          (try simp only [Act.put, List.setIfInBounds_toArray, List.set_cons_zero, List.set_cons_succ])
          refine wpAnyH_takeD 29 (some 64) (v := ?vh5_29) rfl rfl (by kernel_rfl) (by kernel_rfl) (by kernel_rfl) (fun _ _ _ h => h) (.inl ⟨by kernel_rfl, ?hyh5_29⟩) hS ?resth5_29
          case hyh5_29 => (intro w hSw; (try dsimp only at hSw); go_simp; (try with_reducible rfl))
          (try simp only [Act.put, List.setIfInBounds_toArray, List.set_cons_zero, List.set_cons_succ])
          refine wpAnyH_takeD 30 (some 65) (v := ?vh5_30) rfl rfl (by kernel_rfl) (by kernel_rfl) (by kernel_rfl) (fun _ _ _ h => h) (.inl ⟨by kernel_rfl, ?hyh5_30⟩) hS ?resth5_30
          case hyh5_30 => (intro w hSw; (try dsimp only at hSw); go_simp; (try with_reducible rfl))
          (try simp only [Act.put, List.setIfInBounds_toArray, List.set_cons_zero, List.set_cons_succ])
          refine wpAnyH_takeD 31 (some 66) (v := ?vh5_31) rfl rfl (by kernel_rfl) (by kernel_rfl) (by kernel_rfl) (fun _ _ _ h => h) (.inl ⟨by kernel_rfl, ?hyh5_31⟩) hS ?resth5_31
          case hyh5_31 => (intro w hSw; (try dsimp only at hSw); go_simp; (try with_reducible rfl))
          (try simp only [Act.put, List.setIfInBounds_toArray, List.set_cons_zero, List.set_cons_succ])
          refine wpAnyH_takeD 32 (some 67) (v := ?vh5_32) rfl rfl (by kernel_rfl) (by kernel_rfl) (by kernel_rfl) (fun _ _ _ h => h) (.inl ⟨by kernel_rfl, ?hyh5_32⟩) hS ?resth5_32
          case hyh5_32 => (intro w hSw; (try dsimp only at hSw); go_simp; (try with_reducible rfl))
          (try simp only [Act.put, List.setIfInBounds_toArray, List.set_cons_zero, List.set_cons_succ])
          refine wpAnyH_takeD 33 (some 68) (v := ?vh5_33) rfl rfl (by kernel_rfl) (by kernel_rfl) (by kernel_rfl) (fun _ _ _ h => h) (.inl ⟨by kernel_rfl, ?hyh5_33⟩) hS ?resth5_33
          case hyh5_33 => (intro w hSw; (try dsimp only at hSw); go_simp; (try with_reducible rfl))
          (try simp only [Act.put, List.setIfInBounds_toArray, List.set_cons_zero, List.set_cons_succ])
          refine wpAnyH_ready (rs := [34]) (by kernel_rfl) (by simp) ?_
          refine AllReadyH.cons (o := { dst := some 69, op := Op.call { callee := Callee.value (Operand.func 68), args := #[Operand.tmp 64, Operand.tmp 68], argTypes := #[40, 3] }, type := 4, pos := "ref.go:233", after := #[{ on := 29, ground := Ground.data }, { on := 33, ground := Ground.data }, { on := 25, ground := Ground.chain }, { on := 25, ground := Ground.guard }], guard := some (25, true) }) ?hoh5_34 ?hth5_34 ?hnh5_34
          case hoh5_34 => rfl
          case hnh5_34 => exact AllReadyH.nil
          intro K hK
          refine iteP (by kernel_rfl) ?_
          go_simp
          go_at_call 68
          with_reducible refine (there_calls _ _ _ _ _ _ _ _ _ _ _).mono ?_
          rintro e w8 ⟨rfl, hb8⟩
          rw [← HTB.out]
          have hS8 := tc6_next hb8 hS
          refine hK.out _ _ hS8 (fun _ => ?_)
          clear hS K hK
          have hS := hS8
          clear hS8
          (try simp only [Act.put, List.setIfInBounds_toArray, List.set_cons_zero, List.set_cons_succ])
          refine wpAnyH_takeD 35 (some 70) (v := ?vh5_35) rfl rfl (by kernel_rfl) (by kernel_rfl) (by kernel_rfl) (fun _ _ _ h => h) (.inl ⟨by kernel_rfl, ?hyh5_35⟩) hS ?resth5_35
          case hyh5_35 => (intro w hSw; (try dsimp only at hSw); go_simp; (try with_reducible rfl))
          (try simp only [Act.put, List.setIfInBounds_toArray, List.set_cons_zero, List.set_cons_succ])
          refine wpAnyH_takeD 36 (some 71) (v := ?vh5_36) rfl rfl (by kernel_rfl) (by kernel_rfl) (by kernel_rfl) (fun _ _ _ h => h) (.inl ⟨by kernel_rfl, ?hyh5_36⟩) hS ?resth5_36
          case hyh5_36 => (intro w hSw; (try dsimp only at hSw); go_simp; (try with_reducible rfl))
          (try simp only [Act.put, List.setIfInBounds_toArray, List.set_cons_zero, List.set_cons_succ])
          refine wpAnyH_takeD 37 (some 72) (v := ?vh5_37) rfl rfl (by kernel_rfl) (by kernel_rfl) (by kernel_rfl) (fun _ _ _ h => h) (.inl ⟨by kernel_rfl, ?hyh5_37⟩) hS ?resth5_37
          case hyh5_37 => (intro w hSw; (try dsimp only at hSw); go_simp; (try with_reducible rfl))
          (try simp only [Act.put, List.setIfInBounds_toArray, List.set_cons_zero, List.set_cons_succ])
          refine wpAnyH_done (by kernel_rfl) ?_ _
          go_wp2
          go_meet
          case rel => exact ⟨rfl, hS.1⟩
      case rest =>
        obtain ⟨rfl, hbc⟩ := hcut
        have HBC := Lib.hid (bl_trans HB.out hbc)
        clear hbc
        cases bb
        case true =>
          have HN := Lib.hid (show ¬ okH L dl P from fun h => h.2.2.2 k HXL.out (HBAD.out.2 (of_decide_eq_true HBB.out.symm)))
          go_wp2
          go_ret3
          exact ⟨-1, -1, false, rfl, .no HN.out, HBC.out⟩
        case false =>
          have HN := Lib.hid (show ¬ badR (tdOf L) (pday dl) k from fun h => of_decide_eq_false HBB.out.symm (HBAD.out.1 h))
          go_wp2
          exact ⟨⟨k + 1, by omega, by go_num, HBC.out, fun j hj => by
            by_cases h : j = k
            · rw [h]; exact HN.out
            · exact HG.out j (by omega)⟩, by simp [intOf]; omega⟩
    · obtain rfl : k = L.length := by omega
      have q1 : ¬ (L.length : Int) < (L.length : Int) := by omega
      have HOK := Lib.hid (show okH L dl P from ⟨by omega, HDL.out, HPL.out, HG.out⟩)
      clear hb
      go_wp2
      go_loopw [11] (fun i wr => ∃ k : Nat, k ≤ L.length ∧ i = .int .i64 (k : Int) ∧ Below w.heap.size w wr ∧ ∀ i', i' < k → ∀ k', k' < L.length → ¬ lieB (tdOf L) (pday dl) (ppay P) i' k') (fun i _ => L.length - (intOf i).toNat)
      case atStart => exact ⟨0, by omega, rfl, HB.out, fun j hj => by omega⟩
      case round =>
        obtain ⟨i, hi, rfl, hb2, hno⟩ := hrel
        have HB2 := Lib.hid hb2
        have HNO := Lib.hid hno
        clear hno
        by_cases hx : i < L.length
        case neg =>
          obtain rfl : i = L.length := by omega
          have q1 : ¬ (L.length : Int) < (L.length : Int) := by omega
          clear hb2
          go_wp2
          go_ret3
          exact ⟨-1, -1, true, rfl, .inr ⟨HOK.out, .inr ⟨rfl, rfl, rfl, HNO.out⟩⟩, HB2.out⟩
        obtain ⟨x, hx1⟩ : ∃ x, L[i]? = some x := ⟨_, List.getElem?_eq_getElem hx⟩
        obtain ⟨d, hd1⟩ : ∃ d, dl[i]? = some d := ⟨_, List.getElem?_eq_getElem (by have := HDL.out; omega)⟩
        obtain ⟨p, hp1⟩ : ∃ p, P[i]? = some p := ⟨_, List.getElem?_eq_getElem (by have := HPL.out; omega)⟩
        obtain ⟨ad, A1, a1, A2, a2, rfl, e0, e1, e2, e3, e4, hfx⟩ := (HV.out.below hb2).at hx1
        obtain ⟨bd, rfl, d0⟩ := (HD.out.below hb2).at hd1
        obtain ⟨pd, cp', P1, p1, P2, p2, hsl, _, _, f0, f1, f2, hfp⟩ := (HP.out.below hb2).at hp1
        obtain ⟨rfl, rfl⟩ : C = some pd ∧ cp = cp' := by simpa using hsl
        have q1 : (i : Int) < (L.length : Int) := by omega
        have q2 : (i : Int) < (dl.length : Int) := by have := HDL.out; omega
        have q3 : (i : Int) < (P.length : Int) := by have := HPL.out; omega
        have hs : (fun (w' : World) => Below wr.heap.size wr w' ∧ w'.cell? (ad.add (i * 5)) = some (.int .i64 x.1) ∧ w'.cell? ⟨(ad.add (i * 5)).block, (ad.add (i * 5)).off + 1, none⟩ = some (.int .i64 x.2.1) ∧ w'.cell? ⟨(ad.add (i * 5)).block, (ad.add (i * 5)).off + 2, none⟩ = some (.bool x.2.2.1) ∧ w'.cell? ⟨(ad.add (i * 5)).block, (ad.add (i * 5)).off + 3, none⟩ = some (.slice A1 x.2.2.2.1.length a1) ∧ w'.cell? ⟨(ad.add (i * 5)).block, (ad.add (i * 5)).off + 4, none⟩ = some (.slice A2 x.2.2.2.2.length a2) ∧ w'.cell? (bd.add i) = some (.int .i64 d) ∧ w'.cell? (pd.add (i * 3)) = some (.bool p.1) ∧ w'.cell? ⟨(pd.add (i * 3)).block, (pd.add (i * 3)).off + 1, none⟩ = some (.slice P1 p.2.1.length p1) ∧ w'.cell? ⟨(pd.add (i * 3)).block, (pd.add (i * 3)).off + 2, none⟩ = some (.slice P2 p.2.2.length p2)) wr.drew := tc9_next (bl_drew wr) ⟨Below.refl _ _, e0, e1, e2, e3, e4, d0, f0, f1, f2⟩
        have fewx := HF.out x (List.mem_of_getElem? hx1)
        have fewp := HF2.out p (List.mem_of_getElem? hp1)
        have hqv : FrQ wr (.agg #[.bool x.2.2.1, .slice A1 x.2.2.2.1.length a1, .slice A2 x.2.2.2.2.length a2]) (fqd x.2.2) := ⟨_, _, _, hfx, by omega, rfl⟩
        have hqp : FrQ wr (.agg #[.bool p.1, .slice P1 p.2.1.length p1, .slice P2 p.2.2.length p2]) (fqd p) := ⟨_, _, _, hfp, by omega, rfl⟩
        have szx := few_szv (by omega) HF.out HWD.out hx1
        have hsh : Short (hasq (fqd x.2.2) d (fqd p)) := (hasq_szq szx (few_szp (by omega) HF2.out HWP.out hp1) (by omega) d).short (by omega)
        obtain ⟨qo, hqo⟩ : ∃ q, q = hasq (fqd x.2.2) d (fqd p) := ⟨_, rfl⟩
        have HQO := Lib.hid hqo
        have HSH := Lib.hid hsh
        have HSZ := Lib.hid szx
        have HQV := Lib.hid hqv
        have HQP := Lib.hid hqp
        have HX1 := Lib.hid hx1
        have HD1 := Lib.hid hd1
        have HP1 := Lib.hid hp1
        have HXL := Lib.hid hx
        have HS := Lib.hid hs
        clear hb2 hx1 hd1 hp1 hsl hfx hfp hqv hqp szx hsh hqo e0 e1 e2 e3 e4 d0 f0 f1 f2 hs fewx fewp
        go_upto_region 12 with fail
        go_cut [12] (fun t12 wx => ∃ g O1 o1 O2 o2, t12 = .pointer (some ⟨g, 0, none⟩) ∧ Below w.heap.size w wx ∧ Blk wx g 38 #[.bool (decide (qo.num < 0)), .slice O1 (dg qo.num.natAbs).length o1, .slice O2 (dg qo.den).length o2] ∧ FrV wx (.agg #[.bool (decide (qo.num < 0)), .slice O1 (dg qo.num.natAbs).length o1, .slice O2 (dg qo.den).length o2]) qo)
        case first =>
          have hS0 := HS.out
          refine wp_region_T (fun (w' : World) => Below wr.heap.size wr w' ∧ w'.cell? (ad.add (i * 5)) = some (.int .i64 x.1) ∧ w'.cell? ⟨(ad.add (i * 5)).block, (ad.add (i * 5)).off + 1, none⟩ = some (.int .i64 x.2.1) ∧ w'.cell? ⟨(ad.add (i * 5)).block, (ad.add (i * 5)).off + 2, none⟩ = some (.bool x.2.2.1) ∧ w'.cell? ⟨(ad.add (i * 5)).block, (ad.add (i * 5)).off + 3, none⟩ = some (.slice A1 x.2.2.2.1.length a1) ∧ w'.cell? ⟨(ad.add (i * 5)).block, (ad.add (i * 5)).off + 4, none⟩ = some (.slice A2 x.2.2.2.2.length a2) ∧ w'.cell? (bd.add i) = some (.int .i64 d) ∧ w'.cell? (pd.add (i * 3)) = some (.bool p.1) ∧ w'.cell? ⟨(pd.add (i * 3)).block, (pd.add (i * 3)).off + 1, none⟩ = some (.slice P1 p.2.1.length p1) ∧ w'.cell? ⟨(pd.add (i * 3)).block, (pd.add (i * 3)).off + 2, none⟩ = some (.slice P2 p.2.2.length p2)) 15 (by kernel_rfl) ?_
          have hS := hS0
          simp only [List.size_toArray, List.length_cons, List.length_nil, Nat.reduceAdd]
          refine wpAnyT_take 0 (some 78) (v := ?vr1_0) rfl rfl (by kernel_rfl) (by kernel_rfl) (by kernel_rfl) (by kernel_rfl) (fun _ _ _ h => h) rfl ?hyr1_0 hS ?restr1_0
          case hyr1_0 => (intro w hSw; (try dsimp only at hSw); go_simp; (try with_reducible rfl))
          (try simp only [Act.put, List.setIfInBounds_toArray, List.set_cons_zero, List.set_cons_succ])
          refine wpAnyT_take 1 (some 79) (v := ?vr1_1) rfl rfl (by kernel_rfl) (by kernel_rfl) (by kernel_rfl) (by kernel_rfl) (fun _ _ _ h => h) rfl ?hyr1_1 hS ?restr1_1
          case hyr1_1 => (intro w hSw; (try dsimp only at hSw); go_simp; (try with_reducible rfl))
          (try simp only [Act.put, List.setIfInBounds_toArray, List.set_cons_zero, List.set_cons_succ])
          refine wpAnyT_take 2 (some 80) (v := ?vr1_2) rfl rfl (by kernel_rfl) (by kernel_rfl) (by kernel_rfl) (by kernel_rfl) (fun _ _ _ h => h) rfl ?hyr1_2 hS ?restr1_2
          case hyr1_2 => (intro w hSw; (try dsimp only at hSw); go_simp; (try with_reducible rfl))
          (try simp only [Act.put, List.setIfInBounds_toArray, List.set_cons_zero, List.set_cons_succ])
          refine wpAnyT_take 3 (some 81) (v := ?vr1_3) rfl rfl (by kernel_rfl) (by kernel_rfl) (by kernel_rfl) (by kernel_rfl) (fun _ _ _ h => h) rfl ?hyr1_3 hS ?restr1_3
          case hyr1_3 => (intro w hSw; (try dsimp only at hSw); go_simp; (try with_reducible rfl))
          (try simp only [Act.put, List.setIfInBounds_toArray, List.set_cons_zero, List.set_cons_succ])
          refine wpAnyT_take 4 (some 82) (v := ?vr1_4) rfl rfl (by kernel_rfl) (by kernel_rfl) (by kernel_rfl) (by kernel_rfl) (fun _ _ _ h => h) rfl ?hyr1_4 hS ?restr1_4
          case hyr1_4 => (intro w hSw; (try dsimp only at hSw); go_simp; (try with_reducible rfl))
          (try simp only [Act.put, List.setIfInBounds_toArray, List.set_cons_zero, List.set_cons_succ])
          refine wpAnyT_take 5 (some 83) (v := ?vr1_5) rfl rfl (by kernel_rfl) (by kernel_rfl) (by kernel_rfl) (by kernel_rfl) (fun _ _ _ h => h) rfl ?hyr1_5 hS ?restr1_5
          case hyr1_5 => (intro w hSw; (try dsimp only at hSw); go_simp; (try with_reducible rfl))
          (try simp only [Act.put, List.setIfInBounds_toArray, List.set_cons_zero, List.set_cons_succ])
          refine wpAnyT_take 6 (some 84) (v := ?vr1_6) rfl rfl (by kernel_rfl) (by kernel_rfl) (by kernel_rfl) (by kernel_rfl) (fun _ _ _ h => h) rfl ?hyr1_6 hS ?restr1_6
          case hyr1_6 => (intro w hSw; (try dsimp only at hSw); go_simp; (try with_reducible rfl))
          (try simp only [Act.put, List.setIfInBounds_toArray, List.set_cons_zero, List.set_cons_succ])
          refine wpAnyT_take 7 (some 85) (v := ?vr1_7) rfl rfl (by kernel_rfl) (by kernel_rfl) (by kernel_rfl) (by kernel_rfl) (fun _ _ _ h => h) rfl ?hyr1_7 hS ?restr1_7
          case hyr1_7 => (intro w hSw; (try dsimp only at hSw); go_simp; (try with_reducible rfl))
          (try simp only [Act.put, List.setIfInBounds_toArray, List.set_cons_zero, List.set_cons_succ])
          refine wpAnyT_take 8 (some 86) (v := ?vr1_8) rfl rfl (by kernel_rfl) (by kernel_rfl) (by kernel_rfl) (by kernel_rfl) (fun _ _ _ h => h) rfl ?hyr1_8 hS ?restr1_8
          case hyr1_8 => (intro w hSw; (try dsimp only at hSw); go_simp; (try with_reducible rfl))
          (try simp only [Act.put, List.setIfInBounds_toArray, List.set_cons_zero, List.set_cons_succ])
          refine wpAnyT_take 9 (some 87) (v := ?vr1_9) rfl rfl (by kernel_rfl) (by kernel_rfl) (by kernel_rfl) (by kernel_rfl) (fun _ _ _ h => h) rfl ?hyr1_9 hS ?restr1_9
          case hyr1_9 => (intro w hSw; (try dsimp only at hSw); go_simp; (try with_reducible rfl))
          (try simp only [Act.put, List.setIfInBounds_toArray, List.set_cons_zero, List.set_cons_succ])
          refine wpAnyT_take 10 (some 88) (v := ?vr1_10) rfl rfl (by kernel_rfl) (by kernel_rfl) (by kernel_rfl) (by kernel_rfl) (fun _ _ _ h => h) rfl ?hyr1_10 hS ?restr1_10
          case hyr1_10 => (intro w hSw; (try dsimp only at hSw); go_simp; (try with_reducible rfl))
          (try simp only [Act.put, List.setIfInBounds_toArray, List.set_cons_zero, List.set_cons_succ])
          refine wpAnyT_take 11 (some 89) (v := ?vr1_11) rfl rfl (by kernel_rfl) (by kernel_rfl) (by kernel_rfl) (by kernel_rfl) (fun _ _ _ h => h) rfl ?hyr1_11 hS ?restr1_11
          case hyr1_11 => (intro w hSw; (try dsimp only at hSw); go_simp; (try with_reducible rfl))
          (try simp only [Act.put, List.setIfInBounds_toArray, List.set_cons_zero, List.set_cons_succ])
          refine wpAnyT_take 12 (some 90) (v := ?vr1_12) rfl rfl (by kernel_rfl) (by kernel_rfl) (by kernel_rfl) (by kernel_rfl) (fun _ _ _ h => h) rfl ?hyr1_12 hS ?restr1_12
          case hyr1_12 => (intro w hSw; (try dsimp only at hSw); go_simp; (try with_reducible rfl))
          (try simp only [Act.put, List.setIfInBounds_toArray, List.set_cons_zero, List.set_cons_succ])
          refine wpAnyT_two (i := 13) (j := 14) rfl rfl (by kernel_rfl) rfl rfl (fun K hK => ?_) (fun K hK => ?_)
          · simp only [List.getElem_toArray, List.getElem_cons_succ, List.getElem_cons_zero]
            go_simp
            go_at_call 69
            with_reducible refine (rhas_calls _ _ _ (fqd x.2.2) (fqd p) d ?_ ?_ HSH.out).mono ?_
            exact HQV.out.below hS.1
            exact HQP.out.below hS.1
            rintro e w8 ⟨v8, rfl, hv8, hb8⟩
            rw [← HQO.out] at hv8
            obtain ⟨O1, o1, O2, o2, rfl, _, _, _, _⟩ := FrIn.shape hv8
            have hS8 := tc9_next hb8 hS
            have al := below_alloc0 w8 (.cells #[.bool false, .slice none 0 0, .slice none 0 0] 38)
            have KO := Blk.new w8 38 #[.bool false, .slice none 0 0, .slice none 0 0]
            have m0 := KO.cell 0
            have m1 := KO.cell 1
            have m2 := KO.cell 2
            have mf := KO.free
            have hSA := tc9_next al hS8
            have al9 := below_alloc0 w8 (.cells #[.bool (decide (qo.num < 0)), .slice O1 (dg qo.num.natAbs).length o1, .slice O2 (dg qo.den).length o2] 38)
            have HB9 := Lib.hid (bl_trans (bl_trans HB2.out hS8.1) al9)
            have HV9 := Lib.hid (FrV.below hv8 al9)
            clear hv8 al al9 KO
            refine hK.out _ _ (fun _ => hS8) ?_
            clear hS K hK
            have hS := hS8
            clear hS8
            (try simp only [Act.put, List.setIfInBounds_toArray, List.set_cons_zero, List.set_cons_succ])
            refine wpAnyT_one (i := 14) rfl (by kernel_rfl) rfl (fun K hK => ?_)
            simp only [List.getElem_toArray, List.getElem_cons_succ, List.getElem_cons_zero]
            go_simp
            refine hK.out _ _ (fun _ => hSA) ?_
            clear hS K hK
            have hS := hSA
            clear hSA
            (try simp only [Act.put, List.setIfInBounds_toArray, List.set_cons_zero, List.set_cons_succ])
            refine wpAnyT_one (i := 15) rfl (by kernel_rfl) rfl (fun K hK => ?_)
            simp only [List.getElem_toArray, List.getElem_cons_succ, List.getElem_cons_zero]
            go_simp
            refine hK.out _ _ (fun h => absurd rfl h) ?_
            clear hS K hK
            refine wpAnyT_done (by kernel_rfl) ?_ _
            clear m0 m1 m2 mf
            go_wp2
            go_meet
            case rel => exact ⟨_, O1, o1, O2, o2, rfl, HB9.out, Blk.new _ _ _, HV9.out⟩
          · simp only [List.getElem_toArray, List.getElem_cons_succ, List.getElem_cons_zero]
            go_simp
            have al := below_alloc0 wr.drew (.cells #[.bool false, .slice none 0 0, .slice none 0 0] 38)
            have KO := Lib.hid (show Blk (wr.drew.alloc (.cells #[.bool false, .slice none 0 0, .slice none 0 0] 38)) wr.heap.size 38 #[.bool false, .slice none 0 0, .slice none 0 0] from Blk.new wr.drew _ _)
            have hSA := tc9_next al hS
            refine hK.out _ _ (fun _ => hSA) ?_
            clear hS K hK al
            have hS := hSA
            clear hSA
            (try simp only [Act.put, List.setIfInBounds_toArray, List.set_cons_zero, List.set_cons_succ])
            refine wpAnyT_one (i := 13) rfl (by kernel_rfl) rfl (fun K hK => ?_)
            simp only [List.getElem_toArray, List.getElem_cons_succ, List.getElem_cons_zero]
            go_simp
            go_at_call 69
            with_reducible refine (rhas_calls _ _ _ (fqd x.2.2) (fqd p) d ?_ ?_ HSH.out).mono ?_
            exact HQV.out.below hS.1
            exact HQP.out.below hS.1
            rintro e w8 ⟨v8, rfl, hv8, hb8⟩
            rw [← HQO.out] at hv8
            obtain ⟨O1, o1, O2, o2, rfl, _, _, _, _⟩ := FrIn.shape hv8
            have hS8 := tc9_next hb8 hS
            have K8 := KO.out.below hb8
            have m0 := K8.cell 0
            have m1 := K8.cell 1
            have m2 := K8.cell 2
            have mf := K8.free
            have hb9 := bl_trans HB2.out hS8.1
            have hge := HB2.out.size
            have F2 := FBox.fr K8 (boolne _) (slne _ _ _) (slne _ _ _) (.bool (decide (qo.num < 0))) (.slice O1 (dg qo.num.natAbs).length o1) (.slice O2 (dg qo.den).length o2)
            have HB9 := Lib.hid (hb9.trans (F2.below hb9.size (fun y hy => by have e : y = wr.heap.size := hy; omega)))
            have HV9 := Lib.hid (F2.keep.fr hv8)
            have HK9 := Lib.hid (blk3 K8 (.bool (decide (qo.num < 0))) (.slice O1 (dg qo.num.natAbs).length o1) (.slice O2 (dg qo.den).length o2))
            clear hv8 F2 K8 hb9 hge KO
            refine hK.out _ _ (fun _ => hS8) ?_
            clear hS K hK
            have hS := hS8
            clear hS8
            (try simp only [Act.put, List.setIfInBounds_toArray, List.set_cons_zero, List.set_cons_succ])
            refine wpAnyT_one (i := 15) rfl (by kernel_rfl) rfl (fun K hK => ?_)
            simp only [List.getElem_toArray, List.getElem_cons_succ, List.getElem_cons_zero]
            go_simp
            refine hK.out _ _ (fun h => absurd rfl h) ?_
            clear hS K hK
            refine wpAnyT_done (by kernel_rfl) ?_ _
            clear m0 m1 m2 mf
            go_wp2
            go_meet
            case rel => exact ⟨_, O1, o1, O2, o2, rfl, HB9.out, HK9.out, HV9.out⟩
        case rest =>
        obtain ⟨g, O1, o1, O2, o2, rfl, hb9, hK9, hV9⟩ := hcut
        have HB9 := Lib.hid hb9
        have HK9 := Lib.hid hK9
        have HV9 := Lib.hid hV9
        clear q1 q2 q3 hb9 hK9 hV9
        go_wp2
        go_loopw [13] (fun iv wy => ∃ k : Nat, k ≤ L.length ∧ iv = .int .i64 (k : Int) ∧ Below w.heap.size w wy ∧ Blk wy g 38 #[.bool (decide (qo.num < 0)), .slice O1 (dg qo.num.natAbs).length o1, .slice O2 (dg qo.den).length o2] ∧ FrV wy (.agg #[.bool (decide (qo.num < 0)), .slice O1 (dg qo.num.natAbs).length o1, .slice O2 (dg qo.den).length o2]) qo ∧ ∀ k', k' < k → ¬ lieB (tdOf L) (pday dl) (ppay P) i k') (fun iv _ => L.length - (intOf iv).toNat)
        case atStart => exact ⟨0, by omega, rfl, HB9.out, HK9.out, HV9.out, fun j hj => by omega⟩
        case round =>
          obtain ⟨k, hk, rfl, hb3, hK3, hV3, hno3⟩ := hrel
          have HB3 := Lib.hid hb3
          have HK3 := Lib.hid hK3
          have HV3 := Lib.hid hV3
          have HNO3 := Lib.hid hno3
          clear hno3
          by_cases hy : k < L.length
          case neg =>
            obtain rfl : k = L.length := by omega
            have q1 : ¬ (L.length : Int) < (L.length : Int) := by omega
            clear hb3 hK3 hV3
            go_wp2
            exact ⟨⟨i + 1, by have := HXL.out; omega, by go_num, HB3.out, fun i' hi' k' hk' => by
              by_cases h : i' = i
              · rw [h]; exact HNO3.out k' hk'
              · exact HNO.out i' (by omega) k' hk'⟩, by have := HXL.out; simp [intOf]; omega⟩
          obtain ⟨y, hy1⟩ : ∃ x, L[k]? = some x := ⟨_, List.getElem?_eq_getElem hy⟩
          obtain ⟨dk, hdk⟩ : ∃ d, dl[k]? = some d := ⟨_, List.getElem?_eq_getElem (by have := HDL.out; omega)⟩
          obtain ⟨pk, hpk⟩ : ∃ p, P[k]? = some p := ⟨_, List.getElem?_eq_getElem (by have := HPL.out; omega)⟩
          obtain ⟨ad', X1, x1, X2, x2, had, e0, e1, e2, e3, e4, hfx⟩ := (HV.out.below hb3).at HX1.out
          obtain rfl : ad = ad' := by simpa using had
          obtain ⟨ad', Y1, y1, Y2, y2, had2, f0, f1, f2, f3, f4, hfy⟩ := (HV.out.below hb3).at hy1
          obtain rfl : ad = ad' := by simpa using had2
          obtain ⟨bd', hbd, d0⟩ := (HD.out.below hb3).at hdk
          obtain rfl : bd = bd' := by simpa using hbd
          obtain ⟨pd', cp', P3, p3, P4, p4, hsl, _, _, m0, m1, m2, hfp⟩ := (HP.out.below hb3).at hpk
          obtain ⟨rfl, rfl⟩ : pd = pd' ∧ cp = cp' := by simpa using hsl
          have q1 : (k : Int) < (L.length : Int) := by omega
          have q2 : (k : Int) < (dl.length : Int) := by have := HDL.out; omega
          have q3 : (k : Int) < (P.length : Int) := by have := HPL.out; omega
          have q4 : (i : Int) < (L.length : Int) := by have := HXL.out; omega
          have fewx := HF.out x (List.mem_of_getElem? HX1.out)
          have fewp := HF2.out pk (List.mem_of_getElem? hpk)
          have hs : (fun (w' : World) => Below wr.heap.size wr w' ∧ w'.cell? (ad.add (i * 5)) = some (.int .i64 x.1) ∧ w'.cell? ⟨(ad.add (i * 5)).block, (ad.add (i * 5)).off + 1, none⟩ = some (.int .i64 x.2.1) ∧ w'.cell? ⟨(ad.add (i * 5)).block, (ad.add (i * 5)).off + 2, none⟩ = some (.bool x.2.2.1) ∧ w'.cell? ⟨(ad.add (i * 5)).block, (ad.add (i * 5)).off + 3, none⟩ = some (.slice X1 x.2.2.2.1.length x1) ∧ w'.cell? ⟨(ad.add (i * 5)).block, (ad.add (i * 5)).off + 4, none⟩ = some (.slice X2 x.2.2.2.2.length x2) ∧ w'.cell? (ad.add (k * 5)) = some (.int .i64 y.1) ∧ w'.cell? ⟨(ad.add (k * 5)).block, (ad.add (k * 5)).off + 1, none⟩ = some (.int .i64 y.2.1) ∧ w'.cell? ⟨(ad.add (k * 5)).block, (ad.add (k * 5)).off + 2, none⟩ = some (.bool y.2.2.1) ∧ w'.cell? ⟨(ad.add (k * 5)).block, (ad.add (k * 5)).off + 3, none⟩ = some (.slice Y1 y.2.2.2.1.length y1) ∧ w'.cell? ⟨(ad.add (k * 5)).block, (ad.add (k * 5)).off + 4, none⟩ = some (.slice Y2 y.2.2.2.2.length y2) ∧ w'.cell? (bd.add k) = some (.int .i64 dk) ∧ w'.cell? (pd.add (k * 3)) = some (.bool pk.1) ∧ w'.cell? ⟨(pd.add (k * 3)).block, (pd.add (k * 3)).off + 1, none⟩ = some (.slice P3 pk.2.1.length p3) ∧ w'.cell? ⟨(pd.add (k * 3)).block, (pd.add (k * 3)).off + 2, none⟩ = some (.slice P4 pk.2.2.length p4) ∧ w'.cell? ⟨g, 0, none⟩ = some (.bool (decide (qo.num < 0))) ∧ w'.cell? ⟨g, 1, none⟩ = some (.slice O1 (dg qo.num.natAbs).length o1) ∧ w'.cell? ⟨g, 2, none⟩ = some (.slice O2 (dg qo.den).length o2)) wr.drew := tc17_next (bl_drew wr) ⟨Below.refl _ _, e0, e1, e2, e3, e4, f0, f1, f2, f3, f4, d0, m0, m1, m2, hK3.cell 0, hK3.cell 1, hK3.cell 2⟩
          have hqv : FrQ wr (.agg #[.bool x.2.2.1, .slice X1 x.2.2.2.1.length x1, .slice X2 x.2.2.2.2.length x2]) (fqd x.2.2) := ⟨_, _, _, hfx, by omega, rfl⟩
          have hqp : FrQ wr (.agg #[.bool pk.1, .slice P3 pk.2.1.length p3, .slice P4 pk.2.2.length p4]) (fqd pk) := ⟨_, _, _, hfp, by omega, rfl⟩
          have hsh : Short (hasq (fqd x.2.2) dk (fqd pk)) := (hasq_szq HSZ.out (few_szp (by omega) HF2.out HWP.out hpk) (by omega) dk).short (by omega)
          obtain ⟨qk, hqk⟩ : ∃ q, q = hasq (fqd x.2.2) dk (fqd pk) := ⟨_, rfl⟩
          have hlie : lieB (tdOf L) (pday dl) (ppay P) i k ↔ (k ≠ i ∧ (x.1 ≤ y.1 ∧ y.2.1 ≤ x.2.1) ∧ qo < qk) := by
            unfold lieB
            rw [(tdOf_at HX1.out).1, (tdOf_at HX1.out).2.1, (tdOf_at HX1.out).2.2, (tdOf_at hy1).1, (tdOf_at hy1).2.1, pday_at HD1.out, pday_at hdk, ppay_at HP1.out, ppay_at hpk, ← HQO.out, ← hqk]
          obtain ⟨bb, hbb⟩ : ∃ b : Bool, b = decide (k ≠ i ∧ (x.1 ≤ y.1 ∧ y.2.1 ≤ x.2.1) ∧ qo < qk) := ⟨_, rfl⟩
          have HLIE := Lib.hid hlie
          have HBB := Lib.hid hbb
          have HS16 := Lib.hid hs
          have HQV2 := Lib.hid hqv
          have HQPK := Lib.hid hqp
          have HSHK := Lib.hid hsh
          have HQK := Lib.hid hqk
          have HYL := Lib.hid hy
          have HVO := Lib.hid (hV3.q (by rw [HQO.out]; exact HSH.out))
          clear hb3 hK3 hV3 hy1 hdk hpk had had2 hbd hsl e0 e1 e2 e3 e4 f0 f1 f2 f3 f4 d0 m0 m1 m2 hfx hfy hfp fewx fewp hs hqv hqp hsh hqk hlie hbb
          go_upto_region 16 with fail
          go_cut [129] (fun t129 wx => t129 = .bool bb ∧ Below wr.heap.size wr wx)
          case first =>
            have hS0 := HS16.out
            have hbb := HBB.out
            by_cases h1 : k = i
            · have g1 : ((k : Int) != (i : Int)) = false := by rw [h1]; simp
              obtain rfl : bb = false := by rw [hbb]; exact decide_eq_false (fun h => h.1 h1)
              clear h1 hbb
              go_wp2_with fail
              have hS := hS0
              refine wp_region_held_drew (S := fun (w' : World) => Below wr.heap.size wr w' ∧ w'.cell? (ad.add (i * 5)) = some (.int .i64 x.1) ∧ w'.cell? ⟨(ad.add (i * 5)).block, (ad.add (i * 5)).off + 1, none⟩ = some (.int .i64 x.2.1) ∧ w'.cell? ⟨(ad.add (i * 5)).block, (ad.add (i * 5)).off + 2, none⟩ = some (.bool x.2.2.1) ∧ w'.cell? ⟨(ad.add (i * 5)).block, (ad.add (i * 5)).off + 3, none⟩ = some (.slice X1 x.2.2.2.1.length x1) ∧ w'.cell? ⟨(ad.add (i * 5)).block, (ad.add (i * 5)).off + 4, none⟩ = some (.slice X2 x.2.2.2.2.length x2) ∧ w'.cell? (ad.add (k * 5)) = some (.int .i64 y.1) ∧ w'.cell? ⟨(ad.add (k * 5)).block, (ad.add (k * 5)).off + 1, none⟩ = some (.int .i64 y.2.1) ∧ w'.cell? ⟨(ad.add (k * 5)).block, (ad.add (k * 5)).off + 2, none⟩ = some (.bool y.2.2.1) ∧ w'.cell? ⟨(ad.add (k * 5)).block, (ad.add (k * 5)).off + 3, none⟩ = some (.slice Y1 y.2.2.2.1.length y1) ∧ w'.cell? ⟨(ad.add (k * 5)).block, (ad.add (k * 5)).off + 4, none⟩ = some (.slice Y2 y.2.2.2.2.length y2) ∧ w'.cell? (bd.add k) = some (.int .i64 dk) ∧ w'.cell? (pd.add (k * 3)) = some (.bool pk.1) ∧ w'.cell? ⟨(pd.add (k * 3)).block, (pd.add (k * 3)).off + 1, none⟩ = some (.slice P3 pk.2.1.length p3) ∧ w'.cell? ⟨(pd.add (k * 3)).block, (pd.add (k * 3)).off + 2, none⟩ = some (.slice P4 pk.2.2.length p4) ∧ w'.cell? ⟨g, 0, none⟩ = some (.bool (decide (qo.num < 0))) ∧ w'.cell? ⟨g, 1, none⟩ = some (.slice O1 (dg qo.num.natAbs).length o1) ∧ w'.cell? ⟨g, 2, none⟩ = some (.slice O2 (dg qo.den).length o2)) (by kernel_rfl) hS (fun _ => ?_)
              simp only [List.size_toArray, List.length_cons, List.length_nil, Nat.reduceAdd]
              refine wpAnyH_takeD 0 (some 97) (v := ?vh6_0) rfl rfl (by kernel_rfl) (by kernel_rfl) (by kernel_rfl) (fun _ _ _ h => h) (.inl ⟨by kernel_rfl, ?hyh6_0⟩) hS ?resth6_0
              case hyh6_0 => (intro w hSw; (try dsimp only at hSw); go_simp; (try with_reducible rfl))
              (try simp only [Act.put, List.setIfInBounds_toArray, List.set_cons_zero, List.set_cons_succ])
              refine wpAnyH_takeD 1 (some 98) (v := ?vh6_1) rfl rfl (by kernel_rfl) (by kernel_rfl) (by kernel_rfl) (fun _ _ _ h => h) (.inl ⟨by kernel_rfl, ?hyh6_1⟩) hS ?resth6_1
              case hyh6_1 => (intro w hSw; (try dsimp only at hSw); go_simp; (try with_reducible rfl))
              (try simp only [Act.put, List.setIfInBounds_toArray, List.set_cons_zero, List.set_cons_succ])
              refine wpAnyH_takeD 2 (some 99) (v := ?vh6_2) rfl rfl (by kernel_rfl) (by kernel_rfl) (by kernel_rfl) (fun _ _ _ h => h) (.inl ⟨by kernel_rfl, ?hyh6_2⟩) hS ?resth6_2
              case hyh6_2 => (intro w hSw; (try dsimp only at hSw); go_simp; (try with_reducible rfl))
              (try simp only [Act.put, List.setIfInBounds_toArray, List.set_cons_zero, List.set_cons_succ])
              refine wpAnyH_takeD 3 (some 100) (v := ?vh6_3) rfl rfl (by kernel_rfl) (by kernel_rfl) (by kernel_rfl) (fun _ _ _ h => h) (.inl ⟨by kernel_rfl, ?hyh6_3⟩) hS ?resth6_3
              case hyh6_3 => (intro w hSw; (try dsimp only at hSw); go_simp; (try with_reducible rfl))
              (try simp only [Act.put, List.setIfInBounds_toArray, List.set_cons_zero, List.set_cons_succ])
              refine wpAnyH_takeD 4 (some 101) (v := undef) rfl rfl (by kernel_rfl) (by kernel_rfl) (by kernel_rfl) (fun _ _ _ h => h) (.inr ⟨by kernel_rfl, rfl⟩) hS ?_
              (try simp only [Act.put, List.setIfInBounds_toArray, List.set_cons_zero, List.set_cons_succ])
              refine wpAnyH_takeD 5 (some 102) (v := undef) rfl rfl (by kernel_rfl) (by kernel_rfl) (by kernel_rfl) (fun _ _ _ h => h) (.inr ⟨by kernel_rfl, rfl⟩) hS ?_
              (try simp only [Act.put, List.setIfInBounds_toArray, List.set_cons_zero, List.set_cons_succ])
              refine wpAnyH_takeD 6 (some 103) (v := undef) rfl rfl (by kernel_rfl) (by kernel_rfl) (by kernel_rfl) (fun _ _ _ h => h) (.inr ⟨by kernel_rfl, rfl⟩) hS ?_
              (try simp only [Act.put, List.setIfInBounds_toArray, List.set_cons_zero, List.set_cons_succ])
              refine wpAnyH_takeD 7 (some 104) (v := undef) rfl rfl (by kernel_rfl) (by kernel_rfl) (by kernel_rfl) (fun _ _ _ h => h) (.inr ⟨by kernel_rfl, rfl⟩) hS ?_
              (try simp only [Act.put, List.setIfInBounds_toArray, List.set_cons_zero, List.set_cons_succ])
              refine wpAnyH_takeD 8 (some 105) (v := undef) rfl rfl (by kernel_rfl) (by kernel_rfl) (by kernel_rfl) (fun _ _ _ h => h) (.inr ⟨by kernel_rfl, rfl⟩) hS ?_
              (try simp only [Act.put, List.setIfInBounds_toArray, List.set_cons_zero, List.set_cons_succ])
              refine wpAnyH_takeD 9 (some 106) (v := undef) rfl rfl (by kernel_rfl) (by kernel_rfl) (by kernel_rfl) (fun _ _ _ h => h) (.inr ⟨by kernel_rfl, rfl⟩) hS ?_
              (try simp only [Act.put, List.setIfInBounds_toArray, List.set_cons_zero, List.set_cons_succ])
              refine wpAnyH_takeD 10 (some 107) (v := undef) rfl rfl (by kernel_rfl) (by kernel_rfl) (by kernel_rfl) (fun _ _ _ h => h) (.inr ⟨by kernel_rfl, rfl⟩) hS ?_
              (try simp only [Act.put, List.setIfInBounds_toArray, List.set_cons_zero, List.set_cons_succ])
              refine wpAnyH_takeD 11 (some 108) (v := undef) rfl rfl (by kernel_rfl) (by kernel_rfl) (by kernel_rfl) (fun _ _ _ h => h) (.inr ⟨by kernel_rfl, rfl⟩) hS ?_
              (try simp only [Act.put, List.setIfInBounds_toArray, List.set_cons_zero, List.set_cons_succ])
              refine wpAnyH_ready (rs := [12]) (by kernel_rfl) (by simp) ?_
              refine AllReadyH.cons (o := { dst := some 109, op := Op.call { callee := Callee.value (Operand.func 27), args := #[Operand.tmp 104, Operand.tmp 108], argTypes := #[40, 40] }, type := 4, pos := "ref.go:240", after := #[{ on := 7, ground := Ground.data }, { on := 11, ground := Ground.data }, { on := 3, ground := Ground.chain }, { on := 3, ground := Ground.guard }], guard := some (3, true) }) ?hoh6_12 ?hth6_12 ?hnh6_12
              case hoh6_12 => rfl
              case hnh6_12 => exact AllReadyH.nil
              intro K hK
              refine iteN (by kernel_rfl) ?_
              refine hK.out _ _ hS (fun _ => ?_)
              clear hK K
              (try simp only [Act.put, List.setIfInBounds_toArray, List.set_cons_zero, List.set_cons_succ])
              refine wpAnyH_takeD 13 (some 110) (v := ?vh6_13) rfl rfl (by kernel_rfl) (by kernel_rfl) (by kernel_rfl) (fun _ _ _ h => h) (.inl ⟨by kernel_rfl, ?hyh6_13⟩) hS ?resth6_13
              case hyh6_13 => (intro w hSw; (try dsimp only at hSw); go_simp; (try with_reducible rfl))
              (try simp only [Act.put, List.setIfInBounds_toArray, List.set_cons_zero, List.set_cons_succ])
              refine wpAnyH_takeD 14 (some 111) (v := ?vh6_14) rfl rfl (by kernel_rfl) (by kernel_rfl) (by kernel_rfl) (fun _ _ _ h => h) (.inl ⟨by kernel_rfl, ?hyh6_14⟩) hS ?resth6_14
              case hyh6_14 => (intro w hSw; (try dsimp only at hSw); go_simp; (try with_reducible rfl))
              (try simp only [Act.put, List.setIfInBounds_toArray, List.set_cons_zero, List.set_cons_succ])
              refine wpAnyH_takeD 15 (some 112) (v := undef) rfl rfl (by kernel_rfl) (by kernel_rfl) (by kernel_rfl) (fun _ _ _ h => h) (.inr ⟨by kernel_rfl, rfl⟩) hS ?_
              (try simp only [Act.put, List.setIfInBounds_toArray, List.set_cons_zero, List.set_cons_succ])
              refine wpAnyH_takeD 16 (some 113) (v := undef) rfl rfl (by kernel_rfl) (by kernel_rfl) (by kernel_rfl) (fun _ _ _ h => h) (.inr ⟨by kernel_rfl, rfl⟩) hS ?_
              (try simp only [Act.put, List.setIfInBounds_toArray, List.set_cons_zero, List.set_cons_succ])
              refine wpAnyH_takeD 17 (some 114) (v := undef) rfl rfl (by kernel_rfl) (by kernel_rfl) (by kernel_rfl) (fun _ _ _ h => h) (.inr ⟨by kernel_rfl, rfl⟩) hS ?_
              (try simp only [Act.put, List.setIfInBounds_toArray, List.set_cons_zero, List.set_cons_succ])
              refine wpAnyH_takeD 18 (some 115) (v := undef) rfl rfl (by kernel_rfl) (by kernel_rfl) (by kernel_rfl) (fun _ _ _ h => h) (.inr ⟨by kernel_rfl, rfl⟩) hS ?_
              (try simp only [Act.put, List.setIfInBounds_toArray, List.set_cons_zero, List.set_cons_succ])
              refine wpAnyH_takeD 19 (some 116) (v := undef) rfl rfl (by kernel_rfl) (by kernel_rfl) (by kernel_rfl) (fun _ _ _ h => h) (.inr ⟨by kernel_rfl, rfl⟩) hS ?_
              (try simp only [Act.put, List.setIfInBounds_toArray, List.set_cons_zero, List.set_cons_succ])
              refine wpAnyH_takeD 20 (some 117) (v := undef) rfl rfl (by kernel_rfl) (by kernel_rfl) (by kernel_rfl) (fun _ _ _ h => h) (.inr ⟨by kernel_rfl, rfl⟩) hS ?_
              (try simp only [Act.put, List.setIfInBounds_toArray, List.set_cons_zero, List.set_cons_succ])
              refine wpAnyH_takeD 21 (some 118) (v := undef) rfl rfl (by kernel_rfl) (by kernel_rfl) (by kernel_rfl) (fun _ _ _ h => h) (.inr ⟨by kernel_rfl, rfl⟩) hS ?_
              (try simp only [Act.put, List.setIfInBounds_toArray, List.set_cons_zero, List.set_cons_succ])
              refine wpAnyH_takeD 22 (some 119) (v := undef) rfl rfl (by kernel_rfl) (by kernel_rfl) (by kernel_rfl) (fun _ _ _ h => h) (.inr ⟨by kernel_rfl, rfl⟩) hS ?_
              (try simp only [Act.put, List.setIfInBounds_toArray, List.set_cons_zero, List.set_cons_succ])
              refine wpAnyH_takeD 23 (some 120) (v := undef) rfl rfl (by kernel_rfl) (by kernel_rfl) (by kernel_rfl) (fun _ _ _ h => h) (.inr ⟨by kernel_rfl, rfl⟩) hS ?_
              (try simp only [Act.put, List.setIfInBounds_toArray, List.set_cons_zero, List.set_cons_succ])
              refine wpAnyH_takeD 24 (some 121) (v := undef) rfl rfl (by kernel_rfl) (by kernel_rfl) (by kernel_rfl) (fun _ _ _ h => h) (.inr ⟨by kernel_rfl, rfl⟩) hS ?_
              (try simp only [Act.put, List.setIfInBounds_toArray, List.set_cons_zero, List.set_cons_succ])
              refine wpAnyH_takeD 25 (some 122) (v := undef) rfl rfl (by kernel_rfl) (by kernel_rfl) (by kernel_rfl) (fun _ _ _ h => h) (.inr ⟨by kernel_rfl, rfl⟩) hS ?_
              (try simp only [Act.put, List.setIfInBounds_toArray, List.set_cons_zero, List.set_cons_succ])
              refine wpAnyH_takeD 26 (some 123) (v := undef) rfl rfl (by kernel_rfl) (by kernel_rfl) (by kernel_rfl) (fun _ _ _ h => h) (.inr ⟨by kernel_rfl, rfl⟩) hS ?_
              (try simp only [Act.put, List.setIfInBounds_toArray, List.set_cons_zero, List.set_cons_succ])
              refine wpAnyH_takeD 27 (some 124) (v := undef) rfl rfl (by kernel_rfl) (by kernel_rfl) (by kernel_rfl) (fun _ _ _ h => h) (.inr ⟨by kernel_rfl, rfl⟩) hS ?_
              (try simp only [Act.put, List.setIfInBounds_toArray, List.set_cons_zero, List.set_cons_succ])
              refine wpAnyH_takeD 29 (some 126) (v := undef) rfl rfl (by kernel_rfl) (by kernel_rfl) (by kernel_rfl) (fun _ _ _ h => h) (.inr ⟨by kernel_rfl, rfl⟩) hS ?_
              (try simp only [Act.put, List.setIfInBounds_toArray, List.set_cons_zero, List.set_cons_succ])
              refine wpAnyH_ready (rs := [28]) (by kernel_rfl) (by simp) ?_
              refine AllReadyH.cons (o := { dst := some 125, op := Op.call { callee := Callee.value (Operand.func 69), args := #[Operand.tmp 116, Operand.tmp 120, Operand.tmp 124], argTypes := #[38, 3, 38] }, type := 38, pos := "ref.go:240", after := #[{ on := 19, ground := Ground.data }, { on := 23, ground := Ground.data }, { on := 27, ground := Ground.data }, { on := 14, ground := Ground.chain }, { on := 14, ground := Ground.guard }], guard := some (14, true) }) ?hoh6_28 ?hth6_28 ?hnh6_28
              case hoh6_28 => rfl
              case hnh6_28 => exact AllReadyH.nil
              intro K hK
              refine iteN (by kernel_rfl) ?_
              refine hK.out _ _ hS (fun _ => ?_)
              clear hK K
              (try simp only [Act.put, List.setIfInBounds_toArray, List.set_cons_zero, List.set_cons_succ])
              refine wpAnyH_ready (rs := [30]) (by kernel_rfl) (by simp) ?_
              refine AllReadyH.cons (o := { dst := some 127, op := Op.call { callee := Callee.value (Operand.func 23), args := #[Operand.tmp 125, Operand.tmp 126], argTypes := #[38, 38] }, type := 3, pos := "ref.go:240", after := #[{ on := 28, ground := Ground.data }, { on := 29, ground := Ground.data }, { on := 28, ground := Ground.chain }, { on := 14, ground := Ground.guard }], guard := some (14, true) }) ?hoh6_30 ?hth6_30 ?hnh6_30
              case hoh6_30 => rfl
              case hnh6_30 => exact AllReadyH.nil
              intro K hK
              refine iteN (by kernel_rfl) ?_
              refine hK.out _ _ hS (fun _ => ?_)
              clear hK K
              (try simp only [Act.put, List.setIfInBounds_toArray, List.set_cons_zero, List.set_cons_succ])
              refine wpAnyH_takeD 31 (some 128) (v := undef) rfl rfl (by kernel_rfl) (by kernel_rfl) (by kernel_rfl) (fun _ _ _ h => h) (.inr ⟨by kernel_rfl, rfl⟩) hS ?_
              (try simp only [Act.put, List.setIfInBounds_toArray, List.set_cons_zero, List.set_cons_succ])
              refine wpAnyH_takeD 32 (some 129) (v := ?vh6_32) rfl rfl (by kernel_rfl) (by kernel_rfl) (by kernel_rfl) (fun _ _ _ h => h) (.inl ⟨by kernel_rfl, ?hyh6_32⟩) hS ?resth6_32
              case hyh6_32 => (intro w hSw; (try dsimp only at hSw); go_simp; (try with_reducible rfl))
              (try simp only [Act.put, List.setIfInBounds_toArray, List.set_cons_zero, List.set_cons_succ])
              refine wpAnyH_done (by kernel_rfl) ?_ _
              go_wp2
              go_meet
              case rel => exact ⟨rfl, hS.1⟩
            have g1 : ((k : Int) != (i : Int)) = true := bne_iff_ne.2 (by omega)
            obtain ⟨al, hal⟩ : ∃ b : Bool, b = (decide (x.1 ≤ y.1) && decide (y.2.1 ≤ x.2.1)) := ⟨_, rfl⟩
            have HAL := Lib.hid hal
            cases al
            case false =>
              obtain rfl : bb = false := by
                rw [hbb]
                refine decide_eq_false (fun h => ?_)
                rw [decide_eq_true h.2.1.1, decide_eq_true h.2.1.2] at hal
                cases hal
              clear h1 hbb hal
              go_wp2_with fail
              have hS := hS0
              refine wp_region_held_drew (S := fun (w' : World) => Below wr.heap.size wr w' ∧ w'.cell? (ad.add (i * 5)) = some (.int .i64 x.1) ∧ w'.cell? ⟨(ad.add (i * 5)).block, (ad.add (i * 5)).off + 1, none⟩ = some (.int .i64 x.2.1) ∧ w'.cell? ⟨(ad.add (i * 5)).block, (ad.add (i * 5)).off + 2, none⟩ = some (.bool x.2.2.1) ∧ w'.cell? ⟨(ad.add (i * 5)).block, (ad.add (i * 5)).off + 3, none⟩ = some (.slice X1 x.2.2.2.1.length x1) ∧ w'.cell? ⟨(ad.add (i * 5)).block, (ad.add (i * 5)).off + 4, none⟩ = some (.slice X2 x.2.2.2.2.length x2) ∧ w'.cell? (ad.add (k * 5)) = some (.int .i64 y.1) ∧ w'.cell? ⟨(ad.add (k * 5)).block, (ad.add (k * 5)).off + 1, none⟩ = some (.int .i64 y.2.1) ∧ w'.cell? ⟨(ad.add (k * 5)).block, (ad.add (k * 5)).off + 2, none⟩ = some (.bool y.2.2.1) ∧ w'.cell? ⟨(ad.add (k * 5)).block, (ad.add (k * 5)).off + 3, none⟩ = some (.slice Y1 y.2.2.2.1.length y1) ∧ w'.cell? ⟨(ad.add (k * 5)).block, (ad.add (k * 5)).off + 4, none⟩ = some (.slice Y2 y.2.2.2.2.length y2) ∧ w'.cell? (bd.add k) = some (.int .i64 dk) ∧ w'.cell? (pd.add (k * 3)) = some (.bool pk.1) ∧ w'.cell? ⟨(pd.add (k * 3)).block, (pd.add (k * 3)).off + 1, none⟩ = some (.slice P3 pk.2.1.length p3) ∧ w'.cell? ⟨(pd.add (k * 3)).block, (pd.add (k * 3)).off + 2, none⟩ = some (.slice P4 pk.2.2.length p4) ∧ w'.cell? ⟨g, 0, none⟩ = some (.bool (decide (qo.num < 0))) ∧ w'.cell? ⟨g, 1, none⟩ = some (.slice O1 (dg qo.num.natAbs).length o1) ∧ w'.cell? ⟨g, 2, none⟩ = some (.slice O2 (dg qo.den).length o2)) (by kernel_rfl) hS (fun _ => ?_)
              simp only [List.size_toArray, List.length_cons, List.length_nil, Nat.reduceAdd]
              refine wpAnyH_takeD 0 (some 97) (v := ?vh7_0) rfl rfl (by kernel_rfl) (by kernel_rfl) (by kernel_rfl) (fun _ _ _ h => h) (.inl ⟨by kernel_rfl, ?hyh7_0⟩) hS ?resth7_0
              case hyh7_0 => (intro w hSw; (try dsimp only at hSw); go_simp; (try with_reducible rfl))
              (try simp only [Act.put, List.setIfInBounds_toArray, List.set_cons_zero, List.set_cons_succ])
              refine wpAnyH_takeD 1 (some 98) (v := ?vh7_1) rfl rfl (by kernel_rfl) (by kernel_rfl) (by kernel_rfl) (fun _ _ _ h => h) (.inl ⟨by kernel_rfl, ?hyh7_1⟩) hS ?resth7_1
              case hyh7_1 => (intro w hSw; (try dsimp only at hSw); go_simp; (try with_reducible rfl))
              (try simp only [Act.put, List.setIfInBounds_toArray, List.set_cons_zero, List.set_cons_succ])
              refine wpAnyH_takeD 2 (some 99) (v := ?vh7_2) rfl rfl (by kernel_rfl) (by kernel_rfl) (by kernel_rfl) (fun _ _ _ h => h) (.inl ⟨by kernel_rfl, ?hyh7_2⟩) hS ?resth7_2
              case hyh7_2 => (intro w hSw; (try dsimp only at hSw); go_simp; (try with_reducible rfl))
              (try simp only [Act.put, List.setIfInBounds_toArray, List.set_cons_zero, List.set_cons_succ])
              refine wpAnyH_takeD 3 (some 100) (v := ?vh7_3) rfl rfl (by kernel_rfl) (by kernel_rfl) (by kernel_rfl) (fun _ _ _ h => h) (.inl ⟨by kernel_rfl, ?hyh7_3⟩) hS ?resth7_3
              case hyh7_3 => (intro w hSw; (try dsimp only at hSw); go_simp; (try with_reducible rfl))
              (try simp only [Act.put, List.setIfInBounds_toArray, List.set_cons_zero, List.set_cons_succ])
              refine wpAnyH_takeD 4 (some 101) (v := ?vh7_4) rfl rfl (by kernel_rfl) (by kernel_rfl) (by kernel_rfl) (fun _ _ _ h => h) (.inl ⟨by kernel_rfl, ?hyh7_4⟩) hS ?resth7_4
              case hyh7_4 => (intro w hSw; (try dsimp only at hSw); go_simp; (try with_reducible rfl))
              (try simp only [Act.put, List.setIfInBounds_toArray, List.set_cons_zero, List.set_cons_succ])
              refine wpAnyH_takeD 5 (some 102) (v := ?vh7_5) rfl rfl (by kernel_rfl) (by kernel_rfl) (by kernel_rfl) (fun _ _ _ h => h) (.inl ⟨by kernel_rfl, ?hyh7_5⟩) hS ?resth7_5
              case hyh7_5 => (intro w hSw; (try dsimp only at hSw); go_simp; (try with_reducible rfl))
              (try simp only [Act.put, List.setIfInBounds_toArray, List.set_cons_zero, List.set_cons_succ])
              refine wpAnyH_takeD 6 (some 103) (v := ?vh7_6) rfl rfl (by kernel_rfl) (by kernel_rfl) (by kernel_rfl) (fun _ _ _ h => h) (.inl ⟨by kernel_rfl, ?hyh7_6⟩) hS ?resth7_6
              case hyh7_6 => (intro w hSw; (try dsimp only at hSw); go_simp; (try with_reducible rfl))
              (try simp only [Act.put, List.setIfInBounds_toArray, List.set_cons_zero, List.set_cons_succ])
              refine wpAnyH_takeD 7 (some 104) (v := ?vh7_7) rfl rfl (by kernel_rfl) (by kernel_rfl) (by kernel_rfl) (fun _ _ _ h => h) (.inl ⟨by kernel_rfl, ?hyh7_7⟩) hS ?resth7_7
              case hyh7_7 => (intro w hSw; (try dsimp only at hSw); go_simp; (try with_reducible rfl))
              (try simp only [Act.put, List.setIfInBounds_toArray, List.set_cons_zero, List.set_cons_succ])
              refine wpAnyH_takeD 8 (some 105) (v := ?vh7_8) rfl rfl (by kernel_rfl) (by kernel_rfl) (by kernel_rfl) (fun _ _ _ h => h) (.inl ⟨by kernel_rfl, ?hyh7_8⟩) hS ?resth7_8
              case hyh7_8 => (intro w hSw; (try dsimp only at hSw); go_simp; (try with_reducible rfl))
              (try simp only [Act.put, List.setIfInBounds_toArray, List.set_cons_zero, List.set_cons_succ])
              refine wpAnyH_takeD 9 (some 106) (v := ?vh7_9) rfl rfl (by kernel_rfl) (by kernel_rfl) (by kernel_rfl) (fun _ _ _ h => h) (.inl ⟨by kernel_rfl, ?hyh7_9⟩) hS ?resth7_9
              case hyh7_9 => (intro w hSw; (try dsimp only at hSw); go_simp; (try with_reducible rfl))
              (try simp only [Act.put, List.setIfInBounds_toArray, List.set_cons_zero, List.set_cons_succ])
              refine wpAnyH_takeD 10 (some 107) (v := ?vh7_10) rfl rfl (by kernel_rfl) (by kernel_rfl) (by kernel_rfl) (fun _ _ _ h => h) (.inl ⟨by kernel_rfl, ?hyh7_10⟩) hS ?resth7_10
              case hyh7_10 => (intro w hSw; (try dsimp only at hSw); go_simp; (try with_reducible rfl))
              (try simp only [Act.put, List.setIfInBounds_toArray, List.set_cons_zero, List.set_cons_succ])
              refine wpAnyH_takeD 11 (some 108) (v := ?vh7_11) rfl rfl (by kernel_rfl) (by kernel_rfl) (by kernel_rfl) (fun _ _ _ h => h) (.inl ⟨by kernel_rfl, ?hyh7_11⟩) hS ?resth7_11
              case hyh7_11 => (intro w hSw; (try dsimp only at hSw); go_simp; (try with_reducible rfl))
              (try simp only [Act.put, List.setIfInBounds_toArray, List.set_cons_zero, List.set_cons_succ])
              refine wpAnyH_ready (rs := [12]) (by kernel_rfl) (by simp) ?_
              refine AllReadyH.cons (o := { dst := some 109, op := Op.call { callee := Callee.value (Operand.func 27), args := #[Operand.tmp 104, Operand.tmp 108], argTypes := #[40, 40] }, type := 4, pos := "ref.go:240", after := #[{ on := 7, ground := Ground.data }, { on := 11, ground := Ground.data }, { on := 3, ground := Ground.chain }, { on := 3, ground := Ground.guard }], guard := some (3, true) }) ?hoh7_12 ?hth7_12 ?hnh7_12
              case hoh7_12 => rfl
              case hnh7_12 => exact AllReadyH.nil
              intro K hK
              refine iteP (by kernel_rfl) ?_
              go_simp
              go_at_call 27
              with_reducible refine (allowed_calls _ x y _ _ _ _ _ _ _ _).mono ?_
              rintro e w9 ⟨rfl, hb8⟩
              rw [← HAL.out]
              have hS8 := tc17_next hb8 hS
              refine hK.out _ _ hS8 (fun _ => ?_)
              clear hS K hK
              have hS := hS8
              clear hS8
              (try simp only [Act.put, List.setIfInBounds_toArray, List.set_cons_zero, List.set_cons_succ])
              refine wpAnyH_takeD 13 (some 110) (v := ?vh7_13) rfl rfl (by kernel_rfl) (by kernel_rfl) (by kernel_rfl) (fun _ _ _ h => h) (.inl ⟨by kernel_rfl, ?hyh7_13⟩) hS ?resth7_13
              case hyh7_13 => (intro w hSw; (try dsimp only at hSw); go_simp; (try with_reducible rfl))
              (try simp only [Act.put, List.setIfInBounds_toArray, List.set_cons_zero, List.set_cons_succ])
              refine wpAnyH_takeD 14 (some 111) (v := ?vh7_14) rfl rfl (by kernel_rfl) (by kernel_rfl) (by kernel_rfl) (fun _ _ _ h => h) (.inl ⟨by kernel_rfl, ?hyh7_14⟩) hS ?resth7_14
              case hyh7_14 => (intro w hSw; (try dsimp only at hSw); go_simp; (try with_reducible rfl))
              (try simp only [Act.put, List.setIfInBounds_toArray, List.set_cons_zero, List.set_cons_succ])
              refine wpAnyH_takeD 15 (some 112) (v := undef) rfl rfl (by kernel_rfl) (by kernel_rfl) (by kernel_rfl) (fun _ _ _ h => h) (.inr ⟨by kernel_rfl, rfl⟩) hS ?_
              (try simp only [Act.put, List.setIfInBounds_toArray, List.set_cons_zero, List.set_cons_succ])
              refine wpAnyH_takeD 16 (some 113) (v := undef) rfl rfl (by kernel_rfl) (by kernel_rfl) (by kernel_rfl) (fun _ _ _ h => h) (.inr ⟨by kernel_rfl, rfl⟩) hS ?_
              (try simp only [Act.put, List.setIfInBounds_toArray, List.set_cons_zero, List.set_cons_succ])
              refine wpAnyH_takeD 17 (some 114) (v := undef) rfl rfl (by kernel_rfl) (by kernel_rfl) (by kernel_rfl) (fun _ _ _ h => h) (.inr ⟨by kernel_rfl, rfl⟩) hS ?_
              (try simp only [Act.put, List.setIfInBounds_toArray, List.set_cons_zero, List.set_cons_succ])
              refine wpAnyH_takeD 18 (some 115) (v := undef) rfl rfl (by kernel_rfl) (by kernel_rfl) (by kernel_rfl) (fun _ _ _ h => h) (.inr ⟨by kernel_rfl, rfl⟩) hS ?_
              (try simp only [Act.put, List.setIfInBounds_toArray, List.set_cons_zero, List.set_cons_succ])
              refine wpAnyH_takeD 19 (some 116) (v := undef) rfl rfl (by kernel_rfl) (by kernel_rfl) (by kernel_rfl) (fun _ _ _ h => h) (.inr ⟨by kernel_rfl, rfl⟩) hS ?_
              (try simp only [Act.put, List.setIfInBounds_toArray, List.set_cons_zero, List.set_cons_succ])
              refine wpAnyH_takeD 20 (some 117) (v := undef) rfl rfl (by kernel_rfl) (by kernel_rfl) (by kernel_rfl) (fun _ _ _ h => h) (.inr ⟨by kernel_rfl, rfl⟩) hS ?_
              (try simp only [Act.put, List.setIfInBounds_toArray, List.set_cons_zero, List.set_cons_succ])
              refine wpAnyH_takeD 21 (some 118) (v := undef) rfl rfl (by kernel_rfl) (by kernel_rfl) (by kernel_rfl) (fun _ _ _ h => h) (.inr ⟨by kernel_rfl, rfl⟩) hS ?_
              (try simp only [Act.put, List.setIfInBounds_toArray, List.set_cons_zero, List.set_cons_succ])
              refine wpAnyH_takeD 22 (some 119) (v := undef) rfl rfl (by kernel_rfl) (by kernel_rfl) (by kernel_rfl) (fun _ _ _ h => h) (.inr ⟨by kernel_rfl, rfl⟩) hS ?_
              (try simp only [Act.put, List.setIfInBounds_toArray, List.set_cons_zero, List.set_cons_succ])
              refine wpAnyH_takeD 23 (some 120) (v := undef) rfl rfl (by kernel_rfl) (by kernel_rfl) (by kernel_rfl) (fun _ _ _ h => h) (.inr ⟨by kernel_rfl, rfl⟩) hS ?_
              (try simp only [Act.put, List.setIfInBounds_toArray, List.set_cons_zero, List.set_cons_succ])
              refine wpAnyH_takeD 24 (some 121) (v := undef) rfl rfl (by kernel_rfl) (by kernel_rfl) (by kernel_rfl) (fun _ _ _ h => h) (.inr ⟨by kernel_rfl, rfl⟩) hS ?_
              (try simp only [Act.put, List.setIfInBounds_toArray, List.set_cons_zero, List.set_cons_succ])
              refine wpAnyH_takeD 25 (some 122) (v := undef) rfl rfl (by kernel_rfl) (by kernel_rfl) (by kernel_rfl) (fun _ _ _ h => h) (.inr ⟨by kernel_rfl, rfl⟩) hS ?_
              (try simp only [Act.put, List.setIfInBounds_toArray, List.set_cons_zero, List.set_cons_succ])
              refine wpAnyH_takeD 26 (some 123) (v := undef) rfl rfl (by kernel_rfl) (by kernel_rfl) (by kernel_rfl) (fun _ _ _ h => h) (.inr ⟨by kernel_rfl, rfl⟩) hS ?_
              (try simp only [Act.put, List.setIfInBounds_toArray, List.set_cons_zero, List.set_cons_succ])
              refine wpAnyH_takeD 27 (some 124) (v := undef) rfl rfl (by kernel_rfl) (by kernel_rfl) (by kernel_rfl) (fun _ _ _ h => h) (.inr ⟨by kernel_rfl, rfl⟩) hS ?_
              (try simp only [Act.put, List.setIfInBounds_toArray, List.set_cons_zero, List.set_cons_succ])
              refine wpAnyH_takeD 29 (some 126) (v := undef) rfl rfl (by kernel_rfl) (by kernel_rfl) (by kernel_rfl) (fun _ _ _ h => h) (.inr ⟨by kernel_rfl, rfl⟩) hS ?_
              (try simp only [Act.put, List.setIfInBounds_toArray, List.set_cons_zero, List.set_cons_succ])
              refine wpAnyH_ready (rs := [28]) (by kernel_rfl) (by simp) ?_
              refine AllReadyH.cons (o := { dst := some 125, op := Op.call { callee := Callee.value (Operand.func 69), args := #[Operand.tmp 116, Operand.tmp 120, Operand.tmp 124], argTypes := #[38, 3, 38] }, type := 38, pos := "ref.go:240", after := #[{ on := 19, ground := Ground.data }, { on := 23, ground := Ground.data }, { on := 27, ground := Ground.data }, { on := 14, ground := Ground.chain }, { on := 14, ground := Ground.guard }], guard := some (14, true) }) ?hoh7_28 ?hth7_28 ?hnh7_28
              case hoh7_28 => rfl
              case hnh7_28 => exact AllReadyH.nil
              intro K hK
              refine iteN (by kernel_rfl) ?_
              refine hK.out _ _ hS (fun _ => ?_)
              clear hK K
              (try simp only [Act.put, List.setIfInBounds_toArray, List.set_cons_zero, List.set_cons_succ])
              refine wpAnyH_ready (rs := [30]) (by kernel_rfl) (by simp) ?_
              refine AllReadyH.cons (o := { dst := some 127, op := Op.call { callee := Callee.value (Operand.func 23), args := #[Operand.tmp 125, Operand.tmp 126], argTypes := #[38, 38] }, type := 3, pos := "ref.go:240", after := #[{ on := 28, ground := Ground.data }, { on := 29, ground := Ground.data }, { on := 28, ground := Ground.chain }, { on := 14, ground := Ground.guard }], guard := some (14, true) }) ?hoh7_30 ?hth7_30 ?hnh7_30
              case hoh7_30 => rfl
              case hnh7_30 => exact AllReadyH.nil
              intro K hK
              refine iteN (by kernel_rfl) ?_
              refine hK.out _ _ hS (fun _ => ?_)
              clear hK K
              (try simp only [Act.put, List.setIfInBounds_toArray, List.set_cons_zero, List.set_cons_succ])
              refine wpAnyH_takeD 31 (some 128) (v := undef) rfl rfl (by kernel_rfl) (by kernel_rfl) (by kernel_rfl) (fun _ _ _ h => h) (.inr ⟨by kernel_rfl, rfl⟩) hS ?_
              (try simp only [Act.put, List.setIfInBounds_toArray, List.set_cons_zero, List.set_cons_succ])
              refine wpAnyH_takeD 32 (some 129) (v := ?vh7_32) rfl rfl (by kernel_rfl) (by kernel_rfl) (by kernel_rfl) (fun _ _ _ h => h) (.inl ⟨by kernel_rfl, ?hyh7_32⟩) hS ?resth7_32
              case hyh7_32 => (intro w hSw; (try dsimp only at hSw); go_simp; (try with_reducible rfl))
              (try simp only [Act.put, List.setIfInBounds_toArray, List.set_cons_zero, List.set_cons_succ])
              refine wpAnyH_done (by kernel_rfl) ?_ _
              go_wp2
              go_meet
              case rel => exact ⟨rfl, hS.1⟩
            case true =>
              have ha2 : x.1 ≤ y.1 ∧ y.2.1 ≤ x.2.1 := by
                have := hal.symm
                simpa [Bool.and_eq_true, decide_eq_true_eq] using this
              obtain ⟨cq, hcq⟩ : ∃ c, c = rcmp qk qo := ⟨_, rfl⟩
              have HCQ := Lib.hid hcq
              have g5 : decide (0 < cq) = bb := by
                rw [hbb]
                refine decide_eq_decide.2 ⟨fun h => ⟨h1, ha2, by rw [hcq] at h; unfold rcmp at h; grind⟩, fun h => by rw [hcq]; have := h.2.2; unfold rcmp; grind⟩
              clear h1 hbb hal ha2 hcq
              go_wp2_with fail
              have hS := hS0
              refine wp_region_held_drew (S := fun (w' : World) => Below wr.heap.size wr w' ∧ w'.cell? (ad.add (i * 5)) = some (.int .i64 x.1) ∧ w'.cell? ⟨(ad.add (i * 5)).block, (ad.add (i * 5)).off + 1, none⟩ = some (.int .i64 x.2.1) ∧ w'.cell? ⟨(ad.add (i * 5)).block, (ad.add (i * 5)).off + 2, none⟩ = some (.bool x.2.2.1) ∧ w'.cell? ⟨(ad.add (i * 5)).block, (ad.add (i * 5)).off + 3, none⟩ = some (.slice X1 x.2.2.2.1.length x1) ∧ w'.cell? ⟨(ad.add (i * 5)).block, (ad.add (i * 5)).off + 4, none⟩ = some (.slice X2 x.2.2.2.2.length x2) ∧ w'.cell? (ad.add (k * 5)) = some (.int .i64 y.1) ∧ w'.cell? ⟨(ad.add (k * 5)).block, (ad.add (k * 5)).off + 1, none⟩ = some (.int .i64 y.2.1) ∧ w'.cell? ⟨(ad.add (k * 5)).block, (ad.add (k * 5)).off + 2, none⟩ = some (.bool y.2.2.1) ∧ w'.cell? ⟨(ad.add (k * 5)).block, (ad.add (k * 5)).off + 3, none⟩ = some (.slice Y1 y.2.2.2.1.length y1) ∧ w'.cell? ⟨(ad.add (k * 5)).block, (ad.add (k * 5)).off + 4, none⟩ = some (.slice Y2 y.2.2.2.2.length y2) ∧ w'.cell? (bd.add k) = some (.int .i64 dk) ∧ w'.cell? (pd.add (k * 3)) = some (.bool pk.1) ∧ w'.cell? ⟨(pd.add (k * 3)).block, (pd.add (k * 3)).off + 1, none⟩ = some (.slice P3 pk.2.1.length p3) ∧ w'.cell? ⟨(pd.add (k * 3)).block, (pd.add (k * 3)).off + 2, none⟩ = some (.slice P4 pk.2.2.length p4) ∧ w'.cell? ⟨g, 0, none⟩ = some (.bool (decide (qo.num < 0))) ∧ w'.cell? ⟨g, 1, none⟩ = some (.slice O1 (dg qo.num.natAbs).length o1) ∧ w'.cell? ⟨g, 2, none⟩ = some (.slice O2 (dg qo.den).length o2)) (by kernel_rfl) hS (fun _ => ?_)
              simp only [List.size_toArray, List.length_cons, List.length_nil, Nat.reduceAdd]
              refine wpAnyH_takeD 0 (some 97) (v := ?vh8_0) rfl rfl (by kernel_rfl) (by kernel_rfl) (by kernel_rfl) (fun _ _ _ h => h) (.inl ⟨by kernel_rfl, ?hyh8_0⟩) hS ?resth8_0
              case hyh8_0 => (intro w hSw; (try dsimp only at hSw); go_simp; (try with_reducible rfl))
              (try simp only [Act.put, List.setIfInBounds_toArray, List.set_cons_zero, List.set_cons_succ])
              refine wpAnyH_takeD 1 (some 98) (v := ?vh8_1) rfl rfl (by kernel_rfl) (by kernel_rfl) (by kernel_rfl) (fun _ _ _ h => h) (.inl ⟨by kernel_rfl, ?hyh8_1⟩) hS ?resth8_1
              case hyh8_1 => (intro w hSw; (try dsimp only at hSw); go_simp; (try with_reducible rfl))
              (try simp only [Act.put, List.setIfInBounds_toArray, List.set_cons_zero, List.set_cons_succ])
              refine wpAnyH_takeD 2 (some 99) (v := ?vh8_2) rfl rfl (by kernel_rfl) (by kernel_rfl) (by kernel_rfl) (fun _ _ _ h => h) (.inl ⟨by kernel_rfl, ?hyh8_2⟩) hS ?resth8_2
              case hyh8_2 => (intro w hSw; (try dsimp only at hSw); go_simp; (try with_reducible rfl))
              (try simp only [Act.put, List.setIfInBounds_toArray, List.set_cons_zero, List.set_cons_succ])
              refine wpAnyH_takeD 3 (some 100) (v := ?vh8_3) rfl rfl (by kernel_rfl) (by kernel_rfl) (by kernel_rfl) (fun _ _ _ h => h) (.inl ⟨by kernel_rfl, ?hyh8_3⟩) hS ?resth8_3
              case hyh8_3 => (intro w hSw; (try dsimp only at hSw); go_simp; (try with_reducible rfl))
              (try simp only [Act.put, List.setIfInBounds_toArray, List.set_cons_zero, List.set_cons_succ])
              refine wpAnyH_takeD 4 (some 101) (v := ?vh8_4) rfl rfl (by kernel_rfl) (by kernel_rfl) (by kernel_rfl) (fun _ _ _ h => h) (.inl ⟨by kernel_rfl, ?hyh8_4⟩) hS ?resth8_4
              case hyh8_4 => (intro w hSw; (try dsimp only at hSw); go_simp; (try with_reducible rfl))
              (try simp only [Act.put, List.setIfInBounds_toArray, List.set_cons_zero, List.set_cons_succ])
              refine wpAnyH_takeD 5 (some 102) (v := ?vh8_5) rfl rfl (by kernel_rfl) (by kernel_rfl) (by kernel_rfl) (fun _ _ _ h => h) (.inl ⟨by kernel_rfl, ?hyh8_5⟩) hS ?resth8_5
              case hyh8_5 => (intro w hSw; (try dsimp only at hSw); go_simp; (try with_reducible rfl))
              (try simp only [Act.put, List.setIfInBounds_toArray, List.set_cons_zero, List.set_cons_succ])
              refine wpAnyH_takeD 6 (some 103) (v := ?vh8_6) rfl rfl (by kernel_rfl) (by kernel_rfl) (by kernel_rfl) (fun _ _ _ h => h) (.inl ⟨by kernel_rfl, ?hyh8_6⟩) hS ?resth8_6
              case hyh8_6 => (intro w hSw; (try dsimp only at hSw); go_simp; (try with_reducible rfl))
              (try simp only [Act.put, List.setIfInBounds_toArray, List.set_cons_zero, List.set_cons_succ])
              refine wpAnyH_takeD 7 (some 104) (v := ?vh8_7) rfl rfl (by kernel_rfl) (by kernel_rfl) (by kernel_rfl) (fun _ _ _ h => h) (.inl ⟨by kernel_rfl, ?hyh8_7⟩) hS ?resth8_7
              case hyh8_7 => (intro w hSw; (try dsimp only at hSw); go_simp; (try with_reducible rfl))
              (try simp only [Act.put, List.setIfInBounds_toArray, List.set_cons_zero, List.set_cons_succ])
              refine wpAnyH_takeD 8 (some 105) (v := ?vh8_8) rfl rfl (by kernel_rfl) (by kernel_rfl) (by kernel_rfl) (fun _ _ _ h => h) (.inl ⟨by kernel_rfl, ?hyh8_8⟩) hS ?resth8_8
              case hyh8_8 => (intro w hSw; (try dsimp only at hSw); go_simp; (try with_reducible rfl))
              (try simp only [Act.put, List.setIfInBounds_toArray, List.set_cons_zero, List.set_cons_succ])
              refine wpAnyH_takeD 9 (some 106) (v := ?vh8_9) rfl rfl (by kernel_rfl) (by kernel_rfl) (by kernel_rfl) (fun _ _ _ h => h) (.inl ⟨by kernel_rfl, ?hyh8_9⟩) hS ?resth8_9
              case hyh8_9 => (intro w hSw; (try dsimp only at hSw); go_simp; (try with_reducible rfl))
              (try simp only [Act.put, List.setIfInBounds_toArray, List.set_cons_zero, List.set_cons_succ])
              refine wpAnyH_takeD 10 (some 107) (v := ?vh8_10) rfl rfl (by kernel_rfl) (by kernel_rfl) (by kernel_rfl) (fun _ _ _ h => h) (.inl ⟨by kernel_rfl, ?hyh8_10⟩) hS ?resth8_10
              case hyh8_10 => (intro w hSw; (try dsimp only at hSw); go_simp; (try with_reducible rfl))
              (try simp only [Act.put, List.setIfInBounds_toArray, List.set_cons_zero, List.set_cons_succ])
              refine wpAnyH_takeD 11 (some 108) (v := ?vh8_11) rfl rfl (by kernel_rfl) (by kernel_rfl) (by kernel_rfl) (fun _ _ _ h => h) (.inl ⟨by kernel_rfl, ?hyh8_11⟩) hS ?resth8_11
              case hyh8_11 => (intro w hSw; (try dsimp only at hSw); go_simp; (try with_reducible rfl))
              (try simp only [Act.put, List.setIfInBounds_toArray, List.set_cons_zero, List.set_cons_succ])
              refine wpAnyH_ready (rs := [12]) (by kernel_rfl) (by simp) ?_
              refine AllReadyH.cons (o := { dst := some 109, op := Op.call { callee := Callee.value (Operand.func 27), args := #[Operand.tmp 104, Operand.tmp 108], argTypes := #[40, 40] }, type := 4, pos := "ref.go:240", after := #[{ on := 7, ground := Ground.data }, { on := 11, ground := Ground.data }, { on := 3, ground := Ground.chain }, { on := 3, ground := Ground.guard }], guard := some (3, true) }) ?hoh8_12 ?hth8_12 ?hnh8_12
              case hoh8_12 => rfl
              case hnh8_12 => exact AllReadyH.nil
              intro K hK
              refine iteP (by kernel_rfl) ?_
              go_simp
              go_at_call 27
              with_reducible refine (allowed_calls _ x y _ _ _ _ _ _ _ _).mono ?_
              rintro e w9 ⟨rfl, hb8⟩
              rw [← HAL.out]
              have hS8 := tc17_next hb8 hS
              refine hK.out _ _ hS8 (fun _ => ?_)
              clear hS K hK
              have hS := hS8
              clear hS8
              (try simp only [Act.put, List.setIfInBounds_toArray, List.set_cons_zero, List.set_cons_succ])
              refine wpAnyH_takeD 13 (some 110) (v := ?vh8_13) rfl rfl (by kernel_rfl) (by kernel_rfl) (by kernel_rfl) (fun _ _ _ h => h) (.inl ⟨by kernel_rfl, ?hyh8_13⟩) hS ?resth8_13
              case hyh8_13 => (intro w hSw; (try dsimp only at hSw); go_simp; (try with_reducible rfl))
              (try simp only [Act.put, List.setIfInBounds_toArray, List.set_cons_zero, List.set_cons_succ])
              refine wpAnyH_takeD 14 (some 111) (v := ?vh8_14) rfl rfl (by kernel_rfl) (by kernel_rfl) (by kernel_rfl) (fun _ _ _ h => h) (.inl ⟨by kernel_rfl, ?hyh8_14⟩) hS ?resth8_14
              case hyh8_14 => (intro w hSw; (try dsimp only at hSw); go_simp; (try with_reducible rfl))
              (try simp only [Act.put, List.setIfInBounds_toArray, List.set_cons_zero, List.set_cons_succ])
              refine wpAnyH_takeD 15 (some 112) (v := ?vh8_15) rfl rfl (by kernel_rfl) (by kernel_rfl) (by kernel_rfl) (fun _ _ _ h => h) (.inl ⟨by kernel_rfl, ?hyh8_15⟩) hS ?resth8_15
              case hyh8_15 => (intro w hSw; (try dsimp only at hSw); go_simp; (try with_reducible rfl))
              (try simp only [Act.put, List.setIfInBounds_toArray, List.set_cons_zero, List.set_cons_succ])
              refine wpAnyH_takeD 16 (some 113) (v := ?vh8_16) rfl rfl (by kernel_rfl) (by kernel_rfl) (by kernel_rfl) (fun _ _ _ h => h) (.inl ⟨by kernel_rfl, ?hyh8_16⟩) hS ?resth8_16
              case hyh8_16 => (intro w hSw; (try dsimp only at hSw); go_simp; (try with_reducible rfl))
              (try simp only [Act.put, List.setIfInBounds_toArray, List.set_cons_zero, List.set_cons_succ])
              refine wpAnyH_takeD 17 (some 114) (v := ?vh8_17) rfl rfl (by kernel_rfl) (by kernel_rfl) (by kernel_rfl) (fun _ _ _ h => h) (.inl ⟨by kernel_rfl, ?hyh8_17⟩) hS ?resth8_17
              case hyh8_17 => (intro w hSw; (try dsimp only at hSw); go_simp; (try with_reducible rfl))
              (try simp only [Act.put, List.setIfInBounds_toArray, List.set_cons_zero, List.set_cons_succ])
              refine wpAnyH_takeD 18 (some 115) (v := ?vh8_18) rfl rfl (by kernel_rfl) (by kernel_rfl) (by kernel_rfl) (fun _ _ _ h => h) (.inl ⟨by kernel_rfl, ?hyh8_18⟩) hS ?resth8_18
              case hyh8_18 => (intro w hSw; (try dsimp only at hSw); go_simp; (try with_reducible rfl))
              (try simp only [Act.put, List.setIfInBounds_toArray, List.set_cons_zero, List.set_cons_succ])
              refine wpAnyH_takeD 19 (some 116) (v := ?vh8_19) rfl rfl (by kernel_rfl) (by kernel_rfl) (by kernel_rfl) (fun _ _ _ h => h) (.inl ⟨by kernel_rfl, ?hyh8_19⟩) hS ?resth8_19
              case hyh8_19 => (intro w hSw; (try dsimp only at hSw); go_simp; (try with_reducible rfl))
              (try simp only [Act.put, List.setIfInBounds_toArray, List.set_cons_zero, List.set_cons_succ])
              refine wpAnyH_takeD 20 (some 117) (v := ?vh8_20) rfl rfl (by kernel_rfl) (by kernel_rfl) (by kernel_rfl) (fun _ _ _ h => h) (.inl ⟨by kernel_rfl, ?hyh8_20⟩) hS ?resth8_20
              case hyh8_20 => (intro w hSw; (try dsimp only at hSw); go_simp; (try with_reducible rfl))
              (try simp only [Act.put, List.setIfInBounds_toArray, List.set_cons_zero, List.set_cons_succ])
              refine wpAnyH_takeD 21 (some 118) (v := ?vh8_21) rfl rfl (by kernel_rfl) (by kernel_rfl) (by kernel_rfl) (fun _ _ _ h => h) (.inl ⟨by kernel_rfl, ?hyh8_21⟩) hS ?resth8_21
              case hyh8_21 => (intro w hSw; (try dsimp only at hSw); go_simp; (try with_reducible rfl))
              (try simp only [Act.put, List.setIfInBounds_toArray, List.set_cons_zero, List.set_cons_succ])
              refine wpAnyH_takeD 22 (some 119) (v := ?vh8_22) rfl rfl (by kernel_rfl) (by kernel_rfl) (by kernel_rfl) (fun _ _ _ h => h) (.inl ⟨by kernel_rfl, ?hyh8_22⟩) hS ?resth8_22
              case hyh8_22 => (intro w hSw; (try dsimp only at hSw); go_simp; (try with_reducible rfl))
              (try simp only [Act.put, List.setIfInBounds_toArray, List.set_cons_zero, List.set_cons_succ])
              refine wpAnyH_takeD 23 (some 120) (v := ?vh8_23) rfl rfl (by kernel_rfl) (by kernel_rfl) (by kernel_rfl) (fun _ _ _ h => h) (.inl ⟨by kernel_rfl, ?hyh8_23⟩) hS ?resth8_23
              case hyh8_23 => (intro w hSw; (try dsimp only at hSw); go_simp; (try with_reducible rfl))
              (try simp only [Act.put, List.setIfInBounds_toArray, List.set_cons_zero, List.set_cons_succ])
              refine wpAnyH_takeD 24 (some 121) (v := ?vh8_24) rfl rfl (by kernel_rfl) (by kernel_rfl) (by kernel_rfl) (fun _ _ _ h => h) (.inl ⟨by kernel_rfl, ?hyh8_24⟩) hS ?resth8_24
              case hyh8_24 => (intro w hSw; (try dsimp only at hSw); go_simp; (try with_reducible rfl))
              (try simp only [Act.put, List.setIfInBounds_toArray, List.set_cons_zero, List.set_cons_succ])
              refine wpAnyH_takeD 25 (some 122) (v := ?vh8_25) rfl rfl (by kernel_rfl) (by kernel_rfl) (by kernel_rfl) (fun _ _ _ h => h) (.inl ⟨by kernel_rfl, ?hyh8_25⟩) hS ?resth8_25
              case hyh8_25 => (intro w hSw; (try dsimp only at hSw); go_simp; (try with_reducible rfl))
              (try simp only [Act.put, List.setIfInBounds_toArray, List.set_cons_zero, List.set_cons_succ])
              refine wpAnyH_takeD 26 (some 123) (v := ?vh8_26) rfl rfl (by kernel_rfl) (by kernel_rfl) (by kernel_rfl) (fun _ _ _ h => h) (.inl ⟨by kernel_rfl, ?hyh8_26⟩) hS ?resth8_26
              case hyh8_26 => (intro w hSw; (try dsimp only at hSw); go_simp; (try with_reducible rfl))
              (try simp only [Act.put, List.setIfInBounds_toArray, List.set_cons_zero, List.set_cons_succ])
              refine wpAnyH_takeD 27 (some 124) (v := ?vh8_27) rfl rfl (by kernel_rfl) (by kernel_rfl) (by kernel_rfl) (fun _ _ _ h => h) (.inl ⟨by kernel_rfl, ?hyh8_27⟩) hS ?resth8_27
              case hyh8_27 => (intro w hSw; (try dsimp only at hSw); go_simp; (try with_reducible rfl))
              (try simp only [Act.put, List.setIfInBounds_toArray, List.set_cons_zero, List.set_cons_succ])
              refine wpAnyH_takeD 29 (some 126) (v := ?vh8_29) rfl rfl (by kernel_rfl) (by kernel_rfl) (by kernel_rfl) (fun _ _ _ h => h) (.inl ⟨by kernel_rfl, ?hyh8_29⟩) hS ?resth8_29
              case hyh8_29 => (intro w hSw; (try dsimp only at hSw); go_simp; (try with_reducible rfl))
              (try simp only [Act.put, List.setIfInBounds_toArray, List.set_cons_zero, List.set_cons_succ])
              refine wpAnyH_ready (rs := [28]) (by kernel_rfl) (by simp) ?_
              refine AllReadyH.cons (o := { dst := some 125, op := Op.call { callee := Callee.value (Operand.func 69), args := #[Operand.tmp 116, Operand.tmp 120, Operand.tmp 124], argTypes := #[38, 3, 38] }, type := 38, pos := "ref.go:240", after := #[{ on := 19, ground := Ground.data }, { on := 23, ground := Ground.data }, { on := 27, ground := Ground.data }, { on := 14, ground := Ground.chain }, { on := 14, ground := Ground.guard }], guard := some (14, true) }) ?hoh8_28 ?hth8_28 ?hnh8_28
              case hoh8_28 => rfl
              case hnh8_28 => exact AllReadyH.nil
              intro K hK
              refine iteP (by kernel_rfl) ?_
              go_simp
              go_at_call 69
              with_reducible refine (rhas_calls _ _ _ (fqd x.2.2) (fqd pk) dk ?_ ?_ HSHK.out).mono ?_
              exact HQV2.out.below hS.1
              exact HQPK.out.below hS.1
              rintro e w9 ⟨v9, rfl, hv9, hb8⟩
              rw [← HQK.out] at hv9
              have hS8 := tc17_next hb8 hS
              refine hK.out _ _ hS8 (fun _ => ?_)
              clear hS K hK
              have hS := hS8
              clear hS8
              (try simp only [Act.put, List.setIfInBounds_toArray, List.set_cons_zero, List.set_cons_succ])
              refine wpAnyH_ready (rs := [30]) (by kernel_rfl) (by simp) ?_
              refine AllReadyH.cons (o := { dst := some 127, op := Op.call { callee := Callee.value (Operand.func 23), args := #[Operand.tmp 125, Operand.tmp 126], argTypes := #[38, 38] }, type := 3, pos := "ref.go:240", after := #[{ on := 28, ground := Ground.data }, { on := 29, ground := Ground.data }, { on := 28, ground := Ground.chain }, { on := 14, ground := Ground.guard }], guard := some (14, true) }) ?hoh8_30 ?hth8_30 ?hnh8_30
              case hoh8_30 => rfl
              case hnh8_30 => exact AllReadyH.nil
              intro K hK
              refine iteP (by kernel_rfl) ?_
              go_simp
              go_at_call 23
              with_reducible refine (rcmpq _ _ _ qk qo ?_ ?_).mono ?_
              exact hv9.q (by rw [HQK.out]; exact HSHK.out)
              exact HVO.out.below hS.1
              rintro e w10 ⟨rfl, hb8⟩
              rw [← HCQ.out]
              have hS8 := tc17_next hb8 hS
              refine hK.out _ _ hS8 (fun _ => ?_)
              clear hS K hK
              have hS := hS8
              clear hS8
              (try simp only [Act.put, List.setIfInBounds_toArray, List.set_cons_zero, List.set_cons_succ])
              refine wpAnyH_takeD 31 (some 128) (v := ?vh8_31) rfl rfl (by kernel_rfl) (by kernel_rfl) (by kernel_rfl) (fun _ _ _ h => h) (.inl ⟨by kernel_rfl, ?hyh8_31⟩) hS ?resth8_31
              case hyh8_31 => (intro w hSw; (try dsimp only at hSw); go_simp; (try with_reducible rfl))
              (try simp only [Act.put, List.setIfInBounds_toArray, List.set_cons_zero, List.set_cons_succ])
              refine wpAnyH_takeD 32 (some 129) (v := ?vh8_32) rfl rfl (by kernel_rfl) (by kernel_rfl) (by kernel_rfl) (fun _ _ _ h => h) (.inl ⟨by kernel_rfl, ?hyh8_32⟩) hS ?resth8_32
              case hyh8_32 => (intro w hSw; (try dsimp only at hSw); go_simp; (try with_reducible rfl))
              (try simp only [Act.put, List.setIfInBounds_toArray, List.set_cons_zero, List.set_cons_succ])
              refine wpAnyH_done (by kernel_rfl) ?_ _
              go_wp2
              go_meet
              case rel => exact ⟨rfl, hS.1⟩
          case rest =>
            obtain ⟨rfl, hbc⟩ := hcut
            have HBC := Lib.hid (bl_trans HB3.out hbc)
            have HKC := Lib.hid (HK3.out.below hbc)
            have HVC := Lib.hid (FrV.below HV3.out hbc)
            clear hbc
            cases bb
            case true =>
              have hl := HLIE.out.2 (of_decide_eq_true HBB.out.symm)
              have HL := Lib.hid hl
              clear hl
              go_wp2
              go_ret3
              exact ⟨_, _, false, rfl, .inr ⟨HOK.out, .inl ⟨i, k, rfl, rfl, rfl, HXL.out, HYL.out, HL.out, HNO3.out, HNO.out⟩⟩, HBC.out⟩
            case false =>
              have HN := Lib.hid (show ¬ lieB (tdOf L) (pday dl) (ppay P) i k from fun h => of_decide_eq_false HBB.out.symm (HLIE.out.1 h))
              go_wp2
              exact ⟨⟨k + 1, by have := HYL.out; omega, by go_num, HBC.out, HKC.out, HVC.out, fun j hj => by
                by_cases h : j = k
                · rw [h]; exact HN.out
                · exact HNO3.out j (by omega)⟩, by have := HYL.out; simp [intOf]; omega⟩
end Go.Proofs.Ytajckdheecgceaa
