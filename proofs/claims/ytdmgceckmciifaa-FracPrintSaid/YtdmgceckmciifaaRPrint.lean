/- FracPrint returns true for every input: any fraction (any words, at most 12 of numerator and denominator) is written as the reference writes it, and read again, if neither number has more than 40 digits. No condition. -/
import Derived.Test.YtdmgceckmciifaaRows
import Derived.Test.YtdmgceckmciifaaFew
import Derived.Test.YtdmgceckmciifaaRprs
import Derived.Test.YtdmgceckmciifaaArg
set_option linter.unusedVariables false
set_option linter.unusedSimpArgs false
namespace Go.Proofs.Ytdmgceckmciifaa
open Go.ChangeShapes Go.WideShapes Go.ChangeAt Go.RowKit Go.Joins

/-- Two structs are boxed, each in a block of its own. -/
def HoldD (w wb : World) (tb : Nat) (g1 : Nat) (a0 a1 a2 : Value) (g2 : Nat) (b0 b1 b2 : Value) (w' : World) : Prop := Below w.heap.size w w' ∧ Below wb.heap.size wb w' ∧ Blk w' g1 tb #[a0, a1, a2] ∧ Blk w' g2 tb #[b0, b1, b2]
theorem HoldD.cells {w wb w' : World} {tb g1 g2 : Nat} {a0 a1 a2 b0 b1 b2 : Value} (h : HoldD w wb tb g1 a0 a1 a2 g2 b0 b1 b2 w') : HoldD w wb tb g1 a0 a1 a2 g2 b0 b1 b2 w' ∧ (w'.cell? ⟨g1, 0, none⟩ = some a0 ∧ w'.cell? ⟨g1, 1, none⟩ = some a1 ∧ w'.cell? ⟨g1, 2, none⟩ = some a2) ∧ (w'.cell? ⟨g2, 0, none⟩ = some b0 ∧ w'.cell? ⟨g2, 1, none⟩ = some b1 ∧ w'.cell? ⟨g2, 2, none⟩ = some b2) :=
  ⟨h, ⟨h.2.2.1.cell 0, h.2.2.1.cell 1, h.2.2.1.cell 2⟩, ⟨h.2.2.2.cell 0, h.2.2.2.cell 1, h.2.2.2.cell 2⟩⟩
theorem HoldD.next {w wb w1 w2 : World} {tb g1 g2 : Nat} {a0 a1 a2 b0 b1 b2 : Value} (k : Below w1.heap.size w1 w2) (h : HoldD w wb tb g1 a0 a1 a2 g2 b0 b1 b2 w1) : HoldD w wb tb g1 a0 a1 a2 g2 b0 b1 b2 w2 :=
  ⟨bl_trans h.1 k, bl_trans h.2.1 k, h.2.2.1.below k, h.2.2.2.below k⟩
theorem HoldD.bl {w wb w1 : World} {tb g1 g2 : Nat} {a0 a1 a2 b0 b1 b2 : Value} (h : HoldD w wb tb g1 a0 a1 a2 g2 b0 b1 b2 w1) : Below wb.heap.size wb w1 := h.2.1
theorem few1_calls (w : World) (g : Nat) (k : Nat) {x0 : Value} {A1 A2 : Option Addr} {a b c1 c2 : Nat} {t : Nat} (hb : Blk w g t #[x0, .slice A1 a c1, .slice A2 b c2]) :
    Calls Try.prog 17 #[.int .i64 k, .slice (some ⟨g, 0, none⟩) 1 1] w fun e' w' => e' = .returned (.bool (decide (a ≤ k ∧ b ≤ k))) ∧ Below w.heap.size w w' := by
  refine (few_calls w k ⟨g, 0, none⟩ 1 1 (fun _ => (a, b)) (by omega) (by omega) ?_).mono ?_
  · intro i hi
    rw [add_row]
    obtain rfl : i = 0 := by omega
    exact ⟨_, _, _, _, hb.cell 1, hb.cell 2⟩
  · rintro e' w' ⟨rfl, h⟩
    have : (∀ i, i < 1 → ((a : Int) ≤ (k : Int) ∧ (b : Int) ≤ (k : Int))) ↔ (a ≤ k ∧ b ≤ k) := ⟨fun h => by have := h 0 (by omega); omega, fun h i _ => by omega⟩
    rw [decide_eq_decide.2 this]
    exact ⟨rfl, h⟩
theorem pars_small {l : List UInt8} {q : Rat} (h : pars l = some q) : Szq 5 q := by
  by_cases h1 : ¬ okn (abv (ptl l)) ∨ (decide (l.head? = some 45) = true ∧ numv (abv (ptl l)) = 0)
  · rw [pars_bad h1] at h; cases h
  · have ha := Classical.not_not.1 (fun h2 => h1 (Or.inl h2))
    by_cases hs : (abv (ptl l)).length < (ptl l).length
    · rw [pars_parts h1 hs] at h
      split at h
      · cases h
      · rename_i h3
        simp only [not_or, Classical.not_not] at h3
        obtain ⟨hb, b0, b1, bg⟩ := h3
        obtain ⟨e1, e2⟩ := mk_low (neg := decide (l.head? = some 45)) b0 bg
        rw [← Option.some.inj h]
        exact ⟨by rw [e1, sgn_natAbs]; exact okn_len ha, by rw [e2]; exact okn_len hb⟩
    · rw [pars_whole h1 hs] at h
      obtain ⟨e1, e2⟩ := mk_low (neg := decide (l.head? = some 45)) (n := numv (abv (ptl l))) (d := 1) (by omega) (by simp)
      rw [← Option.some.inj h]
      exact ⟨by rw [e1, sgn_natAbs]; exact okn_len ha, by rw [e2, dg_one]; simp⟩
/-- A written fraction of few words is no long text. -/
theorem show_len {q : Rat} {k : Nat} (h : Szq k q) (hk : 1 ≤ k) : (showq q).length ≤ 64 * k + 2 := by
  have h1 := decs_len_of h.1 hk
  have h2 := decs_len_of h.2 hk
  unfold showq
  split <;> split <;> simp <;> omega
set_option maxRecDepth 100000 in
set_option maxHeartbeats 4000000 in
theorem law_print (w : World) (va : Value) (na : Bool) (lna lda : List Int) (ha : FrIn w va na lna lda) :
    Calls Try.prog 9 #[va] w fun e w' => e = .returned (.bool true) ∧ Below w.heap.size w w' := by
  have ha' := ha
  obtain ⟨A1, c1, A2, c2, rfl, _, _, wa1, wa2⟩ := ha.shape
  have hal := below_alloc0 w (.cells #[.bool na, .slice A1 lna.length c1, .slice A2 lda.length c2] 24)
  have K := Blk.new w 24 #[.bool na, .slice A1 lna.length c1, .slice A2 lda.length c2]
  obtain ⟨W0, hW0⟩ : ∃ W, W = w.alloc (.cells #[.bool na, .slice A1 lna.length c1, .slice A2 lda.length c2] 24) := ⟨_, rfl⟩
  rw [← hW0] at hal K
  have hz : W0.heap.size = w.heap.size + 1 := by rw [hW0]; simp
  have hal2 := below_alloc0 W0 (.cells #[.bool na, .slice A1 lna.length c1, .slice A2 lda.length c2] 24)
  have KB := Blk.new W0 24 #[.bool na, .slice A1 lna.length c1, .slice A2 lda.length c2]
  have K1 := K.below hal2
  rw [hz] at KB
  by_cases hfew : lna.length ≤ 12 ∧ lda.length ≤ 12
  · have HD := Lib.hid (decide_eq_true hfew)
    obtain ⟨la1, la2⟩ := hfew
    have hsum : lna.length + lda.length ≤ 4096 := by omega
    have za := szq_fix (neg := na) wa1 wa2 la1 la2 (by omega)
    obtain ⟨q, hq⟩ : ∃ q, q = fixq na lna lda := ⟨_, rfl⟩
    have HQ := Lib.hid hq.symm
    rw [← hq] at za
    have HSL := Lib.hid (Nat.le_trans (show_len za (by omega)) (show 64 * 12 + 2 ≤ 1000 by omega))
    obtain ⟨o, ho⟩ : ∃ o, o = pars (showq q) := ⟨_, rfl⟩
    have HO := Lib.hid ho.symm
    clear za hq ho
    go_enter Try.func9, Try.ntmps9
    go_wp2_with fail
    rw [← hW0]
    refine (few1_calls _ _ 12 KB).mono ?_
    rintro e w1 ⟨rfl, hb1⟩
    rw [HD.out]
    have K2 := K1.below hb1
    have hbw := bl_trans (bl_trans hal hal2) hb1
    clear K K1 KB hal hal2 hb1 hW0
    have p0 := K2.cell 0
    have p1 := K2.cell 1
    have p2 := K2.cell 2
    go_wp2_with fail
    refine (copyfrac_calls _ _ na lna lda (ha'.below hbw) (by omega) (by omega)).mono ?_
    rintro e w2 ⟨v, rfl, hcp, hb2⟩
    clear p0 p1 p2
    obtain ⟨A3, c3, A4, c4, rfl, _, _, _, _⟩ := hcp.shape
    have hal3 := below_alloc0 w2 (.cells #[.bool na, .slice A3 lna.length c3, .slice A4 lda.length c4] 24)
    have KC := Blk.new w2 24 #[.bool na, .slice A3 lna.length c3, .slice A4 lda.length c4]
    have HC := Lib.hid (hcp.below hal3)
    have K3 := Lib.hid ((K2.below hb2).below hal3)
    have HW := Lib.hid (bl_trans (bl_trans hbw hb2) hal3)
    clear hcp hbw hb2 hal3 K2
    go_wp2_with fail
    refine (print_calls _ _ na lna lda HC.out hsum).mono ?_
    rintro e w3 ⟨rfl, hb3⟩
    rw [HQ.out]
    have K4 := Lib.hid (K3.out.below hb3)
    have HW3 := Lib.hid (bl_trans HW.out hb3)
    have k0 := K4.out.cell 0
    have k1 := K4.out.cell 1
    have k2 := K4.out.cell 2
    clear hb3 K3 HW KC HC
    go_wp2_with fail
    refine (rprint_calls _ _ na lna lda (ha'.below HW3.out) hsum).mono ?_
    rintro e w4 ⟨rfl, hb4⟩
    rw [HQ.out]
    have K5 := Lib.hid (K4.out.below hb4)
    have HW4 := Lib.hid (bl_trans HW3.out hb4)
    clear hb4 K4 HW3 k0 k1 k2
    go_wp2_with fail
    refine (parse_calls _ (showq q) HSL.out).mono ?_
    rintro e w5 ⟨he1, hb5⟩
    rw [HO.out] at he1
    have K6 := Lib.hid (K5.out.below hb5)
    have HW5 := Lib.hid (bl_trans HW4.out hb5)
    clear hb5 K5 HW4
    cases o with
    | none =>
      obtain rfl : e = _ := he1
      go_wp2_with fail
      refine (rparse_calls _ (showq q) HSL.out).mono ?_
      rintro e w6 ⟨he2, hb6⟩
      rw [HO.out] at he2
      obtain rfl : e = _ := he2
      have hbw := Lib.hid (bl_trans (bl_trans HW5.out (below_alloc0 _ _)) hb6)
      clear hb6
      go_wp2_with fail
      go_quiet (fail)
      go_wp2
      go_ret
      exact ⟨rfl, bl_trans (bl_trans hbw.out (below_alloc0 _ _)) (bl_drewN _ _)⟩
    | some r =>
      obtain ⟨v1, rfl, hv1⟩ := he1
      have hrq : r = q := pars_show HO.out
      subst hrq
      obtain ⟨A5, c5, A6, c6, rfl, _, _, _, _⟩ := FrIn.shape hv1
      obtain ⟨n, hn⟩ : ∃ n, n = decide (r.num < 0) := ⟨_, rfl⟩
      have al1 := below_alloc0 w5 (.cells #[.bool n, .slice A5 (dg r.num.natAbs).length c5, .slice A6 (dg r.den).length c6] 24)
      have KP := Blk.new w5 24 #[.bool n, .slice A5 (dg r.num.natAbs).length c5, .slice A6 (dg r.den).length c6]
      have V1 := Lib.hid (FrV.below hv1 al1)
      rw [← hn] at V1 ⊢
      have HNN := Lib.hid hn
      have HSH := Lib.hid ((pars_small HO.out).short (by omega))
      clear hv1 hn
      go_wp2_with fail
      refine (rparse_calls _ (showq r) HSL.out).mono ?_
      rintro e w6 ⟨he2, hb6⟩
      rw [HO.out] at he2
      obtain ⟨v2, rfl, hv2⟩ := he2
      obtain ⟨A7, c7, A8, c8, rfl, _, _, _, _⟩ := FrIn.shape hv2
      rw [← HNN.out]
      have al2 := below_alloc0 w6 (.cells #[.bool n, .slice A7 (dg r.num.natAbs).length c7, .slice A8 (dg r.den).length c8] 24)
      have hlt : w.heap.size < w5.heap.size := K6.out.lt
      obtain ⟨W, hW⟩ : ∃ W, W = w6.alloc (.cells #[.bool n, .slice A7 (dg r.num.natAbs).length c7, .slice A8 (dg r.den).length c8] 24) := ⟨_, rfl⟩
      rw [← hW] at al2
      have hb56 := bl_trans (bl_trans al1 hb6) al2
      have V1' := Lib.hid (FrV.below V1.out (bl_trans hb6 al2))
      have H := (⟨bl_trans HW5.out hb56, Below.refl _ _, K6.out.below hb56, (KP.below hb6).below al2⟩ : HoldD w W 24 w.heap.size (.bool na) (.slice A1 lna.length c1) (.slice A2 lda.length c2) w5.heap.size (.bool n) (.slice A5 (dg r.num.natAbs).length c5) (.slice A6 (dg r.den).length c6) W)
      have hain := Lib.hid (ha'.below (bl_trans HW5.out hb56))
      clear hv2 hb6 al1 al2 V1 KP HW5 hb56 K6
      go_wp2_with fail
      rw [← hW]
      clear hW
      have hs := (HoldD.next (bl_drew _) H).cells
      go_region_held3 (fun w' => HoldD w W 24 w.heap.size (.bool na) (.slice A1 lna.length c1) (.slice A2 lda.length c2) w5.heap.size (.bool n) (.slice A5 (dg r.num.natAbs).length c5) (.slice A6 (dg r.den).length c6) w' ∧ (w'.cell? ⟨w.heap.size, 0, none⟩ = some (.bool na) ∧ w'.cell? ⟨w.heap.size, 1, none⟩ = some (.slice A1 lna.length c1) ∧ w'.cell? ⟨w.heap.size, 2, none⟩ = some (.slice A2 lda.length c2)) ∧ (w'.cell? ⟨w5.heap.size, 0, none⟩ = some (.bool n) ∧ w'.cell? ⟨w5.heap.size, 1, none⟩ = some (.slice A5 (dg r.num.natAbs).length c5) ∧ w'.cell? ⟨w5.heap.size, 2, none⟩ = some (.slice A6 (dg r.den).length c6)))
        ((first | exact hs | exact (HoldD.next hbN (And.left (by assumption))).cells))
        (first
        | (go_at_call 22; (with_reducible refine (rfix_calls _ _ na lna lda ?_ hsum).mono ?_); (exact hain.out.below (HoldD.bl (And.left (by assumption)))); (rintro e w' ⟨v3, rfl, hf2, hbN⟩); (rw [HQ.out] at hf2); (have hf1' := FrV.below V1'.out (bl_trans (HoldD.bl (And.left (by assumption))) hbN)))
        | (go_at_call 16; (with_reducible refine (same_calls _ _ _ r hf1' hf2 HSH.out).mono ?_); (rintro e w' ⟨rfl, hbN⟩); (have HF := HoldD.next hbN (And.left (by assumption)))))
      go_wp2
      go_ret
      exact ⟨rfl, HF.1⟩
  · have HD := Lib.hid (decide_eq_false hfew)
    clear hfew
    go_enter Try.func9, Try.ntmps9
    go_wp2_with fail
    rw [← hW0]
    refine (few1_calls _ _ 12 KB).mono ?_
    rintro e w1 ⟨rfl, hb1⟩
    rw [HD.out]
    have hbw := bl_trans (bl_trans hal hal2) hb1
    clear K K1 KB hal hal2 hb1 hW0
    go_wp2
    go_ret
    exact ⟨rfl, hbw⟩
theorem print_own : ownKnob Try.prog.godebug = none := by kernel_rfl
theorem print_laid : laidOutB Try.prog = true := by kernel_rfl
set_option maxRecDepth 100000 in
theorem print_lifted (os : Os) (started : os.Started) (H : Type) (enc : TypeId × Value → H) :
    ReturnsInHanded {} Try.checked os 9 .any (Rows.fracPrintSpec.pre6 enc Try.prog Try.f9 Rows.fracPrintRow.domain false) (Rows.fracPrintSpec.post enc Try.prog Try.f9 false true false false) := by
  refine returnsInHanded_of_change (C := Try.checked) print_own started (by kernel_rfl) Try.func9
    (ChangeSpec.witness6 (enc := enc) (C := Try.checked) false ⟨#[], #[.agg #[.bool false, .slice none 0 0, .slice none 0 0]], []⟩ 8 (by kernel_rfl) (by kernel_rfl) (by kernel_rfl) (by kernel_rfl)) ?_
  intro W base args ds gs before hval0 hW hcnd _
  have hval : ∀ (j : Nat) t v, Try.f9.params[j]? = some t → args[j]? = some v → Value.okWide Try.prog W .any base t v := hval0
  have hW' := hW
  obtain ⟨p, q, hA0, hV, rfl, hfz, hnd⟩ := hW
  have hA : DataW.TrodAll enc Try.prog W 0 (fun _ => true) true Try.f9.params.toList args.toList ds p := hA0
  rw [Try.params9] at hA hval
  obtain ⟨v0, d0, rfl, rfl, h0⟩ := trodAll_one hA
  obtain ⟨rfl, rfl⟩ := trodVars_none hV
  have lt0 : ∀ x ∈ p, x.block < W.heap.size := by obtain ⟨m, hm⟩ := h0; exact DataW.trod_lt m _ _ _ hm
  obtain ⟨n0, l0, e0, a0⟩ := frin_of_arg (hval 0 24 v0 rfl rfl) h0
  clear hA0 hval0
  refine (law_print W v0 n0 l0 e0 a0).mono fun e W' ⟨he, bel⟩ => ?_
  subst he
  exact ⟨_, rfl, _, _, _, [], _, [], hW', trodAll_mk1 (shut_bool Try.underlying4 _), trodAll_mk1 (Below.trod print_laid (by kernel_rfl) (of_decide_eq_true (by kernel_rfl)) h0 bel lt0), rfl, bel.frame _, fun h => by cases h⟩
theorem print_holds : Rows.FracPrintSaid :=
  OpenClaim.holds_of_wide 9 Try.f9 rfl rfl rfl rfl rfl rfl rfl ⟨rfl, rfl, rfl, rfl, rfl⟩ rfl rfl rfl rfl rfl (by kernel_rfl) Try.func9 (by kernel_rfl)
    (of_decide_eq_true (by kernel_rfl)) (by unfold Func.isWrapper; first | (rw [if_pos (by decide +kernel)]; kernel_rfl) | (rw [if_neg (by decide +kernel)]; exact ⟨rfl, rfl⟩))
    (fun os started H enc _ => print_lifted os started H enc)
#print axioms print_holds
end Go.Proofs.Ytdmgceckmciifaa
