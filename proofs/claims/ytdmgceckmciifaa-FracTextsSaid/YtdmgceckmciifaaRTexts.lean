/- FracTexts returns true for every input: of any text (at most 200 bytes) Parse reads just what is written as a fraction is to be, with at most 40 digits a number, and Print writes it again. No condition. -/
import Derived.Test.YtdmgceckmciifaaRows
import Derived.Test.YtdmgceckmciifaaRprs
import Derived.ProofKit
import Derived.Lib.SmallJoins
import Derived.ChangeOld
set_option linter.unusedVariables false
set_option linter.unusedSimpArgs false
namespace Go.Proofs.Ytdmgceckmciifaa
open Go.ChangeShapes Go.WideShapes Go.ChangeAt Go.RowKit Go.Joins

/-- Two structs are boxed, each in a block of its own. -/
def HoldD (w wb : World) (tb : Nat) (g1 : Nat) (a0 a1 a2 : Value) (g2 : Nat) (b0 b1 b2 : Value) (w' : World) : Prop := Below w.heap.size w w' ∧ Below wb.heap.size wb w' ∧ Blk w' g1 tb #[a0, a1, a2] ∧ Blk w' g2 tb #[b0, b1, b2]
theorem HoldD.cells {w wb w' : World} {tb g1 g2 : Nat} {a0 a1 a2 b0 b1 b2 : Value} (h : HoldD w wb tb g1 a0 a1 a2 g2 b0 b1 b2 w') : HoldD w wb tb g1 a0 a1 a2 g2 b0 b1 b2 w' ∧ (w'.cell? ⟨g1, 0, none⟩ = some a0 ∧ w'.cell? ⟨g1, 1, none⟩ = some a1 ∧ w'.cell? ⟨g1, 2, none⟩ = some a2) ∧ (w'.cell? ⟨g2, 0, none⟩ = some b0 ∧ w'.cell? ⟨g2, 1, none⟩ = some b1 ∧ w'.cell? ⟨g2, 2, none⟩ = some b2) :=
  ⟨h, ⟨h.2.2.1.cell 0, h.2.2.1.cell 1, h.2.2.1.cell 2⟩, ⟨h.2.2.2.cell 0, h.2.2.2.cell 1, h.2.2.2.cell 2⟩⟩
theorem HoldD.next {w wb w1 w2 : World} {tb g1 g2 : Nat} {a0 a1 a2 b0 b1 b2 : Value} (k : Below w1.heap.size w1 w2) (h : HoldD w wb tb g1 a0 a1 a2 g2 b0 b1 b2 w1) : HoldD w wb tb g1 a0 a1 a2 g2 b0 b1 b2 w2 :=
  ⟨bl_trans h.1 k, bl_trans h.2.1 k, h.2.2.1.below k, h.2.2.2.below k⟩
theorem HoldD.bl {w wb w1 : World} {tb g1 g2 : Nat} {a0 a1 a2 b0 b1 b2 : Value} (h : HoldD w wb tb g1 a0 a1 a2 g2 b0 b1 b2 w1) : Below wb.heap.size wb w1 := h.2.1
theorem pars_small {l : List UInt8} {q : Rat} (h : pars l = some q) : Szq 5 q := by
  by_cases h1 : ¬ okn (abv (ptl l)) ∨ (decide (l.head? = some 45) = true ∧ numv (abv (ptl l)) = 0)
  · rw [pars_bad h1] at h; cases h
  · have ha := Classical.not_not.1 (fun h2 => h1 (Or.inl h2))
    by_cases hs : (abv (ptl l)).length < (ptl l).length
    · rw [pars_parts h1 hs] at h
      split at h
      · cases h
      · rename_i h3
        simp only [not_or, Classical.not_not] at h3
        obtain ⟨hb, b0, b1, bg⟩ := h3
        obtain ⟨e1, e2⟩ := mk_low (neg := decide (l.head? = some 45)) b0 bg
        rw [← Option.some.inj h]
        exact ⟨by rw [e1, sgn_natAbs]; exact okn_len ha, by rw [e2]; exact okn_len hb⟩
    · rw [pars_whole h1 hs] at h
      obtain ⟨e1, e2⟩ := mk_low (neg := decide (l.head? = some 45)) (n := numv (abv (ptl l))) (d := 1) (by omega) (by simp)
      rw [← Option.some.inj h]
      exact ⟨by rw [e1, sgn_natAbs]; exact okn_len ha, by rw [e2, dg_one]; simp⟩
set_option maxRecDepth 100000 in
set_option maxHeartbeats 4000000 in
theorem law_texts (w : World) (l : List UInt8) :
    Calls Try.prog 11 #[.string ⟨l.toArray⟩] w fun e w' => e = .returned (.bool true) ∧ Below w.heap.size w w' := by
  go_enter Try.func11, Try.ntmps11
  by_cases hl : 200 < l.length
  · have g0 : (200 : Int) < (l.length : Int) := by omega
    go_wp2
    go_ret
    exact ⟨rfl, Below.refl _ _⟩
  · have g0 : ¬ (200 : Int) < (l.length : Int) := by omega
    obtain ⟨o, ho⟩ : ∃ o, o = pars l := ⟨_, rfl⟩
    have HO := Lib.hid ho.symm
    clear ho
    go_wp2_with fail
    refine (parse_calls _ l (by omega)).mono ?_
    rintro e w1 ⟨he1, hb1⟩
    rw [HO.out] at he1
    cases o with
    | none =>
      obtain rfl : e = _ := he1
      go_wp2_with fail
      refine (rparse_calls _ l (by omega)).mono ?_
      rintro e w2 ⟨he2, hb2⟩
      rw [HO.out] at he2
      obtain rfl : e = _ := he2
      have hbw := Lib.hid (bl_trans (bl_trans hb1 (below_alloc0 _ _)) hb2)
      clear hb1 hb2
      go_wp2_with fail
      refine (half_calls _).mono ?_
      rintro e w3 ⟨rfl, hb3⟩
      go_wp2
      go_ret
      exact ⟨rfl, bl_trans (bl_trans hbw.out (below_alloc0 _ _)) hb3⟩
    | some q =>
      obtain ⟨v1, rfl, hv1⟩ := he1
      obtain ⟨A1, c1, A2, c2, rfl, _, _, _, _⟩ := FrIn.shape hv1
      obtain ⟨n, hn⟩ : ∃ n, n = decide (q.num < 0) := ⟨_, rfl⟩
      have al1 := below_alloc0 w1 (.cells #[.bool n, .slice A1 (dg q.num.natAbs).length c1, .slice A2 (dg q.den).length c2] 24)
      have K1 := Blk.new w1 24 #[.bool n, .slice A1 (dg q.num.natAbs).length c1, .slice A2 (dg q.den).length c2]
      have V1 := Lib.hid (FrV.below hv1 al1)
      rw [← hn] at V1 ⊢
      have HNN := Lib.hid hn
      clear hv1 hn
      go_wp2_with fail
      refine (rparse_calls _ l (by omega)).mono ?_
      rintro e w2 ⟨he2, hb2⟩
      rw [HO.out] at he2
      obtain ⟨v2, rfl, hv2⟩ := he2
      obtain ⟨A3, c3, A4, c4, rfl, _, _, _, _⟩ := FrIn.shape hv2
      rw [← HNN.out]
      have al2 := below_alloc0 w2 (.cells #[.bool n, .slice A3 (dg q.num.natAbs).length c3, .slice A4 (dg q.den).length c4] 24)
      have K2 := Blk.new w2 24 #[.bool n, .slice A3 (dg q.num.natAbs).length c3, .slice A4 (dg q.den).length c4]
      have V2 := Lib.hid (FrV.below hv2 al2)
      have V1' := Lib.hid (FrV.below V1.out (bl_trans hb2 al2))
      rw [← HNN.out] at V2
      have K1' := (K1.below hb2).below al2
      have hbw := bl_trans (bl_trans (bl_trans hb1 al1) hb2) al2
      have HSH := Lib.hid ((pars_small HO.out).short (by omega))
      have HSW := Lib.hid (show_pars HO.out)
      have a0 := K1'.cell 0
      have a1 := K1'.cell 1
      have a2 := K1'.cell 2
      have a3 := K2.cell 0
      have a4 := K2.cell 1
      have a5 := K2.cell 2
      obtain ⟨W, hW⟩ : ∃ W, W = w2.alloc (.cells #[.bool n, .slice A3 (dg q.num.natAbs).length c3, .slice A4 (dg q.den).length c4] 24) := ⟨_, rfl⟩
      rw [← hW] at K2 V2 V1' K1' hbw
      have H := (⟨hbw, Below.refl _ _, K1', K2⟩ : HoldD w W 24 w1.heap.size (.bool n) (.slice A1 (dg q.num.natAbs).length c1) (.slice A2 (dg q.den).length c2) w2.heap.size (.bool n) (.slice A3 (dg q.num.natAbs).length c3) (.slice A4 (dg q.den).length c4) W)
      clear hv2 hb1 hb2 al1 al2 V1 K1 K1' K2
      go_wp2_with fail
      rw [← hW]
      clear hW a0 a1 a2 a3 a4 a5
      refine (same_calls _ _ _ q V1'.out V2.out HSH.out).mono ?_
      rintro e w3 ⟨rfl, hb3⟩
      have H3 := HoldD.next hb3 H
      have k0 := H3.2.2.1.cell 0
      have k1 := H3.2.2.1.cell 1
      have k2 := H3.2.2.1.cell 2
      have V1'' := Lib.hid (FrV.below V1'.out hb3)
      clear H hb3 V1' V2
      go_wp2_with fail
      refine (print_calls _ _ n (dg q.num.natAbs) (dg q.den) (by have h := V1''.out; rw [HNN.out] at h ⊢; exact h) HSH.out).mono ?_
      rintro e w4 ⟨rfl, hb4⟩
      rw [HNN.out, fixq_of, HSW.out]
      have H4 := HoldD.next hb4 H3
      clear k0 k1 k2 V1'' hb4 H3
      go_wp2
      go_ret
      exact ⟨by simp, H4.1⟩
theorem texts_own : ownKnob Try.prog.godebug = none := by kernel_rfl
theorem texts_laid : laidOutB Try.prog = true := by kernel_rfl
set_option maxRecDepth 100000 in
theorem texts_lifted (os : Os) (started : os.Started) (H : Type) (enc : TypeId × Value → H) :
    ReturnsInHanded {} Try.checked os 11 .any (Rows.fracTextsSpec.pre6 enc Try.prog Try.f11 Rows.fracTextsRow.domain false) (Rows.fracTextsSpec.post enc Try.prog Try.f11 false true false false) := by
  refine returnsInHanded_of_change (C := Try.checked) texts_own started (by kernel_rfl) Try.func11
    (ChangeSpec.witness6 (enc := enc) (C := Try.checked) false ⟨#[], #[.string ⟨#[]⟩], []⟩ 8 (by kernel_rfl) (by kernel_rfl) (by kernel_rfl) (by kernel_rfl)) ?_
  intro W base args ds gs before hval0 hW hcnd _
  have hval : ∀ (j : Nat) t v, Try.f11.params[j]? = some t → args[j]? = some v → Value.okWide Try.prog W .any base t v := hval0
  have hW' := hW
  obtain ⟨p, q, hA0, hV, rfl, hfz, hnd⟩ := hW
  have hA : DataW.TrodAll enc Try.prog W 0 (fun _ => true) true Try.f11.params.toList args.toList ds p := hA0
  rw [Try.params11] at hA hval
  obtain ⟨v0, d0, rfl, rfl, h0⟩ := trodAll_one hA
  obtain ⟨rfl, rfl⟩ := trodVars_none hV
  have lt0 : ∀ x ∈ p, x.block < W.heap.size := by obtain ⟨m, hm⟩ := h0; exact DataW.trod_lt m _ _ _ hm
  obtain ⟨s0, rfl, rfl, rfl, _⟩ := Go.ChangeMaps.open_string Try.underlying9 (hval 0 9 v0 rfl rfl) h0
  clear hA0 hval0
  refine (law_texts W s0.data.toList).mono fun e W' ⟨he, bel⟩ => ?_
  subst he
  exact ⟨_, rfl, _, _, _, [], _, [], hW', trodAll_mk1 (shut_bool Try.underlying4 _), trodAll_mk1 (Below.trod texts_laid (by kernel_rfl) (of_decide_eq_true (by kernel_rfl)) h0 bel lt0), rfl, bel.frame _, fun h => by cases h⟩
theorem texts_holds : Rows.FracTextsSaid :=
  OpenClaim.holds_of_wide 11 Try.f11 rfl rfl rfl rfl rfl rfl rfl ⟨rfl, rfl, rfl, rfl, rfl⟩ rfl rfl rfl rfl rfl (by kernel_rfl) Try.func11 (by kernel_rfl)
    (of_decide_eq_true (by kernel_rfl)) (by unfold Func.isWrapper; first | (rw [if_pos (by decide +kernel)]; kernel_rfl) | (rw [if_neg (by decide +kernel)]; exact ⟨rfl, rfl⟩))
    (fun os started H enc _ => texts_lifted os started H enc)
#print axioms texts_holds
end Go.Proofs.Ytdmgceckmciifaa
