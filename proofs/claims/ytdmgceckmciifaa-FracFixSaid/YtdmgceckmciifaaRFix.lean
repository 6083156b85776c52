/- FracFix returns true for every input: Right tells whether any words are a fraction in lowest terms, and Fix is that one, or 0, as the statement says. No condition. -/
import Derived.Test.YtdmgceckmciifaaRows
import Derived.Test.YtdmgceckmciifaaFew
import Derived.Test.YtdmgceckmciifaaHalf
import Derived.Test.YtdmgceckmciifaaArg
set_option linter.unusedVariables false
set_option linter.unusedSimpArgs false
namespace Go.Proofs.Ytdmgceckmciifaa
open Go.ChangeShapes Go.WideShapes Go.ChangeAt Go.RowKit Go.Joins

/-- Two structs are boxed, each in a block of its own. -/
def HoldD (w wb : World) (tb : Nat) (g1 : Nat) (a0 a1 a2 : Value) (g2 : Nat) (b0 b1 b2 : Value) (w' : World) : Prop := Below w.heap.size w w' ∧ Below wb.heap.size wb w' ∧ Blk w' g1 tb #[a0, a1, a2] ∧ Blk w' g2 tb #[b0, b1, b2]
theorem HoldD.cells {w wb w' : World} {tb g1 g2 : Nat} {a0 a1 a2 b0 b1 b2 : Value} (h : HoldD w wb tb g1 a0 a1 a2 g2 b0 b1 b2 w') : HoldD w wb tb g1 a0 a1 a2 g2 b0 b1 b2 w' ∧ (w'.cell? ⟨g1, 0, none⟩ = some a0 ∧ w'.cell? ⟨g1, 1, none⟩ = some a1 ∧ w'.cell? ⟨g1, 2, none⟩ = some a2) ∧ (w'.cell? ⟨g2, 0, none⟩ = some b0 ∧ w'.cell? ⟨g2, 1, none⟩ = some b1 ∧ w'.cell? ⟨g2, 2, none⟩ = some b2) :=
  ⟨h, ⟨h.2.2.1.cell 0, h.2.2.1.cell 1, h.2.2.1.cell 2⟩, ⟨h.2.2.2.cell 0, h.2.2.2.cell 1, h.2.2.2.cell 2⟩⟩
theorem HoldD.next {w wb w1 w2 : World} {tb g1 g2 : Nat} {a0 a1 a2 b0 b1 b2 : Value} (k : Below w1.heap.size w1 w2) (h : HoldD w wb tb g1 a0 a1 a2 g2 b0 b1 b2 w1) : HoldD w wb tb g1 a0 a1 a2 g2 b0 b1 b2 w2 :=
  ⟨bl_trans h.1 k, bl_trans h.2.1 k, h.2.2.1.below k, h.2.2.2.below k⟩
theorem HoldD.bl {w wb w1 : World} {tb g1 g2 : Nat} {a0 a1 a2 b0 b1 b2 : Value} (h : HoldD w wb tb g1 a0 a1 a2 g2 b0 b1 b2 w1) : Below wb.heap.size wb w1 := h.2.1
theorem few1_calls (w : World) (g : Nat) (k : Nat) {x0 : Value} {A1 A2 : Option Addr} {a b c1 c2 : Nat} {t : Nat} (hb : Blk w g t #[x0, .slice A1 a c1, .slice A2 b c2]) :
    Calls Try.prog 17 #[.int .i64 k, .slice (some ⟨g, 0, none⟩) 1 1] w fun e' w' => e' = .returned (.bool (decide (a ≤ k ∧ b ≤ k))) ∧ Below w.heap.size w w' := by
  refine (few_calls w k ⟨g, 0, none⟩ 1 1 (fun _ => (a, b)) (by omega) (by omega) ?_).mono ?_
  · intro i hi
    rw [add_row]
    obtain rfl : i = 0 := by omega
    exact ⟨_, _, _, _, hb.cell 1, hb.cell 2⟩
  · rintro e' w' ⟨rfl, h⟩
    have : (∀ i, i < 1 → ((a : Int) ≤ (k : Int) ∧ (b : Int) ≤ (k : Int))) ↔ (a ≤ k ∧ b ≤ k) := ⟨fun h => by have := h 0 (by omega); omega, fun h i _ => by omega⟩
    rw [decide_eq_decide.2 this]
    exact ⟨rfl, h⟩
set_option maxRecDepth 100000 in
set_option maxHeartbeats 4000000 in
theorem law_fix (w : World) (va : Value) (na : Bool) (lna lda : List Int) (ha : FrIn w va na lna lda) :
    Calls Try.prog 4 #[va] w fun e w' => e = .returned (.bool true) ∧ Below w.heap.size w w' := by
  have ha' := ha
  obtain ⟨A1, c1, A2, c2, rfl, _, _, wa1, wa2⟩ := ha.shape
  have hal := below_alloc0 w (.cells #[.bool na, .slice A1 lna.length c1, .slice A2 lda.length c2] 24)
  have K := Blk.new w 24 #[.bool na, .slice A1 lna.length c1, .slice A2 lda.length c2]
  obtain ⟨W0, hW0⟩ : ∃ W, W = w.alloc (.cells #[.bool na, .slice A1 lna.length c1, .slice A2 lda.length c2] 24) := ⟨_, rfl⟩
  rw [← hW0] at hal K
  have hz : W0.heap.size = w.heap.size + 1 := by rw [hW0]; simp
  have hal2 := below_alloc0 W0 (.cells #[.bool na, .slice A1 lna.length c1, .slice A2 lda.length c2] 24)
  have KB := Blk.new W0 24 #[.bool na, .slice A1 lna.length c1, .slice A2 lda.length c2]
  have K1 := K.below hal2
  rw [hz] at KB
  by_cases hfew : lna.length ≤ 12 ∧ lda.length ≤ 12
  · have HD := Lib.hid (decide_eq_true hfew)
    obtain ⟨la1, la2⟩ := hfew
    have hsum : lna.length + lda.length ≤ 4096 := by omega
    have za := szq_fix (neg := na) wa1 wa2 la1 la2 (by omega)
    have hsh := za.short (by omega)
    obtain ⟨o, ho⟩ : ∃ o, o = decide (RightP na lna lda) := ⟨_, rfl⟩
    have HO := Lib.hid ho.symm
    obtain ⟨a, ea⟩ : ∃ a, a = fixq na lna lda := ⟨_, rfl⟩
    have EA := Lib.hid ea.symm
    rw [← ea] at hsh
    clear za ho ea
    go_enter Try.func4, Try.ntmps4
    go_wp2_with fail
    rw [← hW0]
    refine (few1_calls _ _ 12 KB).mono ?_
    rintro e w1 ⟨rfl, hb1⟩
    rw [HD.out]
    have K2 := K1.below hb1
    have hbw := bl_trans (bl_trans hal hal2) hb1
    clear K K1 KB hal hal2 hb1 hW0
    have p0 := K2.cell 0
    have p1 := K2.cell 1
    have p2 := K2.cell 2
    go_wp2_with fail
    refine (copyfrac_calls _ _ na lna lda (ha'.below hbw) (by omega) (by omega)).mono ?_
    rintro e w2 ⟨v, rfl, hcp, hb2⟩
    clear p0 p1 p2
    obtain ⟨A3, c3, A4, c4, rfl, _, _, _, _⟩ := hcp.shape
    have hal3 := below_alloc0 w2 (.cells #[.bool na, .slice A3 lna.length c3, .slice A4 lda.length c4] 24)
    have H : HoldD w w2 24 w.heap.size (.bool na) (.slice A1 lna.length c1) (.slice A2 lda.length c2) w2.heap.size (.bool na) (.slice A3 lna.length c3) (.slice A4 lda.length c4) (w2.alloc (.cells #[.bool na, .slice A3 lna.length c3, .slice A4 lda.length c4] 24)) :=
      ⟨bl_trans (bl_trans hbw hb2) hal3, hal3, (K2.below hb2).below hal3, Blk.new w2 _ _⟩
    have ha2 := ha'.below (bl_trans hbw hb2)
    have hlt : w.heap.size < w2.heap.size := by have := (K2.below hb2).lt; exact this
    clear K2 hal3 hb2
    go_wp2_with fail
    have hs := (HoldD.next (bl_drew _) H).cells
    go_region_held3 (fun w' => HoldD w w2 24 w.heap.size (.bool na) (.slice A1 lna.length c1) (.slice A2 lda.length c2) w2.heap.size (.bool na) (.slice A3 lna.length c3) (.slice A4 lda.length c4) w' ∧ (w'.cell? ⟨w.heap.size, 0, none⟩ = some (.bool na) ∧ w'.cell? ⟨w.heap.size, 1, none⟩ = some (.slice A1 lna.length c1) ∧ w'.cell? ⟨w.heap.size, 2, none⟩ = some (.slice A2 lda.length c2)) ∧ (w'.cell? ⟨w2.heap.size, 0, none⟩ = some (.bool na) ∧ w'.cell? ⟨w2.heap.size, 1, none⟩ = some (.slice A3 lna.length c3) ∧ w'.cell? ⟨w2.heap.size, 2, none⟩ = some (.slice A4 lda.length c4)))
      ((first | exact hs | exact (HoldD.next hbN (And.left (by assumption))).cells))
      (first
      | (go_at_call 19; (with_reducible refine (right_calls _ _ na lna lda ?_ hsum).mono ?_); (exact hcp.below (HoldD.bl (And.left (by assumption)))); (rintro e w' ⟨rfl, hbN⟩); (rw [HO.out]))
      | (go_at_call 20; (with_reducible refine (rright_calls _ _ na lna lda ?_ hsum).mono ?_); (exact ha2.below (HoldD.bl (And.left (by assumption)))); (rintro e w' ⟨rfl, hbN⟩); (rw [HO.out]))
      | (go_at_call 21; (with_reducible refine (frac_fix_calls _ _ na lna lda ?_ hsum (by rw [EA.out]; exact hsh)).mono ?_); (exact hcp.below (HoldD.bl (And.left (by assumption)))); (rintro e w' ⟨v, rfl, hf1, hbN⟩); (rw [EA.out] at hf1))
      | (go_at_call 22; (with_reducible refine (rfix_calls _ _ na lna lda ?_ hsum).mono ?_); (exact ha2.below (HoldD.bl (And.left (by assumption)))); (rintro e w' ⟨v, rfl, hf2, hbN⟩); (rw [EA.out] at hf2); (have hf1' := FrV.below hf1 hbN))
      | (go_at_call 16; (with_reducible refine (same_calls _ _ _ a hf1' hf2 hsh).mono ?_); (rintro e w' ⟨rfl, hbN⟩))
      | (go_at_call 15; (with_reducible refine (half_calls _).mono ?_); (rintro e w' ⟨rfl, hbN⟩); (have HF := HoldD.next hbN (And.left (by assumption)))))
    go_wp2
    go_ret
    exact ⟨rfl, HF.1⟩
  · have HD := Lib.hid (decide_eq_false hfew)
    clear hfew
    go_enter Try.func4, Try.ntmps4
    go_wp2_with fail
    rw [← hW0]
    refine (few1_calls _ _ 12 KB).mono ?_
    rintro e w1 ⟨rfl, hb1⟩
    rw [HD.out]
    have hbw := bl_trans (bl_trans hal hal2) hb1
    clear K K1 KB hal hal2 hb1 hW0
    go_wp2
    go_ret
    exact ⟨rfl, hbw⟩
theorem fix_own : ownKnob Try.prog.godebug = none := by kernel_rfl
theorem fix_laid : laidOutB Try.prog = true := by kernel_rfl
set_option maxRecDepth 100000 in
theorem fix_lifted (os : Os) (started : os.Started) (H : Type) (enc : TypeId × Value → H) :
    ReturnsInHanded {} Try.checked os 4 .any (Rows.fracFixSpec.pre6 enc Try.prog Try.f4 Rows.fracFixRow.domain false) (Rows.fracFixSpec.post enc Try.prog Try.f4 false true false false) := by
  refine returnsInHanded_of_change (C := Try.checked) fix_own started (by kernel_rfl) Try.func4
    (ChangeSpec.witness6 (enc := enc) (C := Try.checked) false ⟨#[], #[.agg #[.bool false, .slice none 0 0, .slice none 0 0]], []⟩ 8 (by kernel_rfl) (by kernel_rfl) (by kernel_rfl) (by kernel_rfl)) ?_
  intro W base args ds gs before hval0 hW hcnd _
  have hval : ∀ (j : Nat) t v, Try.f4.params[j]? = some t → args[j]? = some v → Value.okWide Try.prog W .any base t v := hval0
  have hW' := hW
  obtain ⟨p, q, hA0, hV, rfl, hfz, hnd⟩ := hW
  have hA : DataW.TrodAll enc Try.prog W 0 (fun _ => true) true Try.f4.params.toList args.toList ds p := hA0
  rw [Try.params4] at hA hval
  obtain ⟨v0, d0, rfl, rfl, h0⟩ := trodAll_one hA
  obtain ⟨rfl, rfl⟩ := trodVars_none hV
  have lt0 : ∀ x ∈ p, x.block < W.heap.size := by obtain ⟨m, hm⟩ := h0; exact DataW.trod_lt m _ _ _ hm
  obtain ⟨n0, l0, e0, a0⟩ := frin_of_arg (hval 0 24 v0 rfl rfl) h0
  clear hA0 hval0
  refine (law_fix W v0 n0 l0 e0 a0).mono fun e W' ⟨he, bel⟩ => ?_
  subst he
  exact ⟨_, rfl, _, _, _, [], _, [], hW', trodAll_mk1 (shut_bool Try.underlying4 _), trodAll_mk1 (Below.trod fix_laid (by kernel_rfl) (of_decide_eq_true (by kernel_rfl)) h0 bel lt0), rfl, bel.frame _, fun h => by cases h⟩
theorem fix_holds : Rows.FracFixSaid :=
  OpenClaim.holds_of_wide 4 Try.f4 rfl rfl rfl rfl rfl rfl rfl ⟨rfl, rfl, rfl, rfl, rfl⟩ rfl rfl rfl rfl rfl (by kernel_rfl) Try.func4 (by kernel_rfl)
    (of_decide_eq_true (by kernel_rfl)) (by unfold Func.isWrapper; first | (rw [if_pos (by decide +kernel)]; kernel_rfl) | (rw [if_neg (by decide +kernel)]; exact ⟨rfl, rfl⟩))
    (fun os started H enc _ => fix_lifted os started H enc)
#print axioms fix_holds
end Go.Proofs.Ytdmgceckmciifaa
