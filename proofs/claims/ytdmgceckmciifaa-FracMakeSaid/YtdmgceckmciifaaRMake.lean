/- FracMake returns true for every input: the quotient of any two whole numbers is the fraction in lowest terms, as the statement says. No condition. -/
import Derived.Test.YtdmgceckmciifaaRows
import Derived.Test.YtdmgceckmciifaaHalf
import Derived.Test.YtdmgceckmciifaaArg
set_option linter.unusedVariables false
set_option linter.unusedSimpArgs false
namespace Go.Proofs.Ytdmgceckmciifaa
open Go.ChangeShapes Go.WideShapes Go.ChangeAt Go.RowKit Go.Joins

theorem mkown : ownKnob Try.prog.godebug = none := by kernel_rfl
theorem mklaid : laidOutB Try.prog = true := by kernel_rfl
set_option maxRecDepth 10000 in
theorem wf_i64 (n : Int) (h : (Lit.int .i64 n).wf = true) : -9223372036854775808 ≤ n ∧ n ≤ 9223372036854775807 := by
  simp [Lit.wf, IntKind.min, IntKind.max, IntKind.signed, IntKind.bits] at h
  exact h
set_option maxRecDepth 100000 in
theorem int_of_arg {H : Type} {enc : TypeId × Value → H} {W : World} {v : Value} {d : DataW H} {p : List MemPlace} (hv : Value.okWide Try.prog W .any 0 3 v)
    (h : DataW.Trod enc Try.prog W 0 (fun _ => true) true 3 v d p) : ∃ n : Int, v = .int .i64 n ∧ -9223372036854775808 ≤ n ∧ n ≤ 9223372036854775807 := by
  obtain ⟨n, rfl, _, _, hw⟩ := open_int Try.underlying3 hv h
  have h2 := wf_i64 n hw
  exact ⟨n, rfl, h2.1, h2.2⟩
theorem law_make_zero (w : World) (p : Int) (p0 : -9223372036854775808 ≤ p) (p1 : p ≤ 9223372036854775807) :
    Calls Try.prog 3 #[.int .i64 p, .int .i64 0] w fun e w' => e = .returned (.bool true) ∧ Below w.heap.size w w' := by
  go_enter Try.func3, Try.ntmps3
  go_wp2_with fail
  refine (frac_make_zero _ p).mono ?_
  rintro e w1 ⟨rfl, hb1⟩
  have hal := below_alloc0 w1 (.cells #[.bool false, .slice none 0 0, .slice none 0 0] 24)
  have K := Blk.new w1 24 #[.bool false, .slice none 0 0, .slice none 0 0]
  go_wp2_with fail
  refine (rmake_zero _ p p0 p1).mono ?_
  rintro e w2 ⟨rfl, hb2⟩
  have hal2 := below_alloc0 w2 (.cells #[.bool false, .slice none 0 0, .slice none 0 0] 24)
  have K2 := (K.below hb2).below hal2
  have k0 := K2.cell 0
  have k1 := K2.cell 1
  have k2 := K2.cell 2
  clear K K2
  go_wp2_with fail
  refine (half_calls _).mono ?_
  rintro e w3 ⟨rfl, hb3⟩
  clear k0 k1 k2
  go_wp2
  go_ret
  exact ⟨rfl, bl_trans (bl_trans (bl_trans (bl_trans hb1 hal) hb2) hal2) hb3⟩
theorem law_make (w : World) (p q : Int) (p0 : -9223372036854775808 ≤ p) (p1 : p ≤ 9223372036854775807) (q0 : -9223372036854775808 ≤ q) (q1 : q ≤ 9223372036854775807) :
    Calls Try.prog 3 #[.int .i64 p, .int .i64 q] w fun e w' => e = .returned (.bool true) ∧ Below w.heap.size w w' := by
  by_cases hq : q = 0
  · subst hq; exact law_make_zero w p p0 p1
  have hsh : Short ((p : Rat) * (q : Rat)⁻¹) := (szq_mul (int_len p0 p1) (szq_inv (int_len q0 q1) (by omega))).short (by omega)
  have HM := Lib.hid (fun w => frac_make_calls w p q hq p0 p1 q0 q1)
  have HR := Lib.hid (fun w => rmake_calls w p q hq p0 p1 q0 q1)
  obtain ⟨s, hs⟩ : ∃ s, s = (p : Rat) * (q : Rat)⁻¹ := ⟨_, rfl⟩
  rw [← hs] at hsh HM HR
  clear hs hq
  go_enter Try.func3, Try.ntmps3
  go_wp2_with fail
  refine (HM.out _).mono ?_
  rintro e w1 ⟨v, rfl, hv, hb1⟩
  have hv0 := hv
  obtain ⟨A, c, A2, c2, rfl, _, _, _, _⟩ := FrIn.shape hv
  have hal := below_alloc0 w1 (.cells #[.bool (decide (s.num < 0)), .slice A (dg s.num.natAbs).length c, .slice A2 (dg s.den).length c2] 24)
  have K := Blk.new w1 24 #[.bool (decide (s.num < 0)), .slice A (dg s.num.natAbs).length c, .slice A2 (dg s.den).length c2]
  go_wp2_with fail
  refine (HR.out _).mono ?_
  rintro e w2 ⟨v2, rfl, hv2, hb2⟩
  have hv3 := hv2
  obtain ⟨A3, c3, A4, c4, rfl, _, _, _, _⟩ := FrIn.shape hv2
  have hal2 := below_alloc0 w2 (.cells #[.bool (decide (s.num < 0)), .slice A3 (dg s.num.natAbs).length c3, .slice A4 (dg s.den).length c4] 24)
  have K2 := (K.below hb2).below hal2
  have k0 := K2.cell 0
  have k1 := K2.cell 1
  have k2 := K2.cell 2
  have K3 := Blk.new w2 24 #[.bool (decide (s.num < 0)), .slice A3 (dg s.num.natAbs).length c3, .slice A4 (dg s.den).length c4]
  have k3 := K3.cell 0
  have k4 := K3.cell 1
  have k5 := K3.cell 2
  have a1 := ((FrV.below hv0 hal).below hb2).below hal2
  have a2 := FrV.below hv3 hal2
  have hbw := bl_trans (bl_trans (bl_trans hb1 hal) hb2) hal2
  clear K K2 K3 hv hv0 hv2 hv3 hal hal2 hb1 hb2 HM HR
  go_wp2_with fail
  refine (same_calls _ _ _ s a1 a2 hsh).mono ?_
  rintro e w3 ⟨rfl, hb3⟩
  clear k0 k1 k2 k3 k4 k5 a1 a2
  go_wp2
  go_ret
  exact ⟨rfl, bl_trans hbw hb3⟩
set_option maxRecDepth 100000 in
theorem make_lifted (os : Os) (started : os.Started) (H : Type) (enc : TypeId × Value → H) :
    ReturnsInHanded {} Try.checked os 3 .any (Rows.fracMakeSpec.pre6 enc Try.prog Try.f3 Rows.fracMakeRow.domain false) (Rows.fracMakeSpec.post enc Try.prog Try.f3 false true false false) := by
  refine returnsInHanded_of_change (C := Try.checked) mkown started (by kernel_rfl) Try.func3
    (ChangeSpec.witness6 (enc := enc) (C := Try.checked) false ⟨#[], #[.int .i64 0, .int .i64 0], []⟩ 8 (by kernel_rfl) (by kernel_rfl) (by kernel_rfl) (by kernel_rfl)) ?_
  intro W base args ds gs before hval0 hW hcnd _
  have hval : ∀ (j : Nat) t v, Try.f3.params[j]? = some t → args[j]? = some v → Value.okWide Try.prog W .any base t v := hval0
  have hW' := hW
  obtain ⟨p, q, hA0, hV, rfl, hfz, hnd⟩ := hW
  have hA : DataW.TrodAll enc Try.prog W 0 (fun _ => true) true Try.f3.params.toList args.toList ds p := hA0
  rw [Try.params3] at hA hval
  obtain ⟨v0, v1, d0, d1, p0, p1, rfl, rfl, rfl, h0, h1⟩ := trodAll_two hA
  obtain ⟨rfl, rfl⟩ := trodVars_none hV
  have lt0 : ∀ x ∈ p0, x.block < W.heap.size := by obtain ⟨m, hm⟩ := h0; exact DataW.trod_lt m _ _ _ hm
  have lt1 : ∀ x ∈ p1, x.block < W.heap.size := by obtain ⟨m, hm⟩ := h1; exact DataW.trod_lt m _ _ _ hm
  obtain ⟨x, rfl, x0, x1⟩ := int_of_arg (hval 0 3 v0 rfl rfl) h0
  obtain ⟨y, rfl, y0, y1⟩ := int_of_arg (hval 1 3 v1 rfl rfl) h1
  clear hA0 hval0
  refine (law_make W x y x0 x1 y0 y1).mono fun e W' ⟨he, bel⟩ => ?_
  subst he
  exact ⟨_, rfl, _, _, _, [], _, [], hW', trodAll_mk1 (shut_bool Try.underlying4 _), trodAll_mk2 (Below.trod mklaid (by kernel_rfl) (of_decide_eq_true (by kernel_rfl)) h0 bel lt0) (Below.trod mklaid (by kernel_rfl) (of_decide_eq_true (by kernel_rfl)) h1 bel lt1), rfl, bel.frame _, fun h => by cases h⟩
theorem make_holds : Rows.FracMakeSaid :=
  OpenClaim.holds_of_wide 3 Try.f3 rfl rfl rfl rfl rfl rfl rfl ⟨rfl, rfl, rfl, rfl, rfl⟩ rfl rfl rfl rfl rfl (by kernel_rfl) Try.func3 (by kernel_rfl)
    (of_decide_eq_true (by kernel_rfl)) (by unfold Func.isWrapper; first | (rw [if_pos (by decide +kernel)]; kernel_rfl) | (rw [if_neg (by decide +kernel)]; exact ⟨rfl, rfl⟩))
    (fun os started H enc _ => make_lifted os started H enc)
#print axioms make_holds
end Go.Proofs.Ytdmgceckmciifaa
