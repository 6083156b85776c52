/- TideProves: the law's walk. -/
import Derived.Test.YtajckdheecgceaaTdw
import Derived.Test.YtajckdheecgceaaTd46
import Derived.Test.YtajckdheecgceaaTd47
set_option linter.unusedVariables false
set_option linter.unusedSimpArgs false
namespace Go.Proofs.Ytajckdheecgceaa
open Go.RowKit

set_option maxRecDepth 100000 in
set_option maxHeartbeats 16000000 in
theorem law_proves (w : World) (days each : Int) (va : Value) (L : List VD) (h : VL w va L) (hf : FewV 4611686018427387903 L) (vl : Value) (l : List Int) (hl : IL w vl l) (vp : Value) (P : List (Bool × List Int × List Int)) (hp : FL w vp P) (hf3 : FewD 4611686018427387903 P) (vo : Value) (l' : List Int) (ho : IL w vo l') :
    Calls Try.prog 8 #[.agg #[.int .i64 days, .int .i64 each, va], .agg #[vl, vp], vo] w fun e w' => e = .returned (.bool true) ∧ Below w.heap.size w w' := by
  obtain ⟨A, c, rfl⟩ := h.shape
  obtain ⟨PA, pc, rfl⟩ := hl.shape
  obtain ⟨QA, qc, rfl⟩ := hp.shape
  obtain ⟨OA, oc, rfl⟩ := ho.shape
  have HV := Lib.hid h
  have HL := Lib.hid hl
  have HP := Lib.hid hp
  have HO := Lib.hid ho
  have hcc := h.bounds
  have hcl := hl.bounds
  have hco := ho.bounds
  have hcp : P.length ≤ 9223372036854775807 := by obtain ⟨_, _, _, k1, k2, _⟩ := hp; omega
  have HFF := Lib.hid hf
  have HFP := Lib.hid hf3
  have HWD := Lib.hid h.wd
  have hfin : ∀ (wz : World), Below w.heap.size w wz → Calls Try.prog 24 #[] wz fun e w' => e = .returned (.bool true) ∧ Below w.heap.size w w' := fun wz hb => (tfixed_calls wz).mono (fun e w' h => ⟨h.1, bl_trans hb h.2⟩)
  have HFIN := Lib.hid hfin
  obtain ⟨wa, hwa⟩ : ∃ W, W = w.alloc (.cells #[.int .i64 days, .int .i64 each, .slice A L.length c] 24) := ⟨_, rfl⟩
  obtain ⟨wb, hwb⟩ : ∃ W, W = wa.alloc (.cells #[.slice PA l.length pc, .slice QA P.length qc] 60) := ⟨_, rfl⟩
  have sa : wa.heap.size = w.heap.size + 1 := by rw [hwa]; simp
  have ba : Below w.heap.size w wa := by rw [hwa]; exact below_alloc0 _ _
  have bb : Below wa.heap.size wa wb := by rw [hwb]; exact below_alloc0 _ _
  have KA : Blk wa w.heap.size 24 #[.int .i64 days, .int .i64 each, .slice A L.length c] := by rw [hwa]; exact Blk.new _ _ _
  have KB : Blk wb (w.heap.size + 1) 60 #[.slice PA l.length pc, .slice QA P.length qc] := by rw [hwb, ← sa]; exact Blk.new _ _ _
  have HB0 := Lib.hid (bl_trans ba bb)
  have HK0 := Lib.hid (KA.below bb)
  have HT0 := Lib.hid KB
  have HWB := Lib.hid (show (w.alloc (.cells #[.int .i64 days, .int .i64 each, .slice A L.length c] 24)).alloc (.cells #[.slice PA l.length pc, .slice QA P.length qc] 60) = wb by rw [hwb, hwa])
  clear h hl hp ho hf hf3 hfin hwa hwb sa ba bb KA KB
  have k0 := HK0.out.cell 0
  have k1 := HK0.out.cell 1
  have k2 := HK0.out.cell 2
  have o0 := HT0.out.cell 0
  have o1 := HT0.out.cell 1
  go_enter Try.func8, Try.ntmps8
  go_upto_region 1 with fail
  rw [HWB.out]
  go_wp2_with fail
  refine (beyond_calls _ days each A c L (HV.out.below HB0.out) HFF.out).mono ?_
  rintro e w1 ⟨b, rfl, hbey, hb1⟩
  have HB1 := Lib.hid (bl_trans HB0.out hb1)
  have HK1 := Lib.hid (HK0.out.below hb1)
  have HT1 := Lib.hid (HT0.out.below hb1)
  clear hb1 k0 k1 k2 o0 o1
  have k0 := HK1.out.cell 0
  have k1 := HK1.out.cell 1
  have k2 := HK1.out.cell 2
  have o0 := HT1.out.cell 0
  have o1 := HT1.out.cell 1
  cases b
  case true =>
    clear hbey
    go_wp2
    go_ret
    exact ⟨rfl, HB1.out⟩
  obtain ⟨hL20, hF⟩ := hbey rfl
  have HF := Lib.hid hF
  clear hbey hF
  by_cases hR20 : 20 < l.length
  case pos =>
    have g1 : decide ((20 : Int) < (l.length : Int)) = true := decide_eq_true (by omega)
    have g2 : (20 : Int) < (l.length : Int) := by omega
    go_wp2
    go_ret
    exact ⟨rfl, HB1.out⟩
  have g1 : decide ((20 : Int) < (l.length : Int)) = false := decide_eq_false (by omega)
  have g2 : ¬ (20 : Int) < (l.length : Int) := by omega
  by_cases hP20 : 20 < P.length
  case pos =>
    have g5 : decide ((20 : Int) < (P.length : Int)) = true := decide_eq_true (by omega)
    have g6 : (20 : Int) < (P.length : Int) := by omega
    go_wp2
    go_ret
    exact ⟨rfl, HB1.out⟩
  have g5 : decide ((20 : Int) < (P.length : Int)) = false := decide_eq_false (by omega)
  have g6 : ¬ (20 : Int) < (P.length : Int) := by omega
  go_wp2_with fail
  refine (wide_calls _ _ P (HP.out.below HB1.out) HFP.out).mono ?_
  rintro e w2 ⟨b, rfl, hbey, hb2⟩
  have HB2 := Lib.hid (bl_trans HB1.out hb2)
  have HK2 := Lib.hid (HK1.out.below hb2)
  have HT2 := Lib.hid (HT1.out.below hb2)
  clear hb2 g1 g2 g5 g6 k0 k1 k2 o0 o1
  have k0 := HK2.out.cell 0
  have k1 := HK2.out.cell 1
  have k2 := HK2.out.cell 2
  have o0 := HT2.out.cell 0
  have o1 := HT2.out.cell 1
  cases b
  case true =>
    clear hbey
    go_wp2
    go_ret
    exact ⟨rfl, HB2.out⟩
  have HP6 := Lib.hid (show FewD 16 P from fun d hd => ⟨Nat.le_trans (hbey rfl d hd).1 (by omega), Nat.le_trans (hbey rfl d hd).2 (by omega)⟩)
  clear hbey
  by_cases hO20 : 20 < l'.length
  case pos =>
    have g1 : decide ((20 : Int) < (l'.length : Int)) = true := decide_eq_true (by omega)
    have g2 : (20 : Int) < (l'.length : Int) := by omega
    go_wp2
    go_ret
    exact ⟨rfl, HB2.out⟩
  have g1 : decide ((20 : Int) < (l'.length : Int)) = false := decide_eq_false (by omega)
  have g2 : ¬ (20 : Int) < (l'.length : Int) := by omega
  go_wp2_with fail
  refine (tproves_calls _ days each A c L (HV.out.below HB2.out) (HF.out.mono (by omega)) _ l (HL.out.below HB2.out) _ P (HP.out.below HB2.out) HP6.out).mono ?_
  rintro e w3 ⟨b, rfl, hiff, hb3⟩
  have HIFF := Lib.hid hiff
  have HB3 := Lib.hid (bl_trans HB2.out hb3)
  have HK3 := Lib.hid (HK2.out.below hb3)
  have HT3 := Lib.hid (HT2.out.below hb3)
  clear hb3 hiff g1 g2 k0 k1 k2 o0 o1
  have k0 := HK3.out.cell 0
  have k1 := HK3.out.cell 1
  have k2 := HK3.out.cell 2
  have o0 := HT3.out.cell 0
  have o1 := HT3.out.cell 1
  go_wp2_with fail
  refine (rproves_calls _ days each A c L (HV.out.below HB3.out) (HF.out.mono (by omega)) _ l (HL.out.below HB3.out) _ P (HP.out.below HB3.out) HP6.out).mono ?_
  rintro e w4 ⟨b', rfl, hiff2, hb4⟩
  obtain rfl : b = b' := by
    have h1 := HIFF.out
    cases b <;> cases b' <;> first | rfl | (exfalso; simp at h1 hiff2; first | exact h1 hiff2 | exact hiff2 h1)
  have HB4 := Lib.hid (bl_trans HB3.out hb4)
  have HK4 := Lib.hid (HK3.out.below hb4)
  have HT4 := Lib.hid (HT3.out.below hb4)
  clear hb4 hiff2 k0 k1 k2 o0 o1
  have k0 := HK4.out.cell 0
  have k1 := HK4.out.cell 1
  have k2 := HK4.out.cell 2
  have o0 := HT4.out.cell 0
  have o1 := HT4.out.cell 1
  have g1 : ((b : Bool) != b) = false := by simp
  go_wp2_with fail
  refine (rplanned_calls _ days each A c L (HV.out.below HB4.out) (HF.out.mono (by omega)) _ l (HL.out.below HB4.out)).mono ?_
  rintro e w5 ⟨hb5, v5, rfl, hv5⟩
  obtain ⟨pa, hpa⟩ : ∃ b, b = planB days each L l := ⟨_, rfl⟩
  rw [← hpa] at hv5 ⊢
  obtain ⟨qa, hqa⟩ : ∃ q : Rat, q = if pa = true then (tdOf L).wsum (pday l) L.length else 0 := ⟨_, rfl⟩
  rw [← hqa] at hv5
  obtain ⟨X1, x1, X2, x2, rfl, _, _, _, _⟩ := FrIn.shape hv5
  have Hqa := Lib.hid hqa
  have Hpa := Lib.hid hpa
  have al5 := below_alloc0 w5 (.cells #[.bool (decide (qa.num < 0)), .slice X1 (dg qa.num.natAbs).length x1, .slice X2 (dg qa.den).length x2] 38)
  obtain ⟨w6, hw6⟩ : ∃ W, W = w5.alloc (.cells #[.bool (decide (qa.num < 0)), .slice X1 (dg qa.num.natAbs).length x1, .slice X2 (dg qa.den).length x2] 38) := ⟨_, rfl⟩
  obtain ⟨g6, hg6⟩ : ∃ g, g = w5.heap.size := ⟨_, rfl⟩
  have K6 := Blk.new w5 38 #[.bool (decide (qa.num < 0)), .slice X1 (dg qa.num.natAbs).length x1, .slice X2 (dg qa.den).length x2]
  have HW6 := Lib.hid hw6
  have HG6 := Lib.hid hg6
  rw [← hw6] at al5 K6
  rw [← hg6] at K6
  have HA6 := Lib.hid K6
  have HVA6 := Lib.hid (FrV.below hv5 al5)
  have hb6 := bl_trans hb5 al5
  have HB6 := Lib.hid (bl_trans HB4.out hb6)
  have HK6 := Lib.hid (HK4.out.below hb6)
  have HT6 := Lib.hid (HT4.out.below hb6)
  clear hb5 hv5 al5 hw6 hg6 K6 hb6 hqa hpa
  go_upto_region 7 with fail
  rw [← HW6.out, ← HG6.out]
  clear g1 k0 k1 k2 o0 o1
  have k0 := HK6.out.cell 0
  have k1 := HK6.out.cell 1
  have k2 := HK6.out.cell 2
  have o0 := HT6.out.cell 0
  have o1 := HT6.out.cell 1
  go_wp2_with fail
  refine (rplanned_calls _ days each A c L (HV.out.below HB6.out) (HF.out.mono (by omega)) _ l' (HO.out.below HB6.out)).mono ?_
  rintro e w7 ⟨hb7, v7, rfl, hv7⟩
  obtain ⟨pb, hpb⟩ : ∃ b, b = planB days each L l' := ⟨_, rfl⟩
  rw [← hpb] at hv7 ⊢
  obtain ⟨qb, hqb⟩ : ∃ q : Rat, q = if pb = true then (tdOf L).wsum (pday l') L.length else 0 := ⟨_, rfl⟩
  rw [← hqb] at hv7
  obtain ⟨Y1, y1, Y2, y2, rfl, _, _, _, _⟩ := FrIn.shape hv7
  have Hqb := Lib.hid hqb
  have Hpb := Lib.hid hpb
  have al7 := below_alloc0 w7 (.cells #[.bool (decide (qb.num < 0)), .slice Y1 (dg qb.num.natAbs).length y1, .slice Y2 (dg qb.den).length y2] 38)
  obtain ⟨w8, hw8⟩ : ∃ W, W = w7.alloc (.cells #[.bool (decide (qb.num < 0)), .slice Y1 (dg qb.num.natAbs).length y1, .slice Y2 (dg qb.den).length y2] 38) := ⟨_, rfl⟩
  obtain ⟨g8, hg8⟩ : ∃ g, g = w7.heap.size := ⟨_, rfl⟩
  have K8 := Blk.new w7 38 #[.bool (decide (qb.num < 0)), .slice Y1 (dg qb.num.natAbs).length y1, .slice Y2 (dg qb.den).length y2]
  have HW8 := Lib.hid hw8
  have HG8 := Lib.hid hg8
  rw [← hw8] at al7 K8
  rw [← hg8] at K8
  have HB8x := Lib.hid K8
  have HVB8 := Lib.hid (FrV.below hv7 al7)
  have hb8 := bl_trans hb7 al7
  have HA8 := Lib.hid (HA6.out.below hb8)
  have HVA8 := Lib.hid (FrV.below HVA6.out hb8)
  have HB8 := Lib.hid (bl_trans HB6.out hb8)
  have HK8 := Lib.hid (HK6.out.below hb8)
  have HT8 := Lib.hid (HT6.out.below hb8)
  clear hb7 hv7 al7 hw8 hg8 K8 hb8 hqb hpb k0 k1 k2 o0 o1
  go_upto_region 8 with fail
  rw [← HW8.out, ← HG8.out]
  cases b
  case false =>
    skip
    go_wp2_with fail
    refine (HFIN.out _ HB8.out).mono ?_
    rintro e wf ⟨rfl, hbf⟩
    have HBF := Lib.hid hbf
    clear hbf
    go_wp2
    go_ret
    exact ⟨rfl, HBF.out⟩
  have hpr := HIFF.out.1 rfl
  obtain rfl : pa = true := by rw [Hpa.out]; exact hpr.1
  cases pb
  case false =>
    clear hpr
    skip
    go_wp2_with fail
    refine (HFIN.out _ HB8.out).mono ?_
    rintro e wf ⟨rfl, hbf⟩
    have HBF := Lib.hid hbf
    clear hbf
    go_wp2
    go_ret
    exact ⟨rfl, HBF.out⟩
  have hbest := proved_best hpr Hpb.out.symm
  have ea : qa = (tdOf L).wsum (pday l) L.length := by rw [Hqa.out, if_pos rfl]
  have eb : qb = (tdOf L).wsum (pday l') L.length := by rw [Hqb.out, if_pos rfl]
  rw [← ea, ← eb] at hbest
  have hq16 : ∀ i, i < (tdOf L).n → Szq 16 ((tdOf L).q i) := fun i hi => fqd_szq16 (by omega) (HF.out.mono (by omega)) HWD.out (List.getElem?_eq_getElem (l := L) (i := i) hi)
  have HQA := Lib.hid (HVA8.out.q (by rw [ea]; exact (wsum_szq hq16 L.length (Nat.le_refl _)).short (by omega)))
  have HQB := Lib.hid (HVB8.out.q (by rw [eb]; exact (wsum_szq hq16 L.length (Nat.le_refl _)).short (by omega)))
  obtain ⟨cq, hcq⟩ : ∃ z, z = rcmp qb qa := ⟨_, rfl⟩
  have g3 : decide (cq ≤ 0) = true := decide_eq_true (by rw [hcq]; unfold rcmp; grind)
  have HCQ := Lib.hid hcq
  have m0 := HA8.out.cell 0
  have m1 := HA8.out.cell 1
  have m2 := HA8.out.cell 2
  have n0 := HB8x.out.cell 0
  have n1 := HB8x.out.cell 1
  have n2 := HB8x.out.cell 2
  clear hpr hbest ea eb hq16 hcq
  go_wp2_with fail
  refine (rcmpq _ _ _ qb qa HQB.out HQA.out).mono ?_
  rintro e w9 ⟨rfl, hb9⟩
  rw [← HCQ.out]
  have HB9 := Lib.hid (bl_trans HB8.out hb9)
  clear hb9 m0 m1 m2 n0 n1 n2
  skip
  go_wp2_with fail
  refine (HFIN.out _ HB9.out).mono ?_
  rintro e wf ⟨rfl, hbf⟩
  have HBF := Lib.hid hbf
  clear hbf
  go_wp2
  go_ret
  exact ⟨rfl, HBF.out⟩
open Go.ChangeShapes Go.WideShapes Go.ChangeAt Go.RowKit Go.Joins

set_option maxRecDepth 100000 in
/-- A plan and prices that are handed in. -/
theorem proof_of_arg {H : Type} {enc : TypeId × Value → H} {W : World} {v : Value} {d : DataW H} {p : List MemPlace}
    (hv : Value.okWide Try.prog W .any 0 60 v) (h : DataW.Trod enc Try.prog W 0 (fun _ => true) true 60 v d p) : ∃ (vl vp : Value) (l : List Int) (P : List (Bool × List Int × List Int)), v = .agg #[vl, vp] ∧ IL W vl l ∧ FL W vp P ∧ ∀ B, (∀ n ∈ d.weights Try.prog 60, n ≤ B) → FewD B P := by
  obtain ⟨cs, rfl, hsz⟩ := okWide_struct Try.underlying60 hv
  have h2 : Program.cellsOf Try.prog 60 = 2 := by kernel_rfl
  have b0 : Program.cellsOf Try.prog 28 = 1 := by kernel_rfl
  have b1 : Program.cellsOf Try.prog 31 = 1 := by kernel_rfl
  rw [h2] at hsz
  obtain ⟨cl⟩ := cs
  match cl, hsz with
  | [c0, c1], _ =>
    obtain ⟨fuel, hf⟩ := h
    obtain ⟨y0, y1, n', hy, _, k0, k1⟩ := trod_struct2 Try.underlying60 hf
    have k0' : DataW.trod enc Try.prog W 0 (fun _ => true) true n' 28 [c0] = some y0 := by simpa [Value.cells, b0] using k0
    have k1' : DataW.trod enc Try.prog W 0 (fun _ => true) true n' 31 [c1] = some y1 := by simpa [Value.cells, b1] using k1
    obtain ⟨l, hl⟩ := il_of_trod k0'
    obtain ⟨P, hP, hB⟩ := fl_of_trodB k1'
    have hd : d = .agg [y0.1, y1.1] := congrArg Prod.fst hy
    refine ⟨c0, c1, l, P, rfl, hl, hP, fun B h => hB B (fun n hn => h n ?_)⟩
    rw [hd]
    simp [DataW.weights, DataW.weightsEach, Try.underlying60, hn]
end Go.Proofs.Ytajckdheecgceaa
