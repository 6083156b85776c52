/- TideMore: the law's walk. -/
import Derived.Test.YtajckdheecgceaaTd32
set_option linter.unusedVariables false
set_option linter.unusedSimpArgs false
namespace Go.Proofs.Ytajckdheecgceaa
open Go.RowKit

theorem more_of {L : List VD} {D K i : Nat} {x dv : VD} (hx : L[i]? = some x) (hr : rightN (D : Int) (K : Int) L = 0) (hs : rightN (D : Int) (K : Int) (L.set i dv) = 0) (h1 : dv.1 ≤ x.1) (h2 : x.2.1 ≤ dv.2.1) (hq : fqd x.2.2 ≤ fqd dv.2.2) (h0 : (tdOf L).sold K D i ≠ 0) :
    (tdOf (L.set i dv)).sold K D i ≠ 0 ∧ (tdOf (L.set i dv)).pay K D i ≤ (tdOf L).pay K D i := by
  have hi := (List.getElem?_eq_some_iff.1 hx).1
  obtain ⟨z1, z2, z3⟩ := rightN_zero hr
  obtain ⟨_, _, z6⟩ := rightN_zero hs
  have hdx : (L.set i dv)[i]? = some dv := by rw [List.getElem?_set_self hi]
  have gx := bad_no (z3 i x hx)
  have gd := bad_no (z6 i dv hdx)
  obtain ⟨t1, t2, t3⟩ := tdOf_at hx
  obtain ⟨s1, s2, s3⟩ := tdOf_at hdx
  have hn : i < (tdOf L).n := hi
  have hw := tdOf_set_wo L i dv
  have hm := Td.more (T := tdOf L) (S := tdOf (L.set i dv)) (k := K) (D := D) hn (by show (L.set i dv).length = L.length; simp) hw.symm (by rw [t1, s1]; exact h1) (by rw [t2, s2]; exact h2) (by rw [t3, s3]; exact hq) h0
  refine ⟨hm, ?_⟩
  unfold Td.pay
  rw [if_neg hm, if_neg h0]
  exact Td.price_mono hw (by rw [s1]; omega) (by rw [s1, s2]; omega) (by rw [t1]; omega) (by rw [t1, t2]; omega) (by rw [t1, s1]; exact h1) (by rw [t2, s2]; exact h2)
theorem moreh_next {w w1 w2 : World} {v1 v2 : Value} {p q : Rat} {a0 a1 a2 a3 a4 a5 a6 a7 a8 : Addr} {x0 x1 x2 x3 x4 x5 x6 x7 x8 : Value} (hb : Below w1.heap.size w1 w2)
    (h : SelH w v1 v2 p q w1 ∧ w1.cell? a0 = some x0 ∧ w1.cell? a7 = some x7 ∧ w1.cell? a8 = some x8 ∧ (w1.cell? a1 = some x1 ∧ w1.cell? a2 = some x2 ∧ w1.cell? a3 = some x3) ∧ (w1.cell? a4 = some x4 ∧ w1.cell? a5 = some x5 ∧ w1.cell? a6 = some x6)) :
    SelH w v1 v2 p q w2 ∧ w2.cell? a0 = some x0 ∧ w2.cell? a7 = some x7 ∧ w2.cell? a8 = some x8 ∧ (w2.cell? a1 = some x1 ∧ w2.cell? a2 = some x2 ∧ w2.cell? a3 = some x3) ∧ (w2.cell? a4 = some x4 ∧ w2.cell? a5 = some x5 ∧ w2.cell? a6 = some x6) := by
  obtain ⟨h0, e0, e7, e8, ⟨e1, e2, e3⟩, ⟨e4, e5, e6⟩⟩ := h
  exact ⟨h0.next hb, cell_below hb e0, cell_below hb e7, cell_below hb e8, ⟨cell_below hb e1, cell_below hb e2, cell_below hb e3⟩, ⟨cell_below hb e4, cell_below hb e5, cell_below hb e6⟩⟩
set_option maxRecDepth 100000 in
set_option maxHeartbeats 16000000 in
theorem law_more (w : World) (days each : Int) (va : Value) (L : List VD) (h : VL w va L) (hf : FewV 4611686018427387903 L) (ag : Int) (dv : VD) (V1 V2 : Option Addr) (n1 n2 : Nat) (hdv : FrIn w (.agg #[.bool dv.2.2.1, .slice V1 dv.2.2.2.1.length n1, .slice V2 dv.2.2.2.2.length n2]) dv.2.2.1 dv.2.2.2.1 dv.2.2.2.2) (hd1 : dv.2.2.2.1.length ≤ 4611686018427387903) (hd2 : dv.2.2.2.2.length ≤ 4611686018427387903) :
    Calls Try.prog 4 #[.agg #[.int .i64 days, .int .i64 each, va], .agg #[.int .i64 ag, .int .i64 dv.1, .int .i64 dv.2.1, .bool dv.2.2.1, .slice V1 dv.2.2.2.1.length n1, .slice V2 dv.2.2.2.2.length n2]] w fun e w' => e = .returned (.bool true) ∧ Below w.heap.size w w' := by
  obtain ⟨A, c, rfl⟩ := h.shape
  have HV := Lib.hid h
  have hcc := h.bounds
  have HFF := Lib.hid hf
  have HWD := Lib.hid h.wd
  have HDV := Lib.hid hdv
  obtain ⟨wa, hwa⟩ : ∃ W, W = w.alloc (.cells #[.int .i64 days, .int .i64 each, .slice A L.length c] 24) := ⟨_, rfl⟩
  obtain ⟨wb, hwb⟩ : ∃ W, W = wa.alloc (.cells #[.int .i64 ag, .int .i64 dv.1, .int .i64 dv.2.1, .bool dv.2.2.1, .slice V1 dv.2.2.2.1.length n1, .slice V2 dv.2.2.2.2.length n2] 45) := ⟨_, rfl⟩
  have sa : wa.heap.size = w.heap.size + 1 := by rw [hwa]; simp
  have ba : Below w.heap.size w wa := by rw [hwa]; exact below_alloc0 _ _
  have bb : Below wa.heap.size wa wb := by rw [hwb]; exact below_alloc0 _ _
  have KA : Blk wa w.heap.size 24 #[.int .i64 days, .int .i64 each, .slice A L.length c] := by rw [hwa]; exact Blk.new _ _ _
  have KB : Blk wb (w.heap.size + 1) 45 #[.int .i64 ag, .int .i64 dv.1, .int .i64 dv.2.1, .bool dv.2.2.1, .slice V1 dv.2.2.2.1.length n1, .slice V2 dv.2.2.2.2.length n2] := by rw [hwb, ← sa]; exact Blk.new _ _ _
  have HB0 := Lib.hid (bl_trans ba bb)
  have HK0 := Lib.hid (KA.below bb)
  have HT0 := Lib.hid KB
  have HWB := Lib.hid (show (w.alloc (.cells #[.int .i64 days, .int .i64 each, .slice A L.length c] 24)).alloc (.cells #[.int .i64 ag, .int .i64 dv.1, .int .i64 dv.2.1, .bool dv.2.2.1, .slice V1 dv.2.2.2.1.length n1, .slice V2 dv.2.2.2.2.length n2] 45) = wb by rw [hwb, hwa])
  have k0 := HK0.out.cell 0
  have k1 := HK0.out.cell 1
  have k2 := HK0.out.cell 2
  clear h hf hdv hwa hwb sa ba bb KA KB
  go_enter Try.func4, Try.ntmps4
  go_upto_region 1 with fail
  rw [HWB.out]
  go_wp2_with fail
  refine (beyond_calls _ days each A c L (HV.out.below HB0.out) HFF.out).mono ?_
  rintro e w1 ⟨b, rfl, hbey, hb1⟩
  have HB1 := Lib.hid (bl_trans HB0.out hb1)
  have HK1 := Lib.hid (HK0.out.below hb1)
  have HT1 := Lib.hid (HT0.out.below hb1)
  cases b
  case true =>
    clear hb1 hbey
    go_wp2
    go_ret
    exact ⟨rfl, HB1.out⟩
  obtain ⟨hL20, hF⟩ := hbey rfl
  have HF := Lib.hid hF
  clear hb1 hbey hF k0 k1 k2
  have k0 := HK1.out.cell 0
  have k1 := HK1.out.cell 1
  have k2 := HK1.out.cell 2
  have o0 := HT1.out.cell 0
  have o1 := HT1.out.cell 1
  have o2 := HT1.out.cell 2
  have o3 := HT1.out.cell 3
  have o4 := HT1.out.cell 4
  have o5 := HT1.out.cell 5
  go_wp2_with fail
  refine (big_calls _ _ V1 V2 _ n1 _ n2 hd1 hd2).mono ?_
  rintro e w2 ⟨rfl, hb2⟩
  have HB2 := Lib.hid (bl_trans HB1.out hb2)
  have HK2 := Lib.hid (HK1.out.below hb2)
  have HT2 := Lib.hid (HT1.out.below hb2)
  clear hb2 k0 k1 k2 o0 o1 o2 o3 o4 o5
  have k0 := HK2.out.cell 0
  have k1 := HK2.out.cell 1
  have k2 := HK2.out.cell 2
  have o0 := HT2.out.cell 0
  have o1 := HT2.out.cell 1
  have o2 := HT2.out.cell 2
  have o3 := HT2.out.cell 3
  have o4 := HT2.out.cell 4
  have o5 := HT2.out.cell 5
  by_cases hbig : 6 < dv.2.2.2.1.length + dv.2.2.2.2.length
  · have g1 : decide ((6 : Int) < ((dv.2.2.2.1.length + dv.2.2.2.2.length : Nat) : Int)) = true := decide_eq_true (by omega)
    have g2 : decide ((6 : Int) < (dv.2.2.2.1.length : Int) + (dv.2.2.2.2.length : Int)) = true := decide_eq_true (by omega)
    have g3 : 6 < dv.2.2.2.1.length + dv.2.2.2.2.length := hbig
    go_wp2
    go_ret
    exact ⟨rfl, HB2.out⟩
  have g1 : decide ((6 : Int) < ((dv.2.2.2.1.length + dv.2.2.2.2.length : Nat) : Int)) = false := decide_eq_false (by omega)
  have g2 : decide ((6 : Int) < (dv.2.2.2.1.length : Int) + (dv.2.2.2.2.length : Int)) = false := decide_eq_false (by omega)
  by_cases hneg : ag < 0
  · have g4 : decide (ag < 0) = true := decide_eq_true hneg
    go_wp2
    go_ret
    exact ⟨rfl, HB2.out⟩
  have g4 : decide (ag < 0) = false := decide_eq_false hneg
  obtain ⟨i, rfl⟩ : ∃ i : Nat, ag = (i : Int) := ⟨ag.toNat, by omega⟩
  by_cases hge : L.length ≤ i
  · have g5 : decide ((L.length : Int) ≤ (i : Int)) = true := decide_eq_true (by omega)
    have g6 : (L.length : Int) ≤ (i : Int) := by omega
    go_wp2
    go_ret
    exact ⟨rfl, HB2.out⟩
  have hi : i < L.length := by omega
  have g5 : decide ((L.length : Int) ≤ (i : Int)) = false := decide_eq_false (by omega)
  have g6 : (i : Int) < (L.length : Int) := by omega
  have g7 : (0 : Int) ≤ (i : Int) := by omega
  obtain ⟨x, hx⟩ : ∃ x, L[i]? = some x := ⟨_, List.getElem?_eq_getElem hi⟩
  obtain ⟨ad, A1, a1, A2, a2, rfl, e0, e1, e2, e3, e4, hfx⟩ := (HV.out.below HB2.out).at hx
  have HX := Lib.hid hx
  have HFX := Lib.hid hfx
  have HBIG := Lib.hid hbig
  clear hx hfx hbig hneg hge
  go_upto_region 4 with fail
  have al3 := below_alloc0 w2 (.cells #[.int .i64 x.1, .int .i64 x.2.1, .bool x.2.2.1, .slice A1 x.2.2.2.1.length a1, .slice A2 x.2.2.2.2.length a2] 40)
  have K3 := Blk.new w2 40 #[.int .i64 x.1, .int .i64 x.2.1, .bool x.2.2.1, .slice A1 x.2.2.2.1.length a1, .slice A2 x.2.2.2.2.length a2]
  obtain ⟨w3, hw3⟩ : ∃ W, W = w2.alloc (.cells #[.int .i64 x.1, .int .i64 x.2.1, .bool x.2.2.1, .slice A1 x.2.2.2.1.length a1, .slice A2 x.2.2.2.2.length a2] 40) := ⟨_, rfl⟩
  obtain ⟨gx, hgx⟩ : ∃ g, g = w2.heap.size := ⟨_, rfl⟩
  rw [← hw3] at al3 K3 ⊢
  rw [← hgx] at K3 ⊢
  have HX3 := Lib.hid K3
  have HB3 := Lib.hid (bl_trans HB2.out al3)
  have HK3 := Lib.hid (HK2.out.below al3)
  have HT3 := Lib.hid (HT2.out.below al3)
  have HFX3 := Lib.hid (HFX.out.below al3)
  clear al3 K3 hw3 hgx e0 e1 e2 e3 e4 k0 k1 k2 o0 o1 o2 o3 o4 o5
  have k0 := HK3.out.cell 0
  have k1 := HK3.out.cell 1
  have k2 := HK3.out.cell 2
  have o0 := HT3.out.cell 0
  have o1 := HT3.out.cell 1
  have o2 := HT3.out.cell 2
  have o3 := HT3.out.cell 3
  have o4 := HT3.out.cell 4
  have o5 := HT3.out.cell 5
  have v0 := HX3.out.cell 0
  have v1 := HX3.out.cell 1
  have v2 := HX3.out.cell 2
  have v3 := HX3.out.cell 3
  have v4 := HX3.out.cell 4
  obtain ⟨M, hM⟩ : ∃ M, M = L.set i dv := ⟨_, rfl⟩
  have HM := Lib.hid hM
  have hwith := with_calls w3 days each ad c i L (HV.out.below HB3.out) hi (by omega) dv V1 n1 V2 n2 (HDV.out.below HB3.out)
  rw [← hM] at hwith
  have HWITH := Lib.hid hwith
  clear hM hwith
  go_wp2_with fail
  refine HWITH.out.mono ?_
  rintro e w4 ⟨A4, c4, rfl, hVM, hb4⟩
  have HB4 := Lib.hid (bl_trans HB3.out hb4)
  have HK4 := Lib.hid (HK3.out.below hb4)
  have HT4 := Lib.hid (HT3.out.below hb4)
  have HX4 := Lib.hid (HX3.out.below hb4)
  have HFX4 := Lib.hid (HFX3.out.below hb4)
  have HVM4 := Lib.hid hVM
  clear hb4 hVM k0 k1 k2 o0 o1 o2 o3 o4 o5 v0 v1 v2 v3 v4
  go_upto_region 5 with fail
  have al5 := below_alloc0 w4 (.cells #[.int .i64 days, .int .i64 each, .slice A4 M.length c4] 24)
  have K5 := Blk.new w4 24 #[.int .i64 days, .int .i64 each, .slice A4 M.length c4]
  obtain ⟨w5, hw5⟩ : ∃ W, W = w4.alloc (.cells #[.int .i64 days, .int .i64 each, .slice A4 M.length c4] 24) := ⟨_, rfl⟩
  obtain ⟨gm, hgm⟩ : ∃ g, g = w4.heap.size := ⟨_, rfl⟩
  rw [← hw5] at al5 K5 ⊢
  rw [← hgm] at K5 ⊢
  have HM5 := Lib.hid K5
  have HB5 := Lib.hid (bl_trans HB4.out al5)
  have HK5 := Lib.hid (HK4.out.below al5)
  have HT5 := Lib.hid (HT4.out.below al5)
  have HX5 := Lib.hid (HX4.out.below al5)
  have HFX5 := Lib.hid (HFX4.out.below al5)
  have HVM5 := Lib.hid (HVM4.out.below al5)
  clear al5 K5 hw5 hgm
  have k0 := HK5.out.cell 0
  have k1 := HK5.out.cell 1
  have k2 := HK5.out.cell 2
  have o0 := HT5.out.cell 0
  have o1 := HT5.out.cell 1
  have o2 := HT5.out.cell 2
  have o3 := HT5.out.cell 3
  have o4 := HT5.out.cell 4
  have o5 := HT5.out.cell 5
  have v0 := HX5.out.cell 0
  have v1 := HX5.out.cell 1
  have v2 := HX5.out.cell 2
  have v3 := HX5.out.cell 3
  have v4 := HX5.out.cell 4
  have s0 := HM5.out.cell 0
  have s1 := HM5.out.cell 1
  have s2 := HM5.out.cell 2
  obtain ⟨al, hal⟩ : ∃ b : Bool, b = (decide (dv.1 ≤ x.1) && decide (x.2.1 ≤ dv.2.1)) := ⟨_, rfl⟩
  have HAL := Lib.hid hal
  clear hal
  go_wp2_with fail
  refine (allowed_calls _ dv x V1 V2 A1 A2 n1 n2 a1 a2).mono ?_
  rintro e w6 ⟨rfl, hb6⟩
  rw [← HAL.out]
  have HB6 := Lib.hid (bl_trans HB5.out hb6)
  have HK6 := Lib.hid (HK5.out.below hb6)
  have HT6 := Lib.hid (HT5.out.below hb6)
  have HX6 := Lib.hid (HX5.out.below hb6)
  have HM6 := Lib.hid (HM5.out.below hb6)
  have HFX6 := Lib.hid (HFX5.out.below hb6)
  have HVM6 := Lib.hid (HVM5.out.below hb6)
  clear hb6 k0 k1 k2 o0 o1 o2 o3 o4 o5 v0 v1 v2 v3 v4 s0 s1 s2
  have hfin : ∀ (wz : World), Below w.heap.size w wz → Calls Try.prog 24 #[] wz fun e w' => e = .returned (.bool true) ∧ Below w.heap.size w w' := fun wz hb => (tfixed_calls wz).mono (fun e w' h => ⟨h.1, bl_trans hb h.2⟩)
  have HFIN := Lib.hid hfin
  clear hfin
  have k0 := HK6.out.cell 0
  have k1 := HK6.out.cell 1
  have k2 := HK6.out.cell 2
  have o0 := HT6.out.cell 0
  have o1 := HT6.out.cell 1
  have o2 := HT6.out.cell 2
  have o3 := HT6.out.cell 3
  have o4 := HT6.out.cell 4
  have o5 := HT6.out.cell 5
  have v0 := HX6.out.cell 0
  have v1 := HX6.out.cell 1
  have v2 := HX6.out.cell 2
  have v3 := HX6.out.cell 3
  have v4 := HX6.out.cell 4
  have s0 := HM6.out.cell 0
  have s1 := HM6.out.cell 1
  have s2 := HM6.out.cell 2
  cases al
  case false =>
    clear k0 k1 k2 o0 o1 o2 o3 o4 o5 v0 v1 v2 v3 v4 s0 s1 s2
    go_wp2_with fail
    refine (HFIN.out _ HB6.out).mono ?_
    rintro e w7 ⟨rfl, hb7⟩
    have HB7 := Lib.hid hb7
    clear hb7
    go_wp2
    go_ret
    exact ⟨rfl, HB7.out⟩
  have hal1 := HAL.out.symm
  simp only [Bool.and_eq_true, decide_eq_true_eq] at hal1
  obtain ⟨hc1, hc2⟩ := hal1
  have HC1 := Lib.hid hc1
  have HC2 := Lib.hid hc2
  have hfx6 : x.2.2.2.1.length ≤ 6 ∧ x.2.2.2.2.length ≤ 6 := HF.out x (List.mem_of_getElem? HX.out)
  obtain ⟨hf1, hf2⟩ := hfx6
  have hfd : dv.2.2.2.1.length + dv.2.2.2.2.length ≤ 6 := by have := HBIG.out; omega
  obtain ⟨qd, hqd⟩ : ∃ q, q = fqd dv.2.2 := ⟨_, rfl⟩
  obtain ⟨qx, hqx⟩ : ∃ q, q = fqd x.2.2 := ⟨_, rfl⟩
  have hqD : FrQ w6 (.agg #[.bool dv.2.2.1, .slice V1 dv.2.2.2.1.length n1, .slice V2 dv.2.2.2.2.length n2]) qd := ⟨_, _, _, HDV.out.below HB6.out, by omega, hqd.symm⟩
  have hqX : FrQ w6 (.agg #[.bool x.2.2.1, .slice A1 x.2.2.2.1.length a1, .slice A2 x.2.2.2.2.length a2]) qx := ⟨_, _, _, HFX6.out, by omega, hqx.symm⟩
  have HQD := Lib.hid hqd
  have HQX := Lib.hid hqx
  clear hc1 hc2 hqd hqx
  go_wp2_with fail
  refine (rcmpq _ _ _ qd qx hqD hqX).mono ?_
  rintro e w7 ⟨rfl, hb7⟩
  obtain ⟨cp, hcp⟩ : ∃ c, c = rcmp qd qx := ⟨_, rfl⟩
  rw [← hcp]
  have HCP := Lib.hid hcp
  have HB7 := Lib.hid (bl_trans HB6.out hb7)
  have HK7 := Lib.hid (HK6.out.below hb7)
  have HT7 := Lib.hid (HT6.out.below hb7)
  have HX7 := Lib.hid (HX6.out.below hb7)
  have HM7 := Lib.hid (HM6.out.below hb7)
  have HFX7 := Lib.hid (HFX6.out.below hb7)
  have HVM7 := Lib.hid (HVM6.out.below hb7)
  clear hb7 hqD hqX hcp k0 k1 k2 o0 o1 o2 o3 o4 o5 v0 v1 v2 v3 v4 s0 s1 s2
  by_cases hlt : cp < 0
  · have g8 : decide (cp < 0) = true := decide_eq_true hlt
    clear hlt
    go_wp2_with fail
    refine (HFIN.out _ HB7.out).mono ?_
    rintro e w8 ⟨rfl, hb8⟩
    have HB8 := Lib.hid hb8
    clear hb8
    go_wp2
    go_ret
    exact ⟨rfl, HB8.out⟩
  have g8 : decide (cp < 0) = false := decide_eq_false hlt
  have HLT := Lib.hid hlt
  clear hlt
  obtain ⟨r, hr⟩ : ∃ r, r = rightN days each L := ⟨_, rfl⟩
  have HR := Lib.hid hr
  obtain ⟨rs, hrs⟩ : ∃ r, r = rightN days each M := ⟨_, rfl⟩
  have HRS := Lib.hid hrs
  clear hr hrs
  have k0 := HK7.out.cell 0
  have k1 := HK7.out.cell 1
  have k2 := HK7.out.cell 2
  have o0 := HT7.out.cell 0
  have o1 := HT7.out.cell 1
  have o2 := HT7.out.cell 2
  have o3 := HT7.out.cell 3
  have o4 := HT7.out.cell 4
  have o5 := HT7.out.cell 5
  have v0 := HX7.out.cell 0
  have v1 := HX7.out.cell 1
  have v2 := HX7.out.cell 2
  have v3 := HX7.out.cell 3
  have v4 := HX7.out.cell 4
  have s0 := HM7.out.cell 0
  have s1 := HM7.out.cell 1
  have s2 := HM7.out.cell 2
  go_wp2_with fail
  refine (rtright_calls _ days each (some ad) c L (HV.out.below HB7.out)).mono ?_
  rintro e w8 ⟨rfl, hb8⟩
  rw [← HR.out]
  have HB8 := Lib.hid (bl_trans HB7.out hb8)
  have HK8 := Lib.hid (HK7.out.below hb8)
  have HT8 := Lib.hid (HT7.out.below hb8)
  have HX8 := Lib.hid (HX7.out.below hb8)
  have HM8 := Lib.hid (HM7.out.below hb8)
  have HVM8 := Lib.hid (HVM7.out.below hb8)
  clear hb8 k0 k1 k2 o0 o1 o2 o3 o4 o5 v0 v1 v2 v3 v4 s0 s1 s2
  by_cases hr0 : r = 0
  · obtain rfl : r = 0 := hr0
    have hrz := HR.out.symm
    obtain ⟨z1, z2, z3⟩ := rightN_zero hrz
    obtain ⟨D, hD⟩ : ∃ D : Nat, days = (D : Int) := ⟨days.toNat, by omega⟩
    obtain ⟨K, hKe⟩ : ∃ K : Nat, each = (K : Int) := ⟨each.toNat, by omega⟩
    subst hD
    subst hKe
    have hK1 : 1 ≤ K := by omega
    have hL12 : L.length ≤ 12 := by omega
    have HRZ := Lib.hid hrz
    clear z1 z2 z3 hrz
    have k0 := HK8.out.cell 0
    have k1 := HK8.out.cell 1
    have k2 := HK8.out.cell 2
    have o0 := HT8.out.cell 0
    have o1 := HT8.out.cell 1
    have o2 := HT8.out.cell 2
    have o3 := HT8.out.cell 3
    have o4 := HT8.out.cell 4
    have o5 := HT8.out.cell 5
    have v0 := HX8.out.cell 0
    have v1 := HX8.out.cell 1
    have v2 := HX8.out.cell 2
    have v3 := HX8.out.cell 3
    have v4 := HX8.out.cell 4
    have s0 := HM8.out.cell 0
    have s1 := HM8.out.cell 1
    have s2 := HM8.out.cell 2
    go_wp2_with fail
    refine (rtright_calls _ _ _ A4 c4 M HVM8.out).mono ?_
    rintro e w9 ⟨rfl, hb9⟩
    rw [← HRS.out]
    have HB9 := Lib.hid (bl_trans HB8.out hb9)
    have HK9 := Lib.hid (HK8.out.below hb9)
    have HT9 := Lib.hid (HT8.out.below hb9)
    have HX9 := Lib.hid (HX8.out.below hb9)
    have HM9 := Lib.hid (HM8.out.below hb9)
    have HVM9 := Lib.hid (HVM8.out.below hb9)
    clear hb9 k0 k1 k2 o0 o1 o2 o3 o4 o5 v0 v1 v2 v3 v4 s0 s1 s2
    by_cases hs0 : rs = 0
    · obtain rfl : rs = 0 := hs0
      have HSZ := Lib.hid HRS.out.symm
      have hML : M.length = L.length := by rw [HM.out, List.length_set]
      have HML := Lib.hid hML
      have hFM : FewV 16 M := by rw [HM.out]; exact (HF.out.mono (by omega)).set i (by omega) (by omega)
      have HFM := Lib.hid hFM
      clear hFM hML
      have k0 := HK9.out.cell 0
      have k1 := HK9.out.cell 1
      have k2 := HK9.out.cell 2
      have o0 := HT9.out.cell 0
      have o1 := HT9.out.cell 1
      have o2 := HT9.out.cell 2
      have o3 := HT9.out.cell 3
      have o4 := HT9.out.cell 4
      have o5 := HT9.out.cell 5
      have v0 := HX9.out.cell 0
      have v1 := HX9.out.cell 1
      have v2 := HX9.out.cell 2
      have v3 := HX9.out.cell 3
      have v4 := HX9.out.cell 4
      have s0 := HM9.out.cell 0
      have s1 := HM9.out.cell 1
      have s2 := HM9.out.cell 2
      go_wp2_with fail
      refine (sell_calls _ _ _ (some ad) c L (HV.out.below HB9.out) (HF.out.mono (by omega))).mono ?_
      intro e w10 hpo
      obtain ⟨g10, rfl, hT10, hb10⟩ := hpo.yes HRZ.out
      clear hpo
      have HS10 := Lib.hid hT10
      have HB10 := Lib.hid (bl_trans HB9.out hb10)
      have HK10 := Lib.hid (HK9.out.below hb10)
      have HT10 := Lib.hid (HT9.out.below hb10)
      have HX10 := Lib.hid (HX9.out.below hb10)
      have HM10 := Lib.hid (HM9.out.below hb10)
      have HVM10 := Lib.hid (HVM9.out.below hb10)
      clear hb10 k0 k1 k2 o0 o1 o2 o3 o4 o5 v0 v1 v2 v3 v4 s0 s1 s2
      clear hT10
      have k0 := HK10.out.cell 0
      have k1 := HK10.out.cell 1
      have k2 := HK10.out.cell 2
      have o0 := HT10.out.cell 0
      have o1 := HT10.out.cell 1
      have o2 := HT10.out.cell 2
      have o3 := HT10.out.cell 3
      have o4 := HT10.out.cell 4
      have o5 := HT10.out.cell 5
      have v0 := HX10.out.cell 0
      have v1 := HX10.out.cell 1
      have v2 := HX10.out.cell 2
      have v3 := HX10.out.cell 3
      have v4 := HX10.out.cell 4
      have s0 := HM10.out.cell 0
      have s1 := HM10.out.cell 1
      have s2 := HM10.out.cell 2
      go_wp2_with fail
      refine (pays_calls _ _ _ (some ad) c L (HV.out.below HB10.out) (HF.out.mono (by omega))).mono ?_
      intro e w11 hpo
      obtain ⟨g11, rfl, hP11, hb11⟩ := hpo.yes HRZ.out
      clear hpo
      have HP11 := Lib.hid hP11
      have HS11 := Lib.hid (HS10.out.fr (Fr.of_below (S := fun _ => False) hb11) (fun h => h))
      have HB11 := Lib.hid (bl_trans HB10.out hb11)
      have HK11 := Lib.hid (HK10.out.below hb11)
      have HT11 := Lib.hid (HT10.out.below hb11)
      have HX11 := Lib.hid (HX10.out.below hb11)
      have HM11 := Lib.hid (HM10.out.below hb11)
      have HVM11 := Lib.hid (HVM10.out.below hb11)
      clear hb11 k0 k1 k2 o0 o1 o2 o3 o4 o5 v0 v1 v2 v3 v4 s0 s1 s2
      clear hP11
      have k0 := HK11.out.cell 0
      have k1 := HK11.out.cell 1
      have k2 := HK11.out.cell 2
      have o0 := HT11.out.cell 0
      have o1 := HT11.out.cell 1
      have o2 := HT11.out.cell 2
      have o3 := HT11.out.cell 3
      have o4 := HT11.out.cell 4
      have o5 := HT11.out.cell 5
      have v0 := HX11.out.cell 0
      have v1 := HX11.out.cell 1
      have v2 := HX11.out.cell 2
      have v3 := HX11.out.cell 3
      have v4 := HX11.out.cell 4
      have s0 := HM11.out.cell 0
      have s1 := HM11.out.cell 1
      have s2 := HM11.out.cell 2
      go_wp2_with fail
      refine (sell_calls _ _ _ A4 c4 M HVM11.out (HFM.out.mono (by omega))).mono ?_
      intro e w12 hpo
      obtain ⟨g12, rfl, hT12, hb12⟩ := hpo.yes HSZ.out
      clear hpo
      have HU12 := Lib.hid hT12
      have HP12 := Lib.hid (HP11.out.below hb12)
      have HS12 := Lib.hid (HS11.out.fr (Fr.of_below (S := fun _ => False) hb12) (fun h => h))
      have HB12 := Lib.hid (bl_trans HB11.out hb12)
      have HK12 := Lib.hid (HK11.out.below hb12)
      have HT12 := Lib.hid (HT11.out.below hb12)
      have HX12 := Lib.hid (HX11.out.below hb12)
      have HM12 := Lib.hid (HM11.out.below hb12)
      have HVM12 := Lib.hid (HVM11.out.below hb12)
      clear hb12 k0 k1 k2 o0 o1 o2 o3 o4 o5 v0 v1 v2 v3 v4 s0 s1 s2
      clear hT12
      have k0 := HK12.out.cell 0
      have k1 := HK12.out.cell 1
      have k2 := HK12.out.cell 2
      have o0 := HT12.out.cell 0
      have o1 := HT12.out.cell 1
      have o2 := HT12.out.cell 2
      have o3 := HT12.out.cell 3
      have o4 := HT12.out.cell 4
      have o5 := HT12.out.cell 5
      have v0 := HX12.out.cell 0
      have v1 := HX12.out.cell 1
      have v2 := HX12.out.cell 2
      have v3 := HX12.out.cell 3
      have v4 := HX12.out.cell 4
      have s0 := HM12.out.cell 0
      have s1 := HM12.out.cell 1
      have s2 := HM12.out.cell 2
      go_wp2_with fail
      refine (pays_calls _ _ _ A4 c4 M HVM12.out HFM.out).mono ?_
      intro e w13 hpo
      obtain ⟨g13, rfl, hP13, hb13⟩ := hpo.yes HSZ.out
      clear hpo
      have HQ13 := Lib.hid hP13
      have HU13 := Lib.hid (HU12.out.fr (Fr.of_below (S := fun _ => False) hb13) (fun h => h))
      have HP13 := Lib.hid (HP12.out.below hb13)
      have HS13 := Lib.hid (HS12.out.fr (Fr.of_below (S := fun _ => False) hb13) (fun h => h))
      have HB13 := Lib.hid (bl_trans HB12.out hb13)
      have HK13 := Lib.hid (HK12.out.below hb13)
      have HT13 := Lib.hid (HT12.out.below hb13)
      have HX13 := Lib.hid (HX12.out.below hb13)
      have HM13 := Lib.hid (HM12.out.below hb13)
      have HVM13 := Lib.hid (HVM12.out.below hb13)
      clear hb13 k0 k1 k2 o0 o1 o2 o3 o4 o5 v0 v1 v2 v3 v4 s0 s1 s2
      clear hP13
      have k0 := HK13.out.cell 0
      have k1 := HK13.out.cell 1
      have k2 := HK13.out.cell 2
      have o0 := HT13.out.cell 0
      have o1 := HT13.out.cell 1
      have o2 := HT13.out.cell 2
      have o3 := HT13.out.cell 3
      have o4 := HT13.out.cell 4
      have o5 := HT13.out.cell 5
      have v0 := HX13.out.cell 0
      have v1 := HX13.out.cell 1
      have v2 := HX13.out.cell 2
      have v3 := HX13.out.cell 3
      have v4 := HX13.out.cell 4
      have s0 := HM13.out.cell 0
      have s1 := HM13.out.cell 1
      have s2 := HM13.out.cell 2
      rw [HML.out]
      have s0' := HS13.out.cell hi
      have u0' := HU13.out.cell (i := i) (by rw [HML.out]; exact hi)
      obtain ⟨sm, hsm⟩ : ∃ s, s = (tdOf L).sold K D i := ⟨_, rfl⟩
      obtain ⟨um, hum⟩ : ∃ s, s = (tdOf M).sold K D i := ⟨_, rfl⟩
      rw [← hsm] at s0'
      rw [← hum] at u0'
      obtain ⟨p, hp⟩ : ∃ p, p = (tdOf L).pay K D i := ⟨_, rfl⟩
      obtain ⟨s, hss⟩ : ∃ p, p = (tdOf M).pay K D i := ⟨_, rfl⟩
      have hiM : i < M.length := by rw [HML.out]; exact hi
      have hpl := HP13.out.fl
      rw [pays_list] at hpl
      obtain ⟨ad', cc, C1, c1, C2, c2, hvl, _, _, m0, m1, m2, hfp⟩ := hpl.atq (k := i) (q := p) (by rw [hp]; unfold payL; rw [List.getElem?_map, List.getElem?_range hi]; rfl)
      obtain rfl : ⟨g11, 0, none⟩ = ad' := by simpa using (by simpa using hvl : (some (⟨g11, 0, none⟩ : Addr) = some ad') ∧ _).1
      rw [add_row] at m0 m1 m2
      have hql := HQ13.out.fl
      rw [pays_list] at hql
      obtain ⟨ad', cc', E1, f1, E2, f2, hvl2, _, _, l0, l1, l2, hfs⟩ := hql.atq (k := i) (q := s) (by rw [hss]; unfold payL; rw [List.getElem?_map, List.getElem?_range hiM]; rfl)
      obtain rfl : ⟨g13, 0, none⟩ = ad' := by simpa using (by simpa using hvl2 : (some (⟨g13, 0, none⟩ : Addr) = some ad') ∧ _).1
      rw [add_row] at l0 l1 l2
      have hpsh : Short p := by rw [hp]; exact (pay_szq (n := 16) (by omega) (HF.out.mono (by omega)) HWD.out hK1 D hi).short (by omega)
      have hssh : Short s := by rw [hss]; exact (pay_szq (n := 16) (by omega) HFM.out HVM13.out.wd hK1 D hiM).short (by omega)
      have hmore : sm ≠ 0 → um ≠ 0 ∧ s ≤ p := fun h => by
        rw [hum, hss, hp, HM.out]
        exact more_of HX.out HRZ.out (by rw [← HM.out]; exact HSZ.out) HC1.out HC2.out (by rw [← HQX.out, ← HQD.out]; have := HLT.out; rw [HCP.out] at this; unfold rcmp at this; grind) (by rw [← hsm]; exact h)
      have hs : (fun (w' : World) => SelH w13 (.agg #[.bool (decide (s.num < 0)), .slice E1 (dg s.num.natAbs).length f1, .slice E2 (dg s.den).length f2]) (.agg #[.bool (decide (p.num < 0)), .slice C1 (dg p.num.natAbs).length c1, .slice C2 (dg p.den).length c2]) s p w' ∧ w'.cell? ⟨w.heap.size + 1, 0, none⟩ = some (.int .i64 (i : Int)) ∧ w'.cell? ⟨g10, i, none⟩ = some (.int .i64 sm) ∧ w'.cell? ⟨g12, i, none⟩ = some (.int .i64 um) ∧ (w'.cell? ⟨g13, i * 3, none⟩ = some (.bool (decide (s.num < 0))) ∧ w'.cell? ⟨g13, i * 3 + 1, none⟩ = some (.slice E1 (dg s.num.natAbs).length f1) ∧ w'.cell? ⟨g13, i * 3 + 2, none⟩ = some (.slice E2 (dg s.den).length f2)) ∧ (w'.cell? ⟨g11, i * 3, none⟩ = some (.bool (decide (p.num < 0))) ∧ w'.cell? ⟨g11, i * 3 + 1, none⟩ = some (.slice C1 (dg p.num.natAbs).length c1) ∧ w'.cell? ⟨g11, i * 3 + 2, none⟩ = some (.slice C2 (dg p.den).length c2))) w13.drew := moreh_next (bl_drew w13) ⟨(⟨Below.refl _ _, FrV.q hfs hssh, FrV.q hfp hpsh⟩ : SelH w13 _ _ s p w13), HT13.out.cell 0, s0', u0', ⟨l0, l1, l2⟩, ⟨m0, m1, m2⟩⟩
      have HSS := Lib.hid hs
      have HMORE := Lib.hid hmore
      obtain ⟨cq, hcq⟩ : ∃ c, c = rcmp s p := ⟨_, rfl⟩
      have HCQ := Lib.hid hcq
      clear s0' u0' hsm hum hp hss hiM hpl hql hvl hvl2 m0 m1 m2 l0 l1 l2 hfp hfs hpsh hssh hmore hs hcq
      go_upto_region 13 with fail
      clear k0 k1 k2 o0 o1 o2 o3 o4 o5 v0 v1 v2 v3 v4 s0 s1 s2
      have hs := HSS.out
      by_cases hz : sm = 0
      · have g11' : ((sm : Int) == 0) = true := by rw [hz]; rfl
        clear hz
        have hS : (fun (w' : World) => SelH w13 (.agg #[.bool (decide (s.num < 0)), .slice E1 (dg s.num.natAbs).length f1, .slice E2 (dg s.den).length f2]) (.agg #[.bool (decide (p.num < 0)), .slice C1 (dg p.num.natAbs).length c1, .slice C2 (dg p.den).length c2]) s p w' ∧ w'.cell? ⟨w.heap.size + 1, 0, none⟩ = some (.int .i64 (i : Int)) ∧ w'.cell? ⟨g10, i, none⟩ = some (.int .i64 sm) ∧ w'.cell? ⟨g12, i, none⟩ = some (.int .i64 um) ∧ (w'.cell? ⟨g13, i * 3, none⟩ = some (.bool (decide (s.num < 0))) ∧ w'.cell? ⟨g13, i * 3 + 1, none⟩ = some (.slice E1 (dg s.num.natAbs).length f1) ∧ w'.cell? ⟨g13, i * 3 + 2, none⟩ = some (.slice E2 (dg s.den).length f2)) ∧ (w'.cell? ⟨g11, i * 3, none⟩ = some (.bool (decide (p.num < 0))) ∧ w'.cell? ⟨g11, i * 3 + 1, none⟩ = some (.slice C1 (dg p.num.natAbs).length c1) ∧ w'.cell? ⟨g11, i * 3 + 2, none⟩ = some (.slice C2 (dg p.den).length c2))) _ := hs
        refine wp_region_held_drew (S := fun (w' : World) => SelH w13 (.agg #[.bool (decide (s.num < 0)), .slice E1 (dg s.num.natAbs).length f1, .slice E2 (dg s.den).length f2]) (.agg #[.bool (decide (p.num < 0)), .slice C1 (dg p.num.natAbs).length c1, .slice C2 (dg p.den).length c2]) s p w' ∧ w'.cell? ⟨w.heap.size + 1, 0, none⟩ = some (.int .i64 (i : Int)) ∧ w'.cell? ⟨g10, i, none⟩ = some (.int .i64 sm) ∧ w'.cell? ⟨g12, i, none⟩ = some (.int .i64 um) ∧ (w'.cell? ⟨g13, i * 3, none⟩ = some (.bool (decide (s.num < 0))) ∧ w'.cell? ⟨g13, i * 3 + 1, none⟩ = some (.slice E1 (dg s.num.natAbs).length f1) ∧ w'.cell? ⟨g13, i * 3 + 2, none⟩ = some (.slice E2 (dg s.den).length f2)) ∧ (w'.cell? ⟨g11, i * 3, none⟩ = some (.bool (decide (p.num < 0))) ∧ w'.cell? ⟨g11, i * 3 + 1, none⟩ = some (.slice C1 (dg p.num.natAbs).length c1) ∧ w'.cell? ⟨g11, i * 3 + 2, none⟩ = some (.slice C2 (dg p.den).length c2))) (by kernel_rfl) hS (fun _ => ?_)
        simp only [List.size_toArray, List.length_cons, List.length_nil, Nat.reduceAdd]
        refine wpAnyH_takeD 0 (some 137) (v := ?vh1_0) rfl rfl (by kernel_rfl) (by kernel_rfl) (by kernel_rfl) (fun _ _ _ h => h) (.inl ⟨by kernel_rfl, ?hyh1_0⟩) hS ?resth1_0
        case hyh1_0 => (intro w hSw; (try dsimp only at hSw); go_simp; (try with_reducible rfl))
        (try simp only [Act.put, List.setIfInBounds_toArray, List.set_cons_zero, List.set_cons_succ])
        refine wpAnyH_takeD 1 (some 138) (v := ?vh1_1) rfl rfl (by kernel_rfl) (by kernel_rfl) (by kernel_rfl) (fun _ _ _ h => h) (.inl ⟨by kernel_rfl, ?hyh1_1⟩) hS ?resth1_1
        case hyh1_1 => (intro w hSw; (try dsimp only at hSw); go_simp; (try with_reducible rfl))
        (try simp only [Act.put, List.setIfInBounds_toArray, List.set_cons_zero, List.set_cons_succ])
        refine wpAnyH_takeD 2 (some 139) (v := ?vh1_2) rfl rfl (by kernel_rfl) (by kernel_rfl) (by kernel_rfl) (fun _ _ _ h => h) (.inl ⟨by kernel_rfl, ?hyh1_2⟩) hS ?resth1_2
        case hyh1_2 => (intro w hSw; (try dsimp only at hSw); go_simp; (try with_reducible rfl))
        (try simp only [Act.put, List.setIfInBounds_toArray, List.set_cons_zero, List.set_cons_succ])
        refine wpAnyH_takeD 3 (some 140) (v := ?vh1_3) rfl rfl (by kernel_rfl) (by kernel_rfl) (by kernel_rfl) (fun _ _ _ h => h) (.inl ⟨by kernel_rfl, ?hyh1_3⟩) hS ?resth1_3
        case hyh1_3 => (intro w hSw; (try dsimp only at hSw); go_simp; (try with_reducible rfl))
        (try simp only [Act.put, List.setIfInBounds_toArray, List.set_cons_zero, List.set_cons_succ])
        refine wpAnyH_takeD 4 (some 141) (v := ?vh1_4) rfl rfl (by kernel_rfl) (by kernel_rfl) (by kernel_rfl) (fun _ _ _ h => h) (.inl ⟨by kernel_rfl, ?hyh1_4⟩) hS ?resth1_4
        case hyh1_4 => (intro w hSw; (try dsimp only at hSw); go_simp; (try with_reducible rfl))
        (try simp only [Act.put, List.setIfInBounds_toArray, List.set_cons_zero, List.set_cons_succ])
        refine wpAnyH_takeD 5 (some 142) (v := ?vh1_5) rfl rfl (by kernel_rfl) (by kernel_rfl) (by kernel_rfl) (fun _ _ _ h => h) (.inl ⟨by kernel_rfl, ?hyh1_5⟩) hS ?resth1_5
        case hyh1_5 => (intro w hSw; (try dsimp only at hSw); go_simp; (try with_reducible rfl))
        (try simp only [Act.put, List.setIfInBounds_toArray, List.set_cons_zero, List.set_cons_succ])
        refine wpAnyH_takeD 6 (some 143) (v := ?vh1_6) rfl rfl (by kernel_rfl) (by kernel_rfl) (by kernel_rfl) (fun _ _ _ h => h) (.inl ⟨by kernel_rfl, ?hyh1_6⟩) hS ?resth1_6
        case hyh1_6 => (intro w hSw; (try dsimp only at hSw); go_simp; (try with_reducible rfl))
        (try simp only [Act.put, List.setIfInBounds_toArray, List.set_cons_zero, List.set_cons_succ])
        refine wpAnyH_takeD 7 (some 144) (v := undef) rfl rfl (by kernel_rfl) (by kernel_rfl) (by kernel_rfl) (fun _ _ _ h => h) (.inr ⟨by kernel_rfl, rfl⟩) hS ?_
        (try simp only [Act.put, List.setIfInBounds_toArray, List.set_cons_zero, List.set_cons_succ])
        refine wpAnyH_takeD 8 (some 145) (v := undef) rfl rfl (by kernel_rfl) (by kernel_rfl) (by kernel_rfl) (fun _ _ _ h => h) (.inr ⟨by kernel_rfl, rfl⟩) hS ?_
        (try simp only [Act.put, List.setIfInBounds_toArray, List.set_cons_zero, List.set_cons_succ])
        refine wpAnyH_takeD 9 (some 146) (v := undef) rfl rfl (by kernel_rfl) (by kernel_rfl) (by kernel_rfl) (fun _ _ _ h => h) (.inr ⟨by kernel_rfl, rfl⟩) hS ?_
        (try simp only [Act.put, List.setIfInBounds_toArray, List.set_cons_zero, List.set_cons_succ])
        refine wpAnyH_takeD 10 (some 147) (v := undef) rfl rfl (by kernel_rfl) (by kernel_rfl) (by kernel_rfl) (fun _ _ _ h => h) (.inr ⟨by kernel_rfl, rfl⟩) hS ?_
        (try simp only [Act.put, List.setIfInBounds_toArray, List.set_cons_zero, List.set_cons_succ])
        refine wpAnyH_takeD 11 (some 148) (v := undef) rfl rfl (by kernel_rfl) (by kernel_rfl) (by kernel_rfl) (fun _ _ _ h => h) (.inr ⟨by kernel_rfl, rfl⟩) hS ?_
        (try simp only [Act.put, List.setIfInBounds_toArray, List.set_cons_zero, List.set_cons_succ])
        refine wpAnyH_takeD 12 (some 149) (v := undef) rfl rfl (by kernel_rfl) (by kernel_rfl) (by kernel_rfl) (fun _ _ _ h => h) (.inr ⟨by kernel_rfl, rfl⟩) hS ?_
        (try simp only [Act.put, List.setIfInBounds_toArray, List.set_cons_zero, List.set_cons_succ])
        refine wpAnyH_takeD 13 (some 150) (v := undef) rfl rfl (by kernel_rfl) (by kernel_rfl) (by kernel_rfl) (fun _ _ _ h => h) (.inr ⟨by kernel_rfl, rfl⟩) hS ?_
        (try simp only [Act.put, List.setIfInBounds_toArray, List.set_cons_zero, List.set_cons_succ])
        refine wpAnyH_takeD 14 (some 151) (v := undef) rfl rfl (by kernel_rfl) (by kernel_rfl) (by kernel_rfl) (fun _ _ _ h => h) (.inr ⟨by kernel_rfl, rfl⟩) hS ?_
        (try simp only [Act.put, List.setIfInBounds_toArray, List.set_cons_zero, List.set_cons_succ])
        refine wpAnyH_takeD 15 (some 152) (v := undef) rfl rfl (by kernel_rfl) (by kernel_rfl) (by kernel_rfl) (fun _ _ _ h => h) (.inr ⟨by kernel_rfl, rfl⟩) hS ?_
        (try simp only [Act.put, List.setIfInBounds_toArray, List.set_cons_zero, List.set_cons_succ])
        refine wpAnyH_takeD 16 (some 153) (v := undef) rfl rfl (by kernel_rfl) (by kernel_rfl) (by kernel_rfl) (fun _ _ _ h => h) (.inr ⟨by kernel_rfl, rfl⟩) hS ?_
        (try simp only [Act.put, List.setIfInBounds_toArray, List.set_cons_zero, List.set_cons_succ])
        refine wpAnyH_takeD 17 (some 154) (v := undef) rfl rfl (by kernel_rfl) (by kernel_rfl) (by kernel_rfl) (fun _ _ _ h => h) (.inr ⟨by kernel_rfl, rfl⟩) hS ?_
        (try simp only [Act.put, List.setIfInBounds_toArray, List.set_cons_zero, List.set_cons_succ])
        refine wpAnyH_takeD 18 (some 155) (v := undef) rfl rfl (by kernel_rfl) (by kernel_rfl) (by kernel_rfl) (fun _ _ _ h => h) (.inr ⟨by kernel_rfl, rfl⟩) hS ?_
        (try simp only [Act.put, List.setIfInBounds_toArray, List.set_cons_zero, List.set_cons_succ])
        refine wpAnyH_takeD 19 (some 156) (v := undef) rfl rfl (by kernel_rfl) (by kernel_rfl) (by kernel_rfl) (fun _ _ _ h => h) (.inr ⟨by kernel_rfl, rfl⟩) hS ?_
        (try simp only [Act.put, List.setIfInBounds_toArray, List.set_cons_zero, List.set_cons_succ])
        refine wpAnyH_takeD 20 (some 157) (v := undef) rfl rfl (by kernel_rfl) (by kernel_rfl) (by kernel_rfl) (fun _ _ _ h => h) (.inr ⟨by kernel_rfl, rfl⟩) hS ?_
        (try simp only [Act.put, List.setIfInBounds_toArray, List.set_cons_zero, List.set_cons_succ])
        refine wpAnyH_takeD 21 (some 158) (v := undef) rfl rfl (by kernel_rfl) (by kernel_rfl) (by kernel_rfl) (fun _ _ _ h => h) (.inr ⟨by kernel_rfl, rfl⟩) hS ?_
        (try simp only [Act.put, List.setIfInBounds_toArray, List.set_cons_zero, List.set_cons_succ])
        refine wpAnyH_takeD 22 (some 159) (v := undef) rfl rfl (by kernel_rfl) (by kernel_rfl) (by kernel_rfl) (fun _ _ _ h => h) (.inr ⟨by kernel_rfl, rfl⟩) hS ?_
        (try simp only [Act.put, List.setIfInBounds_toArray, List.set_cons_zero, List.set_cons_succ])
        refine wpAnyH_takeD 23 (some 160) (v := undef) rfl rfl (by kernel_rfl) (by kernel_rfl) (by kernel_rfl) (fun _ _ _ h => h) (.inr ⟨by kernel_rfl, rfl⟩) hS ?_
        (try simp only [Act.put, List.setIfInBounds_toArray, List.set_cons_zero, List.set_cons_succ])
        refine wpAnyH_ready (rs := [24]) (by kernel_rfl) (by simp) ?_
        refine AllReadyH.cons (o := { dst := some 161, op := Op.call { callee := Callee.value (Operand.func 23), args := #[Operand.tmp 155, Operand.tmp 160], argTypes := #[38, 38] }, type := 3, pos := "law.go:123", after := #[{ on := 18, ground := Ground.data }, { on := 23, ground := Ground.data }, { on := 13, ground := Ground.chain }, { on := 13, ground := Ground.guard }], guard := some (13, true) }) ?hoh1_24 ?hth1_24 ?hnh1_24
        case hoh1_24 => rfl
        case hnh1_24 => exact AllReadyH.nil
        intro K hK
        refine iteN (by kernel_rfl) ?_
        refine hK.out _ _ hS (fun _ => ?_)
        clear hK K
        (try simp only [Act.put, List.setIfInBounds_toArray, List.set_cons_zero, List.set_cons_succ])
        refine wpAnyH_takeD 25 (some 162) (v := undef) rfl rfl (by kernel_rfl) (by kernel_rfl) (by kernel_rfl) (fun _ _ _ h => h) (.inr ⟨by kernel_rfl, rfl⟩) hS ?_
        (try simp only [Act.put, List.setIfInBounds_toArray, List.set_cons_zero, List.set_cons_succ])
        refine wpAnyH_takeD 26 (some 163) (v := undef) rfl rfl (by kernel_rfl) (by kernel_rfl) (by kernel_rfl) (fun _ _ _ h => h) (.inr ⟨by kernel_rfl, rfl⟩) hS ?_
        (try simp only [Act.put, List.setIfInBounds_toArray, List.set_cons_zero, List.set_cons_succ])
        refine wpAnyH_takeD 27 (some 164) (v := ?vh1_27) rfl rfl (by kernel_rfl) (by kernel_rfl) (by kernel_rfl) (fun _ _ _ h => h) (.inl ⟨by kernel_rfl, ?hyh1_27⟩) hS ?resth1_27
        case hyh1_27 => (intro w hSw; (try dsimp only at hSw); go_simp; (try with_reducible rfl))
        (try simp only [Act.put, List.setIfInBounds_toArray, List.set_cons_zero, List.set_cons_succ])
        refine wpAnyH_takeD 28 (some 165) (v := ?vh1_28) rfl rfl (by kernel_rfl) (by kernel_rfl) (by kernel_rfl) (fun _ _ _ h => h) (.inl ⟨by kernel_rfl, ?hyh1_28⟩) hS ?resth1_28
        case hyh1_28 => (intro w hSw; (try dsimp only at hSw); go_simp; (try with_reducible rfl))
        (try simp only [Act.put, List.setIfInBounds_toArray, List.set_cons_zero, List.set_cons_succ])
        refine wpAnyH_ready (rs := [29]) (by kernel_rfl) (by simp) ?_
        refine AllReadyH.cons (o := { dst := some 166, op := Op.call { callee := Callee.value (Operand.func 24), args := #[], argTypes := #[] }, type := 4, pos := "law.go:123", after := #[{ on := 28, ground := Ground.chain }, { on := 28, ground := Ground.guard }], guard := some (28, true) }) ?hoh1_29 ?hth1_29 ?hnh1_29
        case hoh1_29 => rfl
        case hnh1_29 => exact AllReadyH.nil
        intro K hK
        refine iteP (by kernel_rfl) ?_
        go_simp
        go_at_call 24
        with_reducible refine (tfixed_calls _).mono ?_
        rintro e w8 ⟨rfl, hb8⟩
        have hS8 := moreh_next hb8 hS
        refine hK.out _ _ hS8 (fun _ => ?_)
        clear hS K hK
        have hS := hS8
        clear hS8
        (try simp only [Act.put, List.setIfInBounds_toArray, List.set_cons_zero, List.set_cons_succ])
        refine wpAnyH_takeD 30 (some 167) (v := ?vh1_30) rfl rfl (by kernel_rfl) (by kernel_rfl) (by kernel_rfl) (fun _ _ _ h => h) (.inl ⟨by kernel_rfl, ?hyh1_30⟩) hS ?resth1_30
        case hyh1_30 => (intro w hSw; (try dsimp only at hSw); go_simp; (try with_reducible rfl))
        (try simp only [Act.put, List.setIfInBounds_toArray, List.set_cons_zero, List.set_cons_succ])
        refine wpAnyH_takeD 31 (some 4) (v := ?vh1_31) rfl rfl (by kernel_rfl) (by kernel_rfl) (by kernel_rfl) (fun _ _ _ h => h) (.inl ⟨by kernel_rfl, ?hyh1_31⟩) hS ?resth1_31
        case hyh1_31 => (intro w hSw; (try dsimp only at hSw); go_simp; (try with_reducible rfl))
        (try simp only [Act.put, List.setIfInBounds_toArray, List.set_cons_zero, List.set_cons_succ])
        refine wpAnyH_done (by kernel_rfl) ?_ _
        go_wp2
        go_ret
        exact ⟨rfl, bl_trans HB13.out hS.1.1⟩
      · have g11' : ((sm : Int) == 0) = false := beq_eq_false_iff_ne.2 hz
        obtain ⟨hu, hle⟩ := HMORE.out hz
        have g12' : ((um : Int) != 0) = true := bne_iff_ne.2 hu
        have g13' : decide (cq ≤ 0) = true := decide_eq_true (by rw [HCQ.out]; unfold rcmp; grind)
        clear hz hu hle
        have hS : (fun (w' : World) => SelH w13 (.agg #[.bool (decide (s.num < 0)), .slice E1 (dg s.num.natAbs).length f1, .slice E2 (dg s.den).length f2]) (.agg #[.bool (decide (p.num < 0)), .slice C1 (dg p.num.natAbs).length c1, .slice C2 (dg p.den).length c2]) s p w' ∧ w'.cell? ⟨w.heap.size + 1, 0, none⟩ = some (.int .i64 (i : Int)) ∧ w'.cell? ⟨g10, i, none⟩ = some (.int .i64 sm) ∧ w'.cell? ⟨g12, i, none⟩ = some (.int .i64 um) ∧ (w'.cell? ⟨g13, i * 3, none⟩ = some (.bool (decide (s.num < 0))) ∧ w'.cell? ⟨g13, i * 3 + 1, none⟩ = some (.slice E1 (dg s.num.natAbs).length f1) ∧ w'.cell? ⟨g13, i * 3 + 2, none⟩ = some (.slice E2 (dg s.den).length f2)) ∧ (w'.cell? ⟨g11, i * 3, none⟩ = some (.bool (decide (p.num < 0))) ∧ w'.cell? ⟨g11, i * 3 + 1, none⟩ = some (.slice C1 (dg p.num.natAbs).length c1) ∧ w'.cell? ⟨g11, i * 3 + 2, none⟩ = some (.slice C2 (dg p.den).length c2))) _ := hs
        refine wp_region_held_drew (S := fun (w' : World) => SelH w13 (.agg #[.bool (decide (s.num < 0)), .slice E1 (dg s.num.natAbs).length f1, .slice E2 (dg s.den).length f2]) (.agg #[.bool (decide (p.num < 0)), .slice C1 (dg p.num.natAbs).length c1, .slice C2 (dg p.den).length c2]) s p w' ∧ w'.cell? ⟨w.heap.size + 1, 0, none⟩ = some (.int .i64 (i : Int)) ∧ w'.cell? ⟨g10, i, none⟩ = some (.int .i64 sm) ∧ w'.cell? ⟨g12, i, none⟩ = some (.int .i64 um) ∧ (w'.cell? ⟨g13, i * 3, none⟩ = some (.bool (decide (s.num < 0))) ∧ w'.cell? ⟨g13, i * 3 + 1, none⟩ = some (.slice E1 (dg s.num.natAbs).length f1) ∧ w'.cell? ⟨g13, i * 3 + 2, none⟩ = some (.slice E2 (dg s.den).length f2)) ∧ (w'.cell? ⟨g11, i * 3, none⟩ = some (.bool (decide (p.num < 0))) ∧ w'.cell? ⟨g11, i * 3 + 1, none⟩ = some (.slice C1 (dg p.num.natAbs).length c1) ∧ w'.cell? ⟨g11, i * 3 + 2, none⟩ = some (.slice C2 (dg p.den).length c2))) (by kernel_rfl) hS (fun _ => ?_)
        simp only [List.size_toArray, List.length_cons, List.length_nil, Nat.reduceAdd]
        refine wpAnyH_takeD 0 (some 137) (v := ?vh2_0) rfl rfl (by kernel_rfl) (by kernel_rfl) (by kernel_rfl) (fun _ _ _ h => h) (.inl ⟨by kernel_rfl, ?hyh2_0⟩) hS ?resth2_0
        case hyh2_0 => (intro w hSw; (try dsimp only at hSw); go_simp; (try with_reducible rfl))
        (try simp only [Act.put, List.setIfInBounds_toArray, List.set_cons_zero, List.set_cons_succ])
        refine wpAnyH_takeD 1 (some 138) (v := ?vh2_1) rfl rfl (by kernel_rfl) (by kernel_rfl) (by kernel_rfl) (fun _ _ _ h => h) (.inl ⟨by kernel_rfl, ?hyh2_1⟩) hS ?resth2_1
        case hyh2_1 => (intro w hSw; (try dsimp only at hSw); go_simp; (try with_reducible rfl))
        (try simp only [Act.put, List.setIfInBounds_toArray, List.set_cons_zero, List.set_cons_succ])
        refine wpAnyH_takeD 2 (some 139) (v := ?vh2_2) rfl rfl (by kernel_rfl) (by kernel_rfl) (by kernel_rfl) (fun _ _ _ h => h) (.inl ⟨by kernel_rfl, ?hyh2_2⟩) hS ?resth2_2
        case hyh2_2 => (intro w hSw; (try dsimp only at hSw); go_simp; (try with_reducible rfl))
        (try simp only [Act.put, List.setIfInBounds_toArray, List.set_cons_zero, List.set_cons_succ])
        refine wpAnyH_takeD 3 (some 140) (v := ?vh2_3) rfl rfl (by kernel_rfl) (by kernel_rfl) (by kernel_rfl) (fun _ _ _ h => h) (.inl ⟨by kernel_rfl, ?hyh2_3⟩) hS ?resth2_3
        case hyh2_3 => (intro w hSw; (try dsimp only at hSw); go_simp; (try with_reducible rfl))
        (try simp only [Act.put, List.setIfInBounds_toArray, List.set_cons_zero, List.set_cons_succ])
        refine wpAnyH_takeD 4 (some 141) (v := ?vh2_4) rfl rfl (by kernel_rfl) (by kernel_rfl) (by kernel_rfl) (fun _ _ _ h => h) (.inl ⟨by kernel_rfl, ?hyh2_4⟩) hS ?resth2_4
        case hyh2_4 => (intro w hSw; (try dsimp only at hSw); go_simp; (try with_reducible rfl))
        (try simp only [Act.put, List.setIfInBounds_toArray, List.set_cons_zero, List.set_cons_succ])
        refine wpAnyH_takeD 5 (some 142) (v := ?vh2_5) rfl rfl (by kernel_rfl) (by kernel_rfl) (by kernel_rfl) (fun _ _ _ h => h) (.inl ⟨by kernel_rfl, ?hyh2_5⟩) hS ?resth2_5
        case hyh2_5 => (intro w hSw; (try dsimp only at hSw); go_simp; (try with_reducible rfl))
        (try simp only [Act.put, List.setIfInBounds_toArray, List.set_cons_zero, List.set_cons_succ])
        refine wpAnyH_takeD 6 (some 143) (v := ?vh2_6) rfl rfl (by kernel_rfl) (by kernel_rfl) (by kernel_rfl) (fun _ _ _ h => h) (.inl ⟨by kernel_rfl, ?hyh2_6⟩) hS ?resth2_6
        case hyh2_6 => (intro w hSw; (try dsimp only at hSw); go_simp; (try with_reducible rfl))
        (try simp only [Act.put, List.setIfInBounds_toArray, List.set_cons_zero, List.set_cons_succ])
        refine wpAnyH_takeD 7 (some 144) (v := ?vh2_7) rfl rfl (by kernel_rfl) (by kernel_rfl) (by kernel_rfl) (fun _ _ _ h => h) (.inl ⟨by kernel_rfl, ?hyh2_7⟩) hS ?resth2_7
        case hyh2_7 => (intro w hSw; (try dsimp only at hSw); go_simp; (try with_reducible rfl))
        (try simp only [Act.put, List.setIfInBounds_toArray, List.set_cons_zero, List.set_cons_succ])
        refine wpAnyH_takeD 8 (some 145) (v := ?vh2_8) rfl rfl (by kernel_rfl) (by kernel_rfl) (by kernel_rfl) (fun _ _ _ h => h) (.inl ⟨by kernel_rfl, ?hyh2_8⟩) hS ?resth2_8
        case hyh2_8 => (intro w hSw; (try dsimp only at hSw); go_simp; (try with_reducible rfl))
        (try simp only [Act.put, List.setIfInBounds_toArray, List.set_cons_zero, List.set_cons_succ])
        refine wpAnyH_takeD 9 (some 146) (v := ?vh2_9) rfl rfl (by kernel_rfl) (by kernel_rfl) (by kernel_rfl) (fun _ _ _ h => h) (.inl ⟨by kernel_rfl, ?hyh2_9⟩) hS ?resth2_9
        case hyh2_9 => (intro w hSw; (try dsimp only at hSw); go_simp; (try with_reducible rfl))
        (try simp only [Act.put, List.setIfInBounds_toArray, List.set_cons_zero, List.set_cons_succ])
        refine wpAnyH_takeD 10 (some 147) (v := ?vh2_10) rfl rfl (by kernel_rfl) (by kernel_rfl) (by kernel_rfl) (fun _ _ _ h => h) (.inl ⟨by kernel_rfl, ?hyh2_10⟩) hS ?resth2_10
        case hyh2_10 => (intro w hSw; (try dsimp only at hSw); go_simp; (try with_reducible rfl))
        (try simp only [Act.put, List.setIfInBounds_toArray, List.set_cons_zero, List.set_cons_succ])
        refine wpAnyH_takeD 11 (some 148) (v := ?vh2_11) rfl rfl (by kernel_rfl) (by kernel_rfl) (by kernel_rfl) (fun _ _ _ h => h) (.inl ⟨by kernel_rfl, ?hyh2_11⟩) hS ?resth2_11
        case hyh2_11 => (intro w hSw; (try dsimp only at hSw); go_simp; (try with_reducible rfl))
        (try simp only [Act.put, List.setIfInBounds_toArray, List.set_cons_zero, List.set_cons_succ])
        refine wpAnyH_takeD 12 (some 149) (v := ?vh2_12) rfl rfl (by kernel_rfl) (by kernel_rfl) (by kernel_rfl) (fun _ _ _ h => h) (.inl ⟨by kernel_rfl, ?hyh2_12⟩) hS ?resth2_12
        case hyh2_12 => (intro w hSw; (try dsimp only at hSw); go_simp; (try with_reducible rfl))
        (try simp only [Act.put, List.setIfInBounds_toArray, List.set_cons_zero, List.set_cons_succ])
        refine wpAnyH_takeD 13 (some 150) (v := ?vh2_13) rfl rfl (by kernel_rfl) (by kernel_rfl) (by kernel_rfl) (fun _ _ _ h => h) (.inl ⟨by kernel_rfl, ?hyh2_13⟩) hS ?resth2_13
        case hyh2_13 => (intro w hSw; (try dsimp only at hSw); go_simp; (try with_reducible rfl))
        (try simp only [Act.put, List.setIfInBounds_toArray, List.set_cons_zero, List.set_cons_succ])
        refine wpAnyH_takeD 14 (some 151) (v := ?vh2_14) rfl rfl (by kernel_rfl) (by kernel_rfl) (by kernel_rfl) (fun _ _ _ h => h) (.inl ⟨by kernel_rfl, ?hyh2_14⟩) hS ?resth2_14
        case hyh2_14 => (intro w hSw; (try dsimp only at hSw); go_simp; (try with_reducible rfl))
        (try simp only [Act.put, List.setIfInBounds_toArray, List.set_cons_zero, List.set_cons_succ])
        refine wpAnyH_takeD 15 (some 152) (v := ?vh2_15) rfl rfl (by kernel_rfl) (by kernel_rfl) (by kernel_rfl) (fun _ _ _ h => h) (.inl ⟨by kernel_rfl, ?hyh2_15⟩) hS ?resth2_15
        case hyh2_15 => (intro w hSw; (try dsimp only at hSw); go_simp; (try with_reducible rfl))
        (try simp only [Act.put, List.setIfInBounds_toArray, List.set_cons_zero, List.set_cons_succ])
        refine wpAnyH_takeD 16 (some 153) (v := ?vh2_16) rfl rfl (by kernel_rfl) (by kernel_rfl) (by kernel_rfl) (fun _ _ _ h => h) (.inl ⟨by kernel_rfl, ?hyh2_16⟩) hS ?resth2_16
        case hyh2_16 => (intro w hSw; (try dsimp only at hSw); go_simp; (try with_reducible rfl))
        (try simp only [Act.put, List.setIfInBounds_toArray, List.set_cons_zero, List.set_cons_succ])
        refine wpAnyH_takeD 17 (some 154) (v := ?vh2_17) rfl rfl (by kernel_rfl) (by kernel_rfl) (by kernel_rfl) (fun _ _ _ h => h) (.inl ⟨by kernel_rfl, ?hyh2_17⟩) hS ?resth2_17
        case hyh2_17 => (intro w hSw; (try dsimp only at hSw); go_simp; (try with_reducible rfl))
        (try simp only [Act.put, List.setIfInBounds_toArray, List.set_cons_zero, List.set_cons_succ])
        refine wpAnyH_takeD 18 (some 155) (v := ?vh2_18) rfl rfl (by kernel_rfl) (by kernel_rfl) (by kernel_rfl) (fun _ _ _ h => h) (.inl ⟨by kernel_rfl, ?hyh2_18⟩) hS ?resth2_18
        case hyh2_18 => (intro w hSw; (try dsimp only at hSw); go_simp; (try with_reducible rfl))
        (try simp only [Act.put, List.setIfInBounds_toArray, List.set_cons_zero, List.set_cons_succ])
        refine wpAnyH_takeD 19 (some 156) (v := ?vh2_19) rfl rfl (by kernel_rfl) (by kernel_rfl) (by kernel_rfl) (fun _ _ _ h => h) (.inl ⟨by kernel_rfl, ?hyh2_19⟩) hS ?resth2_19
        case hyh2_19 => (intro w hSw; (try dsimp only at hSw); go_simp; (try with_reducible rfl))
        (try simp only [Act.put, List.setIfInBounds_toArray, List.set_cons_zero, List.set_cons_succ])
        refine wpAnyH_takeD 20 (some 157) (v := ?vh2_20) rfl rfl (by kernel_rfl) (by kernel_rfl) (by kernel_rfl) (fun _ _ _ h => h) (.inl ⟨by kernel_rfl, ?hyh2_20⟩) hS ?resth2_20
        case hyh2_20 => (intro w hSw; (try dsimp only at hSw); go_simp; (try with_reducible rfl))
        (try simp only [Act.put, List.setIfInBounds_toArray, List.set_cons_zero, List.set_cons_succ])
        refine wpAnyH_takeD 21 (some 158) (v := ?vh2_21) rfl rfl (by kernel_rfl) (by kernel_rfl) (by kernel_rfl) (fun _ _ _ h => h) (.inl ⟨by kernel_rfl, ?hyh2_21⟩) hS ?resth2_21
        case hyh2_21 => (intro w hSw; (try dsimp only at hSw); go_simp; (try with_reducible rfl))
        (try simp only [Act.put, List.setIfInBounds_toArray, List.set_cons_zero, List.set_cons_succ])
        refine wpAnyH_takeD 22 (some 159) (v := ?vh2_22) rfl rfl (by kernel_rfl) (by kernel_rfl) (by kernel_rfl) (fun _ _ _ h => h) (.inl ⟨by kernel_rfl, ?hyh2_22⟩) hS ?resth2_22
        case hyh2_22 => (intro w hSw; (try dsimp only at hSw); go_simp; (try with_reducible rfl))
        (try simp only [Act.put, List.setIfInBounds_toArray, List.set_cons_zero, List.set_cons_succ])
        refine wpAnyH_takeD 23 (some 160) (v := ?vh2_23) rfl rfl (by kernel_rfl) (by kernel_rfl) (by kernel_rfl) (fun _ _ _ h => h) (.inl ⟨by kernel_rfl, ?hyh2_23⟩) hS ?resth2_23
        case hyh2_23 => (intro w hSw; (try dsimp only at hSw); go_simp; (try with_reducible rfl))
        (try simp only [Act.put, List.setIfInBounds_toArray, List.set_cons_zero, List.set_cons_succ])
        refine wpAnyH_ready (rs := [24]) (by kernel_rfl) (by simp) ?_
        refine AllReadyH.cons (o := { dst := some 161, op := Op.call { callee := Callee.value (Operand.func 23), args := #[Operand.tmp 155, Operand.tmp 160], argTypes := #[38, 38] }, type := 3, pos := "law.go:123", after := #[{ on := 18, ground := Ground.data }, { on := 23, ground := Ground.data }, { on := 13, ground := Ground.chain }, { on := 13, ground := Ground.guard }], guard := some (13, true) }) ?hoh2_24 ?hth2_24 ?hnh2_24
        case hoh2_24 => rfl
        case hnh2_24 => exact AllReadyH.nil
        intro K hK
        refine iteP (by kernel_rfl) ?_
        go_simp
        go_at_call 23
        with_reducible refine (rcmpq _ _ _ s p ?_ ?_).mono ?_
        exact SelH.a hS.1
        exact SelH.b hS.1
        rintro e w8 ⟨rfl, hb8⟩
        rw [← HCQ.out]
        have hS8 := moreh_next hb8 hS
        refine hK.out _ _ hS8 (fun _ => ?_)
        clear hS K hK
        have hS := hS8
        clear hS8
        (try simp only [Act.put, List.setIfInBounds_toArray, List.set_cons_zero, List.set_cons_succ])
        refine wpAnyH_takeD 25 (some 162) (v := ?vh2_25) rfl rfl (by kernel_rfl) (by kernel_rfl) (by kernel_rfl) (fun _ _ _ h => h) (.inl ⟨by kernel_rfl, ?hyh2_25⟩) hS ?resth2_25
        case hyh2_25 => (intro w hSw; (try dsimp only at hSw); go_simp; (try with_reducible rfl))
        (try simp only [Act.put, List.setIfInBounds_toArray, List.set_cons_zero, List.set_cons_succ])
        refine wpAnyH_takeD 26 (some 163) (v := ?vh2_26) rfl rfl (by kernel_rfl) (by kernel_rfl) (by kernel_rfl) (fun _ _ _ h => h) (.inl ⟨by kernel_rfl, ?hyh2_26⟩) hS ?resth2_26
        case hyh2_26 => (intro w hSw; (try dsimp only at hSw); go_simp; (try with_reducible rfl))
        (try simp only [Act.put, List.setIfInBounds_toArray, List.set_cons_zero, List.set_cons_succ])
        refine wpAnyH_takeD 27 (some 164) (v := ?vh2_27) rfl rfl (by kernel_rfl) (by kernel_rfl) (by kernel_rfl) (fun _ _ _ h => h) (.inl ⟨by kernel_rfl, ?hyh2_27⟩) hS ?resth2_27
        case hyh2_27 => (intro w hSw; (try dsimp only at hSw); go_simp; (try with_reducible rfl))
        (try simp only [Act.put, List.setIfInBounds_toArray, List.set_cons_zero, List.set_cons_succ])
        refine wpAnyH_takeD 28 (some 165) (v := ?vh2_28) rfl rfl (by kernel_rfl) (by kernel_rfl) (by kernel_rfl) (fun _ _ _ h => h) (.inl ⟨by kernel_rfl, ?hyh2_28⟩) hS ?resth2_28
        case hyh2_28 => (intro w hSw; (try dsimp only at hSw); go_simp; (try with_reducible rfl))
        (try simp only [Act.put, List.setIfInBounds_toArray, List.set_cons_zero, List.set_cons_succ])
        refine wpAnyH_ready (rs := [29]) (by kernel_rfl) (by simp) ?_
        refine AllReadyH.cons (o := { dst := some 166, op := Op.call { callee := Callee.value (Operand.func 24), args := #[], argTypes := #[] }, type := 4, pos := "law.go:123", after := #[{ on := 28, ground := Ground.chain }, { on := 28, ground := Ground.guard }], guard := some (28, true) }) ?hoh2_29 ?hth2_29 ?hnh2_29
        case hoh2_29 => rfl
        case hnh2_29 => exact AllReadyH.nil
        intro K hK
        refine iteP (by kernel_rfl) ?_
        go_simp
        go_at_call 24
        with_reducible refine (tfixed_calls _).mono ?_
        rintro e w8 ⟨rfl, hb8⟩
        have hS8 := moreh_next hb8 hS
        refine hK.out _ _ hS8 (fun _ => ?_)
        clear hS K hK
        have hS := hS8
        clear hS8
        (try simp only [Act.put, List.setIfInBounds_toArray, List.set_cons_zero, List.set_cons_succ])
        refine wpAnyH_takeD 30 (some 167) (v := ?vh2_30) rfl rfl (by kernel_rfl) (by kernel_rfl) (by kernel_rfl) (fun _ _ _ h => h) (.inl ⟨by kernel_rfl, ?hyh2_30⟩) hS ?resth2_30
        case hyh2_30 => (intro w hSw; (try dsimp only at hSw); go_simp; (try with_reducible rfl))
        (try simp only [Act.put, List.setIfInBounds_toArray, List.set_cons_zero, List.set_cons_succ])
        refine wpAnyH_takeD 31 (some 4) (v := ?vh2_31) rfl rfl (by kernel_rfl) (by kernel_rfl) (by kernel_rfl) (fun _ _ _ h => h) (.inl ⟨by kernel_rfl, ?hyh2_31⟩) hS ?resth2_31
        case hyh2_31 => (intro w hSw; (try dsimp only at hSw); go_simp; (try with_reducible rfl))
        (try simp only [Act.put, List.setIfInBounds_toArray, List.set_cons_zero, List.set_cons_succ])
        refine wpAnyH_done (by kernel_rfl) ?_ _
        go_wp2
        go_ret
        exact ⟨rfl, bl_trans HB13.out hS.1.1⟩
    · have g9 : ((rs : Int) != 0) = true := bne_iff_ne.2 hs0
      clear hs0
      go_wp2_with fail
      refine (HFIN.out _ HB9.out).mono ?_
      rintro e w10 ⟨rfl, hb10⟩
      have HB10 := Lib.hid hb10
      clear hb10
      go_wp2
      go_ret
      exact ⟨rfl, HB10.out⟩
  · have g9 : ((r : Int) != 0) = true := bne_iff_ne.2 hr0
    clear hr0
    go_wp2_with fail
    refine (HFIN.out _ HB8.out).mono ?_
    rintro e w9 ⟨rfl, hb9⟩
    have HB9 := Lib.hid hb9
    clear hb9
    go_wp2
    go_ret
    exact ⟨rfl, HB9.out⟩
end Go.Proofs.Ytajckdheecgceaa
