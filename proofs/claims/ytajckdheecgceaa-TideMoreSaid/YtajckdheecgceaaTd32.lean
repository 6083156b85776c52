/- TideTrue: the law's walk. -/
import Derived.Test.YtajckdheecgceaaTd28
set_option linter.unusedVariables false
set_option linter.unusedSimpArgs false
namespace Go.Proofs.Ytajckdheecgceaa
open Go.RowKit

set_option maxRecDepth 100000 in
set_option maxHeartbeats 16000000 in
theorem law_true (w : World) (days each : Int) (va : Value) (L : List VD) (h : VL w va L) (hf : FewV 4611686018427387903 L) (ag : Int) (dv : VD) (V1 V2 : Option Addr) (n1 n2 : Nat) (hdv : FrIn w (.agg #[.bool dv.2.2.1, .slice V1 dv.2.2.2.1.length n1, .slice V2 dv.2.2.2.2.length n2]) dv.2.2.1 dv.2.2.2.1 dv.2.2.2.2) (hd1 : dv.2.2.2.1.length ≤ 4611686018427387903) (hd2 : dv.2.2.2.2.length ≤ 4611686018427387903) :
    Calls Try.prog 6 #[.agg #[.int .i64 days, .int .i64 each, va], .agg #[.int .i64 ag, .int .i64 dv.1, .int .i64 dv.2.1, .bool dv.2.2.1, .slice V1 dv.2.2.2.1.length n1, .slice V2 dv.2.2.2.2.length n2]] w fun e w' => e = .returned (.bool true) ∧ Below w.heap.size w w' := by
  obtain ⟨A, c, rfl⟩ := h.shape
  have HV := Lib.hid h
  have hcc := h.bounds
  have HFF := Lib.hid hf
  have HWD := Lib.hid h.wd
  have HDV := Lib.hid hdv
  obtain ⟨wa, hwa⟩ : ∃ W, W = w.alloc (.cells #[.int .i64 days, .int .i64 each, .slice A L.length c] 24) := ⟨_, rfl⟩
  obtain ⟨wb, hwb⟩ : ∃ W, W = wa.alloc (.cells #[.int .i64 ag, .int .i64 dv.1, .int .i64 dv.2.1, .bool dv.2.2.1, .slice V1 dv.2.2.2.1.length n1, .slice V2 dv.2.2.2.2.length n2] 45) := ⟨_, rfl⟩
  have sa : wa.heap.size = w.heap.size + 1 := by rw [hwa]; simp
  have ba : Below w.heap.size w wa := by rw [hwa]; exact below_alloc0 _ _
  have bb : Below wa.heap.size wa wb := by rw [hwb]; exact below_alloc0 _ _
  have KA : Blk wa w.heap.size 24 #[.int .i64 days, .int .i64 each, .slice A L.length c] := by rw [hwa]; exact Blk.new _ _ _
  have KB : Blk wb (w.heap.size + 1) 45 #[.int .i64 ag, .int .i64 dv.1, .int .i64 dv.2.1, .bool dv.2.2.1, .slice V1 dv.2.2.2.1.length n1, .slice V2 dv.2.2.2.2.length n2] := by rw [hwb, ← sa]; exact Blk.new _ _ _
  have HB0 := Lib.hid (bl_trans ba bb)
  have HK0 := Lib.hid (KA.below bb)
  have HT0 := Lib.hid KB
  have HWB := Lib.hid (show (w.alloc (.cells #[.int .i64 days, .int .i64 each, .slice A L.length c] 24)).alloc (.cells #[.int .i64 ag, .int .i64 dv.1, .int .i64 dv.2.1, .bool dv.2.2.1, .slice V1 dv.2.2.2.1.length n1, .slice V2 dv.2.2.2.2.length n2] 45) = wb by rw [hwb, hwa])
  have k0 := HK0.out.cell 0
  have k1 := HK0.out.cell 1
  have k2 := HK0.out.cell 2
  clear h hf hdv hwa hwb sa ba bb KA KB
  go_enter Try.func6, Try.ntmps6
  go_upto_region 1 with fail
  rw [HWB.out]
  go_wp2_with fail
  refine (beyond_calls _ days each A c L (HV.out.below HB0.out) HFF.out).mono ?_
  rintro e w1 ⟨b, rfl, hbey, hb1⟩
  have HB1 := Lib.hid (bl_trans HB0.out hb1)
  have HK1 := Lib.hid (HK0.out.below hb1)
  have HT1 := Lib.hid (HT0.out.below hb1)
  cases b
  case true =>
    clear hb1 hbey
    go_wp2
    go_ret
    exact ⟨rfl, HB1.out⟩
  obtain ⟨hL20, hF⟩ := hbey rfl
  have HF := Lib.hid hF
  clear hb1 hbey hF k0 k1 k2
  have k0 := HK1.out.cell 0
  have k1 := HK1.out.cell 1
  have k2 := HK1.out.cell 2
  have o0 := HT1.out.cell 0
  have o1 := HT1.out.cell 1
  have o2 := HT1.out.cell 2
  have o3 := HT1.out.cell 3
  have o4 := HT1.out.cell 4
  have o5 := HT1.out.cell 5
  go_wp2_with fail
  refine (big_calls _ _ V1 V2 _ n1 _ n2 hd1 hd2).mono ?_
  rintro e w2 ⟨rfl, hb2⟩
  have HB2 := Lib.hid (bl_trans HB1.out hb2)
  have HK2 := Lib.hid (HK1.out.below hb2)
  have HT2 := Lib.hid (HT1.out.below hb2)
  clear hb2 k0 k1 k2 o0 o1 o2 o3 o4 o5
  have k0 := HK2.out.cell 0
  have k1 := HK2.out.cell 1
  have k2 := HK2.out.cell 2
  have o0 := HT2.out.cell 0
  have o1 := HT2.out.cell 1
  have o2 := HT2.out.cell 2
  have o3 := HT2.out.cell 3
  have o4 := HT2.out.cell 4
  have o5 := HT2.out.cell 5
  by_cases hbig : 6 < dv.2.2.2.1.length + dv.2.2.2.2.length
  · have g1 : decide ((6 : Int) < ((dv.2.2.2.1.length + dv.2.2.2.2.length : Nat) : Int)) = true := decide_eq_true (by omega)
    have g2 : decide ((6 : Int) < (dv.2.2.2.1.length : Int) + (dv.2.2.2.2.length : Int)) = true := decide_eq_true (by omega)
    have g3 : 6 < dv.2.2.2.1.length + dv.2.2.2.2.length := hbig
    go_wp2
    go_ret
    exact ⟨rfl, HB2.out⟩
  have g1 : decide ((6 : Int) < ((dv.2.2.2.1.length + dv.2.2.2.2.length : Nat) : Int)) = false := decide_eq_false (by omega)
  have g2 : decide ((6 : Int) < (dv.2.2.2.1.length : Int) + (dv.2.2.2.2.length : Int)) = false := decide_eq_false (by omega)
  by_cases hneg : ag < 0
  · have g4 : decide (ag < 0) = true := decide_eq_true hneg
    go_wp2
    go_ret
    exact ⟨rfl, HB2.out⟩
  have g4 : decide (ag < 0) = false := decide_eq_false hneg
  obtain ⟨i, rfl⟩ : ∃ i : Nat, ag = (i : Int) := ⟨ag.toNat, by omega⟩
  by_cases hge : L.length ≤ i
  · have g5 : decide ((L.length : Int) ≤ (i : Int)) = true := decide_eq_true (by omega)
    have g6 : (L.length : Int) ≤ (i : Int) := by omega
    go_wp2
    go_ret
    exact ⟨rfl, HB2.out⟩
  have hi : i < L.length := by omega
  have g5 : decide ((L.length : Int) ≤ (i : Int)) = false := decide_eq_false (by omega)
  have g6 : (i : Int) < (L.length : Int) := by omega
  have g7 : (0 : Int) ≤ (i : Int) := by omega
  obtain ⟨x, hx⟩ : ∃ x, L[i]? = some x := ⟨_, List.getElem?_eq_getElem hi⟩
  obtain ⟨ad, A1, a1, A2, a2, rfl, e0, e1, e2, e3, e4, hfx⟩ := (HV.out.below HB2.out).at hx
  have HX := Lib.hid hx
  have HFX := Lib.hid hfx
  have HBIG := Lib.hid hbig
  clear hx hfx hbig hneg hge
  go_upto_region 4 with fail
  have al3 := below_alloc0 w2 (.cells #[.int .i64 x.1, .int .i64 x.2.1, .bool x.2.2.1, .slice A1 x.2.2.2.1.length a1, .slice A2 x.2.2.2.2.length a2] 40)
  have K3 := Blk.new w2 40 #[.int .i64 x.1, .int .i64 x.2.1, .bool x.2.2.1, .slice A1 x.2.2.2.1.length a1, .slice A2 x.2.2.2.2.length a2]
  obtain ⟨w3, hw3⟩ : ∃ W, W = w2.alloc (.cells #[.int .i64 x.1, .int .i64 x.2.1, .bool x.2.2.1, .slice A1 x.2.2.2.1.length a1, .slice A2 x.2.2.2.2.length a2] 40) := ⟨_, rfl⟩
  obtain ⟨gx, hgx⟩ : ∃ g, g = w2.heap.size := ⟨_, rfl⟩
  rw [← hw3] at al3 K3 ⊢
  rw [← hgx] at K3 ⊢
  have HX3 := Lib.hid K3
  have HB3 := Lib.hid (bl_trans HB2.out al3)
  have HK3 := Lib.hid (HK2.out.below al3)
  have HT3 := Lib.hid (HT2.out.below al3)
  have HFX3 := Lib.hid (HFX.out.below al3)
  clear al3 K3 hw3 hgx e0 e1 e2 e3 e4 k0 k1 k2 o0 o1 o2 o3 o4 o5
  have k0 := HK3.out.cell 0
  have k1 := HK3.out.cell 1
  have k2 := HK3.out.cell 2
  have o0 := HT3.out.cell 0
  have o1 := HT3.out.cell 1
  have o2 := HT3.out.cell 2
  have o3 := HT3.out.cell 3
  have o4 := HT3.out.cell 4
  have o5 := HT3.out.cell 5
  have v0 := HX3.out.cell 0
  have v1 := HX3.out.cell 1
  have v2 := HX3.out.cell 2
  have v3 := HX3.out.cell 3
  have v4 := HX3.out.cell 4
  obtain ⟨M, hM⟩ : ∃ M, M = L.set i dv := ⟨_, rfl⟩
  have HM := Lib.hid hM
  have hwith := with_calls w3 days each ad c i L (HV.out.below HB3.out) hi (by omega) dv V1 n1 V2 n2 (HDV.out.below HB3.out)
  rw [← hM] at hwith
  have HWITH := Lib.hid hwith
  clear hM hwith
  go_wp2_with fail
  refine HWITH.out.mono ?_
  rintro e w4 ⟨A4, c4, rfl, hVM, hb4⟩
  have HB4 := Lib.hid (bl_trans HB3.out hb4)
  have HK4 := Lib.hid (HK3.out.below hb4)
  have HT4 := Lib.hid (HT3.out.below hb4)
  have HX4 := Lib.hid (HX3.out.below hb4)
  have HFX4 := Lib.hid (HFX3.out.below hb4)
  have HVM4 := Lib.hid hVM
  clear hb4 hVM k0 k1 k2 o0 o1 o2 o3 o4 o5 v0 v1 v2 v3 v4
  go_upto_region 5 with fail
  have al5 := below_alloc0 w4 (.cells #[.int .i64 days, .int .i64 each, .slice A4 M.length c4] 24)
  have K5 := Blk.new w4 24 #[.int .i64 days, .int .i64 each, .slice A4 M.length c4]
  obtain ⟨w5, hw5⟩ : ∃ W, W = w4.alloc (.cells #[.int .i64 days, .int .i64 each, .slice A4 M.length c4] 24) := ⟨_, rfl⟩
  obtain ⟨gm, hgm⟩ : ∃ g, g = w4.heap.size := ⟨_, rfl⟩
  rw [← hw5] at al5 K5 ⊢
  rw [← hgm] at K5 ⊢
  have HM5 := Lib.hid K5
  have HB5 := Lib.hid (bl_trans HB4.out al5)
  have HK5 := Lib.hid (HK4.out.below al5)
  have HT5 := Lib.hid (HT4.out.below al5)
  have HX5 := Lib.hid (HX4.out.below al5)
  have HFX5 := Lib.hid (HFX4.out.below al5)
  have HVM5 := Lib.hid (HVM4.out.below al5)
  clear al5 K5 hw5 hgm
  have k0 := HK5.out.cell 0
  have k1 := HK5.out.cell 1
  have k2 := HK5.out.cell 2
  have o0 := HT5.out.cell 0
  have o1 := HT5.out.cell 1
  have o2 := HT5.out.cell 2
  have o3 := HT5.out.cell 3
  have o4 := HT5.out.cell 4
  have o5 := HT5.out.cell 5
  have v0 := HX5.out.cell 0
  have v1 := HX5.out.cell 1
  have v2 := HX5.out.cell 2
  have v3 := HX5.out.cell 3
  have v4 := HX5.out.cell 4
  have s0 := HM5.out.cell 0
  have s1 := HM5.out.cell 1
  have s2 := HM5.out.cell 2
  obtain ⟨al, hal⟩ : ∃ b : Bool, b = (decide (x.1 ≤ dv.1) && decide (dv.2.1 ≤ x.2.1)) := ⟨_, rfl⟩
  have HAL := Lib.hid hal
  clear hal
  go_wp2_with fail
  refine (allowed_calls _ x dv A1 A2 V1 V2 a1 a2 n1 n2).mono ?_
  rintro e w6 ⟨rfl, hb6⟩
  rw [← HAL.out]
  have HB6 := Lib.hid (bl_trans HB5.out hb6)
  have HK6 := Lib.hid (HK5.out.below hb6)
  have HT6 := Lib.hid (HT5.out.below hb6)
  have HX6 := Lib.hid (HX5.out.below hb6)
  have HM6 := Lib.hid (HM5.out.below hb6)
  have HFX6 := Lib.hid (HFX5.out.below hb6)
  have HVM6 := Lib.hid (HVM5.out.below hb6)
  clear hb6 k0 k1 k2 o0 o1 o2 o3 o4 o5 v0 v1 v2 v3 v4 s0 s1 s2
  have k0 := HK6.out.cell 0
  have k1 := HK6.out.cell 1
  have k2 := HK6.out.cell 2
  have o0 := HT6.out.cell 0
  have o1 := HT6.out.cell 1
  have o2 := HT6.out.cell 2
  have o3 := HT6.out.cell 3
  have o4 := HT6.out.cell 4
  have o5 := HT6.out.cell 5
  have v0 := HX6.out.cell 0
  have v1 := HX6.out.cell 1
  have v2 := HX6.out.cell 2
  have v3 := HX6.out.cell 3
  have v4 := HX6.out.cell 4
  have s0 := HM6.out.cell 0
  have s1 := HM6.out.cell 1
  have s2 := HM6.out.cell 2
  have hfin : ∀ (wz : World), Below w.heap.size w wz → Calls Try.prog 24 #[] wz fun e w' => e = .returned (.bool true) ∧ Below w.heap.size w w' := fun wz hb => (tfixed_calls wz).mono (fun e w' h => ⟨h.1, bl_trans hb h.2⟩)
  have HFIN := Lib.hid hfin
  clear hfin
  cases al
  case false =>
    clear k0 k1 k2 o0 o1 o2 o3 o4 o5 v0 v1 v2 v3 v4 s0 s1 s2
    go_wp2_with fail
    refine (HFIN.out _ HB6.out).mono ?_
    rintro e w7 ⟨rfl, hb7⟩
    have HB7 := Lib.hid hb7
    clear hb7
    go_wp2
    go_ret
    exact ⟨rfl, HB7.out⟩
  have hal1 := HAL.out.symm
  simp only [Bool.and_eq_true, decide_eq_true_eq] at hal1
  obtain ⟨hc1, hc2⟩ := hal1
  have HC1 := Lib.hid hc1
  have HC2 := Lib.hid hc2
  clear hc1 hc2
  obtain ⟨r, hr⟩ : ∃ r, r = rightN days each L := ⟨_, rfl⟩
  have HR := Lib.hid hr
  obtain ⟨rs, hrs⟩ : ∃ r, r = rightN days each M := ⟨_, rfl⟩
  have HRS := Lib.hid hrs
  clear hr hrs
  go_wp2_with fail
  refine (rtright_calls _ days each (some ad) c L (HV.out.below HB6.out)).mono ?_
  rintro e w7 ⟨rfl, hb7⟩
  rw [← HR.out]
  have HB7 := Lib.hid (bl_trans HB6.out hb7)
  have HK7 := Lib.hid (HK6.out.below hb7)
  have HT7 := Lib.hid (HT6.out.below hb7)
  have HX7 := Lib.hid (HX6.out.below hb7)
  have HM7 := Lib.hid (HM6.out.below hb7)
  have HFX7 := Lib.hid (HFX6.out.below hb7)
  have HVM7 := Lib.hid (HVM6.out.below hb7)
  clear hb7 k0 k1 k2 o0 o1 o2 o3 o4 o5 v0 v1 v2 v3 v4 s0 s1 s2
  by_cases hr0 : r = 0
  · obtain rfl : r = 0 := hr0
    have hrz := HR.out.symm
    obtain ⟨z1, z2, z3⟩ := rightN_zero hrz
    obtain ⟨D, hD⟩ : ∃ D : Nat, days = (D : Int) := ⟨days.toNat, by omega⟩
    obtain ⟨K, hKe⟩ : ∃ K : Nat, each = (K : Int) := ⟨each.toNat, by omega⟩
    subst hD
    subst hKe
    have hK1 : 1 ≤ K := by omega
    have hL12 : L.length ≤ 12 := by omega
    have HRZ := Lib.hid hrz
    clear z1 z2 z3 hrz
    have k0 := HK7.out.cell 0
    have k1 := HK7.out.cell 1
    have k2 := HK7.out.cell 2
    have o0 := HT7.out.cell 0
    have o1 := HT7.out.cell 1
    have o2 := HT7.out.cell 2
    have o3 := HT7.out.cell 3
    have o4 := HT7.out.cell 4
    have o5 := HT7.out.cell 5
    have v0 := HX7.out.cell 0
    have v1 := HX7.out.cell 1
    have v2 := HX7.out.cell 2
    have v3 := HX7.out.cell 3
    have v4 := HX7.out.cell 4
    have s0 := HM7.out.cell 0
    have s1 := HM7.out.cell 1
    have s2 := HM7.out.cell 2
    go_wp2_with fail
    refine (rtright_calls _ _ _ A4 c4 M HVM7.out).mono ?_
    rintro e w8 ⟨rfl, hb8⟩
    rw [← HRS.out]
    have HB8 := Lib.hid (bl_trans HB7.out hb8)
    have HK8 := Lib.hid (HK7.out.below hb8)
    have HT8 := Lib.hid (HT7.out.below hb8)
    have HX8 := Lib.hid (HX7.out.below hb8)
    have HM8 := Lib.hid (HM7.out.below hb8)
    have HFX8 := Lib.hid (HFX7.out.below hb8)
    have HVM8 := Lib.hid (HVM7.out.below hb8)
    clear hb8 k0 k1 k2 o0 o1 o2 o3 o4 o5 v0 v1 v2 v3 v4 s0 s1 s2
    by_cases hs0 : rs = 0
    · obtain rfl : rs = 0 := hs0
      have HSZ := Lib.hid HRS.out.symm
      have hfx : x.2.2.2.1.length ≤ 6 ∧ x.2.2.2.2.length ≤ 6 := HF.out x (List.mem_of_getElem? HX.out)
      obtain ⟨hf1, hf2⟩ := hfx
      have hiM : i < M.length := by rw [HM.out, List.length_set]; exact hi
      have hFM : FewV 16 M := by rw [HM.out]; exact (HF.out.mono (by omega)).set i (by have := HBIG.out; omega) (by have := HBIG.out; omega)
      have HFM := Lib.hid hFM
      have htr := truth_of HX.out HRZ.out (by rw [← HM.out]; exact HSZ.out) HC1.out HC2.out
      rw [← HM.out] at htr
      obtain ⟨ua, hua⟩ : ∃ q, q = (tdOf L).use K D i (fqd x.2.2) := ⟨_, rfl⟩
      obtain ⟨ub, hub⟩ : ∃ q, q = (tdOf M).use K D i (fqd x.2.2) := ⟨_, rfl⟩
      rw [← hua, ← hub] at htr
      have HUA := Lib.hid hua
      have HUB := Lib.hid hub
      have HTR := Lib.hid htr
      have HIM := Lib.hid hiM
      have hwx : Wd x.2.2.2.1 ∧ Wd x.2.2.2.2 := HWD.out x (List.mem_of_getElem? HX.out)
      have hzx : Szq 16 (fqd x.2.2) := szq_fix hwx.1 hwx.2 (by omega) (by omega) (by omega)
      have hsha : Short ua := by
        rw [hua]
        unfold Td.use
        split
        · exact (szq_zero 16 (by omega)).short (by omega)
        · exact (szq_sub hzx (lmin_szq (fun j => bar_szq (by omega) hK1 (fun r hr => sw_szq (n := 16) (by omega) (HF.out.mono (by omega)) HWD.out (sk i r) ((sk_bound (i := i) (n := L.length) hi).2 hr))) _ _)).short (by omega)
      have hshb : Short ub := by
        rw [hub]
        unfold Td.use
        split
        · exact (szq_zero 16 (by omega)).short (by omega)
        · exact (szq_sub hzx (lmin_szq (fun j => bar_szq (by omega) hK1 (fun r hr => sw_szq (n := 16) (by omega) HFM.out HVM8.out.wd (sk i r) ((sk_bound (i := i) (n := M.length) hiM).2 hr))) _ _)).short (by omega)
      have HSA := Lib.hid hsha
      have HSB := Lib.hid hshb
      clear hFM htr hua hub hiM hwx hzx hsha hshb
      have k0 := HK8.out.cell 0
      have k1 := HK8.out.cell 1
      have k2 := HK8.out.cell 2
      have o0 := HT8.out.cell 0
      have o1 := HT8.out.cell 1
      have o2 := HT8.out.cell 2
      have o3 := HT8.out.cell 3
      have o4 := HT8.out.cell 4
      have o5 := HT8.out.cell 5
      have v0 := HX8.out.cell 0
      have v1 := HX8.out.cell 1
      have v2 := HX8.out.cell 2
      have v3 := HX8.out.cell 3
      have v4 := HX8.out.cell 4
      have s0 := HM8.out.cell 0
      have s1 := HM8.out.cell 1
      have s2 := HM8.out.cell 2
      go_wp2_with fail
      refine (ruse_calls _ D K (some ad) c i L (HV.out.below HB8.out) (HF.out.mono (by omega)) HRZ.out hi _ _ _ A1 A2 a1 a2 HFX8.out (by omega) (by omega)).mono ?_
      rintro e w9 ⟨hb9, v9, rfl, hv9⟩
      have hv9 : FrV w9 v9 ua := by rw [HUA.out]; exact hv9
      obtain ⟨P1, p1, P2, p2, rfl, _, _, _, _⟩ := FrIn.shape hv9
      have HB9 := Lib.hid (bl_trans HB8.out hb9)
      have al10 := below_alloc0 w9 (.cells #[.bool (decide (ua.num < 0)), .slice P1 (dg ua.num.natAbs).length p1, .slice P2 (dg ua.den).length p2] 38)
      have K10 := Blk.new w9 38 #[.bool (decide (ua.num < 0)), .slice P1 (dg ua.num.natAbs).length p1, .slice P2 (dg ua.den).length p2]
      have HV9 := Lib.hid hv9
      go_upto_region 8 with fail
      obtain ⟨w10, hw10⟩ : ∃ W, W = w9.alloc (.cells #[.bool (decide (ua.num < 0)), .slice P1 (dg ua.num.natAbs).length p1, .slice P2 (dg ua.den).length p2] 38) := ⟨_, rfl⟩
      obtain ⟨gua, hgua⟩ : ∃ g, g = w9.heap.size := ⟨_, rfl⟩
      rw [← hw10] at al10 K10 ⊢
      rw [← hgua] at K10 ⊢
      have HFua10 := Lib.hid (FrV.below HV9.out al10)
      have HKua10 := Lib.hid K10
      have hbb10 := bl_trans hb9 al10
      have HB10 := Lib.hid (bl_trans HB9.out al10)
      have HK10 := Lib.hid (HK8.out.below hbb10)
      have HT10 := Lib.hid (HT8.out.below hbb10)
      have HX10 := Lib.hid (HX8.out.below hbb10)
      have HM10 := Lib.hid (HM8.out.below hbb10)
      have HFX10 := Lib.hid (HFX8.out.below hbb10)
      have HVM10 := Lib.hid (HVM8.out.below hbb10)
      clear al10 K10 hw10 hgua hb9 hbb10 hv9 k0 k1 k2 o0 o1 o2 o3 o4 o5 v0 v1 v2 v3 v4 s0 s1 s2
      have k0 := HK10.out.cell 0
      have k1 := HK10.out.cell 1
      have k2 := HK10.out.cell 2
      have o0 := HT10.out.cell 0
      have o1 := HT10.out.cell 1
      have o2 := HT10.out.cell 2
      have o3 := HT10.out.cell 3
      have o4 := HT10.out.cell 4
      have o5 := HT10.out.cell 5
      have v0 := HX10.out.cell 0
      have v1 := HX10.out.cell 1
      have v2 := HX10.out.cell 2
      have v3 := HX10.out.cell 3
      have v4 := HX10.out.cell 4
      have s0 := HM10.out.cell 0
      have s1 := HM10.out.cell 1
      have s2 := HM10.out.cell 2
      go_wp2_with fail
      refine (use_calls _ D K (some ad) c i L (HV.out.below HB10.out) (HF.out.mono (by omega)) HRZ.out hi _ _ _ A1 A2 a1 a2 HFX10.out (by omega) (by omega)).mono ?_
      rintro e w11 ⟨hb11, v11, rfl, hv11⟩
      obtain ⟨uc, huc⟩ : ∃ q, q = ua := ⟨_, rfl⟩
      have hv11 : FrV w11 v11 uc := by rw [huc, HUA.out]; exact hv11
      have HUC := Lib.hid huc
      clear huc
      obtain ⟨R1, r1, R2, r2, rfl, _, _, _, _⟩ := FrIn.shape hv11
      have HB11 := Lib.hid (bl_trans HB10.out hb11)
      have al12 := below_alloc0 w11 (.cells #[.bool (decide (uc.num < 0)), .slice R1 (dg uc.num.natAbs).length r1, .slice R2 (dg uc.den).length r2] 38)
      have K12 := Blk.new w11 38 #[.bool (decide (uc.num < 0)), .slice R1 (dg uc.num.natAbs).length r1, .slice R2 (dg uc.den).length r2]
      have HV11 := Lib.hid hv11
      go_upto_region 9 with fail
      obtain ⟨w12, hw12⟩ : ∃ W, W = w11.alloc (.cells #[.bool (decide (uc.num < 0)), .slice R1 (dg uc.num.natAbs).length r1, .slice R2 (dg uc.den).length r2] 38) := ⟨_, rfl⟩
      obtain ⟨guc, hguc⟩ : ∃ g, g = w11.heap.size := ⟨_, rfl⟩
      rw [← hw12] at al12 K12 ⊢
      rw [← hguc] at K12 ⊢
      have HFuc12 := Lib.hid (FrV.below HV11.out al12)
      have HKuc12 := Lib.hid K12
      have hbb12 := bl_trans hb11 al12
      have HB12 := Lib.hid (bl_trans HB11.out al12)
      have HK12 := Lib.hid (HK10.out.below hbb12)
      have HT12 := Lib.hid (HT10.out.below hbb12)
      have HX12 := Lib.hid (HX10.out.below hbb12)
      have HM12 := Lib.hid (HM10.out.below hbb12)
      have HFX12 := Lib.hid (HFX10.out.below hbb12)
      have HVM12 := Lib.hid (HVM10.out.below hbb12)
      have HKua12 := Lib.hid (HKua10.out.below hbb12)
      have HFua12 := Lib.hid (FrV.below HFua10.out hbb12)
      clear al12 K12 hw12 hguc hb11 hbb12 hv11 k0 k1 k2 o0 o1 o2 o3 o4 o5 v0 v1 v2 v3 v4 s0 s1 s2
      have k0 := HK12.out.cell 0
      have k1 := HK12.out.cell 1
      have k2 := HK12.out.cell 2
      have o0 := HT12.out.cell 0
      have o1 := HT12.out.cell 1
      have o2 := HT12.out.cell 2
      have o3 := HT12.out.cell 3
      have o4 := HT12.out.cell 4
      have o5 := HT12.out.cell 5
      have v0 := HX12.out.cell 0
      have v1 := HX12.out.cell 1
      have v2 := HX12.out.cell 2
      have v3 := HX12.out.cell 3
      have v4 := HX12.out.cell 4
      have s0 := HM12.out.cell 0
      have s1 := HM12.out.cell 1
      have s2 := HM12.out.cell 2
      go_wp2_with fail
      refine (use_calls _ D K A4 c4 i M HVM12.out HFM.out HSZ.out HIM.out _ _ _ A1 A2 a1 a2 HFX12.out (by omega) (by omega)).mono ?_
      rintro e w13 ⟨hb13, v13, rfl, hv13⟩
      have hv13 : FrV w13 v13 ub := by rw [HUB.out]; exact hv13
      obtain ⟨S1, t1, S2, t2, rfl, _, _, _, _⟩ := FrIn.shape hv13
      have HB13 := Lib.hid (bl_trans HB12.out hb13)
      have al14 := below_alloc0 w13 (.cells #[.bool (decide (ub.num < 0)), .slice S1 (dg ub.num.natAbs).length t1, .slice S2 (dg ub.den).length t2] 38)
      have K14 := Blk.new w13 38 #[.bool (decide (ub.num < 0)), .slice S1 (dg ub.num.natAbs).length t1, .slice S2 (dg ub.den).length t2]
      have HV13 := Lib.hid hv13
      go_upto_region 10 with fail
      obtain ⟨w14, hw14⟩ : ∃ W, W = w13.alloc (.cells #[.bool (decide (ub.num < 0)), .slice S1 (dg ub.num.natAbs).length t1, .slice S2 (dg ub.den).length t2] 38) := ⟨_, rfl⟩
      obtain ⟨gub, hgub⟩ : ∃ g, g = w13.heap.size := ⟨_, rfl⟩
      rw [← hw14] at al14 K14 ⊢
      rw [← hgub] at K14 ⊢
      have HFub14 := Lib.hid (FrV.below HV13.out al14)
      have HKub14 := Lib.hid K14
      have hbb14 := bl_trans hb13 al14
      have HB14 := Lib.hid (bl_trans HB13.out al14)
      have HK14 := Lib.hid (HK12.out.below hbb14)
      have HT14 := Lib.hid (HT12.out.below hbb14)
      have HX14 := Lib.hid (HX12.out.below hbb14)
      have HM14 := Lib.hid (HM12.out.below hbb14)
      have HFX14 := Lib.hid (HFX12.out.below hbb14)
      have HVM14 := Lib.hid (HVM12.out.below hbb14)
      have HKua14 := Lib.hid (HKua12.out.below hbb14)
      have HFua14 := Lib.hid (FrV.below HFua12.out hbb14)
      have HKuc14 := Lib.hid (HKuc12.out.below hbb14)
      have HFuc14 := Lib.hid (FrV.below HFuc12.out hbb14)
      clear al14 K14 hw14 hgub hb13 hbb14 hv13 k0 k1 k2 o0 o1 o2 o3 o4 o5 v0 v1 v2 v3 v4 s0 s1 s2
      have c0 := HKuc14.out.cell 0
      have c1 := HKuc14.out.cell 1
      have c2 := HKuc14.out.cell 2
      have a0 := HKua14.out.cell 0
      have a1' := HKua14.out.cell 1
      have a2' := HKua14.out.cell 2
      go_wp2_with fail
      refine (same_q _ _ _ uc ua (FrV.q HFuc14.out (by rw [HUC.out]; exact HSA.out)) (FrV.q HFua14.out HSA.out)).mono ?_
      rintro e w15 ⟨rfl, hb15⟩
      have he : decide (uc = ua) = true := decide_eq_true HUC.out
      rw [he]
      clear c0 c1 c2 a0 a1' a2' he
      have HB15 := Lib.hid (bl_trans HB14.out hb15)
      have HKc := Lib.hid (HKuc14.out.below hb15)
      have HKb := Lib.hid (HKub14.out.below hb15)
      have HFc := Lib.hid (FrV.below HFuc14.out hb15)
      have HFb := Lib.hid (FrV.below HFub14.out hb15)
      clear hb15
      have c0 := HKc.out.cell 0
      have c1 := HKc.out.cell 1
      have c2 := HKc.out.cell 2
      have b0 := HKb.out.cell 0
      have b1 := HKb.out.cell 1
      have b2 := HKb.out.cell 2
      go_wp2_with fail
      refine (rcmpq _ _ _ ub uc (FrV.q HFb.out HSB.out) (FrV.q HFc.out (by rw [HUC.out]; exact HSA.out))).mono ?_
      rintro e w16 ⟨rfl, hb16⟩
      obtain ⟨cp, hcp⟩ : ∃ c, c = rcmp ub uc := ⟨_, rfl⟩
      have g9 : decide (cp ≤ 0) = true := decide_eq_true (by rw [hcp, HUC.out]; have := HTR.out.1; unfold rcmp; grind)
      rw [← hcp]
      clear hcp c0 c1 c2 b0 b1 b2
      have HB16 := Lib.hid (bl_trans HB15.out hb16)
      have HKc2 := Lib.hid (HKc.out.below hb16)
      have HFc2 := Lib.hid (FrV.below HFc.out hb16)
      clear hb16
      have c0 := HKc2.out.cell 0
      have c1 := HKc2.out.cell 1
      have c2 := HKc2.out.cell 2
      go_wp2_with fail
      refine (rsignq _ _ uc (FrV.q HFc2.out (by rw [HUC.out]; exact HSA.out))).mono ?_
      rintro e w17 ⟨rfl, hb17⟩
      obtain ⟨sg, hsg⟩ : ∃ c, c = uc.num.sign := ⟨_, rfl⟩
      have g10 : decide (0 ≤ sg) = true := decide_eq_true (by rw [hsg, sign_rcmp, HUC.out]; have := HTR.out.2; unfold rcmp; grind)
      rw [← hsg]
      clear hsg c0 c1 c2
      have HB17 := Lib.hid (bl_trans HB16.out hb17)
      clear hb17
      go_wp2_with fail
      refine (HFIN.out _ HB17.out).mono ?_
      rintro e w18 ⟨rfl, hb18⟩
      have HB18 := Lib.hid hb18
      clear hb18
      go_wp2
      go_ret
      exact ⟨rfl, HB18.out⟩
    · have g8 : ((rs : Int) != 0) = true := bne_iff_ne.2 hs0
      clear hs0
      go_wp2_with fail
      refine (HFIN.out _ HB8.out).mono ?_
      rintro e w9 ⟨rfl, hb9⟩
      have HB9 := Lib.hid hb9
      clear hb9
      go_wp2
      go_ret
      exact ⟨rfl, HB9.out⟩
  · have g8 : ((r : Int) != 0) = true := bne_iff_ne.2 hr0
    clear hr0
    go_wp2_with fail
    refine (HFIN.out _ HB7.out).mono ?_
    rintro e w8 ⟨rfl, hb8⟩
    have HB8 := Lib.hid hb8
    clear hb8
    go_wp2
    go_ret
    exact ⟨rfl, HB8.out⟩
end Go.Proofs.Ytajckdheecgceaa
