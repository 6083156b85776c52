/- Tides: the program's has: what one has by what a report brings. -/
import Derived.Test.YtajckdheecgceaaTd37
set_option linter.unusedVariables false
set_option linter.unusedSimpArgs false
namespace Go.Proofs.Ytajckdheecgceaa
open Go.RowKit

theorem tc7_next {w w1 w2 : World} {a0 a1 a2 a3 a4 a5 a6 : Addr} {x0 x1 x2 x3 x4 x5 x6 : Value} (hb : Below w1.heap.size w1 w2) (h : Below w.heap.size w w1 ∧ w1.cell? a0 = some x0 ∧ w1.cell? a1 = some x1 ∧ w1.cell? a2 = some x2 ∧ w1.cell? a3 = some x3 ∧ w1.cell? a4 = some x4 ∧ w1.cell? a5 = some x5 ∧ w1.cell? a6 = some x6) : Below w.heap.size w w2 ∧ w2.cell? a0 = some x0 ∧ w2.cell? a1 = some x1 ∧ w2.cell? a2 = some x2 ∧ w2.cell? a3 = some x3 ∧ w2.cell? a4 = some x4 ∧ w2.cell? a5 = some x5 ∧ w2.cell? a6 = some x6 := by
  obtain ⟨h, e0, e1, e2, e3, e4, e5, e6⟩ := h
  exact ⟨bl_trans h hb, cell_below hb e0, cell_below hb e1, cell_below hb e2, cell_below hb e3, cell_below hb e4, cell_below hb e5, cell_below hb e6⟩
set_option maxRecDepth 100000 in
set_option maxHeartbeats 8000000 in
theorem thas_calls (w : World) (gd gp j : Nat) (A B : Option Addr) (cb cp : Nat) (dl : List Int) (P : List (Bool × List Int × List Int)) (va : Value) (a : Rat) (hq : FrQ w va a) (hgd : w.cell? ⟨gd, 0, none⟩ = some (.slice A dl.length cb)) (g : IL w (.slice A dl.length cb) dl) (hgp : w.cell? ⟨gp, 0, none⟩ = some (.slice B P.length cp)) (f : FL w (.slice B P.length cp) P) (hj1 : j < dl.length) (hj2 : j < P.length) (hf2 : FewD 1000 P) (hs : Short (hasq a (pday dl j) (ppay P j))) :
    Calls Try.prog 70 #[va, .int .i64 (j : Int), .pointer (some ⟨gd, 0, none⟩), .pointer (some ⟨gp, 0, none⟩)] w (FrPost (hasq a (pday dl j) (ppay P j)) w) := by
  obtain ⟨d, hd1⟩ : ∃ d, dl[j]? = some d := ⟨_, List.getElem?_eq_getElem hj1⟩
  obtain ⟨p, hp1⟩ : ∃ p, P[j]? = some p := ⟨_, List.getElem?_eq_getElem hj2⟩
  rw [pday_at hd1, ppay_at hp1] at hs ⊢
  obtain ⟨s, hse⟩ : ∃ s, s = hasq a d (fqd p) := ⟨_, rfl⟩
  rw [← hse] at hs ⊢
  have HSH := Lib.hid hs
  have HQA := Lib.hid hq
  have HP := Lib.hid f
  have fewp := hf2 p (List.mem_of_getElem? hp1)
  obtain ⟨nb, X1, n1, x1, X2, n2, x2, rfl⟩ := hq.shape
  obtain ⟨bd, rfl, d0⟩ := g.at hd1
  obtain ⟨pd, cp', P1, p1, P2, p2, hsl, _, _, f0, f1, f2, hfp⟩ := f.at hp1
  obtain ⟨rfl, rfl⟩ : B = some pd ∧ cp = cp' := by simpa using hsl
  obtain ⟨wa, hwa⟩ : ∃ W, W = w.alloc (.cells #[.bool nb, .slice X1 n1 x1, .slice X2 n2 x2] 38) := ⟨_, rfl⟩
  obtain ⟨wb, hwb⟩ : ∃ W, W = wa.alloc (.cells #[.bool false, .slice none 0 0, .slice none 0 0] 38) := ⟨_, rfl⟩
  have sa : wa.heap.size = w.heap.size + 1 := by rw [hwa]; simp
  have ba : Below w.heap.size w wa := by rw [hwa]; exact below_alloc0 _ _
  have bb : Below wa.heap.size wa wb := by rw [hwb]; exact below_alloc0 _ _
  have KA : Blk wa w.heap.size 38 #[.bool nb, .slice X1 n1 x1, .slice X2 n2 x2] := by rw [hwa]; exact Blk.new _ _ _
  have KB : Blk wb (w.heap.size + 1) 38 #[.bool false, .slice none 0 0, .slice none 0 0] := by rw [hwb, ← sa]; exact Blk.new _ _ _
  have hB0 := bl_trans ba bb
  have HB0 := Lib.hid hB0
  have HKA := Lib.hid (KA.below bb)
  have HKB := Lib.hid KB
  have HWB := Lib.hid (show (w.alloc (.cells #[.bool nb, .slice X1 n1 x1, .slice X2 n2 x2] 38)).alloc (.cells #[.bool false, .slice none 0 0, .slice none 0 0] 38) = wb by rw [hwb, hwa])
  have k0 := cell_below hB0 hgd
  have k1 := cell_below hB0 d0
  have HGP := Lib.hid hgp
  have HF := Lib.hid (⟨f0, f1, f2⟩ : w.cell? (pd.add (j * 3)) = _ ∧ w.cell? ⟨(pd.add (j * 3)).block, (pd.add (j * 3)).off + 1, none⟩ = _ ∧ w.cell? ⟨(pd.add (j * 3)).block, (pd.add (j * 3)).off + 2, none⟩ = _)
  have HFP := Lib.hid hfp
  have q1 : (j : Int) < (dl.length : Int) := by omega
  have q2 : (j : Int) < (P.length : Int) := by omega
  clear hd1 hp1 hs hq hgd g hgp f hsl d0 f0 f1 f2 hfp hwa hwb sa ba bb KA KB hB0 hf2
  go_enter Try.func70, Try.ntmps70
  go_upto_region 1 with fail
  rw [HWB.out]
  by_cases hd : d = 0
  · have g1 : ((d : Int) == 0) = true := by rw [hd]; rfl
    have hE : (0 : Rat) + -(fqd p) = s := by rw [hse]; unfold hasq; rw [if_pos hd]
    clear hse hd
    go_wp2_with fail
    refine (zero_calls _).mono ?_
    rintro e w2 ⟨v, rfl, hv, hb⟩
    obtain ⟨qw, hqw⟩ : ∃ q : Rat, q = 0 := ⟨_, rfl⟩
    rw [← hqw] at hv hE
    have HE := Lib.hid hE
    obtain ⟨Z1, z1, Z2, z2, rfl, _, _, _, _⟩ := FrIn.shape hv
    have K4 := HKA.out.below hb
    have m0 := K4.cell 0
    have m1 := K4.cell 1
    have m2 := K4.cell 2
    have mf := K4.free
    have hb2 := bl_trans HB0.out hb
    have F2 := FBox.fr K4 (boolne _) (slne _ _ _) (slne _ _ _) (.bool (decide (qw.num < 0))) (.slice Z1 (dg qw.num.natAbs).length z1) (.slice Z2 (dg qw.den).length z2)
    have hbz := hb2.trans (F2.below hb2.size (fun y hy => by have e : y = w.heap.size := hy; omega))
    have K5 := blk3 K4 (.bool (decide (qw.num < 0))) (.slice Z1 (dg qw.num.natAbs).length z1) (.slice Z2 (dg qw.den).length z2)
    have KE2 := HKB.out.below hb
    have KE : Blk _ (w.heap.size + 1) 38 #[.bool false, .slice none 0 0, .slice none 0 0] := (F2.block (w.heap.size + 1) KE2.lt (by omega)).trans KE2
    have hvz := F2.keep.fr hv
    obtain ⟨wz, hwz⟩ : ∃ W, W = (((w2.setCell ⟨w.heap.size, 0, none⟩ (.bool (decide (qw.num < 0)))).setCell ⟨w.heap.size, 1, none⟩ (.slice Z1 (dg qw.num.natAbs).length z1)).setCell ⟨w.heap.size, 2, none⟩ (.slice Z2 (dg qw.den).length z2)) := ⟨_, rfl⟩
    rw [← hwz] at hbz K5 KE hvz
    have HWZ := Lib.hid hwz
    have hqz : FrQ wz _ qw := FrV.q hvz (by rw [hqw]; exact (szq_zero 1 (by omega)).short (by omega))
    have HQW := Lib.hid hqz
    have HQP := Lib.hid (show FrQ wz (.agg #[.bool p.1, .slice P1 p.2.1.length p1, .slice P2 p.2.2.length p2]) (fqd p) from ⟨_, _, _, HFP.out.below hbz, by omega, rfl⟩)
    have hS0 : (fun (w' : World) => Below wz.heap.size wz w' ∧ w'.cell? ⟨w.heap.size, 0, none⟩ = some (.bool (decide (qw.num < 0))) ∧ w'.cell? ⟨w.heap.size, 1, none⟩ = some (.slice Z1 (dg qw.num.natAbs).length z1) ∧ w'.cell? ⟨w.heap.size, 2, none⟩ = some (.slice Z2 (dg qw.den).length z2) ∧ w'.cell? ⟨gp, 0, none⟩ = some (.slice (some pd) P.length cp) ∧ w'.cell? (pd.add (j * 3)) = some (.bool p.1) ∧ w'.cell? ⟨(pd.add (j * 3)).block, (pd.add (j * 3)).off + 1, none⟩ = some (.slice P1 p.2.1.length p1) ∧ w'.cell? ⟨(pd.add (j * 3)).block, (pd.add (j * 3)).off + 2, none⟩ = some (.slice P2 p.2.2.length p2)) wz.drew := tc7_next (bl_drew wz) ⟨Below.refl _ _, K5.cell 0, K5.cell 1, K5.cell 2, cell_below hbz HGP.out, cell_below hbz HF.out.1, cell_below hbz HF.out.2.1, cell_below hbz HF.out.2.2⟩
    have HBZ := Lib.hid hbz
    have HKE := Lib.hid KE
    have HS0 := Lib.hid hS0
    clear hE hqw hv hb K4 hb2 F2 hbz K5 KE2 KE hvz hwz hqz hS0 k0 k1
    go_upto_region 3 with fail
    rw [← HWZ.out]
    clear m0 m1 m2 mf
    have hS0 := HS0.out
    refine wp_region_T (fun (w' : World) => Below wz.heap.size wz w' ∧ w'.cell? ⟨w.heap.size, 0, none⟩ = some (.bool (decide (qw.num < 0))) ∧ w'.cell? ⟨w.heap.size, 1, none⟩ = some (.slice Z1 (dg qw.num.natAbs).length z1) ∧ w'.cell? ⟨w.heap.size, 2, none⟩ = some (.slice Z2 (dg qw.den).length z2) ∧ w'.cell? ⟨gp, 0, none⟩ = some (.slice (some pd) P.length cp) ∧ w'.cell? (pd.add (j * 3)) = some (.bool p.1) ∧ w'.cell? ⟨(pd.add (j * 3)).block, (pd.add (j * 3)).off + 1, none⟩ = some (.slice P1 p.2.1.length p1) ∧ w'.cell? ⟨(pd.add (j * 3)).block, (pd.add (j * 3)).off + 2, none⟩ = some (.slice P2 p.2.2.length p2)) 6 (by kernel_rfl) ?_
    have hS := hS0
    simp only [List.size_toArray, List.length_cons, List.length_nil, Nat.reduceAdd]
    refine wpAnyT_take 0 (some 13) (v := ?vr1_0) rfl rfl (by kernel_rfl) (by kernel_rfl) (by kernel_rfl) (by kernel_rfl) (fun _ _ _ h => h) rfl ?hyr1_0 hS ?restr1_0
    case hyr1_0 => (intro w hSw; (try dsimp only at hSw); go_simp; (try with_reducible rfl))
    (try simp only [Act.put, List.setIfInBounds_toArray, List.set_cons_zero, List.set_cons_succ])
    refine wpAnyT_take 1 (some 14) (v := ?vr1_1) rfl rfl (by kernel_rfl) (by kernel_rfl) (by kernel_rfl) (by kernel_rfl) (fun _ _ _ h => h) rfl ?hyr1_1 hS ?restr1_1
    case hyr1_1 => (intro w hSw; (try dsimp only at hSw); go_simp; (try with_reducible rfl))
    (try simp only [Act.put, List.setIfInBounds_toArray, List.set_cons_zero, List.set_cons_succ])
    refine wpAnyT_take 2 (some 15) (v := ?vr1_2) rfl rfl (by kernel_rfl) (by kernel_rfl) (by kernel_rfl) (by kernel_rfl) (fun _ _ _ h => h) rfl ?hyr1_2 hS ?restr1_2
    case hyr1_2 => (intro w hSw; (try dsimp only at hSw); go_simp; (try with_reducible rfl))
    (try simp only [Act.put, List.setIfInBounds_toArray, List.set_cons_zero, List.set_cons_succ])
    refine wpAnyT_take 3 (some 16) (v := ?vr1_3) rfl rfl (by kernel_rfl) (by kernel_rfl) (by kernel_rfl) (by kernel_rfl) (fun _ _ _ h => h) rfl ?hyr1_3 hS ?restr1_3
    case hyr1_3 => (intro w hSw; (try dsimp only at hSw); go_simp; (try with_reducible rfl))
    (try simp only [Act.put, List.setIfInBounds_toArray, List.set_cons_zero, List.set_cons_succ])
    refine wpAnyT_take 4 (some 17) (v := ?vr1_4) rfl rfl (by kernel_rfl) (by kernel_rfl) (by kernel_rfl) (by kernel_rfl) (fun _ _ _ h => h) rfl ?hyr1_4 hS ?restr1_4
    case hyr1_4 => (intro w hSw; (try dsimp only at hSw); go_simp; (try with_reducible rfl))
    (try simp only [Act.put, List.setIfInBounds_toArray, List.set_cons_zero, List.set_cons_succ])
    refine wpAnyT_one (i := 5) rfl (by kernel_rfl) rfl (fun K hK => ?_)
    simp only [List.getElem_toArray, List.getElem_cons_succ, List.getElem_cons_zero]
    go_simp
    go_at_call 67
    with_reducible refine (subq _ _ _ qw (fqd p) ?_ ?_ (by rw [HE.out]; exact HSH.out)).mono ?_
    exact HQW.out.below hS.1
    exact HQP.out.below hS.1
    rintro e w8 ⟨v8, rfl, hv8, hb8⟩
    rw [HE.out] at hv8
    obtain ⟨Q1, r1, Q2, r2, rfl, _, _, _, _⟩ := FrIn.shape hv8
    have hS8 := tc7_next hb8 hS
    have hbZ := hS8.1
    have K8 := HKE.out.below hbZ
    have m0 := K8.cell 0
    have m1 := K8.cell 1
    have m2 := K8.cell 2
    have mf := K8.free
    have F2 := FBox.fr K8 (boolne _) (slne _ _ _) (slne _ _ _) (.bool (decide (s.num < 0))) (.slice Q1 (dg s.num.natAbs).length r1) (.slice Q2 (dg s.den).length r2)
    have hb9 := bl_trans HBZ.out hbZ
    have HB9 := Lib.hid (hb9.trans (F2.below hb9.size (fun y hy => by have e : y = w.heap.size + 1 := hy; omega)))
    have HV8 := Lib.hid (F2.keep.fr hv8)
    have HK8 := Lib.hid K8
    refine hK.out _ _ (fun _ => hS8) ?_
    clear hS K hK hb8 hbZ hv8 K8 F2 hb9
    have hS := hS8
    clear hS8
    (try simp only [Act.put, List.setIfInBounds_toArray, List.set_cons_zero, List.set_cons_succ])
    refine wpAnyT_one (i := 6) rfl (by kernel_rfl) rfl (fun K hK => ?_)
    simp only [List.getElem_toArray, List.getElem_cons_succ, List.getElem_cons_zero]
    go_simp
    refine hK.out _ _ (fun h => absurd rfl h) ?_
    clear hS K hK hS0
    refine wpAnyT_done (by kernel_rfl) ?_ _
    go_wp2
    exact bodyPost_ret (results_cell_row rfl _ _ (w.heap.size + 1) 38 _ (0, 0) _ rfl (blk3 HK8.out _ _ _) Try.underlying38 rfl (by kernel_rfl)) rfl ⟨_, rfl, HV8.out, HB9.out⟩
  · have g1 : ((d : Int) == 0) = false := beq_eq_false_iff_ne.2 hd
    have hE : a + -(fqd p) = s := by rw [hse]; unfold hasq; rw [if_neg hd]
    have HE := Lib.hid hE
    obtain ⟨wz, hwz⟩ : ∃ W, W = wb := ⟨_, rfl⟩
    obtain ⟨qw, hqw⟩ : ∃ q : Rat, q = a := ⟨_, rfl⟩
    subst hwz
    subst hqw
    have HQW := Lib.hid (HQA.out.below HB0.out)
    have HQP := Lib.hid (show FrQ wz (.agg #[.bool p.1, .slice P1 p.2.1.length p1, .slice P2 p.2.2.length p2]) (fqd p) from ⟨_, _, _, HFP.out.below HB0.out, by omega, rfl⟩)
    have hS0 : (fun (w' : World) => Below wz.heap.size wz w' ∧ w'.cell? ⟨w.heap.size, 0, none⟩ = some (.bool nb) ∧ w'.cell? ⟨w.heap.size, 1, none⟩ = some (.slice X1 n1 x1) ∧ w'.cell? ⟨w.heap.size, 2, none⟩ = some (.slice X2 n2 x2) ∧ w'.cell? ⟨gp, 0, none⟩ = some (.slice (some pd) P.length cp) ∧ w'.cell? (pd.add (j * 3)) = some (.bool p.1) ∧ w'.cell? ⟨(pd.add (j * 3)).block, (pd.add (j * 3)).off + 1, none⟩ = some (.slice P1 p.2.1.length p1) ∧ w'.cell? ⟨(pd.add (j * 3)).block, (pd.add (j * 3)).off + 2, none⟩ = some (.slice P2 p.2.2.length p2)) wz.drew := tc7_next (bl_drew wz) ⟨Below.refl _ _, HKA.out.cell 0, HKA.out.cell 1, HKA.out.cell 2, cell_below HB0.out HGP.out, cell_below HB0.out HF.out.1, cell_below HB0.out HF.out.2.1, cell_below HB0.out HF.out.2.2⟩
    have HBZ := HB0
    have HKE := HKB
    have HS0 := Lib.hid hS0
    clear hse hd hE hS0
    go_upto_region 3 with fail
    clear k0 k1
    have hS0 := HS0.out
    refine wp_region_T (fun (w' : World) => Below wz.heap.size wz w' ∧ w'.cell? ⟨w.heap.size, 0, none⟩ = some (.bool nb) ∧ w'.cell? ⟨w.heap.size, 1, none⟩ = some (.slice X1 n1 x1) ∧ w'.cell? ⟨w.heap.size, 2, none⟩ = some (.slice X2 n2 x2) ∧ w'.cell? ⟨gp, 0, none⟩ = some (.slice (some pd) P.length cp) ∧ w'.cell? (pd.add (j * 3)) = some (.bool p.1) ∧ w'.cell? ⟨(pd.add (j * 3)).block, (pd.add (j * 3)).off + 1, none⟩ = some (.slice P1 p.2.1.length p1) ∧ w'.cell? ⟨(pd.add (j * 3)).block, (pd.add (j * 3)).off + 2, none⟩ = some (.slice P2 p.2.2.length p2)) 6 (by kernel_rfl) ?_
    have hS := hS0
    simp only [List.size_toArray, List.length_cons, List.length_nil, Nat.reduceAdd]
    refine wpAnyT_take 0 (some 13) (v := ?vr2_0) rfl rfl (by kernel_rfl) (by kernel_rfl) (by kernel_rfl) (by kernel_rfl) (fun _ _ _ h => h) rfl ?hyr2_0 hS ?restr2_0
    case hyr2_0 => (intro w hSw; (try dsimp only at hSw); go_simp; (try with_reducible rfl))
    (try simp only [Act.put, List.setIfInBounds_toArray, List.set_cons_zero, List.set_cons_succ])
    refine wpAnyT_take 1 (some 14) (v := ?vr2_1) rfl rfl (by kernel_rfl) (by kernel_rfl) (by kernel_rfl) (by kernel_rfl) (fun _ _ _ h => h) rfl ?hyr2_1 hS ?restr2_1
    case hyr2_1 => (intro w hSw; (try dsimp only at hSw); go_simp; (try with_reducible rfl))
    (try simp only [Act.put, List.setIfInBounds_toArray, List.set_cons_zero, List.set_cons_succ])
    refine wpAnyT_take 2 (some 15) (v := ?vr2_2) rfl rfl (by kernel_rfl) (by kernel_rfl) (by kernel_rfl) (by kernel_rfl) (fun _ _ _ h => h) rfl ?hyr2_2 hS ?restr2_2
    case hyr2_2 => (intro w hSw; (try dsimp only at hSw); go_simp; (try with_reducible rfl))
    (try simp only [Act.put, List.setIfInBounds_toArray, List.set_cons_zero, List.set_cons_succ])
    refine wpAnyT_take 3 (some 16) (v := ?vr2_3) rfl rfl (by kernel_rfl) (by kernel_rfl) (by kernel_rfl) (by kernel_rfl) (fun _ _ _ h => h) rfl ?hyr2_3 hS ?restr2_3
    case hyr2_3 => (intro w hSw; (try dsimp only at hSw); go_simp; (try with_reducible rfl))
    (try simp only [Act.put, List.setIfInBounds_toArray, List.set_cons_zero, List.set_cons_succ])
    refine wpAnyT_take 4 (some 17) (v := ?vr2_4) rfl rfl (by kernel_rfl) (by kernel_rfl) (by kernel_rfl) (by kernel_rfl) (fun _ _ _ h => h) rfl ?hyr2_4 hS ?restr2_4
    case hyr2_4 => (intro w hSw; (try dsimp only at hSw); go_simp; (try with_reducible rfl))
    (try simp only [Act.put, List.setIfInBounds_toArray, List.set_cons_zero, List.set_cons_succ])
    refine wpAnyT_one (i := 5) rfl (by kernel_rfl) rfl (fun K hK => ?_)
    simp only [List.getElem_toArray, List.getElem_cons_succ, List.getElem_cons_zero]
    go_simp
    go_at_call 67
    with_reducible refine (subq _ _ _ qw (fqd p) ?_ ?_ (by rw [HE.out]; exact HSH.out)).mono ?_
    exact HQW.out.below hS.1
    exact HQP.out.below hS.1
    rintro e w8 ⟨v8, rfl, hv8, hb8⟩
    rw [HE.out] at hv8
    obtain ⟨Q1, r1, Q2, r2, rfl, _, _, _, _⟩ := FrIn.shape hv8
    have hS8 := tc7_next hb8 hS
    have hbZ := hS8.1
    have K8 := HKE.out.below hbZ
    have m0 := K8.cell 0
    have m1 := K8.cell 1
    have m2 := K8.cell 2
    have mf := K8.free
    have F2 := FBox.fr K8 (boolne _) (slne _ _ _) (slne _ _ _) (.bool (decide (s.num < 0))) (.slice Q1 (dg s.num.natAbs).length r1) (.slice Q2 (dg s.den).length r2)
    have hb9 := bl_trans HBZ.out hbZ
    have HB9 := Lib.hid (hb9.trans (F2.below hb9.size (fun y hy => by have e : y = w.heap.size + 1 := hy; omega)))
    have HV8 := Lib.hid (F2.keep.fr hv8)
    have HK8 := Lib.hid K8
    refine hK.out _ _ (fun _ => hS8) ?_
    clear hS K hK hb8 hbZ hv8 K8 F2 hb9
    have hS := hS8
    clear hS8
    (try simp only [Act.put, List.setIfInBounds_toArray, List.set_cons_zero, List.set_cons_succ])
    refine wpAnyT_one (i := 6) rfl (by kernel_rfl) rfl (fun K hK => ?_)
    simp only [List.getElem_toArray, List.getElem_cons_succ, List.getElem_cons_zero]
    go_simp
    refine hK.out _ _ (fun h => absurd rfl h) ?_
    clear hS K hK hS0
    refine wpAnyT_done (by kernel_rfl) ?_ _
    go_wp2
    exact bodyPost_ret (results_cell_row rfl _ _ (w.heap.size + 1) 38 _ (0, 0) _ rfl (blk3 HK8.out _ _ _) Try.underlying38 rfl (by kernel_rfl)) rfl ⟨_, rfl, HV8.out, HB9.out⟩

theorem tc4_next {w w1 w2 : World} {a0 a1 a2 a3 : Addr} {x0 x1 x2 x3 : Value} (hb : Below w1.heap.size w1 w2) (h : Below w.heap.size w w1 ∧ w1.cell? a0 = some x0 ∧ w1.cell? a1 = some x1 ∧ w1.cell? a2 = some x2 ∧ w1.cell? a3 = some x3) : Below w.heap.size w w2 ∧ w2.cell? a0 = some x0 ∧ w2.cell? a1 = some x1 ∧ w2.cell? a2 = some x2 ∧ w2.cell? a3 = some x3 := by
  obtain ⟨h, e0, e1, e2, e3⟩ := h
  exact ⟨bl_trans h hb, cell_below hb e0, cell_below hb e1, cell_below hb e2, cell_below hb e3⟩
set_option maxRecDepth 100000 in
set_option maxHeartbeats 16000000 in
theorem thonest_calls (w : World) (A B C : Option Addr) (c cb cp : Nat) (L : List VD) (dl : List Int) (P : List (Bool × List Int × List Int)) (h : VL w (.slice A L.length c) L) (g : IL w (.slice B dl.length cb) dl) (f : FL w (.slice C P.length cp) P) (hf : FewV 1000 L) (hf2 : FewD 1000 P) :
    Calls Try.prog 34 #[.slice A L.length c, .slice B dl.length cb, .slice C P.length cp] w (HonP L dl P w) := by
  have HV := Lib.hid h
  have HD := Lib.hid g
  have HP := Lib.hid f
  have hcc := h.bounds
  have hcb := g.bounds
  have HF := Lib.hid hf
  have HF2 := Lib.hid hf2
  have HWD := Lib.hid h.wd
  have HWP := Lib.hid f.wd
  obtain ⟨wa, hwa⟩ : ∃ W, W = w.alloc (.cells #[.slice B dl.length cb] 28) := ⟨_, rfl⟩
  obtain ⟨wb, hwb⟩ : ∃ W, W = wa.alloc (.cells #[.slice C P.length cp] 31) := ⟨_, rfl⟩
  have sa : wa.heap.size = w.heap.size + 1 := by rw [hwa]; simp
  have ba : Below w.heap.size w wa := by rw [hwa]; exact below_alloc0 _ _
  have bb : Below wa.heap.size wa wb := by rw [hwb]; exact below_alloc0 _ _
  have KA : Blk wa w.heap.size 28 #[.slice B dl.length cb] := by rw [hwa]; exact Blk.new _ _ _
  have KB : Blk wb (w.heap.size + 1) 31 #[.slice C P.length cp] := by rw [hwb, ← sa]; exact Blk.new _ _ _
  have HB0 := Lib.hid (bl_trans ba bb)
  have HK0 := Lib.hid (KA.below bb)
  have HT0 := Lib.hid KB
  have HWB := Lib.hid (show (w.alloc (.cells #[.slice B dl.length cb] 28)).alloc (.cells #[.slice C P.length cp] 31) = wb by rw [hwb, hwa])
  have k0 := HK0.out.cell 0
  have o0 := HT0.out.cell 0
  clear h g f hf hf2 hwa hwb sa ba bb KA KB
  go_enter Try.func34, Try.ntmps34
  go_upto_region 1 with fail
  rw [HWB.out]
  by_cases h12 : 12 < L.length
  · have g1 : decide ((12 : Int) < (L.length : Int)) = true := decide_eq_true (by omega)
    have g2 : (12 : Int) < (L.length : Int) := by omega
    have HN := Lib.hid (show ¬ okH L dl P from fun h => by have := h.1; omega)
    go_wp2
    go_ret3
    exact ⟨-1, -1, false, rfl, .no HN.out, HB0.out⟩
  have g1 : decide ((12 : Int) < (L.length : Int)) = false := decide_eq_false (by omega)
  have g2 : ¬ (12 : Int) < (L.length : Int) := by omega
  by_cases hd : dl.length = L.length
  case neg =>
    have g3 : ((dl.length : Int) != (L.length : Int)) = true := bne_iff_ne.2 (by omega)
    have HN := Lib.hid (show ¬ okH L dl P from fun h => hd h.2.1)
    clear hd
    go_wp2
    go_ret3
    exact ⟨-1, -1, false, rfl, .no HN.out, HB0.out⟩
  have g3 : ((dl.length : Int) != (L.length : Int)) = false := by rw [hd]; simp
  by_cases hp : P.length = L.length
  case neg =>
    have g4 : ((P.length : Int) != (L.length : Int)) = true := bne_iff_ne.2 (by omega)
    have HN := Lib.hid (show ¬ okH L dl P from fun h => hp h.2.2.1)
    clear hp
    go_wp2
    go_ret3
    exact ⟨-1, -1, false, rfl, .no HN.out, HB0.out⟩
  have g4 : ((P.length : Int) != (L.length : Int)) = false := by rw [hp]; simp
  have HDL := Lib.hid hd
  have HPL := Lib.hid hp
  clear hd hp
  go_wp2
  clear g1 g2 g3 g4 k0 o0
  go_loopw [35] (fun i wr => ∃ k : Nat, k ≤ L.length ∧ i = .int .i64 (k : Int) ∧ Below w.heap.size w wr ∧ Blk wr w.heap.size 28 #[.slice B dl.length cb] ∧ Blk wr (w.heap.size + 1) 31 #[.slice C P.length cp] ∧ ∀ j, j < k → ¬ badR (tdOf L) (pday dl) j) (fun i _ => L.length - (intOf i).toNat)
  case atStart => exact ⟨0, by omega, rfl, HB0.out, HK0.out, HT0.out, fun j hj => by omega⟩
  case round =>
    obtain ⟨k, hk, rfl, hb, hK, hT, hgood⟩ := hrel
    have HB := Lib.hid hb
    have HK := Lib.hid hK
    have HT := Lib.hid hT
    have HG := Lib.hid hgood
    clear hgood
    by_cases hx : k < L.length
    · obtain ⟨x, hx1⟩ : ∃ x, L[k]? = some x := ⟨_, List.getElem?_eq_getElem hx⟩
      obtain ⟨d, hd1⟩ : ∃ d, dl[k]? = some d := ⟨_, List.getElem?_eq_getElem (by have := HDL.out; omega)⟩
      obtain ⟨ad, A1, a1, A2, a2, rfl, e0, e1, e2, e3, e4, hfx⟩ := (HV.out.below hb).at hx1
      obtain ⟨bd, rfl, d0⟩ := (HD.out.below hb).at hd1
      have q1 : (k : Int) < (L.length : Int) := by omega
      have q2 : (k : Int) < (dl.length : Int) := by have := HDL.out; omega
      have al := below_alloc0 wr (.cells #[.int .i64 x.1, .int .i64 x.2.1, .bool x.2.2.1, .slice A1 x.2.2.2.1.length a1, .slice A2 x.2.2.2.2.length a2] 40)
      have KV := Blk.new wr 40 #[.int .i64 x.1, .int .i64 x.2.1, .bool x.2.2.1, .slice A1 x.2.2.2.1.length a1, .slice A2 x.2.2.2.2.length a2]
      obtain ⟨wv, hwv⟩ : ∃ W, W = wr.alloc (.cells #[.int .i64 x.1, .int .i64 x.2.1, .bool x.2.2.1, .slice A1 x.2.2.2.1.length a1, .slice A2 x.2.2.2.2.length a2] 40) := ⟨_, rfl⟩
      obtain ⟨gv, hgv⟩ : ∃ g, g = wr.heap.size := ⟨_, rfl⟩
      have HWV := Lib.hid hwv
      have HGV := Lib.hid hgv
      rw [← hwv] at al KV
      rw [← hgv] at KV
      have KD := hK.below al
      have HBV := Lib.hid (bl_trans hb al)
      have HKV := Lib.hid KD
      have HTV := Lib.hid (hT.below al)
      have hs : (fun (w' : World) => Below wv.heap.size wv w' ∧ w'.cell? ⟨gv, 0, none⟩ = some (.int .i64 x.1) ∧ w'.cell? ⟨gv, 1, none⟩ = some (.int .i64 x.2.1) ∧ w'.cell? ⟨w.heap.size, 0, none⟩ = some (.slice (some bd) dl.length cb) ∧ w'.cell? (bd.add k) = some (.int .i64 d)) wv.drew := tc4_next (bl_drew wv) ⟨Below.refl _ _, KV.cell 0, KV.cell 1, KD.cell 0, cell_below al d0⟩
      have HS := Lib.hid hs
      have hbad : badR (tdOf L) (pday dl) k ↔ (x.1 < 1 ∨ x.2.1 < x.1 ∨ (d ≠ 0 ∧ ¬ (x.1 ≤ d ∧ d ≤ x.2.1))) := by
        unfold badR
        rw [(tdOf_at hx1).1, (tdOf_at hx1).2.1, pday_at hd1]
      obtain ⟨bb, hbb⟩ : ∃ b : Bool, b = decide (x.1 < 1 ∨ x.2.1 < x.1 ∨ (d ≠ 0 ∧ ¬ (x.1 ≤ d ∧ d ≤ x.2.1))) := ⟨_, rfl⟩
      have HBAD := Lib.hid hbad
      have HBB := Lib.hid hbb
      have HXL := Lib.hid hx
      clear hb hK hT hx1 hd1 hfx d0 hs hbad hbb al KV KD hwv hgv
      go_upto_region 6 with fail
      rw [← HWV.out, ← HGV.out]
      clear e0 e1 e2 e3 e4
      go_cut [74] (fun t74 wx => t74 = .bool bb ∧ Below wv.heap.size wv wx)
      case first =>
        have hS0 := HS.out
        have hbb := HBB.out
        by_cases h1 : x.1 < 1
        · have g1 : decide (x.1 < 1) = true := decide_eq_true h1
          obtain rfl : bb = true := by rw [hbb]; exact decide_eq_true (.inl h1)
          clear h1 hbb
          go_wp2_with fail
          have hS := hS0
          refine wp_region_held_drew (S := fun (w' : World) => Below wv.heap.size wv w' ∧ w'.cell? ⟨gv, 0, none⟩ = some (.int .i64 x.1) ∧ w'.cell? ⟨gv, 1, none⟩ = some (.int .i64 x.2.1) ∧ w'.cell? ⟨w.heap.size, 0, none⟩ = some (.slice (some bd) dl.length cb) ∧ w'.cell? (bd.add k) = some (.int .i64 d)) (by kernel_rfl) hS (fun _ => ?_)
          simp only [List.size_toArray, List.length_cons, List.length_nil, Nat.reduceAdd]
          refine wpAnyH_takeD 0 (some 40) (v := ?vh1_0) rfl rfl (by kernel_rfl) (by kernel_rfl) (by kernel_rfl) (fun _ _ _ h => h) (.inl ⟨by kernel_rfl, ?hyh1_0⟩) hS ?resth1_0
          case hyh1_0 => (intro w hSw; (try dsimp only at hSw); go_simp; (try with_reducible rfl))
          (try simp only [Act.put, List.setIfInBounds_toArray, List.set_cons_zero, List.set_cons_succ])
          refine wpAnyH_takeD 1 (some 41) (v := ?vh1_1) rfl rfl (by kernel_rfl) (by kernel_rfl) (by kernel_rfl) (fun _ _ _ h => h) (.inl ⟨by kernel_rfl, ?hyh1_1⟩) hS ?resth1_1
          case hyh1_1 => (intro w hSw; (try dsimp only at hSw); go_simp; (try with_reducible rfl))
          (try simp only [Act.put, List.setIfInBounds_toArray, List.set_cons_zero, List.set_cons_succ])
          refine wpAnyH_takeD 2 (some 42) (v := ?vh1_2) rfl rfl (by kernel_rfl) (by kernel_rfl) (by kernel_rfl) (fun _ _ _ h => h) (.inl ⟨by kernel_rfl, ?hyh1_2⟩) hS ?resth1_2
          case hyh1_2 => (intro w hSw; (try dsimp only at hSw); go_simp; (try with_reducible rfl))
          (try simp only [Act.put, List.setIfInBounds_toArray, List.set_cons_zero, List.set_cons_succ])
          refine wpAnyH_takeD 3 (some 43) (v := ?vh1_3) rfl rfl (by kernel_rfl) (by kernel_rfl) (by kernel_rfl) (fun _ _ _ h => h) (.inl ⟨by kernel_rfl, ?hyh1_3⟩) hS ?resth1_3
          case hyh1_3 => (intro w hSw; (try dsimp only at hSw); go_simp; (try with_reducible rfl))
          (try simp only [Act.put, List.setIfInBounds_toArray, List.set_cons_zero, List.set_cons_succ])
          refine wpAnyH_takeD 4 (some 44) (v := undef) rfl rfl (by kernel_rfl) (by kernel_rfl) (by kernel_rfl) (fun _ _ _ h => h) (.inr ⟨by kernel_rfl, rfl⟩) hS ?_
          (try simp only [Act.put, List.setIfInBounds_toArray, List.set_cons_zero, List.set_cons_succ])
          refine wpAnyH_takeD 5 (some 45) (v := undef) rfl rfl (by kernel_rfl) (by kernel_rfl) (by kernel_rfl) (fun _ _ _ h => h) (.inr ⟨by kernel_rfl, rfl⟩) hS ?_
          (try simp only [Act.put, List.setIfInBounds_toArray, List.set_cons_zero, List.set_cons_succ])
          refine wpAnyH_takeD 6 (some 46) (v := undef) rfl rfl (by kernel_rfl) (by kernel_rfl) (by kernel_rfl) (fun _ _ _ h => h) (.inr ⟨by kernel_rfl, rfl⟩) hS ?_
          (try simp only [Act.put, List.setIfInBounds_toArray, List.set_cons_zero, List.set_cons_succ])
          refine wpAnyH_takeD 7 (some 47) (v := undef) rfl rfl (by kernel_rfl) (by kernel_rfl) (by kernel_rfl) (fun _ _ _ h => h) (.inr ⟨by kernel_rfl, rfl⟩) hS ?_
          (try simp only [Act.put, List.setIfInBounds_toArray, List.set_cons_zero, List.set_cons_succ])
          refine wpAnyH_takeD 8 (some 48) (v := undef) rfl rfl (by kernel_rfl) (by kernel_rfl) (by kernel_rfl) (fun _ _ _ h => h) (.inr ⟨by kernel_rfl, rfl⟩) hS ?_
          (try simp only [Act.put, List.setIfInBounds_toArray, List.set_cons_zero, List.set_cons_succ])
          refine wpAnyH_takeD 9 (some 49) (v := ?vh1_9) rfl rfl (by kernel_rfl) (by kernel_rfl) (by kernel_rfl) (fun _ _ _ h => h) (.inl ⟨by kernel_rfl, ?hyh1_9⟩) hS ?resth1_9
          case hyh1_9 => (intro w hSw; (try dsimp only at hSw); go_simp; (try with_reducible rfl))
          (try simp only [Act.put, List.setIfInBounds_toArray, List.set_cons_zero, List.set_cons_succ])
          refine wpAnyH_takeD 10 (some 50) (v := ?vh1_10) rfl rfl (by kernel_rfl) (by kernel_rfl) (by kernel_rfl) (fun _ _ _ h => h) (.inl ⟨by kernel_rfl, ?hyh1_10⟩) hS ?resth1_10
          case hyh1_10 => (intro w hSw; (try dsimp only at hSw); go_simp; (try with_reducible rfl))
          (try simp only [Act.put, List.setIfInBounds_toArray, List.set_cons_zero, List.set_cons_succ])
          refine wpAnyH_takeD 11 (some 51) (v := undef) rfl rfl (by kernel_rfl) (by kernel_rfl) (by kernel_rfl) (fun _ _ _ h => h) (.inr ⟨by kernel_rfl, rfl⟩) hS ?_
          (try simp only [Act.put, List.setIfInBounds_toArray, List.set_cons_zero, List.set_cons_succ])
          refine wpAnyH_takeD 12 (some 52) (v := undef) rfl rfl (by kernel_rfl) (by kernel_rfl) (by kernel_rfl) (fun _ _ _ h => h) (.inr ⟨by kernel_rfl, rfl⟩) hS ?_
          (try simp only [Act.put, List.setIfInBounds_toArray, List.set_cons_zero, List.set_cons_succ])
          refine wpAnyH_takeD 13 (some 53) (v := undef) rfl rfl (by kernel_rfl) (by kernel_rfl) (by kernel_rfl) (fun _ _ _ h => h) (.inr ⟨by kernel_rfl, rfl⟩) hS ?_
          (try simp only [Act.put, List.setIfInBounds_toArray, List.set_cons_zero, List.set_cons_succ])
          refine wpAnyH_takeD 14 (some 54) (v := undef) rfl rfl (by kernel_rfl) (by kernel_rfl) (by kernel_rfl) (fun _ _ _ h => h) (.inr ⟨by kernel_rfl, rfl⟩) hS ?_
          (try simp only [Act.put, List.setIfInBounds_toArray, List.set_cons_zero, List.set_cons_succ])
          refine wpAnyH_takeD 15 (some 55) (v := undef) rfl rfl (by kernel_rfl) (by kernel_rfl) (by kernel_rfl) (fun _ _ _ h => h) (.inr ⟨by kernel_rfl, rfl⟩) hS ?_
          (try simp only [Act.put, List.setIfInBounds_toArray, List.set_cons_zero, List.set_cons_succ])
          refine wpAnyH_takeD 16 (some 56) (v := undef) rfl rfl (by kernel_rfl) (by kernel_rfl) (by kernel_rfl) (fun _ _ _ h => h) (.inr ⟨by kernel_rfl, rfl⟩) hS ?_
          (try simp only [Act.put, List.setIfInBounds_toArray, List.set_cons_zero, List.set_cons_succ])
          refine wpAnyH_takeD 17 (some 57) (v := undef) rfl rfl (by kernel_rfl) (by kernel_rfl) (by kernel_rfl) (fun _ _ _ h => h) (.inr ⟨by kernel_rfl, rfl⟩) hS ?_
          (try simp only [Act.put, List.setIfInBounds_toArray, List.set_cons_zero, List.set_cons_succ])
          refine wpAnyH_takeD 18 (some 58) (v := undef) rfl rfl (by kernel_rfl) (by kernel_rfl) (by kernel_rfl) (fun _ _ _ h => h) (.inr ⟨by kernel_rfl, rfl⟩) hS ?_
          (try simp only [Act.put, List.setIfInBounds_toArray, List.set_cons_zero, List.set_cons_succ])
          refine wpAnyH_takeD 19 (some 59) (v := undef) rfl rfl (by kernel_rfl) (by kernel_rfl) (by kernel_rfl) (fun _ _ _ h => h) (.inr ⟨by kernel_rfl, rfl⟩) hS ?_
          (try simp only [Act.put, List.setIfInBounds_toArray, List.set_cons_zero, List.set_cons_succ])
          refine wpAnyH_takeD 20 (some 60) (v := undef) rfl rfl (by kernel_rfl) (by kernel_rfl) (by kernel_rfl) (fun _ _ _ h => h) (.inr ⟨by kernel_rfl, rfl⟩) hS ?_
          (try simp only [Act.put, List.setIfInBounds_toArray, List.set_cons_zero, List.set_cons_succ])
          refine wpAnyH_takeD 21 (some 61) (v := undef) rfl rfl (by kernel_rfl) (by kernel_rfl) (by kernel_rfl) (fun _ _ _ h => h) (.inr ⟨by kernel_rfl, rfl⟩) hS ?_
          (try simp only [Act.put, List.setIfInBounds_toArray, List.set_cons_zero, List.set_cons_succ])
          refine wpAnyH_takeD 22 (some 62) (v := undef) rfl rfl (by kernel_rfl) (by kernel_rfl) (by kernel_rfl) (fun _ _ _ h => h) (.inr ⟨by kernel_rfl, rfl⟩) hS ?_
          (try simp only [Act.put, List.setIfInBounds_toArray, List.set_cons_zero, List.set_cons_succ])
          refine wpAnyH_takeD 23 (some 63) (v := undef) rfl rfl (by kernel_rfl) (by kernel_rfl) (by kernel_rfl) (fun _ _ _ h => h) (.inr ⟨by kernel_rfl, rfl⟩) hS ?_
          (try simp only [Act.put, List.setIfInBounds_toArray, List.set_cons_zero, List.set_cons_succ])
          refine wpAnyH_takeD 24 (some 64) (v := undef) rfl rfl (by kernel_rfl) (by kernel_rfl) (by kernel_rfl) (fun _ _ _ h => h) (.inr ⟨by kernel_rfl, rfl⟩) hS ?_
          (try simp only [Act.put, List.setIfInBounds_toArray, List.set_cons_zero, List.set_cons_succ])
          refine wpAnyH_takeD 25 (some 65) (v := undef) rfl rfl (by kernel_rfl) (by kernel_rfl) (by kernel_rfl) (fun _ _ _ h => h) (.inr ⟨by kernel_rfl, rfl⟩) hS ?_
          (try simp only [Act.put, List.setIfInBounds_toArray, List.set_cons_zero, List.set_cons_succ])
          refine wpAnyH_takeD 26 (some 66) (v := undef) rfl rfl (by kernel_rfl) (by kernel_rfl) (by kernel_rfl) (fun _ _ _ h => h) (.inr ⟨by kernel_rfl, rfl⟩) hS ?_
          (try simp only [Act.put, List.setIfInBounds_toArray, List.set_cons_zero, List.set_cons_succ])
          refine wpAnyH_takeD 27 (some 67) (v := undef) rfl rfl (by kernel_rfl) (by kernel_rfl) (by kernel_rfl) (fun _ _ _ h => h) (.inr ⟨by kernel_rfl, rfl⟩) hS ?_
          (try simp only [Act.put, List.setIfInBounds_toArray, List.set_cons_zero, List.set_cons_succ])
          refine wpAnyH_takeD 28 (some 68) (v := undef) rfl rfl (by kernel_rfl) (by kernel_rfl) (by kernel_rfl) (fun _ _ _ h => h) (.inr ⟨by kernel_rfl, rfl⟩) hS ?_
          (try simp only [Act.put, List.setIfInBounds_toArray, List.set_cons_zero, List.set_cons_succ])
          refine wpAnyH_takeD 29 (some 69) (v := undef) rfl rfl (by kernel_rfl) (by kernel_rfl) (by kernel_rfl) (fun _ _ _ h => h) (.inr ⟨by kernel_rfl, rfl⟩) hS ?_
          (try simp only [Act.put, List.setIfInBounds_toArray, List.set_cons_zero, List.set_cons_succ])
          refine wpAnyH_takeD 30 (some 70) (v := undef) rfl rfl (by kernel_rfl) (by kernel_rfl) (by kernel_rfl) (fun _ _ _ h => h) (.inr ⟨by kernel_rfl, rfl⟩) hS ?_
          (try simp only [Act.put, List.setIfInBounds_toArray, List.set_cons_zero, List.set_cons_succ])
          refine wpAnyH_takeD 31 (some 71) (v := undef) rfl rfl (by kernel_rfl) (by kernel_rfl) (by kernel_rfl) (fun _ _ _ h => h) (.inr ⟨by kernel_rfl, rfl⟩) hS ?_
          (try simp only [Act.put, List.setIfInBounds_toArray, List.set_cons_zero, List.set_cons_succ])
          refine wpAnyH_takeD 32 (some 72) (v := undef) rfl rfl (by kernel_rfl) (by kernel_rfl) (by kernel_rfl) (fun _ _ _ h => h) (.inr ⟨by kernel_rfl, rfl⟩) hS ?_
          (try simp only [Act.put, List.setIfInBounds_toArray, List.set_cons_zero, List.set_cons_succ])
          refine wpAnyH_takeD 33 (some 73) (v := undef) rfl rfl (by kernel_rfl) (by kernel_rfl) (by kernel_rfl) (fun _ _ _ h => h) (.inr ⟨by kernel_rfl, rfl⟩) hS ?_
          (try simp only [Act.put, List.setIfInBounds_toArray, List.set_cons_zero, List.set_cons_succ])
          refine wpAnyH_takeD 34 (some 74) (v := ?vh1_34) rfl rfl (by kernel_rfl) (by kernel_rfl) (by kernel_rfl) (fun _ _ _ h => h) (.inl ⟨by kernel_rfl, ?hyh1_34⟩) hS ?resth1_34
          case hyh1_34 => (intro w hSw; (try dsimp only at hSw); go_simp; (try with_reducible rfl))
          (try simp only [Act.put, List.setIfInBounds_toArray, List.set_cons_zero, List.set_cons_succ])
          refine wpAnyH_done (by kernel_rfl) ?_ _
          go_wp2
          go_meet
          case rel => exact ⟨rfl, hS.1⟩
        have g1 : decide (x.1 < 1) = false := decide_eq_false h1
        by_cases h2 : x.2.1 < x.1
        · have g2 : decide (x.2.1 < x.1) = true := decide_eq_true h2
          obtain rfl : bb = true := by rw [hbb]; exact decide_eq_true (.inr (.inl h2))
          clear h1 h2 hbb
          go_wp2_with fail
          have hS := hS0
          refine wp_region_held_drew (S := fun (w' : World) => Below wv.heap.size wv w' ∧ w'.cell? ⟨gv, 0, none⟩ = some (.int .i64 x.1) ∧ w'.cell? ⟨gv, 1, none⟩ = some (.int .i64 x.2.1) ∧ w'.cell? ⟨w.heap.size, 0, none⟩ = some (.slice (some bd) dl.length cb) ∧ w'.cell? (bd.add k) = some (.int .i64 d)) (by kernel_rfl) hS (fun _ => ?_)
          simp only [List.size_toArray, List.length_cons, List.length_nil, Nat.reduceAdd]
          refine wpAnyH_takeD 0 (some 40) (v := ?vh2_0) rfl rfl (by kernel_rfl) (by kernel_rfl) (by kernel_rfl) (fun _ _ _ h => h) (.inl ⟨by kernel_rfl, ?hyh2_0⟩) hS ?resth2_0
          case hyh2_0 => (intro w hSw; (try dsimp only at hSw); go_simp; (try with_reducible rfl))
          (try simp only [Act.put, List.setIfInBounds_toArray, List.set_cons_zero, List.set_cons_succ])
          refine wpAnyH_takeD 1 (some 41) (v := ?vh2_1) rfl rfl (by kernel_rfl) (by kernel_rfl) (by kernel_rfl) (fun _ _ _ h => h) (.inl ⟨by kernel_rfl, ?hyh2_1⟩) hS ?resth2_1
          case hyh2_1 => (intro w hSw; (try dsimp only at hSw); go_simp; (try with_reducible rfl))
          (try simp only [Act.put, List.setIfInBounds_toArray, List.set_cons_zero, List.set_cons_succ])
          refine wpAnyH_takeD 2 (some 42) (v := ?vh2_2) rfl rfl (by kernel_rfl) (by kernel_rfl) (by kernel_rfl) (fun _ _ _ h => h) (.inl ⟨by kernel_rfl, ?hyh2_2⟩) hS ?resth2_2
          case hyh2_2 => (intro w hSw; (try dsimp only at hSw); go_simp; (try with_reducible rfl))
          (try simp only [Act.put, List.setIfInBounds_toArray, List.set_cons_zero, List.set_cons_succ])
          refine wpAnyH_takeD 3 (some 43) (v := ?vh2_3) rfl rfl (by kernel_rfl) (by kernel_rfl) (by kernel_rfl) (fun _ _ _ h => h) (.inl ⟨by kernel_rfl, ?hyh2_3⟩) hS ?resth2_3
          case hyh2_3 => (intro w hSw; (try dsimp only at hSw); go_simp; (try with_reducible rfl))
          (try simp only [Act.put, List.setIfInBounds_toArray, List.set_cons_zero, List.set_cons_succ])
          refine wpAnyH_takeD 4 (some 44) (v := ?vh2_4) rfl rfl (by kernel_rfl) (by kernel_rfl) (by kernel_rfl) (fun _ _ _ h => h) (.inl ⟨by kernel_rfl, ?hyh2_4⟩) hS ?resth2_4
          case hyh2_4 => (intro w hSw; (try dsimp only at hSw); go_simp; (try with_reducible rfl))
          (try simp only [Act.put, List.setIfInBounds_toArray, List.set_cons_zero, List.set_cons_succ])
          refine wpAnyH_takeD 5 (some 45) (v := ?vh2_5) rfl rfl (by kernel_rfl) (by kernel_rfl) (by kernel_rfl) (fun _ _ _ h => h) (.inl ⟨by kernel_rfl, ?hyh2_5⟩) hS ?resth2_5
          case hyh2_5 => (intro w hSw; (try dsimp only at hSw); go_simp; (try with_reducible rfl))
          (try simp only [Act.put, List.setIfInBounds_toArray, List.set_cons_zero, List.set_cons_succ])
          refine wpAnyH_takeD 6 (some 46) (v := ?vh2_6) rfl rfl (by kernel_rfl) (by kernel_rfl) (by kernel_rfl) (fun _ _ _ h => h) (.inl ⟨by kernel_rfl, ?hyh2_6⟩) hS ?resth2_6
          case hyh2_6 => (intro w hSw; (try dsimp only at hSw); go_simp; (try with_reducible rfl))
          (try simp only [Act.put, List.setIfInBounds_toArray, List.set_cons_zero, List.set_cons_succ])
          refine wpAnyH_takeD 7 (some 47) (v := ?vh2_7) rfl rfl (by kernel_rfl) (by kernel_rfl) (by kernel_rfl) (fun _ _ _ h => h) (.inl ⟨by kernel_rfl, ?hyh2_7⟩) hS ?resth2_7
          case hyh2_7 => (intro w hSw; (try dsimp only at hSw); go_simp; (try with_reducible rfl))
          (try simp only [Act.put, List.setIfInBounds_toArray, List.set_cons_zero, List.set_cons_succ])
          refine wpAnyH_takeD 8 (some 48) (v := ?vh2_8) rfl rfl (by kernel_rfl) (by kernel_rfl) (by kernel_rfl) (fun _ _ _ h => h) (.inl ⟨by kernel_rfl, ?hyh2_8⟩) hS ?resth2_8
          case hyh2_8 => (intro w hSw; (try dsimp only at hSw); go_simp; (try with_reducible rfl))
          (try simp only [Act.put, List.setIfInBounds_toArray, List.set_cons_zero, List.set_cons_succ])
          refine wpAnyH_takeD 9 (some 49) (v := ?vh2_9) rfl rfl (by kernel_rfl) (by kernel_rfl) (by kernel_rfl) (fun _ _ _ h => h) (.inl ⟨by kernel_rfl, ?hyh2_9⟩) hS ?resth2_9
          case hyh2_9 => (intro w hSw; (try dsimp only at hSw); go_simp; (try with_reducible rfl))
          (try simp only [Act.put, List.setIfInBounds_toArray, List.set_cons_zero, List.set_cons_succ])
          refine wpAnyH_takeD 10 (some 50) (v := ?vh2_10) rfl rfl (by kernel_rfl) (by kernel_rfl) (by kernel_rfl) (fun _ _ _ h => h) (.inl ⟨by kernel_rfl, ?hyh2_10⟩) hS ?resth2_10
          case hyh2_10 => (intro w hSw; (try dsimp only at hSw); go_simp; (try with_reducible rfl))
          (try simp only [Act.put, List.setIfInBounds_toArray, List.set_cons_zero, List.set_cons_succ])
          refine wpAnyH_takeD 11 (some 51) (v := undef) rfl rfl (by kernel_rfl) (by kernel_rfl) (by kernel_rfl) (fun _ _ _ h => h) (.inr ⟨by kernel_rfl, rfl⟩) hS ?_
          (try simp only [Act.put, List.setIfInBounds_toArray, List.set_cons_zero, List.set_cons_succ])
          refine wpAnyH_takeD 12 (some 52) (v := undef) rfl rfl (by kernel_rfl) (by kernel_rfl) (by kernel_rfl) (fun _ _ _ h => h) (.inr ⟨by kernel_rfl, rfl⟩) hS ?_
          (try simp only [Act.put, List.setIfInBounds_toArray, List.set_cons_zero, List.set_cons_succ])
          refine wpAnyH_takeD 13 (some 53) (v := undef) rfl rfl (by kernel_rfl) (by kernel_rfl) (by kernel_rfl) (fun _ _ _ h => h) (.inr ⟨by kernel_rfl, rfl⟩) hS ?_
          (try simp only [Act.put, List.setIfInBounds_toArray, List.set_cons_zero, List.set_cons_succ])
          refine wpAnyH_takeD 14 (some 54) (v := undef) rfl rfl (by kernel_rfl) (by kernel_rfl) (by kernel_rfl) (fun _ _ _ h => h) (.inr ⟨by kernel_rfl, rfl⟩) hS ?_
          (try simp only [Act.put, List.setIfInBounds_toArray, List.set_cons_zero, List.set_cons_succ])
          refine wpAnyH_takeD 15 (some 55) (v := undef) rfl rfl (by kernel_rfl) (by kernel_rfl) (by kernel_rfl) (fun _ _ _ h => h) (.inr ⟨by kernel_rfl, rfl⟩) hS ?_
          (try simp only [Act.put, List.setIfInBounds_toArray, List.set_cons_zero, List.set_cons_succ])
          refine wpAnyH_takeD 16 (some 56) (v := undef) rfl rfl (by kernel_rfl) (by kernel_rfl) (by kernel_rfl) (fun _ _ _ h => h) (.inr ⟨by kernel_rfl, rfl⟩) hS ?_
          (try simp only [Act.put, List.setIfInBounds_toArray, List.set_cons_zero, List.set_cons_succ])
          refine wpAnyH_takeD 17 (some 57) (v := undef) rfl rfl (by kernel_rfl) (by kernel_rfl) (by kernel_rfl) (fun _ _ _ h => h) (.inr ⟨by kernel_rfl, rfl⟩) hS ?_
          (try simp only [Act.put, List.setIfInBounds_toArray, List.set_cons_zero, List.set_cons_succ])
          refine wpAnyH_takeD 18 (some 58) (v := undef) rfl rfl (by kernel_rfl) (by kernel_rfl) (by kernel_rfl) (fun _ _ _ h => h) (.inr ⟨by kernel_rfl, rfl⟩) hS ?_
          (try simp only [Act.put, List.setIfInBounds_toArray, List.set_cons_zero, List.set_cons_succ])
          refine wpAnyH_takeD 19 (some 59) (v := undef) rfl rfl (by kernel_rfl) (by kernel_rfl) (by kernel_rfl) (fun _ _ _ h => h) (.inr ⟨by kernel_rfl, rfl⟩) hS ?_
          (try simp only [Act.put, List.setIfInBounds_toArray, List.set_cons_zero, List.set_cons_succ])
          refine wpAnyH_takeD 20 (some 60) (v := undef) rfl rfl (by kernel_rfl) (by kernel_rfl) (by kernel_rfl) (fun _ _ _ h => h) (.inr ⟨by kernel_rfl, rfl⟩) hS ?_
          (try simp only [Act.put, List.setIfInBounds_toArray, List.set_cons_zero, List.set_cons_succ])
          refine wpAnyH_takeD 21 (some 61) (v := undef) rfl rfl (by kernel_rfl) (by kernel_rfl) (by kernel_rfl) (fun _ _ _ h => h) (.inr ⟨by kernel_rfl, rfl⟩) hS ?_
          (try simp only [Act.put, List.setIfInBounds_toArray, List.set_cons_zero, List.set_cons_succ])
          refine wpAnyH_takeD 22 (some 62) (v := undef) rfl rfl (by kernel_rfl) (by kernel_rfl) (by kernel_rfl) (fun _ _ _ h => h) (.inr ⟨by kernel_rfl, rfl⟩) hS ?_
          (try simp only [Act.put, List.setIfInBounds_toArray, List.set_cons_zero, List.set_cons_succ])
          refine wpAnyH_takeD 23 (some 63) (v := undef) rfl rfl (by kernel_rfl) (by kernel_rfl) (by kernel_rfl) (fun _ _ _ h => h) (.inr ⟨by kernel_rfl, rfl⟩) hS ?_
          (try simp only [Act.put, List.setIfInBounds_toArray, List.set_cons_zero, List.set_cons_succ])
          refine wpAnyH_takeD 24 (some 64) (v := undef) rfl rfl (by kernel_rfl) (by kernel_rfl) (by kernel_rfl) (fun _ _ _ h => h) (.inr ⟨by kernel_rfl, rfl⟩) hS ?_
          (try simp only [Act.put, List.setIfInBounds_toArray, List.set_cons_zero, List.set_cons_succ])
          refine wpAnyH_takeD 25 (some 65) (v := undef) rfl rfl (by kernel_rfl) (by kernel_rfl) (by kernel_rfl) (fun _ _ _ h => h) (.inr ⟨by kernel_rfl, rfl⟩) hS ?_
          (try simp only [Act.put, List.setIfInBounds_toArray, List.set_cons_zero, List.set_cons_succ])
          refine wpAnyH_takeD 26 (some 66) (v := undef) rfl rfl (by kernel_rfl) (by kernel_rfl) (by kernel_rfl) (fun _ _ _ h => h) (.inr ⟨by kernel_rfl, rfl⟩) hS ?_
          (try simp only [Act.put, List.setIfInBounds_toArray, List.set_cons_zero, List.set_cons_succ])
          refine wpAnyH_takeD 27 (some 67) (v := undef) rfl rfl (by kernel_rfl) (by kernel_rfl) (by kernel_rfl) (fun _ _ _ h => h) (.inr ⟨by kernel_rfl, rfl⟩) hS ?_
          (try simp only [Act.put, List.setIfInBounds_toArray, List.set_cons_zero, List.set_cons_succ])
          refine wpAnyH_takeD 28 (some 68) (v := undef) rfl rfl (by kernel_rfl) (by kernel_rfl) (by kernel_rfl) (fun _ _ _ h => h) (.inr ⟨by kernel_rfl, rfl⟩) hS ?_
          (try simp only [Act.put, List.setIfInBounds_toArray, List.set_cons_zero, List.set_cons_succ])
          refine wpAnyH_takeD 29 (some 69) (v := undef) rfl rfl (by kernel_rfl) (by kernel_rfl) (by kernel_rfl) (fun _ _ _ h => h) (.inr ⟨by kernel_rfl, rfl⟩) hS ?_
          (try simp only [Act.put, List.setIfInBounds_toArray, List.set_cons_zero, List.set_cons_succ])
          refine wpAnyH_takeD 30 (some 70) (v := undef) rfl rfl (by kernel_rfl) (by kernel_rfl) (by kernel_rfl) (fun _ _ _ h => h) (.inr ⟨by kernel_rfl, rfl⟩) hS ?_
          (try simp only [Act.put, List.setIfInBounds_toArray, List.set_cons_zero, List.set_cons_succ])
          refine wpAnyH_takeD 31 (some 71) (v := undef) rfl rfl (by kernel_rfl) (by kernel_rfl) (by kernel_rfl) (fun _ _ _ h => h) (.inr ⟨by kernel_rfl, rfl⟩) hS ?_
          (try simp only [Act.put, List.setIfInBounds_toArray, List.set_cons_zero, List.set_cons_succ])
          refine wpAnyH_takeD 32 (some 72) (v := undef) rfl rfl (by kernel_rfl) (by kernel_rfl) (by kernel_rfl) (fun _ _ _ h => h) (.inr ⟨by kernel_rfl, rfl⟩) hS ?_
          (try simp only [Act.put, List.setIfInBounds_toArray, List.set_cons_zero, List.set_cons_succ])
          refine wpAnyH_takeD 33 (some 73) (v := undef) rfl rfl (by kernel_rfl) (by kernel_rfl) (by kernel_rfl) (fun _ _ _ h => h) (.inr ⟨by kernel_rfl, rfl⟩) hS ?_
          (try simp only [Act.put, List.setIfInBounds_toArray, List.set_cons_zero, List.set_cons_succ])
          refine wpAnyH_takeD 34 (some 74) (v := ?vh2_34) rfl rfl (by kernel_rfl) (by kernel_rfl) (by kernel_rfl) (fun _ _ _ h => h) (.inl ⟨by kernel_rfl, ?hyh2_34⟩) hS ?resth2_34
          case hyh2_34 => (intro w hSw; (try dsimp only at hSw); go_simp; (try with_reducible rfl))
          (try simp only [Act.put, List.setIfInBounds_toArray, List.set_cons_zero, List.set_cons_succ])
          refine wpAnyH_done (by kernel_rfl) ?_ _
          go_wp2
          go_meet
          case rel => exact ⟨rfl, hS.1⟩
        have g2 : decide (x.2.1 < x.1) = false := decide_eq_false h2
        by_cases h3 : d = 0
        · have g3 : ((d : Int) != 0) = false := by rw [h3]; rfl
          obtain rfl : bb = false := by rw [hbb]; exact decide_eq_false (fun h => by rcases h with h | h | h; exact h1 h; exact h2 h; exact h.1 h3)
          clear h1 h2 h3 hbb
          go_wp2_with fail
          have hS := hS0
          refine wp_region_held_drew (S := fun (w' : World) => Below wv.heap.size wv w' ∧ w'.cell? ⟨gv, 0, none⟩ = some (.int .i64 x.1) ∧ w'.cell? ⟨gv, 1, none⟩ = some (.int .i64 x.2.1) ∧ w'.cell? ⟨w.heap.size, 0, none⟩ = some (.slice (some bd) dl.length cb) ∧ w'.cell? (bd.add k) = some (.int .i64 d)) (by kernel_rfl) hS (fun _ => ?_)
          simp only [List.size_toArray, List.length_cons, List.length_nil, Nat.reduceAdd]
          refine wpAnyH_takeD 0 (some 40) (v := ?vh3_0) rfl rfl (by kernel_rfl) (by kernel_rfl) (by kernel_rfl) (fun _ _ _ h => h) (.inl ⟨by kernel_rfl, ?hyh3_0⟩) hS ?resth3_0
          case hyh3_0 => (intro w hSw; (try dsimp only at hSw); go_simp; (try with_reducible rfl))
          (try simp only [Act.put, List.setIfInBounds_toArray, List.set_cons_zero, List.set_cons_succ])
          refine wpAnyH_takeD 1 (some 41) (v := ?vh3_1) rfl rfl (by kernel_rfl) (by kernel_rfl) (by kernel_rfl) (fun _ _ _ h => h) (.inl ⟨by kernel_rfl, ?hyh3_1⟩) hS ?resth3_1
          case hyh3_1 => (intro w hSw; (try dsimp only at hSw); go_simp; (try with_reducible rfl))
          (try simp only [Act.put, List.setIfInBounds_toArray, List.set_cons_zero, List.set_cons_succ])
          refine wpAnyH_takeD 2 (some 42) (v := ?vh3_2) rfl rfl (by kernel_rfl) (by kernel_rfl) (by kernel_rfl) (fun _ _ _ h => h) (.inl ⟨by kernel_rfl, ?hyh3_2⟩) hS ?resth3_2
          case hyh3_2 => (intro w hSw; (try dsimp only at hSw); go_simp; (try with_reducible rfl))
          (try simp only [Act.put, List.setIfInBounds_toArray, List.set_cons_zero, List.set_cons_succ])
          refine wpAnyH_takeD 3 (some 43) (v := ?vh3_3) rfl rfl (by kernel_rfl) (by kernel_rfl) (by kernel_rfl) (fun _ _ _ h => h) (.inl ⟨by kernel_rfl, ?hyh3_3⟩) hS ?resth3_3
          case hyh3_3 => (intro w hSw; (try dsimp only at hSw); go_simp; (try with_reducible rfl))
          (try simp only [Act.put, List.setIfInBounds_toArray, List.set_cons_zero, List.set_cons_succ])
          refine wpAnyH_takeD 4 (some 44) (v := ?vh3_4) rfl rfl (by kernel_rfl) (by kernel_rfl) (by kernel_rfl) (fun _ _ _ h => h) (.inl ⟨by kernel_rfl, ?hyh3_4⟩) hS ?resth3_4
          case hyh3_4 => (intro w hSw; (try dsimp only at hSw); go_simp; (try with_reducible rfl))
          (try simp only [Act.put, List.setIfInBounds_toArray, List.set_cons_zero, List.set_cons_succ])
          refine wpAnyH_takeD 5 (some 45) (v := ?vh3_5) rfl rfl (by kernel_rfl) (by kernel_rfl) (by kernel_rfl) (fun _ _ _ h => h) (.inl ⟨by kernel_rfl, ?hyh3_5⟩) hS ?resth3_5
          case hyh3_5 => (intro w hSw; (try dsimp only at hSw); go_simp; (try with_reducible rfl))
          (try simp only [Act.put, List.setIfInBounds_toArray, List.set_cons_zero, List.set_cons_succ])
          refine wpAnyH_takeD 6 (some 46) (v := ?vh3_6) rfl rfl (by kernel_rfl) (by kernel_rfl) (by kernel_rfl) (fun _ _ _ h => h) (.inl ⟨by kernel_rfl, ?hyh3_6⟩) hS ?resth3_6
          case hyh3_6 => (intro w hSw; (try dsimp only at hSw); go_simp; (try with_reducible rfl))
          (try simp only [Act.put, List.setIfInBounds_toArray, List.set_cons_zero, List.set_cons_succ])
          refine wpAnyH_takeD 7 (some 47) (v := ?vh3_7) rfl rfl (by kernel_rfl) (by kernel_rfl) (by kernel_rfl) (fun _ _ _ h => h) (.inl ⟨by kernel_rfl, ?hyh3_7⟩) hS ?resth3_7
          case hyh3_7 => (intro w hSw; (try dsimp only at hSw); go_simp; (try with_reducible rfl))
          (try simp only [Act.put, List.setIfInBounds_toArray, List.set_cons_zero, List.set_cons_succ])
          refine wpAnyH_takeD 8 (some 48) (v := ?vh3_8) rfl rfl (by kernel_rfl) (by kernel_rfl) (by kernel_rfl) (fun _ _ _ h => h) (.inl ⟨by kernel_rfl, ?hyh3_8⟩) hS ?resth3_8
          case hyh3_8 => (intro w hSw; (try dsimp only at hSw); go_simp; (try with_reducible rfl))
          (try simp only [Act.put, List.setIfInBounds_toArray, List.set_cons_zero, List.set_cons_succ])
          refine wpAnyH_takeD 9 (some 49) (v := ?vh3_9) rfl rfl (by kernel_rfl) (by kernel_rfl) (by kernel_rfl) (fun _ _ _ h => h) (.inl ⟨by kernel_rfl, ?hyh3_9⟩) hS ?resth3_9
          case hyh3_9 => (intro w hSw; (try dsimp only at hSw); go_simp; (try with_reducible rfl))
          (try simp only [Act.put, List.setIfInBounds_toArray, List.set_cons_zero, List.set_cons_succ])
          refine wpAnyH_takeD 10 (some 50) (v := ?vh3_10) rfl rfl (by kernel_rfl) (by kernel_rfl) (by kernel_rfl) (fun _ _ _ h => h) (.inl ⟨by kernel_rfl, ?hyh3_10⟩) hS ?resth3_10
          case hyh3_10 => (intro w hSw; (try dsimp only at hSw); go_simp; (try with_reducible rfl))
          (try simp only [Act.put, List.setIfInBounds_toArray, List.set_cons_zero, List.set_cons_succ])
          refine wpAnyH_takeD 11 (some 51) (v := ?vh3_11) rfl rfl (by kernel_rfl) (by kernel_rfl) (by kernel_rfl) (fun _ _ _ h => h) (.inl ⟨by kernel_rfl, ?hyh3_11⟩) hS ?resth3_11
          case hyh3_11 => (intro w hSw; (try dsimp only at hSw); go_simp; (try with_reducible rfl))
          (try simp only [Act.put, List.setIfInBounds_toArray, List.set_cons_zero, List.set_cons_succ])
          refine wpAnyH_takeD 12 (some 52) (v := ?vh3_12) rfl rfl (by kernel_rfl) (by kernel_rfl) (by kernel_rfl) (fun _ _ _ h => h) (.inl ⟨by kernel_rfl, ?hyh3_12⟩) hS ?resth3_12
          case hyh3_12 => (intro w hSw; (try dsimp only at hSw); go_simp; (try with_reducible rfl))
          (try simp only [Act.put, List.setIfInBounds_toArray, List.set_cons_zero, List.set_cons_succ])
          refine wpAnyH_takeD 13 (some 53) (v := ?vh3_13) rfl rfl (by kernel_rfl) (by kernel_rfl) (by kernel_rfl) (fun _ _ _ h => h) (.inl ⟨by kernel_rfl, ?hyh3_13⟩) hS ?resth3_13
          case hyh3_13 => (intro w hSw; (try dsimp only at hSw); go_simp; (try with_reducible rfl))
          (try simp only [Act.put, List.setIfInBounds_toArray, List.set_cons_zero, List.set_cons_succ])
          refine wpAnyH_takeD 14 (some 54) (v := ?vh3_14) rfl rfl (by kernel_rfl) (by kernel_rfl) (by kernel_rfl) (fun _ _ _ h => h) (.inl ⟨by kernel_rfl, ?hyh3_14⟩) hS ?resth3_14
          case hyh3_14 => (intro w hSw; (try dsimp only at hSw); go_simp; (try with_reducible rfl))
          (try simp only [Act.put, List.setIfInBounds_toArray, List.set_cons_zero, List.set_cons_succ])
          refine wpAnyH_takeD 15 (some 55) (v := ?vh3_15) rfl rfl (by kernel_rfl) (by kernel_rfl) (by kernel_rfl) (fun _ _ _ h => h) (.inl ⟨by kernel_rfl, ?hyh3_15⟩) hS ?resth3_15
          case hyh3_15 => (intro w hSw; (try dsimp only at hSw); go_simp; (try with_reducible rfl))
          (try simp only [Act.put, List.setIfInBounds_toArray, List.set_cons_zero, List.set_cons_succ])
          refine wpAnyH_takeD 16 (some 56) (v := ?vh3_16) rfl rfl (by kernel_rfl) (by kernel_rfl) (by kernel_rfl) (fun _ _ _ h => h) (.inl ⟨by kernel_rfl, ?hyh3_16⟩) hS ?resth3_16
          case hyh3_16 => (intro w hSw; (try dsimp only at hSw); go_simp; (try with_reducible rfl))
          (try simp only [Act.put, List.setIfInBounds_toArray, List.set_cons_zero, List.set_cons_succ])
          refine wpAnyH_takeD 17 (some 57) (v := undef) rfl rfl (by kernel_rfl) (by kernel_rfl) (by kernel_rfl) (fun _ _ _ h => h) (.inr ⟨by kernel_rfl, rfl⟩) hS ?_
          (try simp only [Act.put, List.setIfInBounds_toArray, List.set_cons_zero, List.set_cons_succ])
          refine wpAnyH_takeD 18 (some 58) (v := undef) rfl rfl (by kernel_rfl) (by kernel_rfl) (by kernel_rfl) (fun _ _ _ h => h) (.inr ⟨by kernel_rfl, rfl⟩) hS ?_
          (try simp only [Act.put, List.setIfInBounds_toArray, List.set_cons_zero, List.set_cons_succ])
          refine wpAnyH_takeD 19 (some 59) (v := undef) rfl rfl (by kernel_rfl) (by kernel_rfl) (by kernel_rfl) (fun _ _ _ h => h) (.inr ⟨by kernel_rfl, rfl⟩) hS ?_
          (try simp only [Act.put, List.setIfInBounds_toArray, List.set_cons_zero, List.set_cons_succ])
          refine wpAnyH_takeD 20 (some 60) (v := undef) rfl rfl (by kernel_rfl) (by kernel_rfl) (by kernel_rfl) (fun _ _ _ h => h) (.inr ⟨by kernel_rfl, rfl⟩) hS ?_
          (try simp only [Act.put, List.setIfInBounds_toArray, List.set_cons_zero, List.set_cons_succ])
          refine wpAnyH_takeD 21 (some 61) (v := undef) rfl rfl (by kernel_rfl) (by kernel_rfl) (by kernel_rfl) (fun _ _ _ h => h) (.inr ⟨by kernel_rfl, rfl⟩) hS ?_
          (try simp only [Act.put, List.setIfInBounds_toArray, List.set_cons_zero, List.set_cons_succ])
          refine wpAnyH_takeD 22 (some 62) (v := undef) rfl rfl (by kernel_rfl) (by kernel_rfl) (by kernel_rfl) (fun _ _ _ h => h) (.inr ⟨by kernel_rfl, rfl⟩) hS ?_
          (try simp only [Act.put, List.setIfInBounds_toArray, List.set_cons_zero, List.set_cons_succ])
          refine wpAnyH_takeD 23 (some 63) (v := undef) rfl rfl (by kernel_rfl) (by kernel_rfl) (by kernel_rfl) (fun _ _ _ h => h) (.inr ⟨by kernel_rfl, rfl⟩) hS ?_
          (try simp only [Act.put, List.setIfInBounds_toArray, List.set_cons_zero, List.set_cons_succ])
          refine wpAnyH_takeD 24 (some 64) (v := undef) rfl rfl (by kernel_rfl) (by kernel_rfl) (by kernel_rfl) (fun _ _ _ h => h) (.inr ⟨by kernel_rfl, rfl⟩) hS ?_
          (try simp only [Act.put, List.setIfInBounds_toArray, List.set_cons_zero, List.set_cons_succ])
          refine wpAnyH_takeD 25 (some 65) (v := undef) rfl rfl (by kernel_rfl) (by kernel_rfl) (by kernel_rfl) (fun _ _ _ h => h) (.inr ⟨by kernel_rfl, rfl⟩) hS ?_
          (try simp only [Act.put, List.setIfInBounds_toArray, List.set_cons_zero, List.set_cons_succ])
          refine wpAnyH_takeD 26 (some 66) (v := undef) rfl rfl (by kernel_rfl) (by kernel_rfl) (by kernel_rfl) (fun _ _ _ h => h) (.inr ⟨by kernel_rfl, rfl⟩) hS ?_
          (try simp only [Act.put, List.setIfInBounds_toArray, List.set_cons_zero, List.set_cons_succ])
          refine wpAnyH_takeD 27 (some 67) (v := undef) rfl rfl (by kernel_rfl) (by kernel_rfl) (by kernel_rfl) (fun _ _ _ h => h) (.inr ⟨by kernel_rfl, rfl⟩) hS ?_
          (try simp only [Act.put, List.setIfInBounds_toArray, List.set_cons_zero, List.set_cons_succ])
          refine wpAnyH_takeD 28 (some 68) (v := undef) rfl rfl (by kernel_rfl) (by kernel_rfl) (by kernel_rfl) (fun _ _ _ h => h) (.inr ⟨by kernel_rfl, rfl⟩) hS ?_
          (try simp only [Act.put, List.setIfInBounds_toArray, List.set_cons_zero, List.set_cons_succ])
          refine wpAnyH_takeD 29 (some 69) (v := undef) rfl rfl (by kernel_rfl) (by kernel_rfl) (by kernel_rfl) (fun _ _ _ h => h) (.inr ⟨by kernel_rfl, rfl⟩) hS ?_
          (try simp only [Act.put, List.setIfInBounds_toArray, List.set_cons_zero, List.set_cons_succ])
          refine wpAnyH_takeD 30 (some 70) (v := undef) rfl rfl (by kernel_rfl) (by kernel_rfl) (by kernel_rfl) (fun _ _ _ h => h) (.inr ⟨by kernel_rfl, rfl⟩) hS ?_
          (try simp only [Act.put, List.setIfInBounds_toArray, List.set_cons_zero, List.set_cons_succ])
          refine wpAnyH_takeD 31 (some 71) (v := undef) rfl rfl (by kernel_rfl) (by kernel_rfl) (by kernel_rfl) (fun _ _ _ h => h) (.inr ⟨by kernel_rfl, rfl⟩) hS ?_
          (try simp only [Act.put, List.setIfInBounds_toArray, List.set_cons_zero, List.set_cons_succ])
          refine wpAnyH_takeD 32 (some 72) (v := undef) rfl rfl (by kernel_rfl) (by kernel_rfl) (by kernel_rfl) (fun _ _ _ h => h) (.inr ⟨by kernel_rfl, rfl⟩) hS ?_
          (try simp only [Act.put, List.setIfInBounds_toArray, List.set_cons_zero, List.set_cons_succ])
          refine wpAnyH_takeD 33 (some 73) (v := ?vh3_33) rfl rfl (by kernel_rfl) (by kernel_rfl) (by kernel_rfl) (fun _ _ _ h => h) (.inl ⟨by kernel_rfl, ?hyh3_33⟩) hS ?resth3_33
          case hyh3_33 => (intro w hSw; (try dsimp only at hSw); go_simp; (try with_reducible rfl))
          (try simp only [Act.put, List.setIfInBounds_toArray, List.set_cons_zero, List.set_cons_succ])
          refine wpAnyH_takeD 34 (some 74) (v := ?vh3_34) rfl rfl (by kernel_rfl) (by kernel_rfl) (by kernel_rfl) (fun _ _ _ h => h) (.inl ⟨by kernel_rfl, ?hyh3_34⟩) hS ?resth3_34
          case hyh3_34 => (intro w hSw; (try dsimp only at hSw); go_simp; (try with_reducible rfl))
          (try simp only [Act.put, List.setIfInBounds_toArray, List.set_cons_zero, List.set_cons_succ])
          refine wpAnyH_done (by kernel_rfl) ?_ _
          go_wp2
          go_meet
          case rel => exact ⟨rfl, hS.1⟩
        have g3 : ((d : Int) != 0) = true := bne_iff_ne.2 h3
        by_cases h4 : d < x.1
        · have g4 : decide (d < x.1) = true := decide_eq_true h4
          obtain rfl : bb = true := by rw [hbb]; exact decide_eq_true (.inr (.inr ⟨h3, fun h => by omega⟩))
          clear h1 h2 h3 h4 hbb
          go_wp2_with fail
          have hS := hS0
          refine wp_region_held_drew (S := fun (w' : World) => Below wv.heap.size wv w' ∧ w'.cell? ⟨gv, 0, none⟩ = some (.int .i64 x.1) ∧ w'.cell? ⟨gv, 1, none⟩ = some (.int .i64 x.2.1) ∧ w'.cell? ⟨w.heap.size, 0, none⟩ = some (.slice (some bd) dl.length cb) ∧ w'.cell? (bd.add k) = some (.int .i64 d)) (by kernel_rfl) hS (fun _ => ?_)
          simp only [List.size_toArray, List.length_cons, List.length_nil, Nat.reduceAdd]
          refine wpAnyH_takeD 0 (some 40) (v := ?vh4_0) rfl rfl (by kernel_rfl) (by kernel_rfl) (by kernel_rfl) (fun _ _ _ h => h) (.inl ⟨by kernel_rfl, ?hyh4_0⟩) hS ?resth4_0
          case hyh4_0 => (intro w hSw; (try dsimp only at hSw); go_simp; (try with_reducible rfl))
          (try simp only [Act.put, List.setIfInBounds_toArray, List.set_cons_zero, List.set_cons_succ])
          refine wpAnyH_takeD 1 (some 41) (v := ?vh4_1) rfl rfl (by kernel_rfl) (by kernel_rfl) (by kernel_rfl) (fun _ _ _ h => h) (.inl ⟨by kernel_rfl, ?hyh4_1⟩) hS ?resth4_1
          case hyh4_1 => (intro w hSw; (try dsimp only at hSw); go_simp; (try with_reducible rfl))
          (try simp only [Act.put, List.setIfInBounds_toArray, List.set_cons_zero, List.set_cons_succ])
          refine wpAnyH_takeD 2 (some 42) (v := ?vh4_2) rfl rfl (by kernel_rfl) (by kernel_rfl) (by kernel_rfl) (fun _ _ _ h => h) (.inl ⟨by kernel_rfl, ?hyh4_2⟩) hS ?resth4_2
          case hyh4_2 => (intro w hSw; (try dsimp only at hSw); go_simp; (try with_reducible rfl))
          (try simp only [Act.put, List.setIfInBounds_toArray, List.set_cons_zero, List.set_cons_succ])
          refine wpAnyH_takeD 3 (some 43) (v := ?vh4_3) rfl rfl (by kernel_rfl) (by kernel_rfl) (by kernel_rfl) (fun _ _ _ h => h) (.inl ⟨by kernel_rfl, ?hyh4_3⟩) hS ?resth4_3
          case hyh4_3 => (intro w hSw; (try dsimp only at hSw); go_simp; (try with_reducible rfl))
          (try simp only [Act.put, List.setIfInBounds_toArray, List.set_cons_zero, List.set_cons_succ])
          refine wpAnyH_takeD 4 (some 44) (v := ?vh4_4) rfl rfl (by kernel_rfl) (by kernel_rfl) (by kernel_rfl) (fun _ _ _ h => h) (.inl ⟨by kernel_rfl, ?hyh4_4⟩) hS ?resth4_4
          case hyh4_4 => (intro w hSw; (try dsimp only at hSw); go_simp; (try with_reducible rfl))
          (try simp only [Act.put, List.setIfInBounds_toArray, List.set_cons_zero, List.set_cons_succ])
          refine wpAnyH_takeD 5 (some 45) (v := ?vh4_5) rfl rfl (by kernel_rfl) (by kernel_rfl) (by kernel_rfl) (fun _ _ _ h => h) (.inl ⟨by kernel_rfl, ?hyh4_5⟩) hS ?resth4_5
          case hyh4_5 => (intro w hSw; (try dsimp only at hSw); go_simp; (try with_reducible rfl))
          (try simp only [Act.put, List.setIfInBounds_toArray, List.set_cons_zero, List.set_cons_succ])
          refine wpAnyH_takeD 6 (some 46) (v := ?vh4_6) rfl rfl (by kernel_rfl) (by kernel_rfl) (by kernel_rfl) (fun _ _ _ h => h) (.inl ⟨by kernel_rfl, ?hyh4_6⟩) hS ?resth4_6
          case hyh4_6 => (intro w hSw; (try dsimp only at hSw); go_simp; (try with_reducible rfl))
          (try simp only [Act.put, List.setIfInBounds_toArray, List.set_cons_zero, List.set_cons_succ])
          refine wpAnyH_takeD 7 (some 47) (v := ?vh4_7) rfl rfl (by kernel_rfl) (by kernel_rfl) (by kernel_rfl) (fun _ _ _ h => h) (.inl ⟨by kernel_rfl, ?hyh4_7⟩) hS ?resth4_7
          case hyh4_7 => (intro w hSw; (try dsimp only at hSw); go_simp; (try with_reducible rfl))
          (try simp only [Act.put, List.setIfInBounds_toArray, List.set_cons_zero, List.set_cons_succ])
          refine wpAnyH_takeD 8 (some 48) (v := ?vh4_8) rfl rfl (by kernel_rfl) (by kernel_rfl) (by kernel_rfl) (fun _ _ _ h => h) (.inl ⟨by kernel_rfl, ?hyh4_8⟩) hS ?resth4_8
          case hyh4_8 => (intro w hSw; (try dsimp only at hSw); go_simp; (try with_reducible rfl))
          (try simp only [Act.put, List.setIfInBounds_toArray, List.set_cons_zero, List.set_cons_succ])
          refine wpAnyH_takeD 9 (some 49) (v := ?vh4_9) rfl rfl (by kernel_rfl) (by kernel_rfl) (by kernel_rfl) (fun _ _ _ h => h) (.inl ⟨by kernel_rfl, ?hyh4_9⟩) hS ?resth4_9
          case hyh4_9 => (intro w hSw; (try dsimp only at hSw); go_simp; (try with_reducible rfl))
          (try simp only [Act.put, List.setIfInBounds_toArray, List.set_cons_zero, List.set_cons_succ])
          refine wpAnyH_takeD 10 (some 50) (v := ?vh4_10) rfl rfl (by kernel_rfl) (by kernel_rfl) (by kernel_rfl) (fun _ _ _ h => h) (.inl ⟨by kernel_rfl, ?hyh4_10⟩) hS ?resth4_10
          case hyh4_10 => (intro w hSw; (try dsimp only at hSw); go_simp; (try with_reducible rfl))
          (try simp only [Act.put, List.setIfInBounds_toArray, List.set_cons_zero, List.set_cons_succ])
          refine wpAnyH_takeD 11 (some 51) (v := ?vh4_11) rfl rfl (by kernel_rfl) (by kernel_rfl) (by kernel_rfl) (fun _ _ _ h => h) (.inl ⟨by kernel_rfl, ?hyh4_11⟩) hS ?resth4_11
          case hyh4_11 => (intro w hSw; (try dsimp only at hSw); go_simp; (try with_reducible rfl))
          (try simp only [Act.put, List.setIfInBounds_toArray, List.set_cons_zero, List.set_cons_succ])
          refine wpAnyH_takeD 12 (some 52) (v := ?vh4_12) rfl rfl (by kernel_rfl) (by kernel_rfl) (by kernel_rfl) (fun _ _ _ h => h) (.inl ⟨by kernel_rfl, ?hyh4_12⟩) hS ?resth4_12
          case hyh4_12 => (intro w hSw; (try dsimp only at hSw); go_simp; (try with_reducible rfl))
          (try simp only [Act.put, List.setIfInBounds_toArray, List.set_cons_zero, List.set_cons_succ])
          refine wpAnyH_takeD 13 (some 53) (v := ?vh4_13) rfl rfl (by kernel_rfl) (by kernel_rfl) (by kernel_rfl) (fun _ _ _ h => h) (.inl ⟨by kernel_rfl, ?hyh4_13⟩) hS ?resth4_13
          case hyh4_13 => (intro w hSw; (try dsimp only at hSw); go_simp; (try with_reducible rfl))
          (try simp only [Act.put, List.setIfInBounds_toArray, List.set_cons_zero, List.set_cons_succ])
          refine wpAnyH_takeD 14 (some 54) (v := ?vh4_14) rfl rfl (by kernel_rfl) (by kernel_rfl) (by kernel_rfl) (fun _ _ _ h => h) (.inl ⟨by kernel_rfl, ?hyh4_14⟩) hS ?resth4_14
          case hyh4_14 => (intro w hSw; (try dsimp only at hSw); go_simp; (try with_reducible rfl))
          (try simp only [Act.put, List.setIfInBounds_toArray, List.set_cons_zero, List.set_cons_succ])
          refine wpAnyH_takeD 15 (some 55) (v := ?vh4_15) rfl rfl (by kernel_rfl) (by kernel_rfl) (by kernel_rfl) (fun _ _ _ h => h) (.inl ⟨by kernel_rfl, ?hyh4_15⟩) hS ?resth4_15
          case hyh4_15 => (intro w hSw; (try dsimp only at hSw); go_simp; (try with_reducible rfl))
          (try simp only [Act.put, List.setIfInBounds_toArray, List.set_cons_zero, List.set_cons_succ])
          refine wpAnyH_takeD 16 (some 56) (v := ?vh4_16) rfl rfl (by kernel_rfl) (by kernel_rfl) (by kernel_rfl) (fun _ _ _ h => h) (.inl ⟨by kernel_rfl, ?hyh4_16⟩) hS ?resth4_16
          case hyh4_16 => (intro w hSw; (try dsimp only at hSw); go_simp; (try with_reducible rfl))
          (try simp only [Act.put, List.setIfInBounds_toArray, List.set_cons_zero, List.set_cons_succ])
          refine wpAnyH_takeD 17 (some 57) (v := ?vh4_17) rfl rfl (by kernel_rfl) (by kernel_rfl) (by kernel_rfl) (fun _ _ _ h => h) (.inl ⟨by kernel_rfl, ?hyh4_17⟩) hS ?resth4_17
          case hyh4_17 => (intro w hSw; (try dsimp only at hSw); go_simp; (try with_reducible rfl))
          (try simp only [Act.put, List.setIfInBounds_toArray, List.set_cons_zero, List.set_cons_succ])
          refine wpAnyH_takeD 18 (some 58) (v := ?vh4_18) rfl rfl (by kernel_rfl) (by kernel_rfl) (by kernel_rfl) (fun _ _ _ h => h) (.inl ⟨by kernel_rfl, ?hyh4_18⟩) hS ?resth4_18
          case hyh4_18 => (intro w hSw; (try dsimp only at hSw); go_simp; (try with_reducible rfl))
          (try simp only [Act.put, List.setIfInBounds_toArray, List.set_cons_zero, List.set_cons_succ])
          refine wpAnyH_takeD 19 (some 59) (v := ?vh4_19) rfl rfl (by kernel_rfl) (by kernel_rfl) (by kernel_rfl) (fun _ _ _ h => h) (.inl ⟨by kernel_rfl, ?hyh4_19⟩) hS ?resth4_19
          case hyh4_19 => (intro w hSw; (try dsimp only at hSw); go_simp; (try with_reducible rfl))
          (try simp only [Act.put, List.setIfInBounds_toArray, List.set_cons_zero, List.set_cons_succ])
          refine wpAnyH_takeD 20 (some 60) (v := ?vh4_20) rfl rfl (by kernel_rfl) (by kernel_rfl) (by kernel_rfl) (fun _ _ _ h => h) (.inl ⟨by kernel_rfl, ?hyh4_20⟩) hS ?resth4_20
          case hyh4_20 => (intro w hSw; (try dsimp only at hSw); go_simp; (try with_reducible rfl))
          (try simp only [Act.put, List.setIfInBounds_toArray, List.set_cons_zero, List.set_cons_succ])
          refine wpAnyH_takeD 21 (some 61) (v := ?vh4_21) rfl rfl (by kernel_rfl) (by kernel_rfl) (by kernel_rfl) (fun _ _ _ h => h) (.inl ⟨by kernel_rfl, ?hyh4_21⟩) hS ?resth4_21
          case hyh4_21 => (intro w hSw; (try dsimp only at hSw); go_simp; (try with_reducible rfl))
          (try simp only [Act.put, List.setIfInBounds_toArray, List.set_cons_zero, List.set_cons_succ])
          refine wpAnyH_takeD 22 (some 62) (v := ?vh4_22) rfl rfl (by kernel_rfl) (by kernel_rfl) (by kernel_rfl) (fun _ _ _ h => h) (.inl ⟨by kernel_rfl, ?hyh4_22⟩) hS ?resth4_22
          case hyh4_22 => (intro w hSw; (try dsimp only at hSw); go_simp; (try with_reducible rfl))
          (try simp only [Act.put, List.setIfInBounds_toArray, List.set_cons_zero, List.set_cons_succ])
          refine wpAnyH_takeD 23 (some 63) (v := ?vh4_23) rfl rfl (by kernel_rfl) (by kernel_rfl) (by kernel_rfl) (fun _ _ _ h => h) (.inl ⟨by kernel_rfl, ?hyh4_23⟩) hS ?resth4_23
          case hyh4_23 => (intro w hSw; (try dsimp only at hSw); go_simp; (try with_reducible rfl))
          (try simp only [Act.put, List.setIfInBounds_toArray, List.set_cons_zero, List.set_cons_succ])
          refine wpAnyH_takeD 24 (some 64) (v := ?vh4_24) rfl rfl (by kernel_rfl) (by kernel_rfl) (by kernel_rfl) (fun _ _ _ h => h) (.inl ⟨by kernel_rfl, ?hyh4_24⟩) hS ?resth4_24
          case hyh4_24 => (intro w hSw; (try dsimp only at hSw); go_simp; (try with_reducible rfl))
          (try simp only [Act.put, List.setIfInBounds_toArray, List.set_cons_zero, List.set_cons_succ])
          refine wpAnyH_takeD 25 (some 65) (v := undef) rfl rfl (by kernel_rfl) (by kernel_rfl) (by kernel_rfl) (fun _ _ _ h => h) (.inr ⟨by kernel_rfl, rfl⟩) hS ?_
          (try simp only [Act.put, List.setIfInBounds_toArray, List.set_cons_zero, List.set_cons_succ])
          refine wpAnyH_takeD 26 (some 66) (v := undef) rfl rfl (by kernel_rfl) (by kernel_rfl) (by kernel_rfl) (fun _ _ _ h => h) (.inr ⟨by kernel_rfl, rfl⟩) hS ?_
          (try simp only [Act.put, List.setIfInBounds_toArray, List.set_cons_zero, List.set_cons_succ])
          refine wpAnyH_takeD 27 (some 67) (v := undef) rfl rfl (by kernel_rfl) (by kernel_rfl) (by kernel_rfl) (fun _ _ _ h => h) (.inr ⟨by kernel_rfl, rfl⟩) hS ?_
          (try simp only [Act.put, List.setIfInBounds_toArray, List.set_cons_zero, List.set_cons_succ])
          refine wpAnyH_takeD 28 (some 68) (v := undef) rfl rfl (by kernel_rfl) (by kernel_rfl) (by kernel_rfl) (fun _ _ _ h => h) (.inr ⟨by kernel_rfl, rfl⟩) hS ?_
          (try simp only [Act.put, List.setIfInBounds_toArray, List.set_cons_zero, List.set_cons_succ])
          refine wpAnyH_takeD 29 (some 69) (v := undef) rfl rfl (by kernel_rfl) (by kernel_rfl) (by kernel_rfl) (fun _ _ _ h => h) (.inr ⟨by kernel_rfl, rfl⟩) hS ?_
          (try simp only [Act.put, List.setIfInBounds_toArray, List.set_cons_zero, List.set_cons_succ])
          refine wpAnyH_takeD 30 (some 70) (v := undef) rfl rfl (by kernel_rfl) (by kernel_rfl) (by kernel_rfl) (fun _ _ _ h => h) (.inr ⟨by kernel_rfl, rfl⟩) hS ?_
          (try simp only [Act.put, List.setIfInBounds_toArray, List.set_cons_zero, List.set_cons_succ])
          refine wpAnyH_takeD 31 (some 71) (v := undef) rfl rfl (by kernel_rfl) (by kernel_rfl) (by kernel_rfl) (fun _ _ _ h => h) (.inr ⟨by kernel_rfl, rfl⟩) hS ?_
          (try simp only [Act.put, List.setIfInBounds_toArray, List.set_cons_zero, List.set_cons_succ])
          refine wpAnyH_takeD 32 (some 72) (v := ?vh4_32) rfl rfl (by kernel_rfl) (by kernel_rfl) (by kernel_rfl) (fun _ _ _ h => h) (.inl ⟨by kernel_rfl, ?hyh4_32⟩) hS ?resth4_32
          case hyh4_32 => (intro w hSw; (try dsimp only at hSw); go_simp; (try with_reducible rfl))
          (try simp only [Act.put, List.setIfInBounds_toArray, List.set_cons_zero, List.set_cons_succ])
          refine wpAnyH_takeD 33 (some 73) (v := ?vh4_33) rfl rfl (by kernel_rfl) (by kernel_rfl) (by kernel_rfl) (fun _ _ _ h => h) (.inl ⟨by kernel_rfl, ?hyh4_33⟩) hS ?resth4_33
          case hyh4_33 => (intro w hSw; (try dsimp only at hSw); go_simp; (try with_reducible rfl))
          (try simp only [Act.put, List.setIfInBounds_toArray, List.set_cons_zero, List.set_cons_succ])
          refine wpAnyH_takeD 34 (some 74) (v := ?vh4_34) rfl rfl (by kernel_rfl) (by kernel_rfl) (by kernel_rfl) (fun _ _ _ h => h) (.inl ⟨by kernel_rfl, ?hyh4_34⟩) hS ?resth4_34
          case hyh4_34 => (intro w hSw; (try dsimp only at hSw); go_simp; (try with_reducible rfl))
          (try simp only [Act.put, List.setIfInBounds_toArray, List.set_cons_zero, List.set_cons_succ])
          refine wpAnyH_done (by kernel_rfl) ?_ _
          go_wp2
          go_meet
          case rel => exact ⟨rfl, hS.1⟩
        have g4 : decide (d < x.1) = false := decide_eq_false h4
        have g5 : decide (x.2.1 < d) = bb := by
          rw [hbb]
          exact decide_eq_decide.2 ⟨fun h => .inr (.inr ⟨h3, fun h' => by omega⟩), fun h => by rcases h with h | h | h; exact absurd h h1; exact absurd h h2; have := h.2; omega⟩
        clear h1 h2 h3 h4 hbb
        go_wp2_with fail
        have hS := hS0
        refine wp_region_held_drew (S := fun (w' : World) => Below wv.heap.size wv w' ∧ w'.cell? ⟨gv, 0, none⟩ = some (.int .i64 x.1) ∧ w'.cell? ⟨gv, 1, none⟩ = some (.int .i64 x.2.1) ∧ w'.cell? ⟨w.heap.size, 0, none⟩ = some (.slice (some bd) dl.length cb) ∧ w'.cell? (bd.add k) = some (.int .i64 d)) (by kernel_rfl) hS (fun _ => ?_)
        simp only [List.size_toArray, List.length_cons, List.length_nil, Nat.reduceAdd]
        refine wpAnyH_takeD 0 (some 40) (v := ?vh5_0) rfl rfl (by kernel_rfl) (by kernel_rfl) (by kernel_rfl) (fun _ _ _ h => h) (.inl ⟨by kernel_rfl, ?hyh5_0⟩) hS ?resth5_0
        case hyh5_0 => (intro w hSw; (try dsimp only at hSw); go_simp; (try with_reducible rfl))
        (try simp only [Act.put, List.setIfInBounds_toArray, List.set_cons_zero, List.set_cons_succ])
        refine wpAnyH_takeD 1 (some 41) (v := ?vh5_1) rfl rfl (by kernel_rfl) (by kernel_rfl) (by kernel_rfl) (fun _ _ _ h => h) (.inl ⟨by kernel_rfl, ?hyh5_1⟩) hS ?resth5_1
        case hyh5_1 => (intro w hSw; (try dsimp only at hSw); go_simp; (try with_reducible rfl))
        (try simp only [Act.put, List.setIfInBounds_toArray, List.set_cons_zero, List.set_cons_succ])
        refine wpAnyH_takeD 2 (some 42) (v := ?vh5_2) rfl rfl (by kernel_rfl) (by kernel_rfl) (by kernel_rfl) (fun _ _ _ h => h) (.inl ⟨by kernel_rfl, ?hyh5_2⟩) hS ?resth5_2
        case hyh5_2 => (intro w hSw; (try dsimp only at hSw); go_simp; (try with_reducible rfl))
        (try simp only [Act.put, List.setIfInBounds_toArray, List.set_cons_zero, List.set_cons_succ])
        refine wpAnyH_takeD 3 (some 43) (v := ?vh5_3) rfl rfl (by kernel_rfl) (by kernel_rfl) (by kernel_rfl) (fun _ _ _ h => h) (.inl ⟨by kernel_rfl, ?hyh5_3⟩) hS ?resth5_3
        case hyh5_3 => (intro w hSw; (try dsimp only at hSw); go_simp; (try with_reducible rfl))
        (try simp only [Act.put, List.setIfInBounds_toArray, List.set_cons_zero, List.set_cons_succ])
        refine wpAnyH_takeD 4 (some 44) (v := ?vh5_4) rfl rfl (by kernel_rfl) (by kernel_rfl) (by kernel_rfl) (fun _ _ _ h => h) (.inl ⟨by kernel_rfl, ?hyh5_4⟩) hS ?resth5_4
        case hyh5_4 => (intro w hSw; (try dsimp only at hSw); go_simp; (try with_reducible rfl))
        (try simp only [Act.put, List.setIfInBounds_toArray, List.set_cons_zero, List.set_cons_succ])
        refine wpAnyH_takeD 5 (some 45) (v := ?vh5_5) rfl rfl (by kernel_rfl) (by kernel_rfl) (by kernel_rfl) (fun _ _ _ h => h) (.inl ⟨by kernel_rfl, ?hyh5_5⟩) hS ?resth5_5
        case hyh5_5 => (intro w hSw; (try dsimp only at hSw); go_simp; (try with_reducible rfl))
        (try simp only [Act.put, List.setIfInBounds_toArray, List.set_cons_zero, List.set_cons_succ])
        refine wpAnyH_takeD 6 (some 46) (v := ?vh5_6) rfl rfl (by kernel_rfl) (by kernel_rfl) (by kernel_rfl) (fun _ _ _ h => h) (.inl ⟨by kernel_rfl, ?hyh5_6⟩) hS ?resth5_6
        case hyh5_6 => (intro w hSw; (try dsimp only at hSw); go_simp; (try with_reducible rfl))
        (try simp only [Act.put, List.setIfInBounds_toArray, List.set_cons_zero, List.set_cons_succ])
        refine wpAnyH_takeD 7 (some 47) (v := ?vh5_7) rfl rfl (by kernel_rfl) (by kernel_rfl) (by kernel_rfl) (fun _ _ _ h => h) (.inl ⟨by kernel_rfl, ?hyh5_7⟩) hS ?resth5_7
        case hyh5_7 => (intro w hSw; (try dsimp only at hSw); go_simp; (try with_reducible rfl))
        (try simp only [Act.put, List.setIfInBounds_toArray, List.set_cons_zero, List.set_cons_succ])
        refine wpAnyH_takeD 8 (some 48) (v := ?vh5_8) rfl rfl (by kernel_rfl) (by kernel_rfl) (by kernel_rfl) (fun _ _ _ h => h) (.inl ⟨by kernel_rfl, ?hyh5_8⟩) hS ?resth5_8
        case hyh5_8 => (intro w hSw; (try dsimp only at hSw); go_simp; (try with_reducible rfl))
        (try simp only [Act.put, List.setIfInBounds_toArray, List.set_cons_zero, List.set_cons_succ])
        refine wpAnyH_takeD 9 (some 49) (v := ?vh5_9) rfl rfl (by kernel_rfl) (by kernel_rfl) (by kernel_rfl) (fun _ _ _ h => h) (.inl ⟨by kernel_rfl, ?hyh5_9⟩) hS ?resth5_9
        case hyh5_9 => (intro w hSw; (try dsimp only at hSw); go_simp; (try with_reducible rfl))
        (try simp only [Act.put, List.setIfInBounds_toArray, List.set_cons_zero, List.set_cons_succ])
        refine wpAnyH_takeD 10 (some 50) (v := ?vh5_10) rfl rfl (by kernel_rfl) (by kernel_rfl) (by kernel_rfl) (fun _ _ _ h => h) (.inl ⟨by kernel_rfl, ?hyh5_10⟩) hS ?resth5_10
        case hyh5_10 => (intro w hSw; (try dsimp only at hSw); go_simp; (try with_reducible rfl))
        (try simp only [Act.put, List.setIfInBounds_toArray, List.set_cons_zero, List.set_cons_succ])
        refine wpAnyH_takeD 11 (some 51) (v := ?vh5_11) rfl rfl (by kernel_rfl) (by kernel_rfl) (by kernel_rfl) (fun _ _ _ h => h) (.inl ⟨by kernel_rfl, ?hyh5_11⟩) hS ?resth5_11
        case hyh5_11 => (intro w hSw; (try dsimp only at hSw); go_simp; (try with_reducible rfl))
        (try simp only [Act.put, List.setIfInBounds_toArray, List.set_cons_zero, List.set_cons_succ])
        refine wpAnyH_takeD 12 (some 52) (v := ?vh5_12) rfl rfl (by kernel_rfl) (by kernel_rfl) (by kernel_rfl) (fun _ _ _ h => h) (.inl ⟨by kernel_rfl, ?hyh5_12⟩) hS ?resth5_12
        case hyh5_12 => (intro w hSw; (try dsimp only at hSw); go_simp; (try with_reducible rfl))
        (try simp only [Act.put, List.setIfInBounds_toArray, List.set_cons_zero, List.set_cons_succ])
        refine wpAnyH_takeD 13 (some 53) (v := ?vh5_13) rfl rfl (by kernel_rfl) (by kernel_rfl) (by kernel_rfl) (fun _ _ _ h => h) (.inl ⟨by kernel_rfl, ?hyh5_13⟩) hS ?resth5_13
        case hyh5_13 => (intro w hSw; (try dsimp only at hSw); go_simp; (try with_reducible rfl))
        (try simp only [Act.put, List.setIfInBounds_toArray, List.set_cons_zero, List.set_cons_succ])
        refine wpAnyH_takeD 14 (some 54) (v := ?vh5_14) rfl rfl (by kernel_rfl) (by kernel_rfl) (by kernel_rfl) (fun _ _ _ h => h) (.inl ⟨by kernel_rfl, ?hyh5_14⟩) hS ?resth5_14
        case hyh5_14 => (intro w hSw; (try dsimp only at hSw); go_simp; (try with_reducible rfl))
        (try simp only [Act.put, List.setIfInBounds_toArray, List.set_cons_zero, List.set_cons_succ])
        refine wpAnyH_takeD 15 (some 55) (v := ?vh5_15) rfl rfl (by kernel_rfl) (by kernel_rfl) (by kernel_rfl) (fun _ _ _ h => h) (.inl ⟨by kernel_rfl, ?hyh5_15⟩) hS ?resth5_15
        case hyh5_15 => (intro w hSw; (try dsimp only at hSw); go_simp; (try with_reducible rfl))
        (try simp only [Act.put, List.setIfInBounds_toArray, List.set_cons_zero, List.set_cons_succ])
        refine wpAnyH_takeD 16 (some 56) (v := ?vh5_16) rfl rfl (by kernel_rfl) (by kernel_rfl) (by kernel_rfl) (fun _ _ _ h => h) (.inl ⟨by kernel_rfl, ?hyh5_16⟩) hS ?resth5_16
        case hyh5_16 => (intro w hSw; (try dsimp only at hSw); go_simp; (try with_reducible rfl))
        (try simp only [Act.put, List.setIfInBounds_toArray, List.set_cons_zero, List.set_cons_succ])
        refine wpAnyH_takeD 17 (some 57) (v := ?vh5_17) rfl rfl (by kernel_rfl) (by kernel_rfl) (by kernel_rfl) (fun _ _ _ h => h) (.inl ⟨by kernel_rfl, ?hyh5_17⟩) hS ?resth5_17
        case hyh5_17 => (intro w hSw; (try dsimp only at hSw); go_simp; (try with_reducible rfl))
        (try simp only [Act.put, List.setIfInBounds_toArray, List.set_cons_zero, List.set_cons_succ])
        refine wpAnyH_takeD 18 (some 58) (v := ?vh5_18) rfl rfl (by kernel_rfl) (by kernel_rfl) (by kernel_rfl) (fun _ _ _ h => h) (.inl ⟨by kernel_rfl, ?hyh5_18⟩) hS ?resth5_18
        case hyh5_18 => (intro w hSw; (try dsimp only at hSw); go_simp; (try with_reducible rfl))
        (try simp only [Act.put, List.setIfInBounds_toArray, List.set_cons_zero, List.set_cons_succ])
        refine wpAnyH_takeD 19 (some 59) (v := ?vh5_19) rfl rfl (by kernel_rfl) (by kernel_rfl) (by kernel_rfl) (fun _ _ _ h => h) (.inl ⟨by kernel_rfl, ?hyh5_19⟩) hS ?resth5_19
        case hyh5_19 => (intro w hSw; (try dsimp only at hSw); go_simp; (try with_reducible rfl))
        (try simp only [Act.put, List.setIfInBounds_toArray, List.set_cons_zero, List.set_cons_succ])
        refine wpAnyH_takeD 20 (some 60) (v := ?vh5_20) rfl rfl (by kernel_rfl) (by kernel_rfl) (by kernel_rfl) (fun _ _ _ h => h) (.inl ⟨by kernel_rfl, ?hyh5_20⟩) hS ?resth5_20
        case hyh5_20 => (intro w hSw; (try dsimp only at hSw); go_simp; (try with_reducible rfl))
        (try simp only [Act.put, List.setIfInBounds_toArray, List.set_cons_zero, List.set_cons_succ])
        refine wpAnyH_takeD 21 (some 61) (v := ?vh5_21) rfl rfl (by kernel_rfl) (by kernel_rfl) (by kernel_rfl) (fun _ _ _ h => h) (.inl ⟨by kernel_rfl, ?hyh5_21⟩) hS ?resth5_21
        case hyh5_21 => (intro w hSw; (try dsimp only at hSw); go_simp; (try with_reducible rfl))
        (try simp only [Act.put, List.setIfInBounds_toArray, List.set_cons_zero, List.set_cons_succ])
        refine wpAnyH_takeD 22 (some 62) (v := ?vh5_22) rfl rfl (by kernel_rfl) (by kernel_rfl) (by kernel_rfl) (fun _ _ _ h => h) (.inl ⟨by kernel_rfl, ?hyh5_22⟩) hS ?resth5_22
        case hyh5_22 => (intro w hSw; (try dsimp only at hSw); go_simp; (try with_reducible rfl))
        (try simp only [Act.put, List.setIfInBounds_toArray, List.set_cons_zero, List.set_cons_succ])
        refine wpAnyH_takeD 23 (some 63) (v := ?vh5_23) rfl rfl (by kernel_rfl) (by kernel_rfl) (by kernel_rfl) (fun _ _ _ h => h) (.inl ⟨by kernel_rfl, ?hyh5_23⟩) hS ?resth5_23
        case hyh5_23 => (intro w hSw; (try dsimp only at hSw); go_simp; (try with_reducible rfl))
        (try simp only [Act.put, List.setIfInBounds_toArray, List.set_cons_zero, List.set_cons_succ])
        refine wpAnyH_takeD 24 (some 64) (v := ?vh5_24) rfl rfl (by kernel_rfl) (by kernel_rfl) (by kernel_rfl) (fun _ _ _ h => h) (.inl ⟨by kernel_rfl, ?hyh5_24⟩) hS ?resth5_24
        case hyh5_24 => (intro w hSw; (try dsimp only at hSw); go_simp; (try with_reducible rfl))
        (try simp only [Act.put, List.setIfInBounds_toArray, List.set_cons_zero, List.set_cons_succ])
        refine wpAnyH_takeD 25 (some 65) (v := ?vh5_25) rfl rfl (by kernel_rfl) (by kernel_rfl) (by kernel_rfl) (fun _ _ _ h => h) (.inl ⟨by kernel_rfl, ?hyh5_25⟩) hS ?resth5_25
        case hyh5_25 => (intro w hSw; (try dsimp only at hSw); go_simp; (try with_reducible rfl))
        (try simp only [Act.put, List.setIfInBounds_toArray, List.set_cons_zero, List.set_cons_succ])
        refine wpAnyH_takeD 26 (some 66) (v := ?vh5_26) rfl rfl (by kernel_rfl) (by kernel_rfl) (by kernel_rfl) (fun _ _ _ h => h) (.inl ⟨by kernel_rfl, ?hyh5_26⟩) hS ?resth5_26
        case hyh5_26 => (intro w hSw; (try dsimp only at hSw); go_simp; (try with_reducible rfl))
        (try simp only [Act.put, List.setIfInBounds_toArray, List.set_cons_zero, List.set_cons_succ])
        refine wpAnyH_takeD 27 (some 67) (v := ?vh5_27) rfl rfl (by kernel_rfl) (by kernel_rfl) (by kernel_rfl) (fun _ _ _ h => h) (.inl ⟨by kernel_rfl, ?hyh5_27⟩) hS ?resth5_27
        case hyh5_27 => (intro w hSw; (try dsimp only at hSw); go_simp; (try with_reducible rfl))
        (try simp only [Act.put, List.setIfInBounds_toArray, List.set_cons_zero, List.set_cons_succ])
        refine wpAnyH_takeD 28 (some 68) (v := ?vh5_28) rfl rfl (by kernel_rfl) (by kernel_rfl) (by kernel_rfl) (fun _ _ _ h => h) (.inl ⟨by kernel_rfl, ?hyh5_28⟩) hS ?resth5_28
        case hyh5_28 => (intro w hSw; (try dsimp only at hSw); go_simp; (try with_reducible rfl))
        (try simp only [Act.put, List.setIfInBounds_toArray, List.set_cons_zero, List.set_cons_succ])
        refine wpAnyH_takeD 29 (some 69) (v := ?vh5_29) rfl rfl (by kernel_rfl) (by kernel_rfl) (by kernel_rfl) (fun _ _ _ h => h) (.inl ⟨by kernel_rfl, ?hyh5_29⟩) hS ?resth5_29
        case hyh5_29 => (intro w hSw; (try dsimp only at hSw); go_simp; (try with_reducible rfl))
        (try simp only [Act.put, List.setIfInBounds_toArray, List.set_cons_zero, List.set_cons_succ])
        refine wpAnyH_takeD 30 (some 70) (v := ?vh5_30) rfl rfl (by kernel_rfl) (by kernel_rfl) (by kernel_rfl) (fun _ _ _ h => h) (.inl ⟨by kernel_rfl, ?hyh5_30⟩) hS ?resth5_30
        case hyh5_30 => (intro w hSw; (try dsimp only at hSw); go_simp; (try with_reducible rfl))
        (try simp only [Act.put, List.setIfInBounds_toArray, List.set_cons_zero, List.set_cons_succ])
        refine wpAnyH_takeD 31 (some 71) (v := ?vh5_31) rfl rfl (by kernel_rfl) (by kernel_rfl) (by kernel_rfl) (fun _ _ _ h => h) (.inl ⟨by kernel_rfl, ?hyh5_31⟩) hS ?resth5_31
        case hyh5_31 => (intro w hSw; (try dsimp only at hSw); go_simp; (try with_reducible rfl))
        (try simp only [Act.put, List.setIfInBounds_toArray, List.set_cons_zero, List.set_cons_succ])
        refine wpAnyH_takeD 32 (some 72) (v := ?vh5_32) rfl rfl (by kernel_rfl) (by kernel_rfl) (by kernel_rfl) (fun _ _ _ h => h) (.inl ⟨by kernel_rfl, ?hyh5_32⟩) hS ?resth5_32
        case hyh5_32 => (intro w hSw; (try dsimp only at hSw); go_simp; (try with_reducible rfl))
        (try simp only [Act.put, List.setIfInBounds_toArray, List.set_cons_zero, List.set_cons_succ])
        refine wpAnyH_takeD 33 (some 73) (v := ?vh5_33) rfl rfl (by kernel_rfl) (by kernel_rfl) (by kernel_rfl) (fun _ _ _ h => h) (.inl ⟨by kernel_rfl, ?hyh5_33⟩) hS ?resth5_33
        case hyh5_33 => (intro w hSw; (try dsimp only at hSw); go_simp; (try with_reducible rfl))
        (try simp only [Act.put, List.setIfInBounds_toArray, List.set_cons_zero, List.set_cons_succ])
        refine wpAnyH_takeD 34 (some 74) (v := ?vh5_34) rfl rfl (by kernel_rfl) (by kernel_rfl) (by kernel_rfl) (fun _ _ _ h => h) (.inl ⟨by kernel_rfl, ?hyh5_34⟩) hS ?resth5_34
        case hyh5_34 => (intro w hSw; (try dsimp only at hSw); go_simp; (try with_reducible rfl))
        (try simp only [Act.put, List.setIfInBounds_toArray, List.set_cons_zero, List.set_cons_succ])
        refine wpAnyH_done (by kernel_rfl) ?_ _
        go_wp2
        go_meet
        case rel => exact ⟨rfl, hS.1⟩
      case rest =>
        obtain ⟨rfl, hbc⟩ := hcut
        have HBC := Lib.hid (bl_trans HBV.out hbc)
        have HKC := Lib.hid (HKV.out.below hbc)
        have HTC := Lib.hid (HTV.out.below hbc)
        clear hbc
        cases bb
        case true =>
          have HN := Lib.hid (show ¬ okH L dl P from fun h => h.2.2.2 k HXL.out (HBAD.out.2 (of_decide_eq_true HBB.out.symm)))
          go_wp2
          go_ret3
          exact ⟨-1, -1, false, rfl, .no HN.out, HBC.out⟩
        case false =>
          have HN := Lib.hid (show ¬ badR (tdOf L) (pday dl) k from fun h => of_decide_eq_false HBB.out.symm (HBAD.out.1 h))
          go_wp2
          exact ⟨⟨k + 1, by omega, by go_num, HBC.out, HKC.out, HTC.out, fun j hj => by
            by_cases h : j = k
            · rw [h]; exact HN.out
            · exact HG.out j (by omega)⟩, by simp [intOf]; omega⟩
    · obtain rfl : k = L.length := by omega
      have q1 : ¬ (L.length : Int) < (L.length : Int) := by omega
      have HOK := Lib.hid (show okH L dl P from ⟨by omega, HDL.out, HPL.out, HG.out⟩)
      clear hb hK hT
      have hmf : ∀ (fn : Fn) (first cap : Array Value) (w : World), (Instr.makeFunc fn first cap).run Try.prog w = .ok (.func fn first cap) w := fun _ _ _ _ => rfl
      go_wp2
      clear hmf
      go_loopw [79] (fun i wr => ∃ k : Nat, k ≤ L.length ∧ i = .int .i64 (k : Int) ∧ Below w.heap.size w wr ∧ Blk wr w.heap.size 28 #[.slice B dl.length cb] ∧ Blk wr (w.heap.size + 1) 31 #[.slice C P.length cp] ∧ ∀ i', i' < k → ∀ k', k' < L.length → ¬ lieB (tdOf L) (pday dl) (ppay P) i' k') (fun i _ => L.length - (intOf i).toNat)
      case atStart => exact ⟨0, by omega, rfl, HB.out, HK.out, HT.out, fun j hj => by omega⟩
      case round =>
        obtain ⟨i, hi, rfl, hb2, hK2, hT2, hno⟩ := hrel
        have HB2 := Lib.hid hb2
        have HNO := Lib.hid hno
        clear hno
        by_cases hx : i < L.length
        case neg =>
          obtain rfl : i = L.length := by omega
          have q1 : ¬ (L.length : Int) < (L.length : Int) := by omega
          clear hb2 hK2 hT2
          go_wp2
          go_ret3
          exact ⟨-1, -1, true, rfl, .inr ⟨HOK.out, .inr ⟨rfl, rfl, rfl, HNO.out⟩⟩, HB2.out⟩
        obtain ⟨x, hx1⟩ : ∃ x, L[i]? = some x := ⟨_, List.getElem?_eq_getElem hx⟩
        obtain ⟨d, hd1⟩ : ∃ d, dl[i]? = some d := ⟨_, List.getElem?_eq_getElem (by have := HDL.out; omega)⟩
        obtain ⟨p, hp1⟩ : ∃ p, P[i]? = some p := ⟨_, List.getElem?_eq_getElem (by have := HPL.out; omega)⟩
        obtain ⟨ad, A1, a1, A2, a2, rfl, e0, e1, e2, e3, e4, hfx⟩ := (HV.out.below hb2).at hx1
        have q1 : (i : Int) < (L.length : Int) := by omega
        have al := below_alloc0 wr (.cells #[.int .i64 x.1, .int .i64 x.2.1, .bool x.2.2.1, .slice A1 x.2.2.2.1.length a1, .slice A2 x.2.2.2.2.length a2] 40)
        have KV := Blk.new wr 40 #[.int .i64 x.1, .int .i64 x.2.1, .bool x.2.2.1, .slice A1 x.2.2.2.1.length a1, .slice A2 x.2.2.2.2.length a2]
        obtain ⟨wv, hwv⟩ : ∃ W, W = wr.alloc (.cells #[.int .i64 x.1, .int .i64 x.2.1, .bool x.2.2.1, .slice A1 x.2.2.2.1.length a1, .slice A2 x.2.2.2.2.length a2] 40) := ⟨_, rfl⟩
        obtain ⟨gv, hgv⟩ : ∃ g, g = wr.heap.size := ⟨_, rfl⟩
        have HWV := Lib.hid hwv
        have HGV := Lib.hid hgv
        rw [← hwv] at al KV
        rw [← hgv] at KV
        have HBV := Lib.hid (bl_trans hb2 al)
        have HKV := Lib.hid (hK2.below al)
        have HTV := Lib.hid (hT2.below al)
        have HXV := Lib.hid KV
        have HFX := Lib.hid (hfx.below al)
        have szx := few_szv (by omega) HF.out HWD.out hx1
        have hsh : Short (hasq (fqd x.2.2) d (fqd p)) := (hasq_szq szx (few_szp (by omega) HF2.out HWP.out hp1) (by omega) d).short (by omega)
        obtain ⟨qo, hqo⟩ : ∃ q, q = hasq (fqd x.2.2) d (fqd p) := ⟨_, rfl⟩
        have HQO := Lib.hid hqo
        have HSH := Lib.hid hsh
        have HSZ := Lib.hid szx
        have HX1 := Lib.hid hx1
        have HD1 := Lib.hid hd1
        have HP1 := Lib.hid hp1
        have HXL := Lib.hid hx
        clear hb2 hK2 hT2 hx1 hd1 hp1 hfx szx hsh hqo al KV hwv hgv
        go_upto_region 13 with fail
        rw [← HWV.out, ← HGV.out]
        clear e0 e1 e2 e3 e4 q1
        go_wp2
        go_loopw [86] (fun iv wy => ∃ k : Nat, k ≤ L.length ∧ iv = .int .i64 (k : Int) ∧ Below w.heap.size w wy ∧ Blk wy w.heap.size 28 #[.slice B dl.length cb] ∧ Blk wy (w.heap.size + 1) 31 #[.slice C P.length cp] ∧ Blk wy gv 40 #[.int .i64 x.1, .int .i64 x.2.1, .bool x.2.2.1, .slice A1 x.2.2.2.1.length a1, .slice A2 x.2.2.2.2.length a2] ∧ FrIn wy (.agg #[.bool x.2.2.1, .slice A1 x.2.2.2.1.length a1, .slice A2 x.2.2.2.2.length a2]) x.2.2.1 x.2.2.2.1 x.2.2.2.2 ∧ ∀ k', k' < k → ¬ lieB (tdOf L) (pday dl) (ppay P) i k') (fun iv _ => L.length - (intOf iv).toNat)
        case atStart => exact ⟨0, by omega, rfl, HBV.out, HKV.out, HTV.out, HXV.out, HFX.out, fun j hj => by omega⟩
        case round =>
          obtain ⟨k, hk, rfl, hb3, hK3, hT3, hX3, hF3, hno3⟩ := hrel
          have HB3 := Lib.hid hb3
          have HK3 := Lib.hid hK3
          have HT3 := Lib.hid hT3
          have HX3 := Lib.hid hX3
          have HF3 := Lib.hid hF3
          have HNO3 := Lib.hid hno3
          clear hno3
          by_cases hy : k < L.length
          case neg =>
            obtain rfl : k = L.length := by omega
            have q1 : ¬ (L.length : Int) < (L.length : Int) := by omega
            clear hb3 hK3 hT3 hX3 hF3
            go_wp2
            exact ⟨⟨i + 1, by have := HXL.out; omega, by go_num, HB3.out, HK3.out, HT3.out, fun i' hi' k' hk' => by
              by_cases h : i' = i
              · rw [h]; exact HNO3.out k' hk'
              · exact HNO.out i' (by omega) k' hk'⟩, by have := HXL.out; simp [intOf]; omega⟩
          obtain ⟨y, hy1⟩ : ∃ x, L[k]? = some x := ⟨_, List.getElem?_eq_getElem hy⟩
          obtain ⟨dk, hdk⟩ : ∃ d, dl[k]? = some d := ⟨_, List.getElem?_eq_getElem (by have := HDL.out; omega)⟩
          obtain ⟨pk, hpk⟩ : ∃ p, P[k]? = some p := ⟨_, List.getElem?_eq_getElem (by have := HPL.out; omega)⟩
          obtain ⟨ad', Y1, y1, Y2, y2, had2, f0, f1, f2, f3, f4, hfy⟩ := (HV.out.below hb3).at hy1
          obtain rfl : ad = ad' := by simpa using had2
          have q1 : (k : Int) < (L.length : Int) := by omega
          have al := below_alloc0 wr (.cells #[.int .i64 y.1, .int .i64 y.2.1, .bool y.2.2.1, .slice Y1 y.2.2.2.1.length y1, .slice Y2 y.2.2.2.2.length y2] 40)
          have KY := Blk.new wr 40 #[.int .i64 y.1, .int .i64 y.2.1, .bool y.2.2.1, .slice Y1 y.2.2.2.1.length y1, .slice Y2 y.2.2.2.2.length y2]
          obtain ⟨wz, hwz⟩ : ∃ W, W = wr.alloc (.cells #[.int .i64 y.1, .int .i64 y.2.1, .bool y.2.2.1, .slice Y1 y.2.2.2.1.length y1, .slice Y2 y.2.2.2.2.length y2] 40) := ⟨_, rfl⟩
          obtain ⟨gz, hgz⟩ : ∃ g, g = wr.heap.size := ⟨_, rfl⟩
          have HWZ := Lib.hid hwz
          have HGZ := Lib.hid hgz
          rw [← hwz] at al KY
          rw [← hgz] at KY
          have fewx := HF.out x (List.mem_of_getElem? HX1.out)
          have HQV := Lib.hid (show FrQ wz (.agg #[.bool x.2.2.1, .slice A1 x.2.2.2.1.length a1, .slice A2 x.2.2.2.2.length a2]) (fqd x.2.2) from ⟨_, _, _, hF3.below al, by omega, rfl⟩)
          have KX := hX3.below al
          have hs : (fun (w' : World) => Below wz.heap.size wz w' ∧ w'.cell? ⟨gv, 0, none⟩ = some (.int .i64 x.1) ∧ w'.cell? ⟨gv, 1, none⟩ = some (.int .i64 x.2.1) ∧ w'.cell? ⟨gv, 2, none⟩ = some (.bool x.2.2.1) ∧ w'.cell? ⟨gv, 3, none⟩ = some (.slice A1 x.2.2.2.1.length a1) ∧ w'.cell? ⟨gv, 4, none⟩ = some (.slice A2 x.2.2.2.2.length a2) ∧ w'.cell? ⟨gz, 0, none⟩ = some (.int .i64 y.1) ∧ w'.cell? ⟨gz, 1, none⟩ = some (.int .i64 y.2.1)) wz.drew := tc7_next (bl_drew wz) ⟨Below.refl _ _, KX.cell 0, KX.cell 1, KX.cell 2, KX.cell 3, KX.cell 4, KY.cell 0, KY.cell 1⟩
          have HB4 := Lib.hid (bl_trans hb3 al)
          have HK4 := Lib.hid (hK3.below al)
          have HT4 := Lib.hid (hT3.below al)
          have HX4 := Lib.hid KX
          have HF4 := Lib.hid (hF3.below al)
          have hsh : Short (hasq (fqd x.2.2) dk (fqd pk)) := (hasq_szq HSZ.out (few_szp (by omega) HF2.out HWP.out hpk) (by omega) dk).short (by omega)
          obtain ⟨qk, hqk⟩ : ∃ q, q = hasq (fqd x.2.2) dk (fqd pk) := ⟨_, rfl⟩
          have hlie : lieB (tdOf L) (pday dl) (ppay P) i k ↔ (k ≠ i ∧ (x.1 ≤ y.1 ∧ y.2.1 ≤ x.2.1) ∧ qo < qk) := by
            unfold lieB
            rw [(tdOf_at HX1.out).1, (tdOf_at HX1.out).2.1, (tdOf_at HX1.out).2.2, (tdOf_at hy1).1, (tdOf_at hy1).2.1, pday_at HD1.out, pday_at hdk, ppay_at HP1.out, ppay_at hpk, ← HQO.out, ← hqk]
          obtain ⟨bb, hbb⟩ : ∃ b : Bool, b = decide (k ≠ i ∧ (x.1 ≤ y.1 ∧ y.2.1 ≤ x.2.1) ∧ qo < qk) := ⟨_, rfl⟩
          have HLIE := Lib.hid hlie
          have HBB := Lib.hid hbb
          have HS16 := Lib.hid hs
          have HSHK := Lib.hid hsh
          have HQK := Lib.hid hqk
          have HYL := Lib.hid hy
          have HDK := Lib.hid hdk
          have HPK := Lib.hid hpk
          clear hb3 hK3 hT3 hX3 hF3 hy1 hdk hpk had2 hfy fewx hs hsh hqk hlie hbb al KY KX hwz hgz
          go_upto_region 16 with fail
          rw [← HWZ.out, ← HGZ.out]
          clear f0 f1 f2 f3 f4
          go_cut [121] (fun t121 wx => t121 = .bool bb ∧ Below wz.heap.size wz wx)
          case first =>
            have hS0 := HS16.out
            have hbb := HBB.out
            by_cases h1 : k = i
            · have g1 : ((k : Int) != (i : Int)) = false := by rw [h1]; simp
              obtain rfl : bb = false := by rw [hbb]; exact decide_eq_false (fun h => h.1 h1)
              clear h1 hbb
              go_wp2_with fail
              have hS := hS0
              refine wp_region_held_drew (S := fun (w' : World) => Below wz.heap.size wz w' ∧ w'.cell? ⟨gv, 0, none⟩ = some (.int .i64 x.1) ∧ w'.cell? ⟨gv, 1, none⟩ = some (.int .i64 x.2.1) ∧ w'.cell? ⟨gv, 2, none⟩ = some (.bool x.2.2.1) ∧ w'.cell? ⟨gv, 3, none⟩ = some (.slice A1 x.2.2.2.1.length a1) ∧ w'.cell? ⟨gv, 4, none⟩ = some (.slice A2 x.2.2.2.2.length a2) ∧ w'.cell? ⟨gz, 0, none⟩ = some (.int .i64 y.1) ∧ w'.cell? ⟨gz, 1, none⟩ = some (.int .i64 y.2.1)) (by kernel_rfl) hS (fun _ => ?_)
              simp only [List.size_toArray, List.length_cons, List.length_nil, Nat.reduceAdd]
              refine wpAnyH_takeD 0 (some 91) (v := ?vh6_0) rfl rfl (by kernel_rfl) (by kernel_rfl) (by kernel_rfl) (fun _ _ _ h => h) (.inl ⟨by kernel_rfl, ?hyh6_0⟩) hS ?resth6_0
              case hyh6_0 => (intro w hSw; (try dsimp only at hSw); go_simp; (try with_reducible rfl))
              (try simp only [Act.put, List.setIfInBounds_toArray, List.set_cons_zero, List.set_cons_succ])
              refine wpAnyH_takeD 1 (some 92) (v := ?vh6_1) rfl rfl (by kernel_rfl) (by kernel_rfl) (by kernel_rfl) (fun _ _ _ h => h) (.inl ⟨by kernel_rfl, ?hyh6_1⟩) hS ?resth6_1
              case hyh6_1 => (intro w hSw; (try dsimp only at hSw); go_simp; (try with_reducible rfl))
              (try simp only [Act.put, List.setIfInBounds_toArray, List.set_cons_zero, List.set_cons_succ])
              refine wpAnyH_takeD 2 (some 93) (v := ?vh6_2) rfl rfl (by kernel_rfl) (by kernel_rfl) (by kernel_rfl) (fun _ _ _ h => h) (.inl ⟨by kernel_rfl, ?hyh6_2⟩) hS ?resth6_2
              case hyh6_2 => (intro w hSw; (try dsimp only at hSw); go_simp; (try with_reducible rfl))
              (try simp only [Act.put, List.setIfInBounds_toArray, List.set_cons_zero, List.set_cons_succ])
              refine wpAnyH_takeD 3 (some 94) (v := ?vh6_3) rfl rfl (by kernel_rfl) (by kernel_rfl) (by kernel_rfl) (fun _ _ _ h => h) (.inl ⟨by kernel_rfl, ?hyh6_3⟩) hS ?resth6_3
              case hyh6_3 => (intro w hSw; (try dsimp only at hSw); go_simp; (try with_reducible rfl))
              (try simp only [Act.put, List.setIfInBounds_toArray, List.set_cons_zero, List.set_cons_succ])
              refine wpAnyH_takeD 4 (some 95) (v := undef) rfl rfl (by kernel_rfl) (by kernel_rfl) (by kernel_rfl) (fun _ _ _ h => h) (.inr ⟨by kernel_rfl, rfl⟩) hS ?_
              (try simp only [Act.put, List.setIfInBounds_toArray, List.set_cons_zero, List.set_cons_succ])
              refine wpAnyH_takeD 5 (some 96) (v := undef) rfl rfl (by kernel_rfl) (by kernel_rfl) (by kernel_rfl) (fun _ _ _ h => h) (.inr ⟨by kernel_rfl, rfl⟩) hS ?_
              (try simp only [Act.put, List.setIfInBounds_toArray, List.set_cons_zero, List.set_cons_succ])
              refine wpAnyH_takeD 6 (some 97) (v := undef) rfl rfl (by kernel_rfl) (by kernel_rfl) (by kernel_rfl) (fun _ _ _ h => h) (.inr ⟨by kernel_rfl, rfl⟩) hS ?_
              (try simp only [Act.put, List.setIfInBounds_toArray, List.set_cons_zero, List.set_cons_succ])
              refine wpAnyH_takeD 7 (some 98) (v := undef) rfl rfl (by kernel_rfl) (by kernel_rfl) (by kernel_rfl) (fun _ _ _ h => h) (.inr ⟨by kernel_rfl, rfl⟩) hS ?_
              (try simp only [Act.put, List.setIfInBounds_toArray, List.set_cons_zero, List.set_cons_succ])
              refine wpAnyH_takeD 8 (some 99) (v := undef) rfl rfl (by kernel_rfl) (by kernel_rfl) (by kernel_rfl) (fun _ _ _ h => h) (.inr ⟨by kernel_rfl, rfl⟩) hS ?_
              (try simp only [Act.put, List.setIfInBounds_toArray, List.set_cons_zero, List.set_cons_succ])
              refine wpAnyH_takeD 9 (some 100) (v := ?vh6_9) rfl rfl (by kernel_rfl) (by kernel_rfl) (by kernel_rfl) (fun _ _ _ h => h) (.inl ⟨by kernel_rfl, ?hyh6_9⟩) hS ?resth6_9
              case hyh6_9 => (intro w hSw; (try dsimp only at hSw); go_simp; (try with_reducible rfl))
              (try simp only [Act.put, List.setIfInBounds_toArray, List.set_cons_zero, List.set_cons_succ])
              refine wpAnyH_takeD 10 (some 101) (v := ?vh6_10) rfl rfl (by kernel_rfl) (by kernel_rfl) (by kernel_rfl) (fun _ _ _ h => h) (.inl ⟨by kernel_rfl, ?hyh6_10⟩) hS ?resth6_10
              case hyh6_10 => (intro w hSw; (try dsimp only at hSw); go_simp; (try with_reducible rfl))
              (try simp only [Act.put, List.setIfInBounds_toArray, List.set_cons_zero, List.set_cons_succ])
              refine wpAnyH_takeD 11 (some 102) (v := undef) rfl rfl (by kernel_rfl) (by kernel_rfl) (by kernel_rfl) (fun _ _ _ h => h) (.inr ⟨by kernel_rfl, rfl⟩) hS ?_
              (try simp only [Act.put, List.setIfInBounds_toArray, List.set_cons_zero, List.set_cons_succ])
              refine wpAnyH_takeD 12 (some 103) (v := undef) rfl rfl (by kernel_rfl) (by kernel_rfl) (by kernel_rfl) (fun _ _ _ h => h) (.inr ⟨by kernel_rfl, rfl⟩) hS ?_
              (try simp only [Act.put, List.setIfInBounds_toArray, List.set_cons_zero, List.set_cons_succ])
              refine wpAnyH_takeD 13 (some 104) (v := undef) rfl rfl (by kernel_rfl) (by kernel_rfl) (by kernel_rfl) (fun _ _ _ h => h) (.inr ⟨by kernel_rfl, rfl⟩) hS ?_
              (try simp only [Act.put, List.setIfInBounds_toArray, List.set_cons_zero, List.set_cons_succ])
              refine wpAnyH_takeD 14 (some 105) (v := undef) rfl rfl (by kernel_rfl) (by kernel_rfl) (by kernel_rfl) (fun _ _ _ h => h) (.inr ⟨by kernel_rfl, rfl⟩) hS ?_
              (try simp only [Act.put, List.setIfInBounds_toArray, List.set_cons_zero, List.set_cons_succ])
              refine wpAnyH_takeD 15 (some 106) (v := undef) rfl rfl (by kernel_rfl) (by kernel_rfl) (by kernel_rfl) (fun _ _ _ h => h) (.inr ⟨by kernel_rfl, rfl⟩) hS ?_
              (try simp only [Act.put, List.setIfInBounds_toArray, List.set_cons_zero, List.set_cons_succ])
              refine wpAnyH_takeD 16 (some 107) (v := ?vh6_16) rfl rfl (by kernel_rfl) (by kernel_rfl) (by kernel_rfl) (fun _ _ _ h => h) (.inl ⟨by kernel_rfl, ?hyh6_16⟩) hS ?resth6_16
              case hyh6_16 => (intro w hSw; (try dsimp only at hSw); go_simp; (try with_reducible rfl))
              (try simp only [Act.put, List.setIfInBounds_toArray, List.set_cons_zero, List.set_cons_succ])
              refine wpAnyH_takeD 17 (some 108) (v := ?vh6_17) rfl rfl (by kernel_rfl) (by kernel_rfl) (by kernel_rfl) (fun _ _ _ h => h) (.inl ⟨by kernel_rfl, ?hyh6_17⟩) hS ?resth6_17
              case hyh6_17 => (intro w hSw; (try dsimp only at hSw); go_simp; (try with_reducible rfl))
              (try simp only [Act.put, List.setIfInBounds_toArray, List.set_cons_zero, List.set_cons_succ])
              refine wpAnyH_takeD 18 (some 109) (v := undef) rfl rfl (by kernel_rfl) (by kernel_rfl) (by kernel_rfl) (fun _ _ _ h => h) (.inr ⟨by kernel_rfl, rfl⟩) hS ?_
              (try simp only [Act.put, List.setIfInBounds_toArray, List.set_cons_zero, List.set_cons_succ])
              refine wpAnyH_takeD 19 (some 110) (v := undef) rfl rfl (by kernel_rfl) (by kernel_rfl) (by kernel_rfl) (fun _ _ _ h => h) (.inr ⟨by kernel_rfl, rfl⟩) hS ?_
              (try simp only [Act.put, List.setIfInBounds_toArray, List.set_cons_zero, List.set_cons_succ])
              refine wpAnyH_takeD 20 (some 111) (v := undef) rfl rfl (by kernel_rfl) (by kernel_rfl) (by kernel_rfl) (fun _ _ _ h => h) (.inr ⟨by kernel_rfl, rfl⟩) hS ?_
              (try simp only [Act.put, List.setIfInBounds_toArray, List.set_cons_zero, List.set_cons_succ])
              refine wpAnyH_takeD 21 (some 112) (v := undef) rfl rfl (by kernel_rfl) (by kernel_rfl) (by kernel_rfl) (fun _ _ _ h => h) (.inr ⟨by kernel_rfl, rfl⟩) hS ?_
              (try simp only [Act.put, List.setIfInBounds_toArray, List.set_cons_zero, List.set_cons_succ])
              refine wpAnyH_takeD 23 (some 114) (v := undef) rfl rfl (by kernel_rfl) (by kernel_rfl) (by kernel_rfl) (fun _ _ _ h => h) (.inr ⟨by kernel_rfl, rfl⟩) hS ?_
              (try simp only [Act.put, List.setIfInBounds_toArray, List.set_cons_zero, List.set_cons_succ])
              refine wpAnyH_takeD 24 (some 115) (v := undef) rfl rfl (by kernel_rfl) (by kernel_rfl) (by kernel_rfl) (fun _ _ _ h => h) (.inr ⟨by kernel_rfl, rfl⟩) hS ?_
              (try simp only [Act.put, List.setIfInBounds_toArray, List.set_cons_zero, List.set_cons_succ])
              refine wpAnyH_takeD 25 (some 116) (v := undef) rfl rfl (by kernel_rfl) (by kernel_rfl) (by kernel_rfl) (fun _ _ _ h => h) (.inr ⟨by kernel_rfl, rfl⟩) hS ?_
              (try simp only [Act.put, List.setIfInBounds_toArray, List.set_cons_zero, List.set_cons_succ])
              refine wpAnyH_takeD 26 (some 117) (v := undef) rfl rfl (by kernel_rfl) (by kernel_rfl) (by kernel_rfl) (fun _ _ _ h => h) (.inr ⟨by kernel_rfl, rfl⟩) hS ?_
              (try simp only [Act.put, List.setIfInBounds_toArray, List.set_cons_zero, List.set_cons_succ])
              refine wpAnyH_ready (rs := [22]) (by kernel_rfl) (by simp) ?_
              refine AllReadyH.cons (o := { dst := some 113, op := Op.call { callee := Callee.value (Operand.tmp 109), args := #[Operand.tmp 111, Operand.tmp 112], argTypes := #[38, 3] }, type := 38, pos := "tide.go:285", after := #[{ on := 18, ground := Ground.data }, { on := 20, ground := Ground.data }, { on := 21, ground := Ground.data }, { on := 17, ground := Ground.chain }, { on := 17, ground := Ground.guard }], guard := some (17, true) }) ?hoh6_22 ?hth6_22 ?hnh6_22
              case hoh6_22 => rfl
              case hnh6_22 => exact AllReadyH.nil
              intro K hK
              refine iteN (by kernel_rfl) ?_
              refine hK.out _ _ hS (fun _ => ?_)
              clear hK K
              (try simp only [Act.put, List.setIfInBounds_toArray, List.set_cons_zero, List.set_cons_succ])
              refine wpAnyH_ready (rs := [27]) (by kernel_rfl) (by simp) ?_
              refine AllReadyH.cons (o := { dst := some 118, op := Op.call { callee := Callee.value (Operand.tmp 114), args := #[Operand.tmp 116, Operand.tmp 117], argTypes := #[38, 3] }, type := 38, pos := "tide.go:285", after := #[{ on := 23, ground := Ground.data }, { on := 25, ground := Ground.data }, { on := 26, ground := Ground.data }, { on := 22, ground := Ground.chain }, { on := 17, ground := Ground.guard }], guard := some (17, true) }) ?hoh6_27 ?hth6_27 ?hnh6_27
              case hoh6_27 => rfl
              case hnh6_27 => exact AllReadyH.nil
              intro K hK
              refine iteN (by kernel_rfl) ?_
              refine hK.out _ _ hS (fun _ => ?_)
              clear hK K
              (try simp only [Act.put, List.setIfInBounds_toArray, List.set_cons_zero, List.set_cons_succ])
              refine wpAnyH_ready (rs := [28]) (by kernel_rfl) (by simp) ?_
              refine AllReadyH.cons (o := { dst := some 119, op := Op.call { callee := Callee.value (Operand.func 71), args := #[Operand.tmp 113, Operand.tmp 118], argTypes := #[38, 38] }, type := 3, pos := "tide.go:285", after := #[{ on := 22, ground := Ground.data }, { on := 27, ground := Ground.data }, { on := 27, ground := Ground.chain }, { on := 17, ground := Ground.guard }], guard := some (17, true) }) ?hoh6_28 ?hth6_28 ?hnh6_28
              case hoh6_28 => rfl
              case hnh6_28 => exact AllReadyH.nil
              intro K hK
              refine iteN (by kernel_rfl) ?_
              refine hK.out _ _ hS (fun _ => ?_)
              clear hK K
              (try simp only [Act.put, List.setIfInBounds_toArray, List.set_cons_zero, List.set_cons_succ])
              refine wpAnyH_takeD 29 (some 120) (v := undef) rfl rfl (by kernel_rfl) (by kernel_rfl) (by kernel_rfl) (fun _ _ _ h => h) (.inr ⟨by kernel_rfl, rfl⟩) hS ?_
              (try simp only [Act.put, List.setIfInBounds_toArray, List.set_cons_zero, List.set_cons_succ])
              refine wpAnyH_takeD 30 (some 121) (v := ?vh6_30) rfl rfl (by kernel_rfl) (by kernel_rfl) (by kernel_rfl) (fun _ _ _ h => h) (.inl ⟨by kernel_rfl, ?hyh6_30⟩) hS ?resth6_30
              case hyh6_30 => (intro w hSw; (try dsimp only at hSw); go_simp; (try with_reducible rfl))
              (try simp only [Act.put, List.setIfInBounds_toArray, List.set_cons_zero, List.set_cons_succ])
              refine wpAnyH_done (by kernel_rfl) ?_ _
              go_wp2
              go_meet
              case rel => exact ⟨rfl, hS.1⟩
            have g1 : ((k : Int) != (i : Int)) = true := bne_iff_ne.2 (by omega)
            by_cases h2 : x.1 ≤ y.1
            case neg =>
              have g2 : decide (x.1 ≤ y.1) = false := decide_eq_false h2
              obtain rfl : bb = false := by rw [hbb]; exact decide_eq_false (fun h => h2 h.2.1.1)
              clear h1 h2 hbb
              go_wp2_with fail
              have hS := hS0
              refine wp_region_held_drew (S := fun (w' : World) => Below wz.heap.size wz w' ∧ w'.cell? ⟨gv, 0, none⟩ = some (.int .i64 x.1) ∧ w'.cell? ⟨gv, 1, none⟩ = some (.int .i64 x.2.1) ∧ w'.cell? ⟨gv, 2, none⟩ = some (.bool x.2.2.1) ∧ w'.cell? ⟨gv, 3, none⟩ = some (.slice A1 x.2.2.2.1.length a1) ∧ w'.cell? ⟨gv, 4, none⟩ = some (.slice A2 x.2.2.2.2.length a2) ∧ w'.cell? ⟨gz, 0, none⟩ = some (.int .i64 y.1) ∧ w'.cell? ⟨gz, 1, none⟩ = some (.int .i64 y.2.1)) (by kernel_rfl) hS (fun _ => ?_)
              simp only [List.size_toArray, List.length_cons, List.length_nil, Nat.reduceAdd]
              refine wpAnyH_takeD 0 (some 91) (v := ?vh7_0) rfl rfl (by kernel_rfl) (by kernel_rfl) (by kernel_rfl) (fun _ _ _ h => h) (.inl ⟨by kernel_rfl, ?hyh7_0⟩) hS ?resth7_0
              case hyh7_0 => (intro w hSw; (try dsimp only at hSw); go_simp; (try with_reducible rfl))
              (try simp only [Act.put, List.setIfInBounds_toArray, List.set_cons_zero, List.set_cons_succ])
              refine wpAnyH_takeD 1 (some 92) (v := ?vh7_1) rfl rfl (by kernel_rfl) (by kernel_rfl) (by kernel_rfl) (fun _ _ _ h => h) (.inl ⟨by kernel_rfl, ?hyh7_1⟩) hS ?resth7_1
              case hyh7_1 => (intro w hSw; (try dsimp only at hSw); go_simp; (try with_reducible rfl))
              (try simp only [Act.put, List.setIfInBounds_toArray, List.set_cons_zero, List.set_cons_succ])
              refine wpAnyH_takeD 2 (some 93) (v := ?vh7_2) rfl rfl (by kernel_rfl) (by kernel_rfl) (by kernel_rfl) (fun _ _ _ h => h) (.inl ⟨by kernel_rfl, ?hyh7_2⟩) hS ?resth7_2
              case hyh7_2 => (intro w hSw; (try dsimp only at hSw); go_simp; (try with_reducible rfl))
              (try simp only [Act.put, List.setIfInBounds_toArray, List.set_cons_zero, List.set_cons_succ])
              refine wpAnyH_takeD 3 (some 94) (v := ?vh7_3) rfl rfl (by kernel_rfl) (by kernel_rfl) (by kernel_rfl) (fun _ _ _ h => h) (.inl ⟨by kernel_rfl, ?hyh7_3⟩) hS ?resth7_3
              case hyh7_3 => (intro w hSw; (try dsimp only at hSw); go_simp; (try with_reducible rfl))
              (try simp only [Act.put, List.setIfInBounds_toArray, List.set_cons_zero, List.set_cons_succ])
              refine wpAnyH_takeD 4 (some 95) (v := ?vh7_4) rfl rfl (by kernel_rfl) (by kernel_rfl) (by kernel_rfl) (fun _ _ _ h => h) (.inl ⟨by kernel_rfl, ?hyh7_4⟩) hS ?resth7_4
              case hyh7_4 => (intro w hSw; (try dsimp only at hSw); go_simp; (try with_reducible rfl))
              (try simp only [Act.put, List.setIfInBounds_toArray, List.set_cons_zero, List.set_cons_succ])
              refine wpAnyH_takeD 5 (some 96) (v := ?vh7_5) rfl rfl (by kernel_rfl) (by kernel_rfl) (by kernel_rfl) (fun _ _ _ h => h) (.inl ⟨by kernel_rfl, ?hyh7_5⟩) hS ?resth7_5
              case hyh7_5 => (intro w hSw; (try dsimp only at hSw); go_simp; (try with_reducible rfl))
              (try simp only [Act.put, List.setIfInBounds_toArray, List.set_cons_zero, List.set_cons_succ])
              refine wpAnyH_takeD 6 (some 97) (v := ?vh7_6) rfl rfl (by kernel_rfl) (by kernel_rfl) (by kernel_rfl) (fun _ _ _ h => h) (.inl ⟨by kernel_rfl, ?hyh7_6⟩) hS ?resth7_6
              case hyh7_6 => (intro w hSw; (try dsimp only at hSw); go_simp; (try with_reducible rfl))
              (try simp only [Act.put, List.setIfInBounds_toArray, List.set_cons_zero, List.set_cons_succ])
              refine wpAnyH_takeD 7 (some 98) (v := ?vh7_7) rfl rfl (by kernel_rfl) (by kernel_rfl) (by kernel_rfl) (fun _ _ _ h => h) (.inl ⟨by kernel_rfl, ?hyh7_7⟩) hS ?resth7_7
              case hyh7_7 => (intro w hSw; (try dsimp only at hSw); go_simp; (try with_reducible rfl))
              (try simp only [Act.put, List.setIfInBounds_toArray, List.set_cons_zero, List.set_cons_succ])
              refine wpAnyH_takeD 8 (some 99) (v := ?vh7_8) rfl rfl (by kernel_rfl) (by kernel_rfl) (by kernel_rfl) (fun _ _ _ h => h) (.inl ⟨by kernel_rfl, ?hyh7_8⟩) hS ?resth7_8
              case hyh7_8 => (intro w hSw; (try dsimp only at hSw); go_simp; (try with_reducible rfl))
              (try simp only [Act.put, List.setIfInBounds_toArray, List.set_cons_zero, List.set_cons_succ])
              refine wpAnyH_takeD 9 (some 100) (v := ?vh7_9) rfl rfl (by kernel_rfl) (by kernel_rfl) (by kernel_rfl) (fun _ _ _ h => h) (.inl ⟨by kernel_rfl, ?hyh7_9⟩) hS ?resth7_9
              case hyh7_9 => (intro w hSw; (try dsimp only at hSw); go_simp; (try with_reducible rfl))
              (try simp only [Act.put, List.setIfInBounds_toArray, List.set_cons_zero, List.set_cons_succ])
              refine wpAnyH_takeD 10 (some 101) (v := ?vh7_10) rfl rfl (by kernel_rfl) (by kernel_rfl) (by kernel_rfl) (fun _ _ _ h => h) (.inl ⟨by kernel_rfl, ?hyh7_10⟩) hS ?resth7_10
              case hyh7_10 => (intro w hSw; (try dsimp only at hSw); go_simp; (try with_reducible rfl))
              (try simp only [Act.put, List.setIfInBounds_toArray, List.set_cons_zero, List.set_cons_succ])
              refine wpAnyH_takeD 11 (some 102) (v := undef) rfl rfl (by kernel_rfl) (by kernel_rfl) (by kernel_rfl) (fun _ _ _ h => h) (.inr ⟨by kernel_rfl, rfl⟩) hS ?_
              (try simp only [Act.put, List.setIfInBounds_toArray, List.set_cons_zero, List.set_cons_succ])
              refine wpAnyH_takeD 12 (some 103) (v := undef) rfl rfl (by kernel_rfl) (by kernel_rfl) (by kernel_rfl) (fun _ _ _ h => h) (.inr ⟨by kernel_rfl, rfl⟩) hS ?_
              (try simp only [Act.put, List.setIfInBounds_toArray, List.set_cons_zero, List.set_cons_succ])
              refine wpAnyH_takeD 13 (some 104) (v := undef) rfl rfl (by kernel_rfl) (by kernel_rfl) (by kernel_rfl) (fun _ _ _ h => h) (.inr ⟨by kernel_rfl, rfl⟩) hS ?_
              (try simp only [Act.put, List.setIfInBounds_toArray, List.set_cons_zero, List.set_cons_succ])
              refine wpAnyH_takeD 14 (some 105) (v := undef) rfl rfl (by kernel_rfl) (by kernel_rfl) (by kernel_rfl) (fun _ _ _ h => h) (.inr ⟨by kernel_rfl, rfl⟩) hS ?_
              (try simp only [Act.put, List.setIfInBounds_toArray, List.set_cons_zero, List.set_cons_succ])
              refine wpAnyH_takeD 15 (some 106) (v := undef) rfl rfl (by kernel_rfl) (by kernel_rfl) (by kernel_rfl) (fun _ _ _ h => h) (.inr ⟨by kernel_rfl, rfl⟩) hS ?_
              (try simp only [Act.put, List.setIfInBounds_toArray, List.set_cons_zero, List.set_cons_succ])
              refine wpAnyH_takeD 16 (some 107) (v := ?vh7_16) rfl rfl (by kernel_rfl) (by kernel_rfl) (by kernel_rfl) (fun _ _ _ h => h) (.inl ⟨by kernel_rfl, ?hyh7_16⟩) hS ?resth7_16
              case hyh7_16 => (intro w hSw; (try dsimp only at hSw); go_simp; (try with_reducible rfl))
              (try simp only [Act.put, List.setIfInBounds_toArray, List.set_cons_zero, List.set_cons_succ])
              refine wpAnyH_takeD 17 (some 108) (v := ?vh7_17) rfl rfl (by kernel_rfl) (by kernel_rfl) (by kernel_rfl) (fun _ _ _ h => h) (.inl ⟨by kernel_rfl, ?hyh7_17⟩) hS ?resth7_17
              case hyh7_17 => (intro w hSw; (try dsimp only at hSw); go_simp; (try with_reducible rfl))
              (try simp only [Act.put, List.setIfInBounds_toArray, List.set_cons_zero, List.set_cons_succ])
              refine wpAnyH_takeD 18 (some 109) (v := undef) rfl rfl (by kernel_rfl) (by kernel_rfl) (by kernel_rfl) (fun _ _ _ h => h) (.inr ⟨by kernel_rfl, rfl⟩) hS ?_
              (try simp only [Act.put, List.setIfInBounds_toArray, List.set_cons_zero, List.set_cons_succ])
              refine wpAnyH_takeD 19 (some 110) (v := undef) rfl rfl (by kernel_rfl) (by kernel_rfl) (by kernel_rfl) (fun _ _ _ h => h) (.inr ⟨by kernel_rfl, rfl⟩) hS ?_
              (try simp only [Act.put, List.setIfInBounds_toArray, List.set_cons_zero, List.set_cons_succ])
              refine wpAnyH_takeD 20 (some 111) (v := undef) rfl rfl (by kernel_rfl) (by kernel_rfl) (by kernel_rfl) (fun _ _ _ h => h) (.inr ⟨by kernel_rfl, rfl⟩) hS ?_
              (try simp only [Act.put, List.setIfInBounds_toArray, List.set_cons_zero, List.set_cons_succ])
              refine wpAnyH_takeD 21 (some 112) (v := undef) rfl rfl (by kernel_rfl) (by kernel_rfl) (by kernel_rfl) (fun _ _ _ h => h) (.inr ⟨by kernel_rfl, rfl⟩) hS ?_
              (try simp only [Act.put, List.setIfInBounds_toArray, List.set_cons_zero, List.set_cons_succ])
              refine wpAnyH_takeD 23 (some 114) (v := undef) rfl rfl (by kernel_rfl) (by kernel_rfl) (by kernel_rfl) (fun _ _ _ h => h) (.inr ⟨by kernel_rfl, rfl⟩) hS ?_
              (try simp only [Act.put, List.setIfInBounds_toArray, List.set_cons_zero, List.set_cons_succ])
              refine wpAnyH_takeD 24 (some 115) (v := undef) rfl rfl (by kernel_rfl) (by kernel_rfl) (by kernel_rfl) (fun _ _ _ h => h) (.inr ⟨by kernel_rfl, rfl⟩) hS ?_
              (try simp only [Act.put, List.setIfInBounds_toArray, List.set_cons_zero, List.set_cons_succ])
              refine wpAnyH_takeD 25 (some 116) (v := undef) rfl rfl (by kernel_rfl) (by kernel_rfl) (by kernel_rfl) (fun _ _ _ h => h) (.inr ⟨by kernel_rfl, rfl⟩) hS ?_
              (try simp only [Act.put, List.setIfInBounds_toArray, List.set_cons_zero, List.set_cons_succ])
              refine wpAnyH_takeD 26 (some 117) (v := undef) rfl rfl (by kernel_rfl) (by kernel_rfl) (by kernel_rfl) (fun _ _ _ h => h) (.inr ⟨by kernel_rfl, rfl⟩) hS ?_
              (try simp only [Act.put, List.setIfInBounds_toArray, List.set_cons_zero, List.set_cons_succ])
              refine wpAnyH_ready (rs := [22]) (by kernel_rfl) (by simp) ?_
              refine AllReadyH.cons (o := { dst := some 113, op := Op.call { callee := Callee.value (Operand.tmp 109), args := #[Operand.tmp 111, Operand.tmp 112], argTypes := #[38, 3] }, type := 38, pos := "tide.go:285", after := #[{ on := 18, ground := Ground.data }, { on := 20, ground := Ground.data }, { on := 21, ground := Ground.data }, { on := 17, ground := Ground.chain }, { on := 17, ground := Ground.guard }], guard := some (17, true) }) ?hoh7_22 ?hth7_22 ?hnh7_22
              case hoh7_22 => rfl
              case hnh7_22 => exact AllReadyH.nil
              intro K hK
              refine iteN (by kernel_rfl) ?_
              refine hK.out _ _ hS (fun _ => ?_)
              clear hK K
              (try simp only [Act.put, List.setIfInBounds_toArray, List.set_cons_zero, List.set_cons_succ])
              refine wpAnyH_ready (rs := [27]) (by kernel_rfl) (by simp) ?_
              refine AllReadyH.cons (o := { dst := some 118, op := Op.call { callee := Callee.value (Operand.tmp 114), args := #[Operand.tmp 116, Operand.tmp 117], argTypes := #[38, 3] }, type := 38, pos := "tide.go:285", after := #[{ on := 23, ground := Ground.data }, { on := 25, ground := Ground.data }, { on := 26, ground := Ground.data }, { on := 22, ground := Ground.chain }, { on := 17, ground := Ground.guard }], guard := some (17, true) }) ?hoh7_27 ?hth7_27 ?hnh7_27
              case hoh7_27 => rfl
              case hnh7_27 => exact AllReadyH.nil
              intro K hK
              refine iteN (by kernel_rfl) ?_
              refine hK.out _ _ hS (fun _ => ?_)
              clear hK K
              (try simp only [Act.put, List.setIfInBounds_toArray, List.set_cons_zero, List.set_cons_succ])
              refine wpAnyH_ready (rs := [28]) (by kernel_rfl) (by simp) ?_
              refine AllReadyH.cons (o := { dst := some 119, op := Op.call { callee := Callee.value (Operand.func 71), args := #[Operand.tmp 113, Operand.tmp 118], argTypes := #[38, 38] }, type := 3, pos := "tide.go:285", after := #[{ on := 22, ground := Ground.data }, { on := 27, ground := Ground.data }, { on := 27, ground := Ground.chain }, { on := 17, ground := Ground.guard }], guard := some (17, true) }) ?hoh7_28 ?hth7_28 ?hnh7_28
              case hoh7_28 => rfl
              case hnh7_28 => exact AllReadyH.nil
              intro K hK
              refine iteN (by kernel_rfl) ?_
              refine hK.out _ _ hS (fun _ => ?_)
              clear hK K
              (try simp only [Act.put, List.setIfInBounds_toArray, List.set_cons_zero, List.set_cons_succ])
              refine wpAnyH_takeD 29 (some 120) (v := undef) rfl rfl (by kernel_rfl) (by kernel_rfl) (by kernel_rfl) (fun _ _ _ h => h) (.inr ⟨by kernel_rfl, rfl⟩) hS ?_
              (try simp only [Act.put, List.setIfInBounds_toArray, List.set_cons_zero, List.set_cons_succ])
              refine wpAnyH_takeD 30 (some 121) (v := ?vh7_30) rfl rfl (by kernel_rfl) (by kernel_rfl) (by kernel_rfl) (fun _ _ _ h => h) (.inl ⟨by kernel_rfl, ?hyh7_30⟩) hS ?resth7_30
              case hyh7_30 => (intro w hSw; (try dsimp only at hSw); go_simp; (try with_reducible rfl))
              (try simp only [Act.put, List.setIfInBounds_toArray, List.set_cons_zero, List.set_cons_succ])
              refine wpAnyH_done (by kernel_rfl) ?_ _
              go_wp2
              go_meet
              case rel => exact ⟨rfl, hS.1⟩
            have g2 : decide (x.1 ≤ y.1) = true := decide_eq_true h2
            by_cases h3 : y.2.1 ≤ x.2.1
            case neg =>
              have g3 : decide (y.2.1 ≤ x.2.1) = false := decide_eq_false h3
              obtain rfl : bb = false := by rw [hbb]; exact decide_eq_false (fun h => h3 h.2.1.2)
              clear h1 h2 h3 hbb
              go_wp2_with fail
              have hS := hS0
              refine wp_region_held_drew (S := fun (w' : World) => Below wz.heap.size wz w' ∧ w'.cell? ⟨gv, 0, none⟩ = some (.int .i64 x.1) ∧ w'.cell? ⟨gv, 1, none⟩ = some (.int .i64 x.2.1) ∧ w'.cell? ⟨gv, 2, none⟩ = some (.bool x.2.2.1) ∧ w'.cell? ⟨gv, 3, none⟩ = some (.slice A1 x.2.2.2.1.length a1) ∧ w'.cell? ⟨gv, 4, none⟩ = some (.slice A2 x.2.2.2.2.length a2) ∧ w'.cell? ⟨gz, 0, none⟩ = some (.int .i64 y.1) ∧ w'.cell? ⟨gz, 1, none⟩ = some (.int .i64 y.2.1)) (by kernel_rfl) hS (fun _ => ?_)
              simp only [List.size_toArray, List.length_cons, List.length_nil, Nat.reduceAdd]
              refine wpAnyH_takeD 0 (some 91) (v := ?vh8_0) rfl rfl (by kernel_rfl) (by kernel_rfl) (by kernel_rfl) (fun _ _ _ h => h) (.inl ⟨by kernel_rfl, ?hyh8_0⟩) hS ?resth8_0
              case hyh8_0 => (intro w hSw; (try dsimp only at hSw); go_simp; (try with_reducible rfl))
              (try simp only [Act.put, List.setIfInBounds_toArray, List.set_cons_zero, List.set_cons_succ])
              refine wpAnyH_takeD 1 (some 92) (v := ?vh8_1) rfl rfl (by kernel_rfl) (by kernel_rfl) (by kernel_rfl) (fun _ _ _ h => h) (.inl ⟨by kernel_rfl, ?hyh8_1⟩) hS ?resth8_1
              case hyh8_1 => (intro w hSw; (try dsimp only at hSw); go_simp; (try with_reducible rfl))
              (try simp only [Act.put, List.setIfInBounds_toArray, List.set_cons_zero, List.set_cons_succ])
              refine wpAnyH_takeD 2 (some 93) (v := ?vh8_2) rfl rfl (by kernel_rfl) (by kernel_rfl) (by kernel_rfl) (fun _ _ _ h => h) (.inl ⟨by kernel_rfl, ?hyh8_2⟩) hS ?resth8_2
              case hyh8_2 => (intro w hSw; (try dsimp only at hSw); go_simp; (try with_reducible rfl))
              (try simp only [Act.put, List.setIfInBounds_toArray, List.set_cons_zero, List.set_cons_succ])
              refine wpAnyH_takeD 3 (some 94) (v := ?vh8_3) rfl rfl (by kernel_rfl) (by kernel_rfl) (by kernel_rfl) (fun _ _ _ h => h) (.inl ⟨by kernel_rfl, ?hyh8_3⟩) hS ?resth8_3
              case hyh8_3 => (intro w hSw; (try dsimp only at hSw); go_simp; (try with_reducible rfl))
              (try simp only [Act.put, List.setIfInBounds_toArray, List.set_cons_zero, List.set_cons_succ])
              refine wpAnyH_takeD 4 (some 95) (v := ?vh8_4) rfl rfl (by kernel_rfl) (by kernel_rfl) (by kernel_rfl) (fun _ _ _ h => h) (.inl ⟨by kernel_rfl, ?hyh8_4⟩) hS ?resth8_4
              case hyh8_4 => (intro w hSw; (try dsimp only at hSw); go_simp; (try with_reducible rfl))
              (try simp only [Act.put, List.setIfInBounds_toArray, List.set_cons_zero, List.set_cons_succ])
              refine wpAnyH_takeD 5 (some 96) (v := ?vh8_5) rfl rfl (by kernel_rfl) (by kernel_rfl) (by kernel_rfl) (fun _ _ _ h => h) (.inl ⟨by kernel_rfl, ?hyh8_5⟩) hS ?resth8_5
              case hyh8_5 => (intro w hSw; (try dsimp only at hSw); go_simp; (try with_reducible rfl))
              (try simp only [Act.put, List.setIfInBounds_toArray, List.set_cons_zero, List.set_cons_succ])
              refine wpAnyH_takeD 6 (some 97) (v := ?vh8_6) rfl rfl (by kernel_rfl) (by kernel_rfl) (by kernel_rfl) (fun _ _ _ h => h) (.inl ⟨by kernel_rfl, ?hyh8_6⟩) hS ?resth8_6
              case hyh8_6 => (intro w hSw; (try dsimp only at hSw); go_simp; (try with_reducible rfl))
              (try simp only [Act.put, List.setIfInBounds_toArray, List.set_cons_zero, List.set_cons_succ])
              refine wpAnyH_takeD 7 (some 98) (v := ?vh8_7) rfl rfl (by kernel_rfl) (by kernel_rfl) (by kernel_rfl) (fun _ _ _ h => h) (.inl ⟨by kernel_rfl, ?hyh8_7⟩) hS ?resth8_7
              case hyh8_7 => (intro w hSw; (try dsimp only at hSw); go_simp; (try with_reducible rfl))
              (try simp only [Act.put, List.setIfInBounds_toArray, List.set_cons_zero, List.set_cons_succ])
              refine wpAnyH_takeD 8 (some 99) (v := ?vh8_8) rfl rfl (by kernel_rfl) (by kernel_rfl) (by kernel_rfl) (fun _ _ _ h => h) (.inl ⟨by kernel_rfl, ?hyh8_8⟩) hS ?resth8_8
              case hyh8_8 => (intro w hSw; (try dsimp only at hSw); go_simp; (try with_reducible rfl))
              (try simp only [Act.put, List.setIfInBounds_toArray, List.set_cons_zero, List.set_cons_succ])
              refine wpAnyH_takeD 9 (some 100) (v := ?vh8_9) rfl rfl (by kernel_rfl) (by kernel_rfl) (by kernel_rfl) (fun _ _ _ h => h) (.inl ⟨by kernel_rfl, ?hyh8_9⟩) hS ?resth8_9
              case hyh8_9 => (intro w hSw; (try dsimp only at hSw); go_simp; (try with_reducible rfl))
              (try simp only [Act.put, List.setIfInBounds_toArray, List.set_cons_zero, List.set_cons_succ])
              refine wpAnyH_takeD 10 (some 101) (v := ?vh8_10) rfl rfl (by kernel_rfl) (by kernel_rfl) (by kernel_rfl) (fun _ _ _ h => h) (.inl ⟨by kernel_rfl, ?hyh8_10⟩) hS ?resth8_10
              case hyh8_10 => (intro w hSw; (try dsimp only at hSw); go_simp; (try with_reducible rfl))
              (try simp only [Act.put, List.setIfInBounds_toArray, List.set_cons_zero, List.set_cons_succ])
              refine wpAnyH_takeD 11 (some 102) (v := ?vh8_11) rfl rfl (by kernel_rfl) (by kernel_rfl) (by kernel_rfl) (fun _ _ _ h => h) (.inl ⟨by kernel_rfl, ?hyh8_11⟩) hS ?resth8_11
              case hyh8_11 => (intro w hSw; (try dsimp only at hSw); go_simp; (try with_reducible rfl))
              (try simp only [Act.put, List.setIfInBounds_toArray, List.set_cons_zero, List.set_cons_succ])
              refine wpAnyH_takeD 12 (some 103) (v := ?vh8_12) rfl rfl (by kernel_rfl) (by kernel_rfl) (by kernel_rfl) (fun _ _ _ h => h) (.inl ⟨by kernel_rfl, ?hyh8_12⟩) hS ?resth8_12
              case hyh8_12 => (intro w hSw; (try dsimp only at hSw); go_simp; (try with_reducible rfl))
              (try simp only [Act.put, List.setIfInBounds_toArray, List.set_cons_zero, List.set_cons_succ])
              refine wpAnyH_takeD 13 (some 104) (v := ?vh8_13) rfl rfl (by kernel_rfl) (by kernel_rfl) (by kernel_rfl) (fun _ _ _ h => h) (.inl ⟨by kernel_rfl, ?hyh8_13⟩) hS ?resth8_13
              case hyh8_13 => (intro w hSw; (try dsimp only at hSw); go_simp; (try with_reducible rfl))
              (try simp only [Act.put, List.setIfInBounds_toArray, List.set_cons_zero, List.set_cons_succ])
              refine wpAnyH_takeD 14 (some 105) (v := ?vh8_14) rfl rfl (by kernel_rfl) (by kernel_rfl) (by kernel_rfl) (fun _ _ _ h => h) (.inl ⟨by kernel_rfl, ?hyh8_14⟩) hS ?resth8_14
              case hyh8_14 => (intro w hSw; (try dsimp only at hSw); go_simp; (try with_reducible rfl))
              (try simp only [Act.put, List.setIfInBounds_toArray, List.set_cons_zero, List.set_cons_succ])
              refine wpAnyH_takeD 15 (some 106) (v := ?vh8_15) rfl rfl (by kernel_rfl) (by kernel_rfl) (by kernel_rfl) (fun _ _ _ h => h) (.inl ⟨by kernel_rfl, ?hyh8_15⟩) hS ?resth8_15
              case hyh8_15 => (intro w hSw; (try dsimp only at hSw); go_simp; (try with_reducible rfl))
              (try simp only [Act.put, List.setIfInBounds_toArray, List.set_cons_zero, List.set_cons_succ])
              refine wpAnyH_takeD 16 (some 107) (v := ?vh8_16) rfl rfl (by kernel_rfl) (by kernel_rfl) (by kernel_rfl) (fun _ _ _ h => h) (.inl ⟨by kernel_rfl, ?hyh8_16⟩) hS ?resth8_16
              case hyh8_16 => (intro w hSw; (try dsimp only at hSw); go_simp; (try with_reducible rfl))
              (try simp only [Act.put, List.setIfInBounds_toArray, List.set_cons_zero, List.set_cons_succ])
              refine wpAnyH_takeD 17 (some 108) (v := ?vh8_17) rfl rfl (by kernel_rfl) (by kernel_rfl) (by kernel_rfl) (fun _ _ _ h => h) (.inl ⟨by kernel_rfl, ?hyh8_17⟩) hS ?resth8_17
              case hyh8_17 => (intro w hSw; (try dsimp only at hSw); go_simp; (try with_reducible rfl))
              (try simp only [Act.put, List.setIfInBounds_toArray, List.set_cons_zero, List.set_cons_succ])
              refine wpAnyH_takeD 18 (some 109) (v := undef) rfl rfl (by kernel_rfl) (by kernel_rfl) (by kernel_rfl) (fun _ _ _ h => h) (.inr ⟨by kernel_rfl, rfl⟩) hS ?_
              (try simp only [Act.put, List.setIfInBounds_toArray, List.set_cons_zero, List.set_cons_succ])
              refine wpAnyH_takeD 19 (some 110) (v := undef) rfl rfl (by kernel_rfl) (by kernel_rfl) (by kernel_rfl) (fun _ _ _ h => h) (.inr ⟨by kernel_rfl, rfl⟩) hS ?_
              (try simp only [Act.put, List.setIfInBounds_toArray, List.set_cons_zero, List.set_cons_succ])
              refine wpAnyH_takeD 20 (some 111) (v := undef) rfl rfl (by kernel_rfl) (by kernel_rfl) (by kernel_rfl) (fun _ _ _ h => h) (.inr ⟨by kernel_rfl, rfl⟩) hS ?_
              (try simp only [Act.put, List.setIfInBounds_toArray, List.set_cons_zero, List.set_cons_succ])
              refine wpAnyH_takeD 21 (some 112) (v := undef) rfl rfl (by kernel_rfl) (by kernel_rfl) (by kernel_rfl) (fun _ _ _ h => h) (.inr ⟨by kernel_rfl, rfl⟩) hS ?_
              (try simp only [Act.put, List.setIfInBounds_toArray, List.set_cons_zero, List.set_cons_succ])
              refine wpAnyH_takeD 23 (some 114) (v := undef) rfl rfl (by kernel_rfl) (by kernel_rfl) (by kernel_rfl) (fun _ _ _ h => h) (.inr ⟨by kernel_rfl, rfl⟩) hS ?_
              (try simp only [Act.put, List.setIfInBounds_toArray, List.set_cons_zero, List.set_cons_succ])
              refine wpAnyH_takeD 24 (some 115) (v := undef) rfl rfl (by kernel_rfl) (by kernel_rfl) (by kernel_rfl) (fun _ _ _ h => h) (.inr ⟨by kernel_rfl, rfl⟩) hS ?_
              (try simp only [Act.put, List.setIfInBounds_toArray, List.set_cons_zero, List.set_cons_succ])
              refine wpAnyH_takeD 25 (some 116) (v := undef) rfl rfl (by kernel_rfl) (by kernel_rfl) (by kernel_rfl) (fun _ _ _ h => h) (.inr ⟨by kernel_rfl, rfl⟩) hS ?_
              (try simp only [Act.put, List.setIfInBounds_toArray, List.set_cons_zero, List.set_cons_succ])
              refine wpAnyH_takeD 26 (some 117) (v := undef) rfl rfl (by kernel_rfl) (by kernel_rfl) (by kernel_rfl) (fun _ _ _ h => h) (.inr ⟨by kernel_rfl, rfl⟩) hS ?_
              (try simp only [Act.put, List.setIfInBounds_toArray, List.set_cons_zero, List.set_cons_succ])
              refine wpAnyH_ready (rs := [22]) (by kernel_rfl) (by simp) ?_
              refine AllReadyH.cons (o := { dst := some 113, op := Op.call { callee := Callee.value (Operand.tmp 109), args := #[Operand.tmp 111, Operand.tmp 112], argTypes := #[38, 3] }, type := 38, pos := "tide.go:285", after := #[{ on := 18, ground := Ground.data }, { on := 20, ground := Ground.data }, { on := 21, ground := Ground.data }, { on := 17, ground := Ground.chain }, { on := 17, ground := Ground.guard }], guard := some (17, true) }) ?hoh8_22 ?hth8_22 ?hnh8_22
              case hoh8_22 => rfl
              case hnh8_22 => exact AllReadyH.nil
              intro K hK
              refine iteN (by kernel_rfl) ?_
              refine hK.out _ _ hS (fun _ => ?_)
              clear hK K
              (try simp only [Act.put, List.setIfInBounds_toArray, List.set_cons_zero, List.set_cons_succ])
              refine wpAnyH_ready (rs := [27]) (by kernel_rfl) (by simp) ?_
              refine AllReadyH.cons (o := { dst := some 118, op := Op.call { callee := Callee.value (Operand.tmp 114), args := #[Operand.tmp 116, Operand.tmp 117], argTypes := #[38, 3] }, type := 38, pos := "tide.go:285", after := #[{ on := 23, ground := Ground.data }, { on := 25, ground := Ground.data }, { on := 26, ground := Ground.data }, { on := 22, ground := Ground.chain }, { on := 17, ground := Ground.guard }], guard := some (17, true) }) ?hoh8_27 ?hth8_27 ?hnh8_27
              case hoh8_27 => rfl
              case hnh8_27 => exact AllReadyH.nil
              intro K hK
              refine iteN (by kernel_rfl) ?_
              refine hK.out _ _ hS (fun _ => ?_)
              clear hK K
              (try simp only [Act.put, List.setIfInBounds_toArray, List.set_cons_zero, List.set_cons_succ])
              refine wpAnyH_ready (rs := [28]) (by kernel_rfl) (by simp) ?_
              refine AllReadyH.cons (o := { dst := some 119, op := Op.call { callee := Callee.value (Operand.func 71), args := #[Operand.tmp 113, Operand.tmp 118], argTypes := #[38, 38] }, type := 3, pos := "tide.go:285", after := #[{ on := 22, ground := Ground.data }, { on := 27, ground := Ground.data }, { on := 27, ground := Ground.chain }, { on := 17, ground := Ground.guard }], guard := some (17, true) }) ?hoh8_28 ?hth8_28 ?hnh8_28
              case hoh8_28 => rfl
              case hnh8_28 => exact AllReadyH.nil
              intro K hK
              refine iteN (by kernel_rfl) ?_
              refine hK.out _ _ hS (fun _ => ?_)
              clear hK K
              (try simp only [Act.put, List.setIfInBounds_toArray, List.set_cons_zero, List.set_cons_succ])
              refine wpAnyH_takeD 29 (some 120) (v := undef) rfl rfl (by kernel_rfl) (by kernel_rfl) (by kernel_rfl) (fun _ _ _ h => h) (.inr ⟨by kernel_rfl, rfl⟩) hS ?_
              (try simp only [Act.put, List.setIfInBounds_toArray, List.set_cons_zero, List.set_cons_succ])
              refine wpAnyH_takeD 30 (some 121) (v := ?vh8_30) rfl rfl (by kernel_rfl) (by kernel_rfl) (by kernel_rfl) (fun _ _ _ h => h) (.inl ⟨by kernel_rfl, ?hyh8_30⟩) hS ?resth8_30
              case hyh8_30 => (intro w hSw; (try dsimp only at hSw); go_simp; (try with_reducible rfl))
              (try simp only [Act.put, List.setIfInBounds_toArray, List.set_cons_zero, List.set_cons_succ])
              refine wpAnyH_done (by kernel_rfl) ?_ _
              go_wp2
              go_meet
              case rel => exact ⟨rfl, hS.1⟩
            have g3 : decide (y.2.1 ≤ x.2.1) = true := decide_eq_true h3
            obtain ⟨cq, hcq⟩ : ∃ c, c = rcmp qk qo := ⟨_, rfl⟩
            have HCQ := Lib.hid hcq
            have g5 : decide (0 < cq) = bb := by
              rw [hbb]
              refine decide_eq_decide.2 ⟨fun h => ⟨h1, ⟨h2, h3⟩, by rw [hcq] at h; unfold rcmp at h; grind⟩, fun h => by rw [hcq]; have := h.2.2; unfold rcmp; grind⟩
            clear h1 h2 h3 hbb hcq
            go_wp2_with fail
            have hS := hS0
            refine wp_region_held_drew (S := fun (w' : World) => Below wz.heap.size wz w' ∧ w'.cell? ⟨gv, 0, none⟩ = some (.int .i64 x.1) ∧ w'.cell? ⟨gv, 1, none⟩ = some (.int .i64 x.2.1) ∧ w'.cell? ⟨gv, 2, none⟩ = some (.bool x.2.2.1) ∧ w'.cell? ⟨gv, 3, none⟩ = some (.slice A1 x.2.2.2.1.length a1) ∧ w'.cell? ⟨gv, 4, none⟩ = some (.slice A2 x.2.2.2.2.length a2) ∧ w'.cell? ⟨gz, 0, none⟩ = some (.int .i64 y.1) ∧ w'.cell? ⟨gz, 1, none⟩ = some (.int .i64 y.2.1)) (by kernel_rfl) hS (fun _ => ?_)
            simp only [List.size_toArray, List.length_cons, List.length_nil, Nat.reduceAdd]
            refine wpAnyH_takeD 0 (some 91) (v := ?vh9_0) rfl rfl (by kernel_rfl) (by kernel_rfl) (by kernel_rfl) (fun _ _ _ h => h) (.inl ⟨by kernel_rfl, ?hyh9_0⟩) hS ?resth9_0
            case hyh9_0 => (intro w hSw; (try dsimp only at hSw); go_simp; (try with_reducible rfl))
            (try simp only [Act.put, List.setIfInBounds_toArray, List.set_cons_zero, List.set_cons_succ])
            refine wpAnyH_takeD 1 (some 92) (v := ?vh9_1) rfl rfl (by kernel_rfl) (by kernel_rfl) (by kernel_rfl) (fun _ _ _ h => h) (.inl ⟨by kernel_rfl, ?hyh9_1⟩) hS ?resth9_1
            case hyh9_1 => (intro w hSw; (try dsimp only at hSw); go_simp; (try with_reducible rfl))
            (try simp only [Act.put, List.setIfInBounds_toArray, List.set_cons_zero, List.set_cons_succ])
            refine wpAnyH_takeD 2 (some 93) (v := ?vh9_2) rfl rfl (by kernel_rfl) (by kernel_rfl) (by kernel_rfl) (fun _ _ _ h => h) (.inl ⟨by kernel_rfl, ?hyh9_2⟩) hS ?resth9_2
            case hyh9_2 => (intro w hSw; (try dsimp only at hSw); go_simp; (try with_reducible rfl))
            (try simp only [Act.put, List.setIfInBounds_toArray, List.set_cons_zero, List.set_cons_succ])
            refine wpAnyH_takeD 3 (some 94) (v := ?vh9_3) rfl rfl (by kernel_rfl) (by kernel_rfl) (by kernel_rfl) (fun _ _ _ h => h) (.inl ⟨by kernel_rfl, ?hyh9_3⟩) hS ?resth9_3
            case hyh9_3 => (intro w hSw; (try dsimp only at hSw); go_simp; (try with_reducible rfl))
            (try simp only [Act.put, List.setIfInBounds_toArray, List.set_cons_zero, List.set_cons_succ])
            refine wpAnyH_takeD 4 (some 95) (v := ?vh9_4) rfl rfl (by kernel_rfl) (by kernel_rfl) (by kernel_rfl) (fun _ _ _ h => h) (.inl ⟨by kernel_rfl, ?hyh9_4⟩) hS ?resth9_4
            case hyh9_4 => (intro w hSw; (try dsimp only at hSw); go_simp; (try with_reducible rfl))
            (try simp only [Act.put, List.setIfInBounds_toArray, List.set_cons_zero, List.set_cons_succ])
            refine wpAnyH_takeD 5 (some 96) (v := ?vh9_5) rfl rfl (by kernel_rfl) (by kernel_rfl) (by kernel_rfl) (fun _ _ _ h => h) (.inl ⟨by kernel_rfl, ?hyh9_5⟩) hS ?resth9_5
            case hyh9_5 => (intro w hSw; (try dsimp only at hSw); go_simp; (try with_reducible rfl))
            (try simp only [Act.put, List.setIfInBounds_toArray, List.set_cons_zero, List.set_cons_succ])
            refine wpAnyH_takeD 6 (some 97) (v := ?vh9_6) rfl rfl (by kernel_rfl) (by kernel_rfl) (by kernel_rfl) (fun _ _ _ h => h) (.inl ⟨by kernel_rfl, ?hyh9_6⟩) hS ?resth9_6
            case hyh9_6 => (intro w hSw; (try dsimp only at hSw); go_simp; (try with_reducible rfl))
            (try simp only [Act.put, List.setIfInBounds_toArray, List.set_cons_zero, List.set_cons_succ])
            refine wpAnyH_takeD 7 (some 98) (v := ?vh9_7) rfl rfl (by kernel_rfl) (by kernel_rfl) (by kernel_rfl) (fun _ _ _ h => h) (.inl ⟨by kernel_rfl, ?hyh9_7⟩) hS ?resth9_7
            case hyh9_7 => (intro w hSw; (try dsimp only at hSw); go_simp; (try with_reducible rfl))
            (try simp only [Act.put, List.setIfInBounds_toArray, List.set_cons_zero, List.set_cons_succ])
            refine wpAnyH_takeD 8 (some 99) (v := ?vh9_8) rfl rfl (by kernel_rfl) (by kernel_rfl) (by kernel_rfl) (fun _ _ _ h => h) (.inl ⟨by kernel_rfl, ?hyh9_8⟩) hS ?resth9_8
            case hyh9_8 => (intro w hSw; (try dsimp only at hSw); go_simp; (try with_reducible rfl))
            (try simp only [Act.put, List.setIfInBounds_toArray, List.set_cons_zero, List.set_cons_succ])
            refine wpAnyH_takeD 9 (some 100) (v := ?vh9_9) rfl rfl (by kernel_rfl) (by kernel_rfl) (by kernel_rfl) (fun _ _ _ h => h) (.inl ⟨by kernel_rfl, ?hyh9_9⟩) hS ?resth9_9
            case hyh9_9 => (intro w hSw; (try dsimp only at hSw); go_simp; (try with_reducible rfl))
            (try simp only [Act.put, List.setIfInBounds_toArray, List.set_cons_zero, List.set_cons_succ])
            refine wpAnyH_takeD 10 (some 101) (v := ?vh9_10) rfl rfl (by kernel_rfl) (by kernel_rfl) (by kernel_rfl) (fun _ _ _ h => h) (.inl ⟨by kernel_rfl, ?hyh9_10⟩) hS ?resth9_10
            case hyh9_10 => (intro w hSw; (try dsimp only at hSw); go_simp; (try with_reducible rfl))
            (try simp only [Act.put, List.setIfInBounds_toArray, List.set_cons_zero, List.set_cons_succ])
            refine wpAnyH_takeD 11 (some 102) (v := ?vh9_11) rfl rfl (by kernel_rfl) (by kernel_rfl) (by kernel_rfl) (fun _ _ _ h => h) (.inl ⟨by kernel_rfl, ?hyh9_11⟩) hS ?resth9_11
            case hyh9_11 => (intro w hSw; (try dsimp only at hSw); go_simp; (try with_reducible rfl))
            (try simp only [Act.put, List.setIfInBounds_toArray, List.set_cons_zero, List.set_cons_succ])
            refine wpAnyH_takeD 12 (some 103) (v := ?vh9_12) rfl rfl (by kernel_rfl) (by kernel_rfl) (by kernel_rfl) (fun _ _ _ h => h) (.inl ⟨by kernel_rfl, ?hyh9_12⟩) hS ?resth9_12
            case hyh9_12 => (intro w hSw; (try dsimp only at hSw); go_simp; (try with_reducible rfl))
            (try simp only [Act.put, List.setIfInBounds_toArray, List.set_cons_zero, List.set_cons_succ])
            refine wpAnyH_takeD 13 (some 104) (v := ?vh9_13) rfl rfl (by kernel_rfl) (by kernel_rfl) (by kernel_rfl) (fun _ _ _ h => h) (.inl ⟨by kernel_rfl, ?hyh9_13⟩) hS ?resth9_13
            case hyh9_13 => (intro w hSw; (try dsimp only at hSw); go_simp; (try with_reducible rfl))
            (try simp only [Act.put, List.setIfInBounds_toArray, List.set_cons_zero, List.set_cons_succ])
            refine wpAnyH_takeD 14 (some 105) (v := ?vh9_14) rfl rfl (by kernel_rfl) (by kernel_rfl) (by kernel_rfl) (fun _ _ _ h => h) (.inl ⟨by kernel_rfl, ?hyh9_14⟩) hS ?resth9_14
            case hyh9_14 => (intro w hSw; (try dsimp only at hSw); go_simp; (try with_reducible rfl))
            (try simp only [Act.put, List.setIfInBounds_toArray, List.set_cons_zero, List.set_cons_succ])
            refine wpAnyH_takeD 15 (some 106) (v := ?vh9_15) rfl rfl (by kernel_rfl) (by kernel_rfl) (by kernel_rfl) (fun _ _ _ h => h) (.inl ⟨by kernel_rfl, ?hyh9_15⟩) hS ?resth9_15
            case hyh9_15 => (intro w hSw; (try dsimp only at hSw); go_simp; (try with_reducible rfl))
            (try simp only [Act.put, List.setIfInBounds_toArray, List.set_cons_zero, List.set_cons_succ])
            refine wpAnyH_takeD 16 (some 107) (v := ?vh9_16) rfl rfl (by kernel_rfl) (by kernel_rfl) (by kernel_rfl) (fun _ _ _ h => h) (.inl ⟨by kernel_rfl, ?hyh9_16⟩) hS ?resth9_16
            case hyh9_16 => (intro w hSw; (try dsimp only at hSw); go_simp; (try with_reducible rfl))
            (try simp only [Act.put, List.setIfInBounds_toArray, List.set_cons_zero, List.set_cons_succ])
            refine wpAnyH_takeD 17 (some 108) (v := ?vh9_17) rfl rfl (by kernel_rfl) (by kernel_rfl) (by kernel_rfl) (fun _ _ _ h => h) (.inl ⟨by kernel_rfl, ?hyh9_17⟩) hS ?resth9_17
            case hyh9_17 => (intro w hSw; (try dsimp only at hSw); go_simp; (try with_reducible rfl))
            (try simp only [Act.put, List.setIfInBounds_toArray, List.set_cons_zero, List.set_cons_succ])
            refine wpAnyH_takeD 18 (some 109) (v := ?vh9_18) rfl rfl (by kernel_rfl) (by kernel_rfl) (by kernel_rfl) (fun _ _ _ h => h) (.inl ⟨by kernel_rfl, ?hyh9_18⟩) hS ?resth9_18
            case hyh9_18 => (intro w hSw; (try dsimp only at hSw); go_simp; (try with_reducible rfl))
            (try simp only [Act.put, List.setIfInBounds_toArray, List.set_cons_zero, List.set_cons_succ])
            refine wpAnyH_takeD 19 (some 110) (v := ?vh9_19) rfl rfl (by kernel_rfl) (by kernel_rfl) (by kernel_rfl) (fun _ _ _ h => h) (.inl ⟨by kernel_rfl, ?hyh9_19⟩) hS ?resth9_19
            case hyh9_19 => (intro w hSw; (try dsimp only at hSw); go_simp; (try with_reducible rfl))
            (try simp only [Act.put, List.setIfInBounds_toArray, List.set_cons_zero, List.set_cons_succ])
            refine wpAnyH_takeD 20 (some 111) (v := ?vh9_20) rfl rfl (by kernel_rfl) (by kernel_rfl) (by kernel_rfl) (fun _ _ _ h => h) (.inl ⟨by kernel_rfl, ?hyh9_20⟩) hS ?resth9_20
            case hyh9_20 => (intro w hSw; (try dsimp only at hSw); go_simp; (try with_reducible rfl))
            (try simp only [Act.put, List.setIfInBounds_toArray, List.set_cons_zero, List.set_cons_succ])
            refine wpAnyH_takeD 21 (some 112) (v := ?vh9_21) rfl rfl (by kernel_rfl) (by kernel_rfl) (by kernel_rfl) (fun _ _ _ h => h) (.inl ⟨by kernel_rfl, ?hyh9_21⟩) hS ?resth9_21
            case hyh9_21 => (intro w hSw; (try dsimp only at hSw); go_simp; (try with_reducible rfl))
            (try simp only [Act.put, List.setIfInBounds_toArray, List.set_cons_zero, List.set_cons_succ])
            refine wpAnyH_takeD 23 (some 114) (v := ?vh9_23) rfl rfl (by kernel_rfl) (by kernel_rfl) (by kernel_rfl) (fun _ _ _ h => h) (.inl ⟨by kernel_rfl, ?hyh9_23⟩) hS ?resth9_23
            case hyh9_23 => (intro w hSw; (try dsimp only at hSw); go_simp; (try with_reducible rfl))
            (try simp only [Act.put, List.setIfInBounds_toArray, List.set_cons_zero, List.set_cons_succ])
            refine wpAnyH_takeD 24 (some 115) (v := ?vh9_24) rfl rfl (by kernel_rfl) (by kernel_rfl) (by kernel_rfl) (fun _ _ _ h => h) (.inl ⟨by kernel_rfl, ?hyh9_24⟩) hS ?resth9_24
            case hyh9_24 => (intro w hSw; (try dsimp only at hSw); go_simp; (try with_reducible rfl))
            (try simp only [Act.put, List.setIfInBounds_toArray, List.set_cons_zero, List.set_cons_succ])
            refine wpAnyH_takeD 25 (some 116) (v := ?vh9_25) rfl rfl (by kernel_rfl) (by kernel_rfl) (by kernel_rfl) (fun _ _ _ h => h) (.inl ⟨by kernel_rfl, ?hyh9_25⟩) hS ?resth9_25
            case hyh9_25 => (intro w hSw; (try dsimp only at hSw); go_simp; (try with_reducible rfl))
            (try simp only [Act.put, List.setIfInBounds_toArray, List.set_cons_zero, List.set_cons_succ])
            refine wpAnyH_takeD 26 (some 117) (v := ?vh9_26) rfl rfl (by kernel_rfl) (by kernel_rfl) (by kernel_rfl) (fun _ _ _ h => h) (.inl ⟨by kernel_rfl, ?hyh9_26⟩) hS ?resth9_26
            case hyh9_26 => (intro w hSw; (try dsimp only at hSw); go_simp; (try with_reducible rfl))
            (try simp only [Act.put, List.setIfInBounds_toArray, List.set_cons_zero, List.set_cons_succ])
            refine wpAnyH_ready (rs := [22]) (by kernel_rfl) (by simp) ?_
            refine AllReadyH.cons (o := { dst := some 113, op := Op.call { callee := Callee.value (Operand.tmp 109), args := #[Operand.tmp 111, Operand.tmp 112], argTypes := #[38, 3] }, type := 38, pos := "tide.go:285", after := #[{ on := 18, ground := Ground.data }, { on := 20, ground := Ground.data }, { on := 21, ground := Ground.data }, { on := 17, ground := Ground.chain }, { on := 17, ground := Ground.guard }], guard := some (17, true) }) ?hoh9_22 ?hth9_22 ?hnh9_22
            case hoh9_22 => rfl
            case hnh9_22 => exact AllReadyH.nil
            intro K hK
            refine iteP (by kernel_rfl) ?_
            go_simp
            go_at_call 70
            with_reducible refine (thas_calls _ w.heap.size (w.heap.size + 1) k B C cb cp dl P _ (fqd x.2.2) ?_ ?_ ?_ ?_ ?_ ?_ ?_ ?_ ?_).mono ?_
            exact HQV.out.below hS.1
            exact (HK4.out.below hS.1).cell 0
            exact HD.out.below (bl_trans HB4.out hS.1)
            exact (HT4.out.below hS.1).cell 0
            exact HP.out.below (bl_trans HB4.out hS.1)
            have := HDL.out; have := HYL.out; omega
            have := HPL.out; have := HYL.out; omega
            exact HF2.out
            rw [pday_at HDK.out, ppay_at HPK.out]; exact HSHK.out
            rintro e w9 ⟨v9, rfl, hv9, hb8⟩
            rw [pday_at HDK.out, ppay_at HPK.out, ← HQK.out] at hv9
            have hS8 := tc7_next hb8 hS
            refine hK.out _ _ hS8 (fun _ => ?_)
            clear hS K hK
            have hS := hS8
            clear hS8
            (try simp only [Act.put, List.setIfInBounds_toArray, List.set_cons_zero, List.set_cons_succ])
            refine wpAnyH_ready (rs := [27]) (by kernel_rfl) (by simp) ?_
            refine AllReadyH.cons (o := { dst := some 118, op := Op.call { callee := Callee.value (Operand.tmp 114), args := #[Operand.tmp 116, Operand.tmp 117], argTypes := #[38, 3] }, type := 38, pos := "tide.go:285", after := #[{ on := 23, ground := Ground.data }, { on := 25, ground := Ground.data }, { on := 26, ground := Ground.data }, { on := 22, ground := Ground.chain }, { on := 17, ground := Ground.guard }], guard := some (17, true) }) ?hoh9_27 ?hth9_27 ?hnh9_27
            case hoh9_27 => rfl
            case hnh9_27 => exact AllReadyH.nil
            intro K hK
            refine iteP (by kernel_rfl) ?_
            go_simp
            go_at_call 70
            with_reducible refine (thas_calls _ w.heap.size (w.heap.size + 1) i B C cb cp dl P _ (fqd x.2.2) ?_ ?_ ?_ ?_ ?_ ?_ ?_ ?_ ?_).mono ?_
            exact HQV.out.below hS.1
            exact (HK4.out.below hS.1).cell 0
            exact HD.out.below (bl_trans HB4.out hS.1)
            exact (HT4.out.below hS.1).cell 0
            exact HP.out.below (bl_trans HB4.out hS.1)
            have := HDL.out; have := HXL.out; omega
            have := HPL.out; have := HXL.out; omega
            exact HF2.out
            rw [pday_at HD1.out, ppay_at HP1.out]; exact HSH.out
            rintro e w10 ⟨v10, rfl, hv10, hb8⟩
            rw [pday_at HD1.out, ppay_at HP1.out, ← HQO.out] at hv10
            have hb10 := hb8
            have hS8 := tc7_next hb8 hS
            refine hK.out _ _ hS8 (fun _ => ?_)
            clear hS K hK
            have hS := hS8
            clear hS8
            (try simp only [Act.put, List.setIfInBounds_toArray, List.set_cons_zero, List.set_cons_succ])
            refine wpAnyH_ready (rs := [28]) (by kernel_rfl) (by simp) ?_
            refine AllReadyH.cons (o := { dst := some 119, op := Op.call { callee := Callee.value (Operand.func 71), args := #[Operand.tmp 113, Operand.tmp 118], argTypes := #[38, 38] }, type := 3, pos := "tide.go:285", after := #[{ on := 22, ground := Ground.data }, { on := 27, ground := Ground.data }, { on := 27, ground := Ground.chain }, { on := 17, ground := Ground.guard }], guard := some (17, true) }) ?hoh9_28 ?hth9_28 ?hnh9_28
            case hoh9_28 => rfl
            case hnh9_28 => exact AllReadyH.nil
            intro K hK
            refine iteP (by kernel_rfl) ?_
            go_simp
            go_at_call 71
            with_reducible refine (cmpq _ _ _ qk qo ?_ ?_).mono ?_
            exact (FrV.below hv9 hb10).q (by rw [HQK.out]; exact HSHK.out)
            exact hv10.q (by rw [HQO.out]; exact HSH.out)
            rintro e w11 ⟨rfl, hb8⟩
            rw [← HCQ.out]
            have hS8 := tc7_next hb8 hS
            refine hK.out _ _ hS8 (fun _ => ?_)
            clear hS K hK
            have hS := hS8
            clear hS8
            (try simp only [Act.put, List.setIfInBounds_toArray, List.set_cons_zero, List.set_cons_succ])
            refine wpAnyH_takeD 29 (some 120) (v := ?vh9_29) rfl rfl (by kernel_rfl) (by kernel_rfl) (by kernel_rfl) (fun _ _ _ h => h) (.inl ⟨by kernel_rfl, ?hyh9_29⟩) hS ?resth9_29
            case hyh9_29 => (intro w hSw; (try dsimp only at hSw); go_simp; (try with_reducible rfl))
            (try simp only [Act.put, List.setIfInBounds_toArray, List.set_cons_zero, List.set_cons_succ])
            refine wpAnyH_takeD 30 (some 121) (v := ?vh9_30) rfl rfl (by kernel_rfl) (by kernel_rfl) (by kernel_rfl) (fun _ _ _ h => h) (.inl ⟨by kernel_rfl, ?hyh9_30⟩) hS ?resth9_30
            case hyh9_30 => (intro w hSw; (try dsimp only at hSw); go_simp; (try with_reducible rfl))
            (try simp only [Act.put, List.setIfInBounds_toArray, List.set_cons_zero, List.set_cons_succ])
            refine wpAnyH_done (by kernel_rfl) ?_ _
            go_wp2
            go_meet
            case rel => exact ⟨rfl, hS.1⟩
          case rest =>
            obtain ⟨rfl, hbc⟩ := hcut
            have HBC := Lib.hid (bl_trans HB4.out hbc)
            have HKC := Lib.hid (HK4.out.below hbc)
            have HTC := Lib.hid (HT4.out.below hbc)
            have HXC := Lib.hid (HX4.out.below hbc)
            have HFC := Lib.hid (HF4.out.below hbc)
            clear hbc
            cases bb
            case true =>
              have hl := HLIE.out.2 (of_decide_eq_true HBB.out.symm)
              have HL := Lib.hid hl
              clear hl
              go_wp2
              go_ret3
              exact ⟨_, _, false, rfl, .inr ⟨HOK.out, .inl ⟨i, k, rfl, rfl, rfl, HXL.out, HYL.out, HL.out, HNO3.out, HNO.out⟩⟩, HBC.out⟩
            case false =>
              have HN := Lib.hid (show ¬ lieB (tdOf L) (pday dl) (ppay P) i k from fun h => of_decide_eq_false HBB.out.symm (HLIE.out.1 h))
              go_wp2
              exact ⟨⟨k + 1, by have := HYL.out; omega, by go_num, HBC.out, HKC.out, HTC.out, HXC.out, HFC.out, fun j hj => by
                by_cases h : j = k
                · rw [h]; exact HN.out
                · exact HNO3.out j (by omega)⟩, by have := HYL.out; simp [intOf]; omega⟩
end Go.Proofs.Ytajckdheecgceaa
