/- Tides: the program's Proves. -/
import Derived.Test.YtajckdheecgceaaTd44
set_option linter.unusedVariables false
set_option linter.unusedSimpArgs false
namespace Go.Proofs.Ytajckdheecgceaa
open Go.RowKit

set_option maxRecDepth 100000 in
set_option maxHeartbeats 16000000 in
theorem tproves_calls (w : World) (days each : Int) (A : Option Addr) (c : Nat) (L : List VD) (h : VL w (.slice A L.length c) L) (hfl : FewV 16 L) (va : Value) (l : List Int) (hl : IL w va l) (vp : Value) (P : List (Bool × List Int × List Int)) (hp : FL w vp P) (hf : FewD 16 P) :
    Calls Try.prog 35 #[.agg #[.int .i64 days, .int .i64 each, .slice A L.length c], va, vp] w (ProvP days each L l P w) := by
  obtain ⟨C, cp, rfl⟩ := hp.shape
  have HV := Lib.hid h
  have HL := Lib.hid hl
  have HP := Lib.hid hp
  have HFL := Lib.hid hfl
  have HF := Lib.hid hf
  have HWD := Lib.hid h.wd
  have hcc := h.bounds
  have hpl : P.length ≤ 9223372036854775807 := by obtain ⟨_, _, _, k1, k2, _⟩ := hp; omega
  obtain ⟨f, hff⟩ : ∃ f, f = prq P := ⟨_, rfl⟩
  have HFF := Lib.hid hff
  have HSF := Lib.hid (show ∀ j, Szq 16 (f j) from fun j => by rw [hff]; exact prq_szq (by omega) hf hp.wd j)
  obtain ⟨wa, hwa⟩ : ∃ W, W = w.alloc (.cells #[.int .i64 days, .int .i64 each, .slice A L.length c] 24) := ⟨_, rfl⟩
  have ba : Below w.heap.size w wa := by rw [hwa]; exact below_alloc0 _ _
  have KA : Blk wa w.heap.size 24 #[.int .i64 days, .int .i64 each, .slice A L.length c] := by rw [hwa]; exact Blk.new _ _ _
  have HB0 := Lib.hid ba
  have HK0 := Lib.hid KA
  have HWA := Lib.hid hwa
  have k0 := KA.cell 0
  have k1 := KA.cell 1
  have k2 := KA.cell 2
  clear h hl hp hfl hf hff hwa ba KA
  go_enter Try.func35, Try.ntmps35
  go_upto_region 1 with fail
  rw [← HWA.out]
  go_wp2_with fail
  refine (planned_calls _ days each A c L (HV.out.below HB0.out) HFL.out va l (HL.out.below HB0.out)).mono ?_
  rintro e w1 ⟨hb1, v, rfl, hv⟩
  obtain ⟨pb, hpb⟩ : ∃ b, b = planB days each L l := ⟨_, rfl⟩
  rw [← hpb] at hv ⊢
  obtain ⟨qw, hqw⟩ : ∃ q : Rat, q = if pb = true then (tdOf L).wsum (pday l) L.length else 0 := ⟨_, rfl⟩
  rw [← hqw] at hv
  obtain ⟨W1, ww1, W2, ww2, rfl, _, _, _, _⟩ := FrIn.shape hv
  have HPB := Lib.hid hpb
  have HQW := Lib.hid hqw
  have al := below_alloc0 w1 (.cells #[.bool (decide (qw.num < 0)), .slice W1 (dg qw.num.natAbs).length ww1, .slice W2 (dg qw.den).length ww2] 38)
  have HB1 := Lib.hid (bl_trans (bl_trans HB0.out hb1) al)
  have HK1 := Lib.hid ((HK0.out.below hb1).below al)
  have HW1 := Lib.hid (Blk.new w1 38 #[.bool (decide (qw.num < 0)), .slice W1 (dg qw.num.natAbs).length ww1, .slice W2 (dg qw.den).length ww2])
  have HVW1 := Lib.hid (FrV.below hv al)
  have HPOST := Lib.hid (fun (b : Bool) (W : World) (hW : Below w.heap.size w W) (hiff : b = true ↔ ProvB days each L l P) => (⟨b, rfl, hiff, hW⟩ : ProvP days each L l P w (.returned (.bool b)) W))
  clear hpb hqw hv hb1 al k0 k1 k2
  cases pb
  case false =>
    have HN := Lib.hid (show (false = true ↔ ProvB days each L l P) from ⟨fun h => (by cases h), fun h => by rw [HPB.out]; exact h.1⟩)
    go_wp2
    go_ret
    exact HPOST.out false _ HB1.out HN.out
  have k0 := HK1.out.cell 0
  have k1 := HK1.out.cell 1
  have k2 := HK1.out.cell 2
  by_cases hlen : (P.length : Int) = days
  case neg =>
    have g1 : ((P.length : Int) != days) = true := bne_iff_ne.2 hlen
    have HN := Lib.hid (show (false = true ↔ ProvB days each L l P) from ⟨fun h => (by cases h), fun h => absurd h.2.1 hlen⟩)
    clear hlen
    go_wp2
    go_ret
    exact HPOST.out false _ HB1.out HN.out
  have g1 : ((P.length : Int) != days) = false := by rw [hlen]; simp
  obtain ⟨hr, hll, hok⟩ := planB_of HPB.out.symm
  obtain ⟨z1, z2, z3⟩ := rightN_zero hr
  have hP12 : P.length ≤ 12 := by omega
  have hL12 : L.length ≤ 12 := by omega
  have he1 : 1 ≤ each := by omega
  have he4 : each ≤ 4 := by omega
  have HLEN := Lib.hid hlen
  have HGOOD := Lib.hid (show ∀ (i : Nat) (x : VD), L[i]? = some x → 1 ≤ x.1 ∧ x.1 ≤ x.2.1 ∧ x.2.1 ≤ (P.length : Int) from fun i x hx => by
    have := bad_no (z3 i x hx)
    omega)
  have HW0 := Lib.hid (show qw = (tdOf L).wsum (pday l) L.length by rw [HQW.out, if_pos rfl])
  have hszw : Szq 300 qw := by
    have h2 := psum_szq (few_szq (m := 16) (by omega) (L := rawL L (pday l) L.length) (fun d hd => by
      obtain ⟨x, hx, rfl⟩ := rawL_mem L (pday l) L.length (Nat.le_refl _) hd
      exact HFL.out x hx) (fun d hd => by
      obtain ⟨x, hx, rfl⟩ := rawL_mem L (pday l) L.length (Nat.le_refl _) hd
      exact HWD.out x hx)) (rawL L (pday l) L.length).length
    rw [rawL_sum] at h2
    rw [HW0.out]
    have h3 := rawL_len L (pday l) L.length
    exact h2.mono (by have : (16 + 1) * (rawL L (pday l) L.length).length ≤ 17 * 12 := Nat.mul_le_mul_left 17 (by omega); omega)
  have HSZW := Lib.hid hszw
  clear hlen hr hll hok z1 z2 z3 hszw
  go_wp2
  clear k0 k1 k2 g1
  go_loopw [35] (fun iv wr => ∃ k : Nat, k ≤ P.length ∧ iv = .int .i64 (k : Int) ∧ (Below w.heap.size w wr ∧ Blk wr w.heap.size 24 #[.int .i64 days, .int .i64 each, .slice A L.length c] ∧ Blk wr w1.heap.size 38 #[.bool (decide (qw.num < 0)), .slice W1 (dg qw.num.natAbs).length ww1, .slice W2 (dg qw.den).length ww2] ∧ FrV wr (.agg #[.bool (decide (qw.num < 0)), .slice W1 (dg qw.num.natAbs).length ww1, .slice W2 (dg qw.den).length ww2]) qw) ∧ ∀ j, j < k → 0 ≤ f j) (fun iv _ => P.length - (intOf iv).toNat)
  case atStart => exact ⟨0, by omega, rfl, ⟨HB1.out, HK1.out, HW1.out, HVW1.out⟩, fun j hj => by omega⟩
  case round =>
    obtain ⟨k, hk, rfl, ⟨hb, hK, hW, hVW⟩, hpos⟩ := hrel
    have HB := Lib.hid hb
    have HK := Lib.hid hK
    have HW := Lib.hid hW
    have HVW := Lib.hid hVW
    have HPOS := Lib.hid hpos
    by_cases hx : k < P.length
    · obtain ⟨p, hp1⟩ : ∃ p, P[k]? = some p := ⟨_, List.getElem?_eq_getElem hx⟩
      obtain ⟨pd, cp', P1, p1, P2, p2, hsl, _, _, f0, f1, f2, hfp⟩ := (HP.out.below hb).at hp1
      obtain ⟨rfl, rfl⟩ : C = some pd ∧ cp = cp' := by simpa using hsl
      have q1 : (k : Int) < (P.length : Int) := by omega
      have fewp := HF.out p (List.mem_of_getElem? hp1)
      have al := below_alloc0 wr (.cells #[.bool p.1, .slice P1 p.2.1.length p1, .slice P2 p.2.2.length p2] 38)
      have KB := Blk.new wr 38 #[.bool p.1, .slice P1 p.2.1.length p1, .slice P2 p.2.2.length p2]
      obtain ⟨wv, hwv⟩ : ∃ W, W = wr.alloc (.cells #[.bool p.1, .slice P1 p.2.1.length p1, .slice P2 p.2.2.length p2] 38) := ⟨_, rfl⟩
      obtain ⟨gv, hgv⟩ : ∃ g, g = wr.heap.size := ⟨_, rfl⟩
      have HWV := Lib.hid hwv
      have HGV := Lib.hid hgv
      rw [← hwv] at al KB
      rw [← hgv] at KB
      have m0 := KB.cell 0
      have m1 := KB.cell 1
      have m2 := KB.cell 2
      have HQP := Lib.hid (show FrQ wv (.agg #[.bool p.1, .slice P1 p.2.1.length p1, .slice P2 p.2.2.length p2]) (f k) from ⟨_, _, _, hfp.below al, by omega, by rw [HFF.out, prq_at hp1]; rfl⟩)
      have HBV := Lib.hid (bl_trans hb al)
      have HKV := Lib.hid (hK.below al)
      have HWVb := Lib.hid (hW.below al)
      have HVV := Lib.hid (FrV.below hVW al)
      obtain ⟨sg, hsg⟩ : ∃ s, s = (f k).num.sign := ⟨_, rfl⟩
      have HSG := Lib.hid hsg
      clear hb hK hW hVW hpos hp1 hsl hfp fewp al KB hwv hgv hsg
      go_upto_region 7 with fail
      rw [← HWV.out, ← HGV.out]
      clear f0 f1 f2
      go_wp2_with fail
      refine (signq _ _ (f k) HQP.out).mono ?_
      rintro e w3 ⟨rfl, hb3⟩
      rw [← HSG.out]
      have HB3 := Lib.hid (bl_trans HBV.out hb3)
      have HK3 := Lib.hid (HKV.out.below hb3)
      have HW3 := Lib.hid (HWVb.out.below hb3)
      have HV3 := Lib.hid (FrV.below HVV.out hb3)
      clear hb3 m0 m1 m2
      by_cases hs : sg < 0
      · have g2 : decide (sg < 0) = true := decide_eq_true hs
        have HN := Lib.hid (show (false = true ↔ ProvB days each L l P) from ⟨fun h => (by cases h), fun h => by
          have h3 := h.2.2.1 k hx
          rw [← HFF.out] at h3
          have h4 := hs
          rw [HSG.out, sign_rcmp] at h4
          unfold rcmp at h4
          grind⟩)
        clear hs
        go_wp2
        go_ret
        exact HPOST.out false _ HB3.out HN.out
      · have g2 : decide (sg < 0) = false := decide_eq_false hs
        have HN := Lib.hid (show 0 ≤ f k by
          have h4 := hs
          rw [HSG.out, sign_rcmp] at h4
          unfold rcmp at h4
          grind)
        clear hs
        go_wp2
        exact ⟨⟨k + 1, by omega, by go_num, ⟨HB3.out, HK3.out, HW3.out, HV3.out⟩, fun j hj => by
          by_cases h : j = k
          · rw [h]; exact HN.out
          · exact HPOS.out j (by omega)⟩, by simp [intOf]; omega⟩
    · obtain rfl : k = P.length := by omega
      have q1 : ¬ (P.length : Int) < (P.length : Int) := by omega
      have k1 := hK.cell 1
      clear hb hK hW hVW hpos
      go_wp2_with fail
      refine (frac_make_calls _ each 1 (by omega) (by omega) (by omega) (by omega) (by omega)).mono ?_
      rintro e w3 ⟨v3, rfl, hv3, hb3⟩
      obtain ⟨qe, hqe⟩ : ∃ q : Rat, q = (each : Rat) := ⟨_, rfl⟩
      rw [show (each : Rat) * ((1 : Int) : Rat)⁻¹ = qe by rw [hqe]; show (each : Rat) * (1 : Rat)⁻¹ = _; grind] at hv3
      obtain ⟨E1, e1, E2, e2, rfl, _, _, _, _⟩ := FrIn.shape hv3
      have al := below_alloc0 w3 (.cells #[.bool (decide (qe.num < 0)), .slice E1 (dg qe.num.natAbs).length e1, .slice E2 (dg qe.den).length e2] 38)
      have hsze : Szq 2 qe := by rw [hqe]; exact int_len (by omega) (by omega)
      obtain ⟨wv, hwv⟩ : ∃ W, W = w3.alloc (.cells #[.bool (decide (qe.num < 0)), .slice E1 (dg qe.num.natAbs).length e1, .slice E2 (dg qe.den).length e2] 38) := ⟨_, rfl⟩
      obtain ⟨gv, hgv⟩ : ∃ g, g = w3.heap.size := ⟨_, rfl⟩
      have KE := Blk.new w3 38 #[.bool (decide (qe.num < 0)), .slice E1 (dg qe.num.natAbs).length e1, .slice E2 (dg qe.den).length e2]
      have HWV := Lib.hid hwv
      have HGV := Lib.hid hgv
      rw [← hwv] at al KE
      rw [← hgv] at KE
      have HBV := Lib.hid (bl_trans (bl_trans HB.out hb3) al)
      have HKV := Lib.hid ((HK.out.below hb3).below al)
      have HWVb := Lib.hid ((HW.out.below hb3).below al)
      have HVV := Lib.hid (FrV.below (FrV.below HVW.out hb3) al)
      have HQE := Lib.hid ((FrV.below hv3 al).q (hsze.short (by omega)))
      obtain ⟨sp, hsp⟩ : ∃ s, s = psum (P.map fqd) P.length := ⟨_, rfl⟩
      have hsp2 : sp = sumf f P.length := by rw [hsp, HFF.out]; exact prq_map P.length (Nat.le_refl _)
      have hszs : Szq 205 sp := by
        rw [hsp2]
        exact (sumf_szq HSF.out P.length).mono (by have : (16 + 1) * P.length ≤ 17 * 12 := Nat.mul_le_mul_left 17 (by omega); omega)
      obtain ⟨bd, hbd⟩ : ∃ s, s = qe * sp := ⟨_, rfl⟩
      have hszb : Szq 207 bd := by rw [hbd]; exact (szq_mul hsze hszs).mono (by omega)
      have hs11 : (fun (w' : World) => Below wv.heap.size wv w' ∧ w'.cell? ⟨gv, 0, none⟩ = some (.bool (decide (qe.num < 0))) ∧ w'.cell? ⟨gv, 1, none⟩ = some (.slice E1 (dg qe.num.natAbs).length e1) ∧ w'.cell? ⟨gv, 2, none⟩ = some (.slice E2 (dg qe.den).length e2)) wv.drew := tp3_next (bl_drew wv) ⟨Below.refl _ _, KE.cell 0, KE.cell 1, KE.cell 2⟩
      have HS11 := Lib.hid hs11
      have HSP := Lib.hid hsp
      have HSP2 := Lib.hid hsp2
      have HBD := Lib.hid hbd
      have HSZS := Lib.hid (hszs.short (by omega) : Short sp)
      have HSZB := Lib.hid hszb
      have HQEE := Lib.hid hqe
      clear k1 hqe hv3 hb3 al hsze hwv hgv KE hsp hsp2 hszs hbd hszb hs11
      go_upto_region 11 with fail
      rw [← HWV.out, ← HGV.out]
      go_cut [13] (fun t13 wx => ∃ g O1 o1 O2 o2, t13 = .pointer (some ⟨g, 0, none⟩) ∧ wv.heap.size ≤ g ∧ Below wv.heap.size wv wx ∧ Blk wx g 38 #[.bool (decide (bd.num < 0)), .slice O1 (dg bd.num.natAbs).length o1, .slice O2 (dg bd.den).length o2] ∧ FrV wx (.agg #[.bool (decide (bd.num < 0)), .slice O1 (dg bd.num.natAbs).length o1, .slice O2 (dg bd.den).length o2]) bd)
      case first =>
        have hS0 := HS11.out
        refine wp_region_T (fun (w' : World) => Below wv.heap.size wv w' ∧ w'.cell? ⟨gv, 0, none⟩ = some (.bool (decide (qe.num < 0))) ∧ w'.cell? ⟨gv, 1, none⟩ = some (.slice E1 (dg qe.num.natAbs).length e1) ∧ w'.cell? ⟨gv, 2, none⟩ = some (.slice E2 (dg qe.den).length e2)) 5 (by kernel_rfl) ?_
        have hS : (fun (w' : World) => Below wv.heap.size wv w' ∧ w'.cell? ⟨gv, 0, none⟩ = some (.bool (decide (qe.num < 0))) ∧ w'.cell? ⟨gv, 1, none⟩ = some (.slice E1 (dg qe.num.natAbs).length e1) ∧ w'.cell? ⟨gv, 2, none⟩ = some (.slice E2 (dg qe.den).length e2)) _ := hS0
        simp only [List.size_toArray, List.length_cons, List.length_nil, Nat.reduceAdd]
        refine wpAnyT_take 0 (some 49) (v := ?vq2_1) rfl rfl (by kernel_rfl) (by kernel_rfl) (by kernel_rfl) (by kernel_rfl) (fun _ _ _ h => h) rfl ?hyq2_1 hS ?restq2_1
        case hyq2_1 => (intro w hSw; (try dsimp only at hSw); go_simp; (try with_reducible rfl))
        (try simp only [Act.put, List.setIfInBounds_toArray, List.set_cons_zero, List.set_cons_succ])
        refine wpAnyT_take 1 (some 50) (v := ?vq2_2) rfl rfl (by kernel_rfl) (by kernel_rfl) (by kernel_rfl) (by kernel_rfl) (fun _ _ _ h => h) rfl ?hyq2_2 hS ?restq2_2
        case hyq2_2 => (intro w hSw; (try dsimp only at hSw); go_simp; (try with_reducible rfl))
        (try simp only [Act.put, List.setIfInBounds_toArray, List.set_cons_zero, List.set_cons_succ])
        refine wpAnyT_duo (i := 2) (j := 4) rfl rfl (by kernel_rfl) rfl rfl (fun K hK => ?_) (fun K hK => ?_)
        · simp only [List.getElem_toArray, List.getElem_cons_succ, List.getElem_cons_zero]
          go_simp
          go_at_call 74
          with_reducible refine (sum_calls _ _ P ?_ (by omega) HF.out).mono ?_
          exact HP.out.below (bl_trans HBV.out hS.1)
          rintro e w20 ⟨v20, rfl, hv20, hb20⟩
          rw [← HSP.out] at hv20
          have hS8 := tp3_next hb20 hS
          refine hK.out _ _ (fun _ => hS8) ?_
          clear hS K hK
          have hS := hS8
          clear hS8
          (try simp only [Act.put, List.setIfInBounds_toArray, List.set_cons_zero, List.set_cons_succ])
          refine wpAnyT_duo (i := 3) (j := 4) rfl rfl (by kernel_rfl) rfl rfl (fun K hK => ?_) (fun K hK => ?_)
          · simp only [List.getElem_toArray, List.getElem_cons_succ, List.getElem_cons_zero]
            go_simp
            go_at_call 73
            with_reducible refine (mulq _ _ _ qe sp ?_ ?_ (by rw [← HBD.out]; exact HSZB.out.short (by omega))).mono ?_
            exact HQE.out.below hS.1
            exact hv20.q HSZS.out
            rintro e w21 ⟨v21, rfl, hv21, hb21⟩
            rw [← HBD.out] at hv21
            have hv20 := FrV.below hv20 hb21
            obtain ⟨O1, o1, O2, o2, rfl, _, _, _, _⟩ := FrIn.shape hv21
            have hS8 := tp3_next hb21 hS
            refine hK.out _ _ (fun _ => hS8) ?_
            clear hS K hK
            have hS := hS8
            clear hS8
            (try simp only [Act.put, List.setIfInBounds_toArray, List.set_cons_zero, List.set_cons_succ])
            refine wpAnyT_one (i := 4) rfl (by kernel_rfl) rfl (fun K hK => ?_)
            simp only [List.getElem_toArray, List.getElem_cons_succ, List.getElem_cons_zero]
            go_simp
            have al := below_alloc0 w21 (.cells #[.bool false, .slice none 0 0, .slice none 0 0] 38)
            have KO : Blk (w21.alloc (.cells #[.bool false, .slice none 0 0, .slice none 0 0] 38)) w21.heap.size 38 #[.bool false, .slice none 0 0, .slice none 0 0] := Blk.new w21 _ _
            have hge : wv.heap.size ≤ w21.heap.size := hS.1.size
            have hSC := hS
            have hSA := tp3_next al hS
            have hvb20 := FrV.below hv20 al
            have hvb21 := FrV.below hv21 al
            refine hK.out _ _ (fun _ => hSA) ?_
            clear hS K hK
            have hS := hSA
            clear hSA
            (try simp only [Act.put, List.setIfInBounds_toArray, List.set_cons_zero, List.set_cons_succ])
            have m0 := KO.cell 0
            have m1 := KO.cell 1
            have m2 := KO.cell 2
            have mf := KO.free
            have al9 := below_alloc0 w21 (.cells #[.bool (decide (bd.num < 0)), .slice O1 (dg bd.num.natAbs).length o1, .slice O2 (dg bd.den).length o2] 38)
            have HB9 := Lib.hid (bl_trans hSC.1 al9)
            have HV9 := Lib.hid (FrV.below hv21 al9)
            have HK9 := Lib.hid (Blk.new w21 38 #[.bool (decide (bd.num < 0)), .slice O1 (dg bd.num.natAbs).length o1, .slice O2 (dg bd.den).length o2])
            clear al9
            clear KO
            refine wpAnyT_one (i := 5) rfl (by kernel_rfl) rfl (fun K hK => ?_)
            simp only [List.getElem_toArray, List.getElem_cons_succ, List.getElem_cons_zero]
            go_simp
            refine hK.out _ _ (fun h => absurd rfl h) ?_
            clear hS K hK
            refine wpAnyT_done (by kernel_rfl) ?_ _
            clear m0 m1 m2 mf
            go_wp2
            go_meet
            case rel => exact ⟨_, O1, o1, O2, o2, rfl, hge, HB9.out, HK9.out, HV9.out⟩
          · simp only [List.getElem_toArray, List.getElem_cons_succ, List.getElem_cons_zero]
            go_simp
            have al := below_alloc0 w20 (.cells #[.bool false, .slice none 0 0, .slice none 0 0] 38)
            have KO : Blk (w20.alloc (.cells #[.bool false, .slice none 0 0, .slice none 0 0] 38)) w20.heap.size 38 #[.bool false, .slice none 0 0, .slice none 0 0] := Blk.new w20 _ _
            have hge : wv.heap.size ≤ w20.heap.size := hS.1.size
            have hSC := hS
            have hSA := tp3_next al hS
            have hvb20 := FrV.below hv20 al
            refine hK.out _ _ (fun _ => hSA) ?_
            clear hS K hK
            have hS := hSA
            clear hSA
            (try simp only [Act.put, List.setIfInBounds_toArray, List.set_cons_zero, List.set_cons_succ])
            have hv20 := hvb20
            refine wpAnyT_one (i := 3) rfl (by kernel_rfl) rfl (fun K hK => ?_)
            simp only [List.getElem_toArray, List.getElem_cons_succ, List.getElem_cons_zero]
            go_simp
            go_at_call 73
            with_reducible refine (mulq _ _ _ qe sp ?_ ?_ (by rw [← HBD.out]; exact HSZB.out.short (by omega))).mono ?_
            exact HQE.out.below hS.1
            exact hv20.q HSZS.out
            rintro e w21 ⟨v21, rfl, hv21, hb21⟩
            rw [← HBD.out] at hv21
            have hv20 := FrV.below hv20 hb21
            have KO := KO.below hb21
            obtain ⟨O1, o1, O2, o2, rfl, _, _, _, _⟩ := FrIn.shape hv21
            have hS8 := tp3_next hb21 hS
            refine hK.out _ _ (fun _ => hS8) ?_
            clear hS K hK
            have hS := hS8
            clear hS8
            (try simp only [Act.put, List.setIfInBounds_toArray, List.set_cons_zero, List.set_cons_succ])
            have m0 := KO.cell 0
            have m1 := KO.cell 1
            have m2 := KO.cell 2
            have mf := KO.free
            have F2 := FBox.fr KO (boolne _) (slne _ _ _) (slne _ _ _) (.bool (decide (bd.num < 0))) (.slice O1 (dg bd.num.natAbs).length o1) (.slice O2 (dg bd.den).length o2)
            have HB9 := Lib.hid (hS.1.trans (F2.below hS.1.size (fun y hy => by have e : y = w20.heap.size := hy; omega)))
            have HV9 := Lib.hid (F2.keep.fr hv21)
            have HK9 := Lib.hid (blk3 KO (.bool (decide (bd.num < 0))) (.slice O1 (dg bd.num.natAbs).length o1) (.slice O2 (dg bd.den).length o2))
            clear F2
            clear KO
            refine wpAnyT_one (i := 5) rfl (by kernel_rfl) rfl (fun K hK => ?_)
            simp only [List.getElem_toArray, List.getElem_cons_succ, List.getElem_cons_zero]
            go_simp
            refine hK.out _ _ (fun h => absurd rfl h) ?_
            clear hS K hK
            refine wpAnyT_done (by kernel_rfl) ?_ _
            clear m0 m1 m2 mf
            go_wp2
            go_meet
            case rel => exact ⟨_, O1, o1, O2, o2, rfl, hge, HB9.out, HK9.out, HV9.out⟩
        · simp only [List.getElem_toArray, List.getElem_cons_succ, List.getElem_cons_zero]
          go_simp
          have al := below_alloc0 wv.drew (.cells #[.bool false, .slice none 0 0, .slice none 0 0] 38)
          have KO : Blk (wv.drew.alloc (.cells #[.bool false, .slice none 0 0, .slice none 0 0] 38)) wv.heap.size 38 #[.bool false, .slice none 0 0, .slice none 0 0] := Blk.new wv.drew _ _
          have hge : wv.heap.size ≤ wv.heap.size := hS.1.size
          have hSC := hS
          have hSA := tp3_next al hS
          refine hK.out _ _ (fun _ => hSA) ?_
          clear hS K hK
          have hS := hSA
          clear hSA
          (try simp only [Act.put, List.setIfInBounds_toArray, List.set_cons_zero, List.set_cons_succ])
          refine wpAnyT_one (i := 2) rfl (by kernel_rfl) rfl (fun K hK => ?_)
          simp only [List.getElem_toArray, List.getElem_cons_succ, List.getElem_cons_zero]
          go_simp
          go_at_call 74
          with_reducible refine (sum_calls _ _ P ?_ (by omega) HF.out).mono ?_
          exact HP.out.below (bl_trans HBV.out hS.1)
          rintro e w20 ⟨v20, rfl, hv20, hb20⟩
          rw [← HSP.out] at hv20
          have KO := KO.below hb20
          have hS8 := tp3_next hb20 hS
          refine hK.out _ _ (fun _ => hS8) ?_
          clear hS K hK
          have hS := hS8
          clear hS8
          (try simp only [Act.put, List.setIfInBounds_toArray, List.set_cons_zero, List.set_cons_succ])
          refine wpAnyT_one (i := 3) rfl (by kernel_rfl) rfl (fun K hK => ?_)
          simp only [List.getElem_toArray, List.getElem_cons_succ, List.getElem_cons_zero]
          go_simp
          go_at_call 73
          with_reducible refine (mulq _ _ _ qe sp ?_ ?_ (by rw [← HBD.out]; exact HSZB.out.short (by omega))).mono ?_
          exact HQE.out.below hS.1
          exact hv20.q HSZS.out
          rintro e w21 ⟨v21, rfl, hv21, hb21⟩
          rw [← HBD.out] at hv21
          have hv20 := FrV.below hv20 hb21
          have KO := KO.below hb21
          obtain ⟨O1, o1, O2, o2, rfl, _, _, _, _⟩ := FrIn.shape hv21
          have hS8 := tp3_next hb21 hS
          refine hK.out _ _ (fun _ => hS8) ?_
          clear hS K hK
          have hS := hS8
          clear hS8
          (try simp only [Act.put, List.setIfInBounds_toArray, List.set_cons_zero, List.set_cons_succ])
          have m0 := KO.cell 0
          have m1 := KO.cell 1
          have m2 := KO.cell 2
          have mf := KO.free
          have F2 := FBox.fr KO (boolne _) (slne _ _ _) (slne _ _ _) (.bool (decide (bd.num < 0))) (.slice O1 (dg bd.num.natAbs).length o1) (.slice O2 (dg bd.den).length o2)
          have HB9 := Lib.hid (hS.1.trans (F2.below hS.1.size (fun y hy => by have e : y = wv.heap.size := hy; omega)))
          have HV9 := Lib.hid (F2.keep.fr hv21)
          have HK9 := Lib.hid (blk3 KO (.bool (decide (bd.num < 0))) (.slice O1 (dg bd.num.natAbs).length o1) (.slice O2 (dg bd.den).length o2))
          clear F2
          clear KO
          refine wpAnyT_one (i := 5) rfl (by kernel_rfl) rfl (fun K hK => ?_)
          simp only [List.getElem_toArray, List.getElem_cons_succ, List.getElem_cons_zero]
          go_simp
          refine hK.out _ _ (fun h => absurd rfl h) ?_
          clear hS K hK
          refine wpAnyT_done (by kernel_rfl) ?_ _
          clear m0 m1 m2 mf
          go_wp2
          go_meet
          case rel => exact ⟨_, O1, o1, O2, o2, rfl, hge, HB9.out, HK9.out, HV9.out⟩
      case rest =>
      obtain ⟨g13, B1, b1, B2, b2, rfl, hge13, hbc, hKc, hVc⟩ := hcut
      have HBc := Lib.hid (bl_trans HBV.out hbc)
      have HKc := Lib.hid (HKV.out.below hbc)
      have HWc := Lib.hid (HWVb.out.below hbc)
      have HVc := Lib.hid (FrV.below HVV.out hbc)
      have H13 := Lib.hid hKc
      have HV13 := Lib.hid hVc
      have hne13 : w1.heap.size ≠ g13 := by have := HWVb.out.lt; omega
      have hnk13 : w.heap.size ≠ g13 := by have := HKV.out.lt; omega
      have hgw13 : w.heap.size ≤ g13 := by have := HBV.out.size; omega
      have k2 := hKc.below (Below.refl _ _)
      clear k2 hbc hKc hVc
      have k2 := HKc.out.cell 2
      go_wp2
      clear k2
      go_loopw [56] (fun iv wr => ∃ (i : Nat) (s : Rat) (S1 S2 : Option Addr) (s1 s2 : Nat), i ≤ L.length ∧ iv = .int .i64 (i : Int) ∧ s = bd + sumf ((tdOf L).restq f) i ∧ (Below w.heap.size w wr ∧ Blk wr w.heap.size 24 #[.int .i64 days, .int .i64 each, .slice A L.length c] ∧ Blk wr w1.heap.size 38 #[.bool (decide (qw.num < 0)), .slice W1 (dg qw.num.natAbs).length ww1, .slice W2 (dg qw.den).length ww2] ∧ FrV wr (.agg #[.bool (decide (qw.num < 0)), .slice W1 (dg qw.num.natAbs).length ww1, .slice W2 (dg qw.den).length ww2]) qw) ∧ Blk wr g13 38 #[.bool (decide (s.num < 0)), .slice S1 (dg s.num.natAbs).length s1, .slice S2 (dg s.den).length s2] ∧ FrV wr (.agg #[.bool (decide (s.num < 0)), .slice S1 (dg s.num.natAbs).length s1, .slice S2 (dg s.den).length s2]) s) (fun iv _ => L.length - (intOf iv).toNat)
      case atStart => exact ⟨0, bd, B1, B2, b1, b2, by omega, rfl, by show bd = bd + 0; grind, ⟨HBc.out, HKc.out, HWc.out, HVc.out⟩, H13.out, HV13.out⟩
      case round =>
        obtain ⟨i, s, S1, S2, s1, s2, hi, rfl, hs, ⟨hb, hK, hW, hVW⟩, hO, hVO⟩ := hrel
        have HBr := Lib.hid hb
        have HKr := Lib.hid hK
        have HWr := Lib.hid hW
        have HVr := Lib.hid hVW
        have HOr := Lib.hid hO
        have HVo := Lib.hid hVO
        have HS := Lib.hid hs
        have hq16 : ∀ i, i < (tdOf L).n → Szq 16 ((tdOf L).q i) := fun i hi => fqd_szq16 (by omega) HFL.out HWD.out (List.getElem?_eq_getElem (l := L) (i := i) hi)
        have hgd : ∀ i, i < (tdOf L).n → 1 ≤ (tdOf L).come i ∧ (tdOf L).come i ≤ (tdOf L).go i := fun i hi => by
          obtain ⟨x, hx⟩ : ∃ x, L[i]? = some x := ⟨_, List.getElem?_eq_getElem hi⟩
          have := HGOOD.out i x hx
          rw [(tdOf_at hx).1, (tdOf_at hx).2.1]
          omega
        have hszs : ∀ i, i ≤ L.length → Szq 620 (bd + sumf ((tdOf L).restq f) i) := fun i hi => (bnd_szq hq16 HSF.out hgd HSZB.out i hi).mono (by have : 34 * i ≤ 34 * 12 := Nat.mul_le_mul_left 34 (by omega); omega)
        have HSZ := Lib.hid hszs
        by_cases hx : i < L.length
        case neg =>
          obtain rfl : i = L.length := by omega
          have q1 : ¬ (L.length : Int) < (L.length : Int) := by omega
          have m0 := hW.cell 0
          have m1 := hW.cell 1
          have m2 := hW.cell 2
          have n0 := hO.cell 0
          have n1 := hO.cell 1
          have n2 := hO.cell 2
          obtain ⟨cq, hcq⟩ : ∃ c, c = rcmp qw s := ⟨_, rfl⟩
          have HCQ := Lib.hid hcq
          have HQ1 := Lib.hid (hVW.q (HSZW.out.short (by omega)))
          have HQ2 := Lib.hid (hVO.q (by rw [hs]; exact (hszs _ (Nat.le_refl _)).short (by omega)))
          have hb1 : s = (tdOf L).bnd each.toNat days.toNat (prq P) := by
            rw [hs, HBD.out, HQEE.out, HSP2.out]
            unfold Td.bnd
            rw [← HFF.out, show days.toNat = P.length by have := HLEN.out; omega]
            have : ((each.toNat : Nat) : Rat) = (each : Rat) := by
              have h : ((each.toNat : Nat) : Int) = each := by omega
              rw [← Rat.intCast_natCast, h]
            rw [this]
            rfl
          have HIFF := Lib.hid (show ((cq == 0) = true ↔ ProvB days each L l P) from by
            rw [beq_iff_eq, HCQ.out]
            constructor
            · intro h
              refine ⟨HPB.out.symm, HLEN.out, fun j hj => by rw [← HFF.out]; exact HPOS.out j hj, ?_⟩
              rw [← HW0.out, ← hb1]
              unfold rcmp at h
              grind
            · intro h
              have h4 := h.2.2.2
              rw [← HW0.out, ← hb1] at h4
              unfold rcmp
              grind)
          clear hb hK hW hVW hO hVO hs hcq hb1 hq16 hgd hszs
          go_wp2_with fail
          refine (cmpq _ _ _ qw s HQ1.out HQ2.out).mono ?_
          rintro e w9 ⟨rfl, hb9⟩
          rw [← HCQ.out]
          have HB9 := Lib.hid (bl_trans HBr.out hb9)
          clear hb9 m0 m1 m2 n0 n1 n2
          go_wp2
          go_ret
          exact HPOST.out _ _ HB9.out HIFF.out
        obtain ⟨x, hx1⟩ : ∃ x, L[i]? = some x := ⟨_, List.getElem?_eq_getElem hx⟩
        obtain ⟨ad, A1, a1, A2, a2, rfl, e0, e1, e2, e3, e4, hfx⟩ := (HV.out.below hb).at hx1
        have hgood := HGOOD.out i x hx1
        obtain ⟨a, ha⟩ : ∃ a : Nat, x.1 = (a : Int) + 1 := ⟨x.1.toNat - 1, by omega⟩
        obtain ⟨b, hbE⟩ : ∃ b : Nat, x.2.1 = (b : Int) := ⟨x.2.1.toNat, by omega⟩
        have hab : a < b := by omega
        have hbP : b ≤ P.length := by omega
        rw [ha] at e0
        rw [hbE] at e1
        have few := HFL.out x (List.mem_of_getElem? hx1)
        have q1 : (i : Int) < (L.length : Int) := by omega
        obtain ⟨lm, hlm⟩ : ∃ m, m = lmin f a (b - a) := ⟨_, rfl⟩
        obtain ⟨qx, hqx⟩ : ∃ q, q = fqd x.2.2 := ⟨_, rfl⟩
        have hrest : (tdOf L).restq f i = if lm < qx then qx + -lm else 0 := by
          unfold Td.restq
          rw [(tdOf_at hx1).1, (tdOf_at hx1).2.1, (tdOf_at hx1).2.2, ha, hbE, show ((a : Int) + 1).toNat - 1 = a by omega, show (b : Int).toNat + 1 - ((a : Int) + 1).toNat = b - a by omega, ← hlm, ← hqx]
        have HREST := Lib.hid hrest
        obtain ⟨y, hy⟩ : ∃ y, y = qx + -lm := ⟨_, rfl⟩
        have hszx : Szq 16 qx := by rw [hqx]; have h := hq16 i hx; rw [(tdOf_at hx1).2.2] at h; exact h
        have hszl : Szq 16 lm := by
          obtain ⟨⟨j, _, h2⟩, _⟩ := lmin_spec f a (b - a) (by omega)
          rw [hlm, h2]; exact HSF.out _
        have hszy : Szq 33 y := by rw [hy]; exact (szq_add hszx (szq_neg hszl)).mono (by omega)
        obtain ⟨p0, hp0⟩ : ∃ p, P[a]? = some p := ⟨_, List.getElem?_eq_getElem (by omega)⟩
        obtain ⟨pd, cp', _, _, _, _, hsl, hcp1, hcp2, _⟩ := (HP.out.below hb).at hp0
        obtain ⟨rfl, rfl⟩ : C = some pd ∧ cp = cp' := by simpa using hsl
        have al := below_alloc0 wr (.cells #[.int .i64 ((a : Int) + 1), .int .i64 (b : Int), .bool x.2.2.1, .slice A1 x.2.2.2.1.length a1, .slice A2 x.2.2.2.2.length a2] 40)
        have KV := Blk.new wr 40 #[.int .i64 ((a : Int) + 1), .int .i64 (b : Int), .bool x.2.2.1, .slice A1 x.2.2.2.1.length a1, .slice A2 x.2.2.2.2.length a2]
        obtain ⟨wv, hwv⟩ : ∃ W, W = wr.alloc (.cells #[.int .i64 ((a : Int) + 1), .int .i64 (b : Int), .bool x.2.2.1, .slice A1 x.2.2.2.1.length a1, .slice A2 x.2.2.2.2.length a2] 40) := ⟨_, rfl⟩
        obtain ⟨gv, hgv⟩ : ∃ g, g = wr.heap.size := ⟨_, rfl⟩
        have HWV := Lib.hid hwv
        have HGV := Lib.hid hgv
        rw [← hwv] at al KV
        rw [← hgv] at KV
        have k0 := KV.cell 0
        have k1 := KV.cell 1
        have HBV := Lib.hid (bl_trans hb al)
        have HKV := Lib.hid (hK.below al)
        have HWVb := Lib.hid (hW.below al)
        have HVV := Lib.hid (FrV.below hVW al)
        have HOV := Lib.hid (hO.below al)
        have HVOV := Lib.hid (FrV.below hVO al)
        have hpart := (HP.out.below (bl_trans hb al)).part (a := a) (b := b) (by omega) hbP
        obtain ⟨j, hpk, hj, hat⟩ := pk_lmin f a (b - a) (by omega)
        rw [← hlm] at hat
        have hmf : ((P.take b).drop a).map fqd = (List.range' a (b - a)).map f := by rw [HFF.out]; exact part_prq (by omega) hbP
        have hlenp : ((P.take b).drop a).length = b - a := by rw [List.length_drop, List.length_take]; omega
        obtain ⟨pj, hpj⟩ : ∃ p, ((P.take b).drop a)[j]? = some p := ⟨_, List.getElem?_eq_getElem (by omega)⟩
        have hpjq : fqd pj = lm := by
          have h := congrArg (fun l => l[j]?) hmf
          simp only [List.getElem?_map (l := (P.take b).drop a)] at h
          rw [hpj, hat] at h
          exact Option.some.inj h
        have hfewp : FewD 16 ((P.take b).drop a) := fun d hd => HF.out d (List.mem_of_mem_take (List.mem_of_mem_drop hd))
        obtain ⟨ad', cc, P1, p1, P2, p2, hsl2, _, _, f0, f1, f2, hfp⟩ := hpart.at hpj
        rw [hlenp] at hsl2
        obtain ⟨rfl, rfl⟩ : pd.add (a * 3) = ad' ∧ cp - a = cc := by simpa using hsl2
        have hfew1 := hfewp pj (List.mem_of_getElem? hpj)
        have hs16 : (fun (w' : World) => Below wv.heap.size wv w' ∧ w'.cell? ⟨gv, 2, none⟩ = some (.bool x.2.2.1) ∧ w'.cell? ⟨gv, 3, none⟩ = some (.slice A1 x.2.2.2.1.length a1) ∧ w'.cell? ⟨gv, 4, none⟩ = some (.slice A2 x.2.2.2.2.length a2) ∧ w'.cell? ((pd.add (a * 3)).add (j * 3)) = some (.bool pj.1) ∧ w'.cell? ⟨((pd.add (a * 3)).add (j * 3)).block, ((pd.add (a * 3)).add (j * 3)).off + 1, none⟩ = some (.slice P1 pj.2.1.length p1) ∧ w'.cell? ⟨((pd.add (a * 3)).add (j * 3)).block, ((pd.add (a * 3)).add (j * 3)).off + 2, none⟩ = some (.slice P2 pj.2.2.length p2)) wv.drew := tp6_next (bl_drew wv) ⟨Below.refl _ _, KV.cell 2, KV.cell 3, KV.cell 4, f0, f1, f2⟩
        have HS16 := Lib.hid hs16
        have HQV := Lib.hid (show FrQ wv (.agg #[.bool x.2.2.1, .slice A1 x.2.2.2.1.length a1, .slice A2 x.2.2.2.2.length a2]) qx from ⟨_, _, _, hfx.below al, by omega, hqx.symm⟩)
        have HQP := Lib.hid (show FrQ wv (.agg #[.bool pj.1, .slice P1 pj.2.1.length p1, .slice P2 pj.2.2.length p2]) lm from ⟨_, _, _, hfp, by omega, hpjq⟩)
        have HPART := Lib.hid hpart
        have HPK := Lib.hid (show pk (-1) (((P.take b).drop a).map fqd) ((P.take b).drop a).length = (j : Int) by rw [hmf, hlenp]; exact hpk)
        have HLENP := Lib.hid hlenp
        have HFEWP := Lib.hid hfewp
        have HY := Lib.hid hy
        have HSZY := Lib.hid hszy
        have HXL := Lib.hid hx
        have hcpa : ¬ cp = a := by omega
        have q2 : (0 : Int) ≤ (a : Int) := by omega
        have q3 : (a : Int) ≤ (b : Int) := by omega
        have q4 : (b : Int) ≤ (cp : Int) := by omega
        have q5 : (b : Int) ≤ (P.length : Int) := by omega
        have q6 : (j : Int) < (b : Int) - (a : Int) := by omega
        have q7 : (j : Int) < ((b - a : Nat) : Int) := by omega
        have q8 : IntKind.i64.wrap (a : Int) = (a : Int) := IntWalk.i64_in _ (by omega)
        clear hb hK hW hVW hO hVO hs hx1 hgood ha hbE few hlm hqx hrest hy hszx hszl hszy hp0 hsl al KV hwv hgv hpart hpk hat hmf hlenp hpj hpjq hfewp hsl2 f0 f1 f2 hfp hfew1 hs16 hfx hq16 hgd hszs
        go_upto_region 15 with fail
        rw [← HWV.out, ← HGV.out]
        clear e0 e1 e2 e3 e4
        go_upto_region 16 with fail
        clear k0 k1
        go_cut [17] (fun t17 wx => ∃ g O1 o1 O2 o2, t17 = .pointer (some ⟨g, 0, none⟩) ∧ wv.heap.size ≤ g ∧ Below wv.heap.size wv wx ∧ Blk wx g 38 #[.bool (decide (y.num < 0)), .slice O1 (dg y.num.natAbs).length o1, .slice O2 (dg y.den).length o2] ∧ FrV wx (.agg #[.bool (decide (y.num < 0)), .slice O1 (dg y.num.natAbs).length o1, .slice O2 (dg y.den).length o2]) y)
        case first =>
          have hS0 := HS16.out
          refine wp_region_T (fun (w' : World) => Below wv.heap.size wv w' ∧ w'.cell? ⟨gv, 2, none⟩ = some (.bool x.2.2.1) ∧ w'.cell? ⟨gv, 3, none⟩ = some (.slice A1 x.2.2.2.1.length a1) ∧ w'.cell? ⟨gv, 4, none⟩ = some (.slice A2 x.2.2.2.2.length a2) ∧ w'.cell? ((pd.add (a * 3)).add (j * 3)) = some (.bool pj.1) ∧ w'.cell? ⟨((pd.add (a * 3)).add (j * 3)).block, ((pd.add (a * 3)).add (j * 3)).off + 1, none⟩ = some (.slice P1 pj.2.1.length p1) ∧ w'.cell? ⟨((pd.add (a * 3)).add (j * 3)).block, ((pd.add (a * 3)).add (j * 3)).off + 2, none⟩ = some (.slice P2 pj.2.2.length p2)) 9 (by kernel_rfl) ?_
          have hS : (fun (w' : World) => Below wv.heap.size wv w' ∧ w'.cell? ⟨gv, 2, none⟩ = some (.bool x.2.2.1) ∧ w'.cell? ⟨gv, 3, none⟩ = some (.slice A1 x.2.2.2.1.length a1) ∧ w'.cell? ⟨gv, 4, none⟩ = some (.slice A2 x.2.2.2.2.length a2) ∧ w'.cell? ((pd.add (a * 3)).add (j * 3)) = some (.bool pj.1) ∧ w'.cell? ⟨((pd.add (a * 3)).add (j * 3)).block, ((pd.add (a * 3)).add (j * 3)).off + 1, none⟩ = some (.slice P1 pj.2.1.length p1) ∧ w'.cell? ⟨((pd.add (a * 3)).add (j * 3)).block, ((pd.add (a * 3)).add (j * 3)).off + 2, none⟩ = some (.slice P2 pj.2.2.length p2)) _ := hS0
          simp only [List.size_toArray, List.length_cons, List.length_nil, Nat.reduceAdd]
          refine wpAnyT_take 0 (some 67) (v := ?vq1_1) rfl rfl (by kernel_rfl) (by kernel_rfl) (by kernel_rfl) (by kernel_rfl) (fun _ _ _ h => h) rfl ?hyq1_1 hS ?restq1_1
          case hyq1_1 => (intro w hSw; (try dsimp only at hSw); go_simp; (try with_reducible rfl))
          (try simp only [Act.put, List.setIfInBounds_toArray, List.set_cons_zero, List.set_cons_succ])
          refine wpAnyT_take 1 (some 68) (v := ?vq1_2) rfl rfl (by kernel_rfl) (by kernel_rfl) (by kernel_rfl) (by kernel_rfl) (fun _ _ _ h => h) rfl ?hyq1_2 hS ?restq1_2
          case hyq1_2 => (intro w hSw; (try dsimp only at hSw); go_simp; (try with_reducible rfl))
          (try simp only [Act.put, List.setIfInBounds_toArray, List.set_cons_zero, List.set_cons_succ])
          refine wpAnyT_take 2 (some 69) (v := ?vq1_3) rfl rfl (by kernel_rfl) (by kernel_rfl) (by kernel_rfl) (by kernel_rfl) (fun _ _ _ h => h) rfl ?hyq1_3 hS ?restq1_3
          case hyq1_3 => (intro w hSw; (try dsimp only at hSw); go_simp; (try with_reducible rfl))
          (try simp only [Act.put, List.setIfInBounds_toArray, List.set_cons_zero, List.set_cons_succ])
          refine wpAnyT_take 3 (some 70) (v := ?vq1_4) rfl rfl (by kernel_rfl) (by kernel_rfl) (by kernel_rfl) (by kernel_rfl) (fun _ _ _ h => h) rfl ?hyq1_4 hS ?restq1_4
          case hyq1_4 => (intro w hSw; (try dsimp only at hSw); go_simp; (try with_reducible rfl))
          (try simp only [Act.put, List.setIfInBounds_toArray, List.set_cons_zero, List.set_cons_succ])
          refine wpAnyT_duo (i := 4) (j := 8) rfl rfl (by kernel_rfl) rfl rfl (fun K hK => ?_) (fun K hK => ?_)
          · simp only [List.getElem_toArray, List.getElem_cons_succ, List.getElem_cons_zero]
            go_simp
            go_at_call 60
            with_reducible refine (least_calls _ _ ((P.take b).drop a) ?_ ?_ HFEWP.out).mono ?_
            rw [← HLENP.out]; exact HLENP.out ▸ HPART.out.below hS.1
            rw [HLENP.out]; omega
            rintro e w20 ⟨rfl, hb20⟩
            rw [HPK.out]
            have hS8 := tp6_next hb20 hS
            refine hK.out _ _ (fun _ => hS8) ?_
            clear hS K hK
            have hS := hS8
            clear hS8
            (try simp only [Act.put, List.setIfInBounds_toArray, List.set_cons_zero, List.set_cons_succ])
            refine wpAnyT_take 5 (some 72) (v := ?vq1_5) rfl rfl (by kernel_rfl) (by kernel_rfl) (by kernel_rfl) (by kernel_rfl) (fun _ _ _ h => h) rfl ?hyq1_5 hS ?restq1_5
            case hyq1_5 => (intro w hSw; (try dsimp only at hSw); go_simp; (try with_reducible rfl))
            (try simp only [Act.put, List.setIfInBounds_toArray, List.set_cons_zero, List.set_cons_succ])
            refine wpAnyT_take 6 (some 73) (v := ?vq1_6) rfl rfl (by kernel_rfl) (by kernel_rfl) (by kernel_rfl) (by kernel_rfl) (fun _ _ _ h => h) rfl ?hyq1_6 hS ?restq1_6
            case hyq1_6 => (intro w hSw; (try dsimp only at hSw); go_simp; (try with_reducible rfl))
            (try simp only [Act.put, List.setIfInBounds_toArray, List.set_cons_zero, List.set_cons_succ])
            refine wpAnyT_duo (i := 7) (j := 8) rfl rfl (by kernel_rfl) rfl rfl (fun K hK => ?_) (fun K hK => ?_)
            · simp only [List.getElem_toArray, List.getElem_cons_succ, List.getElem_cons_zero]
              go_simp
              go_at_call 67
              with_reducible refine (subq _ _ _ qx lm ?_ ?_ (by rw [← HY.out]; exact HSZY.out.short (by omega))).mono ?_
              exact HQV.out.below hS.1
              exact HQP.out.below hS.1
              rintro e w21 ⟨v21, rfl, hv21, hb21⟩
              rw [← HY.out] at hv21
              obtain ⟨O1, o1, O2, o2, rfl, _, _, _, _⟩ := FrIn.shape hv21
              have hS8 := tp6_next hb21 hS
              refine hK.out _ _ (fun _ => hS8) ?_
              clear hS K hK
              have hS := hS8
              clear hS8
              (try simp only [Act.put, List.setIfInBounds_toArray, List.set_cons_zero, List.set_cons_succ])
              refine wpAnyT_one (i := 8) rfl (by kernel_rfl) rfl (fun K hK => ?_)
              simp only [List.getElem_toArray, List.getElem_cons_succ, List.getElem_cons_zero]
              go_simp
              have al := below_alloc0 w21 (.cells #[.bool false, .slice none 0 0, .slice none 0 0] 38)
              have KO : Blk (w21.alloc (.cells #[.bool false, .slice none 0 0, .slice none 0 0] 38)) w21.heap.size 38 #[.bool false, .slice none 0 0, .slice none 0 0] := Blk.new w21 _ _
              have hge : wv.heap.size ≤ w21.heap.size := hS.1.size
              have hSC := hS
              have hSA := tp6_next al hS
              have hvb21 := FrV.below hv21 al
              refine hK.out _ _ (fun _ => hSA) ?_
              clear hS K hK
              have hS := hSA
              clear hSA
              (try simp only [Act.put, List.setIfInBounds_toArray, List.set_cons_zero, List.set_cons_succ])
              have m0 := KO.cell 0
              have m1 := KO.cell 1
              have m2 := KO.cell 2
              have mf := KO.free
              have al9 := below_alloc0 w21 (.cells #[.bool (decide (y.num < 0)), .slice O1 (dg y.num.natAbs).length o1, .slice O2 (dg y.den).length o2] 38)
              have HB9 := Lib.hid (bl_trans hSC.1 al9)
              have HV9 := Lib.hid (FrV.below hv21 al9)
              have HK9 := Lib.hid (Blk.new w21 38 #[.bool (decide (y.num < 0)), .slice O1 (dg y.num.natAbs).length o1, .slice O2 (dg y.den).length o2])
              clear al9
              clear KO
              refine wpAnyT_one (i := 9) rfl (by kernel_rfl) rfl (fun K hK => ?_)
              simp only [List.getElem_toArray, List.getElem_cons_succ, List.getElem_cons_zero]
              go_simp
              refine hK.out _ _ (fun h => absurd rfl h) ?_
              clear hS K hK
              refine wpAnyT_done (by kernel_rfl) ?_ _
              clear m0 m1 m2 mf
              go_wp2
              go_meet
              case rel => exact ⟨_, O1, o1, O2, o2, rfl, hge, HB9.out, HK9.out, HV9.out⟩
            · simp only [List.getElem_toArray, List.getElem_cons_succ, List.getElem_cons_zero]
              go_simp
              have al := below_alloc0 w20 (.cells #[.bool false, .slice none 0 0, .slice none 0 0] 38)
              have KO : Blk (w20.alloc (.cells #[.bool false, .slice none 0 0, .slice none 0 0] 38)) w20.heap.size 38 #[.bool false, .slice none 0 0, .slice none 0 0] := Blk.new w20 _ _
              have hge : wv.heap.size ≤ w20.heap.size := hS.1.size
              have hSC := hS
              have hSA := tp6_next al hS
              refine hK.out _ _ (fun _ => hSA) ?_
              clear hS K hK
              have hS := hSA
              clear hSA
              (try simp only [Act.put, List.setIfInBounds_toArray, List.set_cons_zero, List.set_cons_succ])
              refine wpAnyT_one (i := 7) rfl (by kernel_rfl) rfl (fun K hK => ?_)
              simp only [List.getElem_toArray, List.getElem_cons_succ, List.getElem_cons_zero]
              go_simp
              go_at_call 67
              with_reducible refine (subq _ _ _ qx lm ?_ ?_ (by rw [← HY.out]; exact HSZY.out.short (by omega))).mono ?_
              exact HQV.out.below hS.1
              exact HQP.out.below hS.1
              rintro e w21 ⟨v21, rfl, hv21, hb21⟩
              rw [← HY.out] at hv21
              have KO := KO.below hb21
              obtain ⟨O1, o1, O2, o2, rfl, _, _, _, _⟩ := FrIn.shape hv21
              have hS8 := tp6_next hb21 hS
              refine hK.out _ _ (fun _ => hS8) ?_
              clear hS K hK
              have hS := hS8
              clear hS8
              (try simp only [Act.put, List.setIfInBounds_toArray, List.set_cons_zero, List.set_cons_succ])
              have m0 := KO.cell 0
              have m1 := KO.cell 1
              have m2 := KO.cell 2
              have mf := KO.free
              have F2 := FBox.fr KO (boolne _) (slne _ _ _) (slne _ _ _) (.bool (decide (y.num < 0))) (.slice O1 (dg y.num.natAbs).length o1) (.slice O2 (dg y.den).length o2)
              have HB9 := Lib.hid (hS.1.trans (F2.below hS.1.size (fun y hy => by have e : y = w20.heap.size := hy; omega)))
              have HV9 := Lib.hid (F2.keep.fr hv21)
              have HK9 := Lib.hid (blk3 KO (.bool (decide (y.num < 0))) (.slice O1 (dg y.num.natAbs).length o1) (.slice O2 (dg y.den).length o2))
              clear F2
              clear KO
              refine wpAnyT_one (i := 9) rfl (by kernel_rfl) rfl (fun K hK => ?_)
              simp only [List.getElem_toArray, List.getElem_cons_succ, List.getElem_cons_zero]
              go_simp
              refine hK.out _ _ (fun h => absurd rfl h) ?_
              clear hS K hK
              refine wpAnyT_done (by kernel_rfl) ?_ _
              clear m0 m1 m2 mf
              go_wp2
              go_meet
              case rel => exact ⟨_, O1, o1, O2, o2, rfl, hge, HB9.out, HK9.out, HV9.out⟩
          · simp only [List.getElem_toArray, List.getElem_cons_succ, List.getElem_cons_zero]
            go_simp
            have al := below_alloc0 wv.drew (.cells #[.bool false, .slice none 0 0, .slice none 0 0] 38)
            have KO : Blk (wv.drew.alloc (.cells #[.bool false, .slice none 0 0, .slice none 0 0] 38)) wv.heap.size 38 #[.bool false, .slice none 0 0, .slice none 0 0] := Blk.new wv.drew _ _
            have hge : wv.heap.size ≤ wv.heap.size := hS.1.size
            have hSC := hS
            have hSA := tp6_next al hS
            refine hK.out _ _ (fun _ => hSA) ?_
            clear hS K hK
            have hS := hSA
            clear hSA
            (try simp only [Act.put, List.setIfInBounds_toArray, List.set_cons_zero, List.set_cons_succ])
            refine wpAnyT_one (i := 4) rfl (by kernel_rfl) rfl (fun K hK => ?_)
            simp only [List.getElem_toArray, List.getElem_cons_succ, List.getElem_cons_zero]
            go_simp
            go_at_call 60
            with_reducible refine (least_calls _ _ ((P.take b).drop a) ?_ ?_ HFEWP.out).mono ?_
            rw [← HLENP.out]; exact HLENP.out ▸ HPART.out.below hS.1
            rw [HLENP.out]; omega
            rintro e w20 ⟨rfl, hb20⟩
            rw [HPK.out]
            have KO := KO.below hb20
            have hS8 := tp6_next hb20 hS
            refine hK.out _ _ (fun _ => hS8) ?_
            clear hS K hK
            have hS := hS8
            clear hS8
            (try simp only [Act.put, List.setIfInBounds_toArray, List.set_cons_zero, List.set_cons_succ])
            refine wpAnyT_take 5 (some 72) (v := ?vq1_7) rfl rfl (by kernel_rfl) (by kernel_rfl) (by kernel_rfl) (by kernel_rfl) (fun _ _ _ h => h) rfl ?hyq1_7 hS ?restq1_7
            case hyq1_7 => (intro w hSw; (try dsimp only at hSw); go_simp; (try with_reducible rfl))
            (try simp only [Act.put, List.setIfInBounds_toArray, List.set_cons_zero, List.set_cons_succ])
            refine wpAnyT_take 6 (some 73) (v := ?vq1_8) rfl rfl (by kernel_rfl) (by kernel_rfl) (by kernel_rfl) (by kernel_rfl) (fun _ _ _ h => h) rfl ?hyq1_8 hS ?restq1_8
            case hyq1_8 => (intro w hSw; (try dsimp only at hSw); go_simp; (try with_reducible rfl))
            (try simp only [Act.put, List.setIfInBounds_toArray, List.set_cons_zero, List.set_cons_succ])
            refine wpAnyT_one (i := 7) rfl (by kernel_rfl) rfl (fun K hK => ?_)
            simp only [List.getElem_toArray, List.getElem_cons_succ, List.getElem_cons_zero]
            go_simp
            go_at_call 67
            with_reducible refine (subq _ _ _ qx lm ?_ ?_ (by rw [← HY.out]; exact HSZY.out.short (by omega))).mono ?_
            exact HQV.out.below hS.1
            exact HQP.out.below hS.1
            rintro e w21 ⟨v21, rfl, hv21, hb21⟩
            rw [← HY.out] at hv21
            have KO := KO.below hb21
            obtain ⟨O1, o1, O2, o2, rfl, _, _, _, _⟩ := FrIn.shape hv21
            have hS8 := tp6_next hb21 hS
            refine hK.out _ _ (fun _ => hS8) ?_
            clear hS K hK
            have hS := hS8
            clear hS8
            (try simp only [Act.put, List.setIfInBounds_toArray, List.set_cons_zero, List.set_cons_succ])
            have m0 := KO.cell 0
            have m1 := KO.cell 1
            have m2 := KO.cell 2
            have mf := KO.free
            have F2 := FBox.fr KO (boolne _) (slne _ _ _) (slne _ _ _) (.bool (decide (y.num < 0))) (.slice O1 (dg y.num.natAbs).length o1) (.slice O2 (dg y.den).length o2)
            have HB9 := Lib.hid (hS.1.trans (F2.below hS.1.size (fun y hy => by have e : y = wv.heap.size := hy; omega)))
            have HV9 := Lib.hid (F2.keep.fr hv21)
            have HK9 := Lib.hid (blk3 KO (.bool (decide (y.num < 0))) (.slice O1 (dg y.num.natAbs).length o1) (.slice O2 (dg y.den).length o2))
            clear F2
            clear KO
            refine wpAnyT_one (i := 9) rfl (by kernel_rfl) rfl (fun K hK => ?_)
            simp only [List.getElem_toArray, List.getElem_cons_succ, List.getElem_cons_zero]
            go_simp
            refine hK.out _ _ (fun h => absurd rfl h) ?_
            clear hS K hK
            refine wpAnyT_done (by kernel_rfl) ?_ _
            clear m0 m1 m2 mf
            go_wp2
            go_meet
            case rel => exact ⟨_, O1, o1, O2, o2, rfl, hge, HB9.out, HK9.out, HV9.out⟩
        case rest =>
        obtain ⟨g17, O1, o1, O2, o2, rfl, hge17, hbc, hKc, hVc⟩ := hcut
        have HBc := Lib.hid (bl_trans HBV.out hbc)
        have HKc := Lib.hid (HKV.out.below hbc)
        have HWc := Lib.hid (HWVb.out.below hbc)
        have HVc := Lib.hid (FrV.below HVV.out hbc)
        have HOc := Lib.hid (HOV.out.below hbc)
        have HVOc := Lib.hid (FrV.below HVOV.out hbc)
        have H17 := Lib.hid hKc
        have HV17 := Lib.hid hVc
        have n0 := hKc.cell 0
        have n1 := hKc.cell 1
        have n2 := hKc.cell 2
        obtain ⟨sg, hsg⟩ : ∃ s, s = y.num.sign := ⟨_, rfl⟩
        have HSG := Lib.hid hsg
        clear hbc hKc hVc hge17 hsg q1 q2 q3 q4 q5 q6 q7 q8 hcpa
        go_wp2_with fail
        refine (signq _ _ y (HV17.out.q (HSZY.out.short (by omega)))).mono ?_
        rintro e w8 ⟨rfl, hb8⟩
        rw [← HSG.out]
        have HB8 := Lib.hid (bl_trans HBc.out hb8)
        have HK8 := Lib.hid (HKc.out.below hb8)
        have HW8 := Lib.hid (HWc.out.below hb8)
        have HV8 := Lib.hid (FrV.below HVc.out hb8)
        have HO8 := Lib.hid (HOc.out.below hb8)
        have HVO8 := Lib.hid (FrV.below HVOc.out hb8)
        have H178 := Lib.hid (H17.out.below hb8)
        have HV178 := Lib.hid (FrV.below HV17.out hb8)
        clear hb8 n0 n1 n2
        by_cases hlt : 0 < sg
        · have g1 : decide (0 < sg) = true := decide_eq_true hlt
          obtain ⟨s', hs'⟩ : ∃ z, z = s + y := ⟨_, rfl⟩
          have hN : s' = bd + sumf ((tdOf L).restq f) (i + 1) := by
            show s' = bd + (sumf ((tdOf L).restq f) i + (tdOf L).restq f i)
            have h4 := hlt
            rw [HSG.out, sign_rcmp] at h4
            unfold rcmp at h4
            have hyy := HY.out
            have hss := HS.out
            rw [HREST.out, if_pos (by grind)]
            grind
          have HN := Lib.hid hN
          have hsh : Short (s + y) := by rw [← hs', hN]; exact (HSZ.out (i + 1) (by have := HXL.out; omega)).short (by omega)
          have HSH := Lib.hid hsh
          have HSS := Lib.hid hs'
          have hshs : Short s := by rw [HS.out]; exact (HSZ.out i (by have := HXL.out; omega)).short (by omega)
          have HSHS := Lib.hid hshs
          have n0 := H178.out.cell 0
          have n1 := H178.out.cell 1
          have n2 := H178.out.cell 2
          have m0 := HO8.out.cell 0
          have m1 := HO8.out.cell 1
          have m2 := HO8.out.cell 2
          clear hlt hs' hN hsh hshs
          go_wp2_with fail
          refine (addq _ _ _ s y (HVO8.out.q HSHS.out) (HV178.out.q (HSZY.out.short (by omega))) HSH.out).mono ?_
          rintro e w9 ⟨v9, rfl, hv9, hb9⟩
          rw [← HSS.out] at hv9
          obtain ⟨N1, nn1, N2, nn2, rfl, _, _, _, _⟩ := FrIn.shape hv9
          clear m0 m1 m2 n0 n1 n2
          have hO9 := HO8.out.below hb9
          have m0 := hO9.cell 0
          have m1 := hO9.cell 1
          have m2 := hO9.cell 2
          have mf := hO9.free
          have hB9 := bl_trans HB8.out hb9
          have F2 := FBox.fr hO9 (boolne _) (slne _ _ _) (slne _ _ _) (.bool (decide (s'.num < 0))) (.slice N1 (dg s'.num.natAbs).length nn1) (.slice N2 (dg s'.den).length nn2)
          have HK10 := Lib.hid (F2.blk (HK8.out.below hb9) hnk13)
          have HW10 := Lib.hid (F2.blk (HW8.out.below hb9) hne13)
          have HV10 := Lib.hid (F2.keep.fr (FrV.below HV8.out hb9))
          have HB10 := Lib.hid (hB9.trans (F2.below hB9.size (fun z hz => by have e : z = g13 := hz; omega)))
          have HO10 := Lib.hid (blk3 hO9 (.bool (decide (s'.num < 0))) (.slice N1 (dg s'.num.natAbs).length nn1) (.slice N2 (dg s'.den).length nn2))
          have HVO10 := Lib.hid (F2.keep.fr hv9)
          clear hO9 hB9 F2 hv9 hb9
          go_wp2
          exact ⟨⟨i + 1, s', N1, N2, nn1, nn2, by have := HXL.out; omega, by go_num, HN.out, ⟨HB10.out, HK10.out, HW10.out, HV10.out⟩, HO10.out, HVO10.out⟩, by have := HXL.out; simp [intOf]; omega⟩
        · have g1 : decide (0 < sg) = false := decide_eq_false hlt
          have HN := Lib.hid (show s = bd + sumf ((tdOf L).restq f) (i + 1) by
            show s = bd + (sumf ((tdOf L).restq f) i + (tdOf L).restq f i)
            have h4 := hlt
            rw [HSG.out, sign_rcmp] at h4
            unfold rcmp at h4
            have hyy := HY.out
            have hss := HS.out
            rw [HREST.out, if_neg (by grind)]
            grind)
          clear hlt
          go_wp2
          exact ⟨⟨i + 1, s, S1, S2, s1, s2, by have := HXL.out; omega, by go_num, HN.out, ⟨HB8.out, HK8.out, HW8.out, HV8.out⟩, HO8.out, HVO8.out⟩, by have := HXL.out; simp [intOf]; omega⟩
end Go.Proofs.Ytajckdheecgceaa
