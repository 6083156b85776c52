/- Tides: the reference's Proves. -/
import Derived.Test.YtajckdheecgceaaTd45
import Derived.Test.YtajckdheecgceaaTd48
set_option linter.unusedVariables false
set_option linter.unusedSimpArgs false
namespace Go.Proofs.Ytajckdheecgceaa
open Go.RowKit

theorem rmulr (w : World) (va vb : Value) (a b : Rat) (ha : FrQ w va a) (hb : FrQ w vb b) (hs : Short (a * b)) : Calls Try.prog 76 #[va, vb] w (FrPost (a * b) w) := by
  obtain ⟨n, l, d, h, h2, rfl⟩ := ha
  obtain ⟨n', l', d', h', h2', rfl⟩ := hb
  exact rmul_calls w va vb n n' l d l' d' h h' h2 h2' hs
set_option maxRecDepth 100000 in
set_option maxHeartbeats 16000000 in
theorem rproves_calls (w : World) (days each : Int) (A : Option Addr) (c : Nat) (L : List VD) (h : VL w (.slice A L.length c) L) (hfl : FewV 16 L) (va : Value) (l : List Int) (hl : IL w va l) (vp : Value) (P : List (Bool × List Int × List Int)) (hp : FL w vp P) (hf : FewD 16 P) :
    Calls Try.prog 36 #[.agg #[.int .i64 days, .int .i64 each, .slice A L.length c], va, vp] w (ProvP days each L l P w) := by
  obtain ⟨C, cp, rfl⟩ := hp.shape
  have HV := Lib.hid h
  have HL := Lib.hid hl
  have HP := Lib.hid hp
  have HFL := Lib.hid hfl
  have HF := Lib.hid hf
  have HWD := Lib.hid h.wd
  have hcc := h.bounds
  have hpl : P.length ≤ 9223372036854775807 := by obtain ⟨_, _, _, k1, k2, _⟩ := hp; omega
  obtain ⟨f, hff⟩ : ∃ f, f = prq P := ⟨_, rfl⟩
  have HFF := Lib.hid hff
  have HSF := Lib.hid (show ∀ j, Szq 16 (f j) from fun j => by rw [hff]; exact prq_szq (by omega) hf hp.wd j)
  obtain ⟨wa, hwa⟩ : ∃ W, W = w.alloc (.cells #[.int .i64 days, .int .i64 each, .slice A L.length c] 24) := ⟨_, rfl⟩
  have ba : Below w.heap.size w wa := by rw [hwa]; exact below_alloc0 _ _
  have KA : Blk wa w.heap.size 24 #[.int .i64 days, .int .i64 each, .slice A L.length c] := by rw [hwa]; exact Blk.new _ _ _
  have HB0 := Lib.hid ba
  have HK0 := Lib.hid KA
  have HWA := Lib.hid hwa
  have k0 := KA.cell 0
  have k1 := KA.cell 1
  have k2 := KA.cell 2
  clear h hl hp hfl hf hff hwa ba KA
  go_enter Try.func36, Try.ntmps36
  go_upto_region 1 with fail
  rw [← HWA.out]
  go_wp2_with fail
  refine (rplanned_calls _ days each A c L (HV.out.below HB0.out) HFL.out va l (HL.out.below HB0.out)).mono ?_
  rintro e w1 ⟨hb1, v, rfl, hv⟩
  obtain ⟨pb, hpb⟩ : ∃ b, b = planB days each L l := ⟨_, rfl⟩
  rw [← hpb] at hv ⊢
  obtain ⟨qw, hqw⟩ : ∃ q : Rat, q = if pb = true then (tdOf L).wsum (pday l) L.length else 0 := ⟨_, rfl⟩
  rw [← hqw] at hv
  obtain ⟨W1, ww1, W2, ww2, rfl, _, _, _, _⟩ := FrIn.shape hv
  have HPB := Lib.hid hpb
  have HQW := Lib.hid hqw
  have al := below_alloc0 w1 (.cells #[.bool (decide (qw.num < 0)), .slice W1 (dg qw.num.natAbs).length ww1, .slice W2 (dg qw.den).length ww2] 38)
  have HB1 := Lib.hid (bl_trans (bl_trans HB0.out hb1) al)
  have HK1 := Lib.hid ((HK0.out.below hb1).below al)
  have HW1 := Lib.hid (Blk.new w1 38 #[.bool (decide (qw.num < 0)), .slice W1 (dg qw.num.natAbs).length ww1, .slice W2 (dg qw.den).length ww2])
  have HVW1 := Lib.hid (FrV.below hv al)
  have HPOST := Lib.hid (fun (b : Bool) (W : World) (hW : Below w.heap.size w W) (hiff : b = true ↔ ProvB days each L l P) => (⟨b, rfl, hiff, hW⟩ : ProvP days each L l P w (.returned (.bool b)) W))
  clear hpb hqw hv hb1 al k0 k1 k2
  cases pb
  case false =>
    have HN := Lib.hid (show (false = true ↔ ProvB days each L l P) from ⟨fun h => (by cases h), fun h => by rw [HPB.out]; exact h.1⟩)
    go_wp2
    go_ret
    exact HPOST.out false _ HB1.out HN.out
  have k0 := HK1.out.cell 0
  have k1 := HK1.out.cell 1
  have k2 := HK1.out.cell 2
  by_cases hlen : (P.length : Int) = days
  case neg =>
    have g1 : ((P.length : Int) != days) = true := bne_iff_ne.2 hlen
    have HN := Lib.hid (show (false = true ↔ ProvB days each L l P) from ⟨fun h => (by cases h), fun h => absurd h.2.1 hlen⟩)
    clear hlen
    go_wp2
    go_ret
    exact HPOST.out false _ HB1.out HN.out
  have g1 : ((P.length : Int) != days) = false := by rw [hlen]; simp
  obtain ⟨hr, hll, hok⟩ := planB_of HPB.out.symm
  obtain ⟨z1, z2, z3⟩ := rightN_zero hr
  have hP12 : P.length ≤ 12 := by omega
  have hL12 : L.length ≤ 12 := by omega
  have he1 : 1 ≤ each := by omega
  have he4 : each ≤ 4 := by omega
  have HLEN := Lib.hid hlen
  have HGOOD := Lib.hid (show ∀ (i : Nat) (x : VD), L[i]? = some x → 1 ≤ x.1 ∧ x.1 ≤ x.2.1 ∧ x.2.1 ≤ (P.length : Int) from fun i x hx => by
    have := bad_no (z3 i x hx)
    omega)
  have HW0 := Lib.hid (show qw = (tdOf L).wsum (pday l) L.length by rw [HQW.out, if_pos rfl])
  have hszw : Szq 300 qw := by
    have h2 := psum_szq (few_szq (m := 16) (by omega) (L := rawL L (pday l) L.length) (fun d hd => by
      obtain ⟨x, hx, rfl⟩ := rawL_mem L (pday l) L.length (Nat.le_refl _) hd
      exact HFL.out x hx) (fun d hd => by
      obtain ⟨x, hx, rfl⟩ := rawL_mem L (pday l) L.length (Nat.le_refl _) hd
      exact HWD.out x hx)) (rawL L (pday l) L.length).length
    rw [rawL_sum] at h2
    rw [HW0.out]
    have h3 := rawL_len L (pday l) L.length
    exact h2.mono (by have : (16 + 1) * (rawL L (pday l) L.length).length ≤ 17 * 12 := Nat.mul_le_mul_left 17 (by omega); omega)
  have HSZW := Lib.hid hszw
  clear hlen hr hll hok z1 z2 z3 hszw
  go_wp2_with fail
  refine (rint_calls _ 0 (by omega) (by omega)).mono ?_
  rintro e w2 ⟨v2, rfl, hv2, hb2⟩
  obtain ⟨q0, hq0⟩ : ∃ q : Rat, q = 0 := ⟨_, rfl⟩
  have hv2 : FrV w2 v2 q0 := by rw [hq0]; exact hv2
  obtain ⟨O1, o1, O2, o2, rfl, _, _, _, _⟩ := FrIn.shape hv2
  have HQ0 := Lib.hid hq0
  have al := below_alloc0 w2 (.cells #[.bool (decide (q0.num < 0)), .slice O1 (dg q0.num.natAbs).length o1, .slice O2 (dg q0.den).length o2] 38)
  have HB3 := Lib.hid (bl_trans (bl_trans HB1.out hb2) al)
  have HK3 := Lib.hid ((HK1.out.below hb2).below al)
  have HW3 := Lib.hid ((HW1.out.below hb2).below al)
  have HVW3 := Lib.hid (FrV.below (FrV.below HVW1.out hb2) al)
  have HO3 := Lib.hid (Blk.new w2 38 #[.bool (decide (q0.num < 0)), .slice O1 (dg q0.num.natAbs).length o1, .slice O2 (dg q0.den).length o2])
  have HV3 := Lib.hid (FrV.below hv2 al)
  have hlt1 := (HW1.out.below hb2).lt
  have hlt2 := (HK1.out.below hb2).lt
  obtain ⟨g9, hg9⟩ : ∃ g, g = w2.heap.size := ⟨_, rfl⟩
  have HG9 := Lib.hid hg9
  have hne9 : w1.heap.size ≠ g9 := by omega
  have hnk9 : w.heap.size ≠ g9 := by omega
  have hgw9 : w.heap.size ≤ g9 := by omega
  obtain ⟨qe, hqe⟩ : ∃ q : Rat, q = (each : Rat) := ⟨_, rfl⟩
  have HQE := Lib.hid hqe
  have hsze : Szq 2 qe := by rw [hqe]; exact int_len (by omega) (by omega)
  have HSZE := Lib.hid hsze
  obtain ⟨ef, hef⟩ : ∃ g : Nat → Rat, g = fun j => qe * f j := ⟨_, rfl⟩
  have HEF := Lib.hid hef
  have hszef : ∀ j, Szq 18 (ef j) := fun j => by rw [hef]; exact szq_mul hsze (HSF.out j)
  have HSZEF := Lib.hid hszef
  have HSZS1 := Lib.hid (show ∀ k, k ≤ P.length → Szq 229 (sumf ef k) from fun k hk => (sumf_szq hszef k).mono (by have : (18 + 1) * k ≤ 19 * 12 := Nat.mul_le_mul_left 19 (by omega); omega))
  clear hq0 hv2 hb2 al hg9 hlt1 hlt2 hqe hsze hef hszef k0 k1 k2 g1
  go_wp2
  rw [← HG9.out]
  go_loopw [10] (fun iv wr => ∃ (k : Nat) (s : Rat) (S1 S2 : Option Addr) (s1 s2 : Nat), k ≤ P.length ∧ iv = .int .i64 (k : Int) ∧ s = sumf ef k ∧ (Below w.heap.size w wr ∧ Blk wr w.heap.size 24 #[.int .i64 days, .int .i64 each, .slice A L.length c] ∧ Blk wr w1.heap.size 38 #[.bool (decide (qw.num < 0)), .slice W1 (dg qw.num.natAbs).length ww1, .slice W2 (dg qw.den).length ww2] ∧ FrV wr (.agg #[.bool (decide (qw.num < 0)), .slice W1 (dg qw.num.natAbs).length ww1, .slice W2 (dg qw.den).length ww2]) qw) ∧ (∀ j, j < k → 0 ≤ f j) ∧ Blk wr g9 38 #[.bool (decide (s.num < 0)), .slice S1 (dg s.num.natAbs).length s1, .slice S2 (dg s.den).length s2] ∧ FrV wr (.agg #[.bool (decide (s.num < 0)), .slice S1 (dg s.num.natAbs).length s1, .slice S2 (dg s.den).length s2]) s) (fun iv _ => P.length - (intOf iv).toNat)
  case atStart => exact ⟨0, q0, O1, O2, o1, o2, by omega, rfl, by rw [HQ0.out]; rfl, ⟨HB3.out, HK3.out, HW3.out, HVW3.out⟩, fun j hj => by omega, by rw [HG9.out]; exact HO3.out, HV3.out⟩
  case round =>
    obtain ⟨k, s, S1, S2, s1, s2, hk, rfl, hs, ⟨hb, hK, hW, hVW⟩, hpos, hO, hVO⟩ := hrel
    have HB := Lib.hid hb
    have HK := Lib.hid hK
    have HW := Lib.hid hW
    have HVW := Lib.hid hVW
    have HPOS := Lib.hid hpos
    have HO := Lib.hid hO
    have HVO := Lib.hid hVO
    have HS := Lib.hid hs
    by_cases hx : k < P.length
    · obtain ⟨p, hp1⟩ : ∃ p, P[k]? = some p := ⟨_, List.getElem?_eq_getElem hx⟩
      obtain ⟨pd, cp', P1, p1, P2, p2, hsl, _, _, f0, f1, f2, hfp⟩ := (HP.out.below hb).at hp1
      obtain ⟨rfl, rfl⟩ : C = some pd ∧ cp = cp' := by simpa using hsl
      have q1 : (k : Int) < (P.length : Int) := by omega
      have fewp := HF.out p (List.mem_of_getElem? hp1)
      have HQP := Lib.hid (show FrQ wr (.agg #[.bool p.1, .slice P1 p.2.1.length p1, .slice P2 p.2.2.length p2]) (f k) from ⟨_, _, _, hfp, by omega, by rw [HFF.out, prq_at hp1]; rfl⟩)
      have HF0 := Lib.hid f0
      have HF1 := Lib.hid f1
      have HF2 := Lib.hid f2
      obtain ⟨sg, hsg⟩ : ∃ s, s = (f k).num.sign := ⟨_, rfl⟩
      have HSG := Lib.hid hsg
      clear hb hK hW hVW hpos hO hVO hs hp1 hsl hfp fewp hsg
      go_wp2_with fail
      refine (rsignq _ _ (f k) HQP.out).mono ?_
      rintro e w3 ⟨rfl, hb3⟩
      rw [← HSG.out]
      have HB3 := Lib.hid (bl_trans HB.out hb3)
      have HK3 := Lib.hid (HK.out.below hb3)
      have HW3 := Lib.hid (HW.out.below hb3)
      have HV3 := Lib.hid (FrV.below HVW.out hb3)
      have HO3 := Lib.hid (HO.out.below hb3)
      have HVO3 := Lib.hid (FrV.below HVO.out hb3)
      have HQP3 := Lib.hid (HQP.out.below hb3)
      have HC0 := Lib.hid (cell_below hb3 HF0.out)
      have HC1 := Lib.hid (cell_below hb3 HF1.out)
      have HC2 := Lib.hid (cell_below hb3 HF2.out)
      clear hb3 f0 f1 f2
      by_cases hsl : sg < 0
      · have g2 : decide (sg < 0) = true := decide_eq_true hsl
        have HN := Lib.hid (show (false = true ↔ ProvB days each L l P) from ⟨fun h => (by cases h), fun h => by
          have h3 := h.2.2.1 k hx
          rw [← HFF.out] at h3
          have h4 := hsl
          rw [HSG.out, sign_rcmp] at h4
          unfold rcmp at h4
          grind⟩)
        clear hsl
        go_wp2
        go_ret
        exact HPOST.out false _ HB3.out HN.out
      · have g2 : decide (sg < 0) = false := decide_eq_false hsl
        have HN := Lib.hid (show 0 ≤ f k by
          have h4 := hsl
          rw [HSG.out, sign_rcmp] at h4
          unfold rcmp at h4
          grind)
        obtain ⟨y, hy⟩ : ∃ y, y = qe * f k := ⟨_, rfl⟩
        obtain ⟨s', hs'⟩ : ∃ z, z = s + y := ⟨_, rfl⟩
        have hNS : s' = sumf ef (k + 1) := by
          show s' = sumf ef k + ef k
          rw [hs', hy, HS.out, HEF.out]
        have HY := Lib.hid hy
        have HSS := Lib.hid hs'
        have HNS := Lib.hid hNS
        have HSHY := Lib.hid (show Short y by rw [hy]; exact (szq_mul HSZE.out (HSF.out k)).short (by omega))
        have HSHS := Lib.hid (show Short s by rw [HS.out]; exact (HSZS1.out k hk).short (by omega))
        have HSHN := Lib.hid (show Short (s + y) by rw [← hs', hNS]; exact (HSZS1.out (k + 1) hx).short (by omega))
        have hs10 : (fun (w' : World) => Below w3.heap.size w3 w' ∧ w'.cell? ⟨g9, 0, none⟩ = some (.bool (decide (s.num < 0))) ∧ w'.cell? ⟨g9, 1, none⟩ = some (.slice S1 (dg s.num.natAbs).length s1) ∧ w'.cell? ⟨g9, 2, none⟩ = some (.slice S2 (dg s.den).length s2) ∧ w'.cell? ⟨w.heap.size, 1, none⟩ = some (.int .i64 each) ∧ w'.cell? (pd.add (k * 3)) = some (.bool p.1) ∧ w'.cell? ⟨(pd.add (k * 3)).block, (pd.add (k * 3)).off + 1, none⟩ = some (.slice P1 p.2.1.length p1) ∧ w'.cell? ⟨(pd.add (k * 3)).block, (pd.add (k * 3)).off + 2, none⟩ = some (.slice P2 p.2.2.length p2)) w3.drew := tp7_next (bl_drew w3) ⟨Below.refl _ _, HO3.out.cell 0, HO3.out.cell 1, HO3.out.cell 2, HK3.out.cell 1, HC0.out, HC1.out, HC2.out⟩
        have HS10 := Lib.hid hs10
        clear hsl hy hs' hNS hs10
        go_upto_region 10 with fail
        have hS0 := HS10.out
        refine wp_region_T (fun (w' : World) => Below w3.heap.size w3 w' ∧ w'.cell? ⟨g9, 0, none⟩ = some (.bool (decide (s.num < 0))) ∧ w'.cell? ⟨g9, 1, none⟩ = some (.slice S1 (dg s.num.natAbs).length s1) ∧ w'.cell? ⟨g9, 2, none⟩ = some (.slice S2 (dg s.den).length s2) ∧ w'.cell? ⟨w.heap.size, 1, none⟩ = some (.int .i64 each) ∧ w'.cell? (pd.add (k * 3)) = some (.bool p.1) ∧ w'.cell? ⟨(pd.add (k * 3)).block, (pd.add (k * 3)).off + 1, none⟩ = some (.slice P1 p.2.1.length p1) ∧ w'.cell? ⟨(pd.add (k * 3)).block, (pd.add (k * 3)).off + 2, none⟩ = some (.slice P2 p.2.2.length p2)) 10 (by kernel_rfl) ?_
        have hS : (fun (w' : World) => Below w3.heap.size w3 w' ∧ w'.cell? ⟨g9, 0, none⟩ = some (.bool (decide (s.num < 0))) ∧ w'.cell? ⟨g9, 1, none⟩ = some (.slice S1 (dg s.num.natAbs).length s1) ∧ w'.cell? ⟨g9, 2, none⟩ = some (.slice S2 (dg s.den).length s2) ∧ w'.cell? ⟨w.heap.size, 1, none⟩ = some (.int .i64 each) ∧ w'.cell? (pd.add (k * 3)) = some (.bool p.1) ∧ w'.cell? ⟨(pd.add (k * 3)).block, (pd.add (k * 3)).off + 1, none⟩ = some (.slice P1 p.2.1.length p1) ∧ w'.cell? ⟨(pd.add (k * 3)).block, (pd.add (k * 3)).off + 2, none⟩ = some (.slice P2 p.2.2.length p2)) _ := hS0
        simp only [List.size_toArray, List.length_cons, List.length_nil, Nat.reduceAdd]
        refine wpAnyT_take 0 (some 40) (v := ?vr1_0) rfl rfl (by kernel_rfl) (by kernel_rfl) (by kernel_rfl) (by kernel_rfl) (fun _ _ _ h => h) rfl ?hyr1_0 hS ?restr1_0
        case hyr1_0 => (intro w hSw; (try dsimp only at hSw); go_simp; (try with_reducible rfl))
        (try simp only [Act.put, List.setIfInBounds_toArray, List.set_cons_zero, List.set_cons_succ])
        refine wpAnyT_take 1 (some 41) (v := ?vr1_1) rfl rfl (by kernel_rfl) (by kernel_rfl) (by kernel_rfl) (by kernel_rfl) (fun _ _ _ h => h) rfl ?hyr1_1 hS ?restr1_1
        case hyr1_1 => (intro w hSw; (try dsimp only at hSw); go_simp; (try with_reducible rfl))
        (try simp only [Act.put, List.setIfInBounds_toArray, List.set_cons_zero, List.set_cons_succ])
        refine wpAnyT_take 2 (some 42) (v := ?vr1_2) rfl rfl (by kernel_rfl) (by kernel_rfl) (by kernel_rfl) (by kernel_rfl) (fun _ _ _ h => h) rfl ?hyr1_2 hS ?restr1_2
        case hyr1_2 => (intro w hSw; (try dsimp only at hSw); go_simp; (try with_reducible rfl))
        (try simp only [Act.put, List.setIfInBounds_toArray, List.set_cons_zero, List.set_cons_succ])
        refine wpAnyT_take 4 (some 44) (v := ?vr1_4) rfl rfl (by kernel_rfl) (by kernel_rfl) (by kernel_rfl) (by kernel_rfl) (fun _ _ _ h => h) rfl ?hyr1_4 hS ?restr1_4
        case hyr1_4 => (intro w hSw; (try dsimp only at hSw); go_simp; (try with_reducible rfl))
        (try simp only [Act.put, List.setIfInBounds_toArray, List.set_cons_zero, List.set_cons_succ])
        refine wpAnyT_take 5 (some 45) (v := ?vr1_5) rfl rfl (by kernel_rfl) (by kernel_rfl) (by kernel_rfl) (by kernel_rfl) (fun _ _ _ h => h) rfl ?hyr1_5 hS ?restr1_5
        case hyr1_5 => (intro w hSw; (try dsimp only at hSw); go_simp; (try with_reducible rfl))
        (try simp only [Act.put, List.setIfInBounds_toArray, List.set_cons_zero, List.set_cons_succ])
        refine wpAnyT_take 6 (some 46) (v := ?vr1_6) rfl rfl (by kernel_rfl) (by kernel_rfl) (by kernel_rfl) (by kernel_rfl) (fun _ _ _ h => h) rfl ?hyr1_6 hS ?restr1_6
        case hyr1_6 => (intro w hSw; (try dsimp only at hSw); go_simp; (try with_reducible rfl))
        (try simp only [Act.put, List.setIfInBounds_toArray, List.set_cons_zero, List.set_cons_succ])
        refine wpAnyT_take 7 (some 47) (v := ?vr1_7) rfl rfl (by kernel_rfl) (by kernel_rfl) (by kernel_rfl) (by kernel_rfl) (fun _ _ _ h => h) rfl ?hyr1_7 hS ?restr1_7
        case hyr1_7 => (intro w hSw; (try dsimp only at hSw); go_simp; (try with_reducible rfl))
        (try simp only [Act.put, List.setIfInBounds_toArray, List.set_cons_zero, List.set_cons_succ])
        refine wpAnyT_one (i := 3) rfl (by kernel_rfl) rfl (fun K hK => ?_)
        simp only [List.getElem_toArray, List.getElem_cons_succ, List.getElem_cons_zero]
        go_simp
        go_at_call 52
        with_reducible refine (rint_calls _ each (by omega) (by omega)).mono ?_
        rintro e w8 ⟨v6, rfl, hv6, hb8⟩
        rw [← HQE.out] at hv6
        have hv6q := hv6.q (HSZE.out.short (by omega))
        clear hv6
        have hS8 := tp7_next hb8 hS
        refine hK.out _ _ (fun _ => hS8) ?_
        clear hS K hK
        have hS := hS8
        clear hS8
        (try simp only [Act.put, List.setIfInBounds_toArray, List.set_cons_zero, List.set_cons_succ])
        refine wpAnyT_one (i := 8) rfl (by kernel_rfl) rfl (fun K hK => ?_)
        simp only [List.getElem_toArray, List.getElem_cons_succ, List.getElem_cons_zero]
        go_simp
        go_at_call 76
        with_reducible refine (rmulr _ _ _ qe (f k) ?_ ?_ (by rw [← HY.out]; exact HSHY.out)).mono ?_
        exact hv6q
        exact HQP3.out.below hS.1
        rintro e w8 ⟨v7, rfl, hv7, hb8⟩
        rw [← HY.out] at hv7
        have hv7q := hv7.q HSHY.out
        clear hv7 hv6q
        have hS8 := tp7_next hb8 hS
        refine hK.out _ _ (fun _ => hS8) ?_
        clear hS K hK
        have hS := hS8
        clear hS8
        (try simp only [Act.put, List.setIfInBounds_toArray, List.set_cons_zero, List.set_cons_succ])
        refine wpAnyT_one (i := 9) rfl (by kernel_rfl) rfl (fun K hK => ?_)
        simp only [List.getElem_toArray, List.getElem_cons_succ, List.getElem_cons_zero]
        go_simp
        go_at_call 41
        with_reducible refine (raddr _ _ _ s y ?_ ?_ HSHN.out).mono ?_
        exact (FrV.below HVO3.out hS.1).q HSHS.out
        exact hv7q
        rintro e w8 ⟨v8, rfl, hv8, hb8⟩
        rw [← HSS.out] at hv8
        obtain ⟨N1, nn1, N2, nn2, rfl, _, _, _, _⟩ := FrIn.shape hv8
        have hS8 := tp7_next hb8 hS
        have hb9 := hS8.1
        have K8 := HO3.out.below hb9
        have m0 := K8.cell 0
        have m1 := K8.cell 1
        have m2 := K8.cell 2
        have mf := K8.free
        have F2 := FBox.fr K8 (boolne _) (slne _ _ _) (slne _ _ _) (.bool (decide (s'.num < 0))) (.slice N1 (dg s'.num.natAbs).length nn1) (.slice N2 (dg s'.den).length nn2)
        have hb10 := bl_trans HB3.out hb9
        have HB10 := Lib.hid (hb10.trans (F2.below hb10.size (fun y hy => by have e : y = g9 := hy; omega)))
        have HV10 := Lib.hid (F2.keep.fr hv8)
        have HO10 := Lib.hid (blk3 K8 (.bool (decide (s'.num < 0))) (.slice N1 (dg s'.num.natAbs).length nn1) (.slice N2 (dg s'.den).length nn2))
        have HK10 := Lib.hid (F2.blk (HK3.out.below hb9) hnk9)
        have HW10 := Lib.hid (F2.blk (HW3.out.below hb9) hne9)
        have HVW10 := Lib.hid (F2.keep.fr (FrV.below HV3.out hb9))
        refine hK.out _ _ (fun _ => hS8) ?_
        clear hS K hK hb8 hb9 hb10 hv8 K8 F2
        have hS := hS8
        clear hS8
        (try simp only [Act.put, List.setIfInBounds_toArray, List.set_cons_zero, List.set_cons_succ])
        refine wpAnyT_one (i := 10) rfl (by kernel_rfl) rfl (fun K hK => ?_)
        simp only [List.getElem_toArray, List.getElem_cons_succ, List.getElem_cons_zero]
        go_simp
        refine hK.out _ _ (fun h => absurd rfl h) ?_
        clear hS K hK hS0
        refine wpAnyT_done (by kernel_rfl) ?_ _
        clear m0 m1 m2 mf
        go_wp2
        exact ⟨⟨k + 1, s', N1, N2, nn1, nn2, by omega, by go_num, HNS.out, ⟨HB10.out, HK10.out, HW10.out, HVW10.out⟩, fun j hj => by
          by_cases h : j = k
          · rw [h]; exact HN.out
          · exact HPOS.out j (by omega), HO10.out, HV10.out⟩, by simp [intOf]; omega⟩
    · obtain rfl : k = P.length := by omega
      have q1 : ¬ (P.length : Int) < (P.length : Int) := by omega
      obtain ⟨bd, hbd⟩ : ∃ z, z = sumf ef P.length := ⟨_, rfl⟩
      have HBD := Lib.hid hbd
      have HSZB := Lib.hid (show Szq 229 bd by rw [hbd]; exact HSZS1.out _ (Nat.le_refl _))
      rw [← hbd] at hs
      clear hbd
      have hs0 : s = bd + sumf ((tdOf L).restq f) 0 := by rw [hs]; show bd = bd + 0; grind
      have HS0 := Lib.hid hs0
      clear hb hK hW hVW hpos hO hVO hs hs0
      go_wp2
      go_loopw [11] (fun iv wr => ∃ (i : Nat) (s : Rat) (S1 S2 : Option Addr) (s1 s2 : Nat), i ≤ L.length ∧ iv = .int .i64 (i : Int) ∧ s = bd + sumf ((tdOf L).restq f) i ∧ (Below w.heap.size w wr ∧ Blk wr w.heap.size 24 #[.int .i64 days, .int .i64 each, .slice A L.length c] ∧ Blk wr w1.heap.size 38 #[.bool (decide (qw.num < 0)), .slice W1 (dg qw.num.natAbs).length ww1, .slice W2 (dg qw.den).length ww2] ∧ FrV wr (.agg #[.bool (decide (qw.num < 0)), .slice W1 (dg qw.num.natAbs).length ww1, .slice W2 (dg qw.den).length ww2]) qw) ∧ Blk wr g9 38 #[.bool (decide (s.num < 0)), .slice S1 (dg s.num.natAbs).length s1, .slice S2 (dg s.den).length s2] ∧ FrV wr (.agg #[.bool (decide (s.num < 0)), .slice S1 (dg s.num.natAbs).length s1, .slice S2 (dg s.den).length s2]) s) (fun iv _ => L.length - (intOf iv).toNat)
      case atStart => exact ⟨0, s, S1, S2, s1, s2, by omega, rfl, HS0.out, ⟨HB.out, HK.out, HW.out, HVW.out⟩, HO.out, HVO.out⟩
      case round =>
        obtain ⟨i, s, S1, S2, s1, s2, hi, rfl, hs, ⟨hb, hK, hW, hVW⟩, hO, hVO⟩ := hrel
        have HBr := Lib.hid hb
        have HKr := Lib.hid hK
        have HWr := Lib.hid hW
        have HVr := Lib.hid hVW
        have HOr := Lib.hid hO
        have HVo := Lib.hid hVO
        have HSr := Lib.hid hs
        have hq16 : ∀ i, i < (tdOf L).n → Szq 16 ((tdOf L).q i) := fun i hi => fqd_szq16 (by omega) HFL.out HWD.out (List.getElem?_eq_getElem (l := L) (i := i) hi)
        have hgd : ∀ i, i < (tdOf L).n → 1 ≤ (tdOf L).come i ∧ (tdOf L).come i ≤ (tdOf L).go i := fun i hi => by
          obtain ⟨x, hx⟩ : ∃ x, L[i]? = some x := ⟨_, List.getElem?_eq_getElem hi⟩
          have := HGOOD.out i x hx
          rw [(tdOf_at hx).1, (tdOf_at hx).2.1]
          omega
        have hszs : ∀ i, i ≤ L.length → Szq 650 (bd + sumf ((tdOf L).restq f) i) := fun i hi => (bnd_szq hq16 HSF.out hgd HSZB.out i hi).mono (by have : 34 * i ≤ 34 * 12 := Nat.mul_le_mul_left 34 (by omega); omega)
        have HSZ := Lib.hid hszs
        have k2 := hK.cell 2
        by_cases hx : i < L.length
        case neg =>
          obtain rfl : i = L.length := by omega
          have q1 : ¬ (L.length : Int) < (L.length : Int) := by omega
          have m0 := hW.cell 0
          have m1 := hW.cell 1
          have m2 := hW.cell 2
          have n0 := hO.cell 0
          have n1 := hO.cell 1
          have n2 := hO.cell 2
          have HQ1 := Lib.hid (hVW.q (HSZW.out.short (by omega)))
          have HQ2 := Lib.hid (hVO.q (by rw [hs]; exact (hszs _ (Nat.le_refl _)).short (by omega)))
          have hb1 : s = (tdOf L).bnd each.toNat days.toNat (prq P) := by
            rw [hs, HBD.out, HEF.out, sumf_mul, HQE.out]
            unfold Td.bnd
            rw [← HFF.out, show days.toNat = P.length by have := HLEN.out; omega]
            have : ((each.toNat : Nat) : Rat) = (each : Rat) := by
              have h : ((each.toNat : Nat) : Int) = each := by omega
              rw [← Rat.intCast_natCast, h]
            rw [this]
            rfl
          have HIFF := Lib.hid (show (decide (s = qw) = true ↔ ProvB days each L l P) from by
            rw [decide_eq_true_eq]
            constructor
            · intro h
              refine ⟨HPB.out.symm, HLEN.out, fun j hj => by rw [← HFF.out]; exact HPOS.out j hj, ?_⟩
              rw [← HW0.out, ← hb1]
              exact h.symm
            · intro h
              have h4 := h.2.2.2
              rw [← HW0.out, ← hb1] at h4
              exact h4.symm)
          clear hb hK hW hVW hO hVO hs hb1 hq16 hgd hszs
          go_wp2_with fail
          refine (same_q _ _ _ s qw HQ2.out HQ1.out).mono ?_
          rintro e w9 ⟨rfl, hb9⟩
          have HB9 := Lib.hid (bl_trans HBr.out hb9)
          clear hb9 m0 m1 m2 n0 n1 n2 k2
          go_wp2
          go_ret
          exact HPOST.out _ _ HB9.out HIFF.out
        obtain ⟨x, hx1⟩ : ∃ x, L[i]? = some x := ⟨_, List.getElem?_eq_getElem hx⟩
        obtain ⟨ad, A1, a1, A2, a2, rfl, e0, e1, e2, e3, e4, hfx⟩ := (HV.out.below hb).at hx1
        have hgood := HGOOD.out i x hx1
        obtain ⟨a, ha⟩ : ∃ a : Nat, x.1 = (a : Int) + 1 := ⟨x.1.toNat - 1, by omega⟩
        obtain ⟨b, hbE⟩ : ∃ b : Nat, x.2.1 = (b : Int) := ⟨x.2.1.toNat, by omega⟩
        have hab : a < b := by omega
        have hbP : b ≤ P.length := by omega
        rw [ha] at e0
        rw [hbE] at e1
        have few := HFL.out x (List.mem_of_getElem? hx1)
        have q1 : (i : Int) < (L.length : Int) := by omega
        obtain ⟨qx, hqx⟩ : ∃ q, q = fqd x.2.2 := ⟨_, rfl⟩
        obtain ⟨y, hy⟩ : ∃ y, y = rmx (prq P) (fqd x.2.2) a (b - a) := ⟨_, rfl⟩
        have hyr : y = (tdOf L).restq f i := by
          rw [hy, rmx_lmin _ _ _ _ (by omega), ← HFF.out]
          unfold Td.restq
          rw [(tdOf_at hx1).1, (tdOf_at hx1).2.1, (tdOf_at hx1).2.2, ha, hbE, show ((a : Int) + 1).toNat - 1 = a by omega, show (b : Int).toNat + 1 - ((a : Int) + 1).toNat = b - a by omega]
        obtain ⟨s', hs'⟩ : ∃ z, z = s + y := ⟨_, rfl⟩
        have hN : s' = bd + sumf ((tdOf L).restq f) (i + 1) := by
          show s' = bd + (sumf ((tdOf L).restq f) i + (tdOf L).restq f i)
          rw [hs', hs, hyr]; grind
        have HY := Lib.hid hy
        have HSS := Lib.hid hs'
        have HN := Lib.hid hN
        have hszx : Szq 16 (fqd x.2.2) := by have h := hq16 i hx; rw [(tdOf_at hx1).2.2] at h; exact h
        have HSHY := Lib.hid (show Short y by rw [hy]; exact (rmx_szq (by omega) hszx (fun j => by rw [← HFF.out]; exact HSF.out j) (b - a)).short (by omega))
        have HSHS := Lib.hid (show Short s by rw [hs]; exact (hszs i hi).short (by omega))
        have HSHN := Lib.hid (show Short (s + y) by rw [← hs', hN]; exact (hszs (i + 1) hx).short (by omega))
        have HFX := Lib.hid hfx
        have HXL := Lib.hid hx
        have hs14 : (fun (w' : World) => Below wr.heap.size wr w' ∧ w'.cell? ⟨g9, 0, none⟩ = some (.bool (decide (s.num < 0))) ∧ w'.cell? ⟨g9, 1, none⟩ = some (.slice S1 (dg s.num.natAbs).length s1) ∧ w'.cell? ⟨g9, 2, none⟩ = some (.slice S2 (dg s.den).length s2) ∧ w'.cell? ⟨w.heap.size, 2, none⟩ = some (.slice (some ad) L.length c) ∧ w'.cell? (ad.add (i * 5)) = some (.int .i64 ((a : Int) + 1)) ∧ w'.cell? ⟨(ad.add (i * 5)).block, (ad.add (i * 5)).off + 1, none⟩ = some (.int .i64 (b : Int)) ∧ w'.cell? ⟨(ad.add (i * 5)).block, (ad.add (i * 5)).off + 2, none⟩ = some (.bool x.2.2.1) ∧ w'.cell? ⟨(ad.add (i * 5)).block, (ad.add (i * 5)).off + 3, none⟩ = some (.slice A1 x.2.2.2.1.length a1) ∧ w'.cell? ⟨(ad.add (i * 5)).block, (ad.add (i * 5)).off + 4, none⟩ = some (.slice A2 x.2.2.2.2.length a2)) wr.drew := tp9_next (bl_drew wr) ⟨Below.refl _ _, hO.cell 0, hO.cell 1, hO.cell 2, k2, e0, e1, e2, e3, e4⟩
        have HS14 := Lib.hid hs14
        clear hb hK hW hVW hO hVO hs hx1 hgood ha hbE hqx hy hyr hs' hN hszx hfx hs14 e0 e1 e2 e3 e4 hq16 hgd hszs
        go_upto_region 14 with fail
        clear k2
        have hS0 := HS14.out
        refine wp_region_T (fun (w' : World) => Below wr.heap.size wr w' ∧ w'.cell? ⟨g9, 0, none⟩ = some (.bool (decide (s.num < 0))) ∧ w'.cell? ⟨g9, 1, none⟩ = some (.slice S1 (dg s.num.natAbs).length s1) ∧ w'.cell? ⟨g9, 2, none⟩ = some (.slice S2 (dg s.den).length s2) ∧ w'.cell? ⟨w.heap.size, 2, none⟩ = some (.slice (some ad) L.length c) ∧ w'.cell? (ad.add (i * 5)) = some (.int .i64 ((a : Int) + 1)) ∧ w'.cell? ⟨(ad.add (i * 5)).block, (ad.add (i * 5)).off + 1, none⟩ = some (.int .i64 (b : Int)) ∧ w'.cell? ⟨(ad.add (i * 5)).block, (ad.add (i * 5)).off + 2, none⟩ = some (.bool x.2.2.1) ∧ w'.cell? ⟨(ad.add (i * 5)).block, (ad.add (i * 5)).off + 3, none⟩ = some (.slice A1 x.2.2.2.1.length a1) ∧ w'.cell? ⟨(ad.add (i * 5)).block, (ad.add (i * 5)).off + 4, none⟩ = some (.slice A2 x.2.2.2.2.length a2)) 9 (by kernel_rfl) ?_
        have hS : (fun (w' : World) => Below wr.heap.size wr w' ∧ w'.cell? ⟨g9, 0, none⟩ = some (.bool (decide (s.num < 0))) ∧ w'.cell? ⟨g9, 1, none⟩ = some (.slice S1 (dg s.num.natAbs).length s1) ∧ w'.cell? ⟨g9, 2, none⟩ = some (.slice S2 (dg s.den).length s2) ∧ w'.cell? ⟨w.heap.size, 2, none⟩ = some (.slice (some ad) L.length c) ∧ w'.cell? (ad.add (i * 5)) = some (.int .i64 ((a : Int) + 1)) ∧ w'.cell? ⟨(ad.add (i * 5)).block, (ad.add (i * 5)).off + 1, none⟩ = some (.int .i64 (b : Int)) ∧ w'.cell? ⟨(ad.add (i * 5)).block, (ad.add (i * 5)).off + 2, none⟩ = some (.bool x.2.2.1) ∧ w'.cell? ⟨(ad.add (i * 5)).block, (ad.add (i * 5)).off + 3, none⟩ = some (.slice A1 x.2.2.2.1.length a1) ∧ w'.cell? ⟨(ad.add (i * 5)).block, (ad.add (i * 5)).off + 4, none⟩ = some (.slice A2 x.2.2.2.2.length a2)) _ := hS0
        simp only [List.size_toArray, List.length_cons, List.length_nil, Nat.reduceAdd]
        refine wpAnyT_take 0 (some 57) (v := ?vr2_0) rfl rfl (by kernel_rfl) (by kernel_rfl) (by kernel_rfl) (by kernel_rfl) (fun _ _ _ h => h) rfl ?hyr2_0 hS ?restr2_0
        case hyr2_0 => (intro w hSw; (try dsimp only at hSw); go_simp; (try with_reducible rfl))
        (try simp only [Act.put, List.setIfInBounds_toArray, List.set_cons_zero, List.set_cons_succ])
        refine wpAnyT_take 1 (some 58) (v := ?vr2_1) rfl rfl (by kernel_rfl) (by kernel_rfl) (by kernel_rfl) (by kernel_rfl) (fun _ _ _ h => h) rfl ?hyr2_1 hS ?restr2_1
        case hyr2_1 => (intro w hSw; (try dsimp only at hSw); go_simp; (try with_reducible rfl))
        (try simp only [Act.put, List.setIfInBounds_toArray, List.set_cons_zero, List.set_cons_succ])
        refine wpAnyT_take 2 (some 59) (v := ?vr2_2) rfl rfl (by kernel_rfl) (by kernel_rfl) (by kernel_rfl) (by kernel_rfl) (fun _ _ _ h => h) rfl ?hyr2_2 hS ?restr2_2
        case hyr2_2 => (intro w hSw; (try dsimp only at hSw); go_simp; (try with_reducible rfl))
        (try simp only [Act.put, List.setIfInBounds_toArray, List.set_cons_zero, List.set_cons_succ])
        refine wpAnyT_take 3 (some 60) (v := ?vr2_3) rfl rfl (by kernel_rfl) (by kernel_rfl) (by kernel_rfl) (by kernel_rfl) (fun _ _ _ h => h) rfl ?hyr2_3 hS ?restr2_3
        case hyr2_3 => (intro w hSw; (try dsimp only at hSw); go_simp; (try with_reducible rfl))
        (try simp only [Act.put, List.setIfInBounds_toArray, List.set_cons_zero, List.set_cons_succ])
        refine wpAnyT_take 4 (some 61) (v := ?vr2_4) rfl rfl (by kernel_rfl) (by kernel_rfl) (by kernel_rfl) (by kernel_rfl) (fun _ _ _ h => h) rfl ?hyr2_4 hS ?restr2_4
        case hyr2_4 => (intro w hSw; (try dsimp only at hSw); go_simp; (try with_reducible rfl))
        (try simp only [Act.put, List.setIfInBounds_toArray, List.set_cons_zero, List.set_cons_succ])
        refine wpAnyT_take 5 (some 62) (v := ?vr2_5) rfl rfl (by kernel_rfl) (by kernel_rfl) (by kernel_rfl) (by kernel_rfl) (fun _ _ _ h => h) rfl ?hyr2_5 hS ?restr2_5
        case hyr2_5 => (intro w hSw; (try dsimp only at hSw); go_simp; (try with_reducible rfl))
        (try simp only [Act.put, List.setIfInBounds_toArray, List.set_cons_zero, List.set_cons_succ])
        refine wpAnyT_take 6 (some 63) (v := ?vr2_6) rfl rfl (by kernel_rfl) (by kernel_rfl) (by kernel_rfl) (by kernel_rfl) (fun _ _ _ h => h) rfl ?hyr2_6 hS ?restr2_6
        case hyr2_6 => (intro w hSw; (try dsimp only at hSw); go_simp; (try with_reducible rfl))
        (try simp only [Act.put, List.setIfInBounds_toArray, List.set_cons_zero, List.set_cons_succ])
        refine wpAnyT_one (i := 7) rfl (by kernel_rfl) rfl (fun K hK => ?_)
        simp only [List.getElem_toArray, List.getElem_cons_succ, List.getElem_cons_zero]
        go_simp
        go_at_call 77
        with_reducible refine (rrest_calls _ a b x.2.2 A1 A2 a1 a2 ?_ few.1 few.2 _ P ?_ HF.out hab hbP (by omega)).mono ?_
        exact HFX.out.below hS.1
        exact HP.out.below (bl_trans HBr.out hS.1)
        rintro e w8 ⟨v7, rfl, hv7, hb8⟩
        rw [← HY.out] at hv7
        have hv7q := hv7.q HSHY.out
        clear hv7
        have hS8 := tp9_next hb8 hS
        refine hK.out _ _ (fun _ => hS8) ?_
        clear hS K hK
        have hS := hS8
        clear hS8
        (try simp only [Act.put, List.setIfInBounds_toArray, List.set_cons_zero, List.set_cons_succ])
        refine wpAnyT_one (i := 8) rfl (by kernel_rfl) rfl (fun K hK => ?_)
        simp only [List.getElem_toArray, List.getElem_cons_succ, List.getElem_cons_zero]
        go_simp
        go_at_call 41
        with_reducible refine (raddr _ _ _ s y ?_ ?_ HSHN.out).mono ?_
        exact (FrV.below HVo.out hS.1).q HSHS.out
        exact hv7q
        rintro e w8 ⟨v8, rfl, hv8, hb8⟩
        rw [← HSS.out] at hv8
        obtain ⟨N1, nn1, N2, nn2, rfl, _, _, _, _⟩ := FrIn.shape hv8
        have hS8 := tp9_next hb8 hS
        have hb9 := hS8.1
        have K8 := HOr.out.below hb9
        have m0 := K8.cell 0
        have m1 := K8.cell 1
        have m2 := K8.cell 2
        have mf := K8.free
        have F2 := FBox.fr K8 (boolne _) (slne _ _ _) (slne _ _ _) (.bool (decide (s'.num < 0))) (.slice N1 (dg s'.num.natAbs).length nn1) (.slice N2 (dg s'.den).length nn2)
        have hb10 := bl_trans HBr.out hb9
        have HB10 := Lib.hid (hb10.trans (F2.below hb10.size (fun y hy => by have e : y = g9 := hy; omega)))
        have HV10 := Lib.hid (F2.keep.fr hv8)
        have HO10 := Lib.hid (blk3 K8 (.bool (decide (s'.num < 0))) (.slice N1 (dg s'.num.natAbs).length nn1) (.slice N2 (dg s'.den).length nn2))
        have HK10 := Lib.hid (F2.blk (HKr.out.below hb9) hnk9)
        have HW10 := Lib.hid (F2.blk (HWr.out.below hb9) hne9)
        have HVW10 := Lib.hid (F2.keep.fr (FrV.below HVr.out hb9))
        refine hK.out _ _ (fun _ => hS8) ?_
        clear hS K hK hb8 hb9 hb10 hv8 K8 F2
        have hS := hS8
        clear hS8
        (try simp only [Act.put, List.setIfInBounds_toArray, List.set_cons_zero, List.set_cons_succ])
        refine wpAnyT_one (i := 9) rfl (by kernel_rfl) rfl (fun K hK => ?_)
        simp only [List.getElem_toArray, List.getElem_cons_succ, List.getElem_cons_zero]
        go_simp
        refine hK.out _ _ (fun h => absurd rfl h) ?_
        clear hS K hK hS0
        refine wpAnyT_done (by kernel_rfl) ?_ _
        clear m0 m1 m2 mf
        go_wp2
        exact ⟨⟨i + 1, s', N1, N2, nn1, nn2, by have := HXL.out; omega, by go_num, HN.out, ⟨HB10.out, HK10.out, HW10.out, HVW10.out⟩, HO10.out, HV10.out⟩, by have := HXL.out; simp [intOf]; omega⟩
end Go.Proofs.Ytajckdheecgceaa
