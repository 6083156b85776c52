/- Tides: the reference's Planned. -/
import Derived.Test.YtajckdheecgceaaTd44
set_option linter.unusedVariables false
set_option linter.unusedSimpArgs false
namespace Go.Proofs.Ytajckdheecgceaa
open Go.RowKit

theorem tp2_next {w w1 w2 : World} {a0 a1 : Addr} {x0 x1 : Value} (hb : Below w1.heap.size w1 w2) (h : Below w.heap.size w w1 ∧ w1.cell? a0 = some x0 ∧ w1.cell? a1 = some x1) : Below w.heap.size w w2 ∧ w2.cell? a0 = some x0 ∧ w2.cell? a1 = some x1 := by
  obtain ⟨h, e0, e1⟩ := h
  exact ⟨bl_trans h hb, cell_below hb e0, cell_below hb e1⟩
theorem raddr (w : World) (va vb : Value) (a b : Rat) (ha : FrQ w va a) (hb : FrQ w vb b) (hs : Short (a + b)) : Calls Try.prog 41 #[va, vb] w (FrPost (a + b) w) := by
  obtain ⟨n, l, d, h, h2, rfl⟩ := ha
  obtain ⟨n', l', d', h', h2', rfl⟩ := hb
  exact radd_calls w va vb n n' l d l' d' h h' h2 h2' hs
theorem wsum_szq {T : Td} {p : Nat → Int} (hq : ∀ i, i < T.n → Szq 16 (T.q i)) : ∀ m, m ≤ T.n → Szq (17 * m + 1) (T.wsum p m) := by
  intro m
  induction m with
  | zero => intro _; exact szq_zero _ (by omega)
  | succ m ih =>
    intro hm
    show Szq _ (if p m = 0 then T.wsum p m else T.wsum p m + T.q m)
    split
    · exact (ih (by omega)).mono (by omega)
    · exact (szq_add (ih (by omega)) (hq m (by omega))).mono (by omega)
set_option maxRecDepth 100000 in
set_option maxHeartbeats 16000000 in
theorem rplanned_calls (w : World) (days each : Int) (A : Option Addr) (c : Nat) (L : List VD) (h : VL w (.slice A L.length c) L) (hf : FewV 16 L) (va : Value) (l : List Int) (hl : IL w va l) :
    Calls Try.prog 37 #[.agg #[.int .i64 days, .int .i64 each, .slice A L.length c], va] w (PlanQ days each L l w) := by
  obtain ⟨Ap, cp, rfl⟩ := hl.shape
  have HV := Lib.hid h
  have HL := Lib.hid hl
  have hcc := h.bounds
  have hcp := hl.bounds
  have HF := Lib.hid hf
  have al := below_alloc0 w (.cells #[.int .i64 days, .int .i64 each, .slice A L.length c] 24)
  have al2 := below_alloc0 (w.alloc (.cells #[.int .i64 days, .int .i64 each, .slice A L.length c] 24)) (.cells #[.bool false, .slice none 0 0, .slice none 0 0] 38)
  have KB := (Blk.new w 24 #[.int .i64 days, .int .i64 each, .slice A L.length c]).below al2
  have KR := Blk.new (w.alloc (.cells #[.int .i64 days, .int .i64 each, .slice A L.length c] 24)) 38 #[.bool false, .slice none 0 0, .slice none 0 0]
  have e1 : (w.alloc (.cells #[.int .i64 days, .int .i64 each, .slice A L.length c] 24)).heap.size = w.heap.size + 1 := by simp
  rw [e1] at KR
  have k0 := KB.cell 0
  have k1 := KB.cell 1
  have k2 := KB.cell 2
  have HB2 := Lib.hid (bl_trans al al2)
  have HKB := Lib.hid KB
  have HKR := Lib.hid KR
  obtain ⟨r, hr⟩ : ∃ r, r = rightN days each L := ⟨_, rfl⟩
  have HR := Lib.hid hr
  clear h hl hf al al2 KB KR e1 hr
  have hbad : ∀ (w6 : World) (q : Rat) (P1 : Option Addr) (p1 : Nat) (P2 : Option Addr) (p2 : Nat), Below w.heap.size w w6 → q = 0 → FrV w6 (.agg #[.bool (decide (q.num < 0)), .slice P1 (dg q.num.natAbs).length p1, .slice P2 (dg q.den).length p2]) q → Blk w6 (w.heap.size + 1) 38 #[.bool false, .slice none 0 0, .slice none 0 0] → planB days each L l = false →
      PlanQ days each L l w (.returned (.tuple #[.agg #[.bool (decide (q.num < 0)), .slice P1 (dg q.num.natAbs).length p1, .slice P2 (dg q.den).length p2], .bool false])) (((w6.setCell ⟨w.heap.size + 1, 0, none⟩ (.bool (decide (q.num < 0)))).setCell ⟨w.heap.size + 1, 1, none⟩ (.slice P1 (dg q.num.natAbs).length p1)).setCell ⟨w.heap.size + 1, 2, none⟩ (.slice P2 (dg q.den).length p2)) := by
    intro w6 q P1 p1 P2 p2 hb hq hv hK hp
    have F2 := FBox.fr hK (boolne _) (slne _ _ _) (slne _ _ _) (.bool (decide (q.num < 0))) (.slice P1 (dg q.num.natAbs).length p1) (.slice P2 (dg q.den).length p2)
    refine ⟨hb.trans (F2.below hb.size (fun y hy => by have e : y = w.heap.size + 1 := hy; omega)), _, by rw [hp], ?_⟩
    rw [hp, if_neg (by simp), ← hq]
    exact F2.keep.fr hv
  have HBAD := Lib.hid hbad
  clear hbad
  have HWD := Lib.hid (HV.out.wd)
  go_enter Try.func37, Try.ntmps37
  go_wp2_with fail
  refine (rtright_calls _ days each A c L (HV.out.below HB2.out)).mono ?_
  rintro e w1 ⟨rfl, hb1⟩
  rw [← HR.out]
  have K1 := HKB.out.below hb1
  have k0 := K1.cell 0
  have k1 := K1.cell 1
  have k2 := K1.cell 2
  have HB1 := Lib.hid (bl_trans HB2.out hb1)
  have HK1 := Lib.hid K1
  have HR1 := Lib.hid (HKR.out.below hb1)
  clear hb1 K1
  by_cases hz : r = 0 ∧ l.length = L.length
  case neg =>
    have HP := Lib.hid (planB_no (by rw [← HR.out]; exact hz))
    by_cases h0 : r = 0
    · have g0 : ((r : Int) != 0) = false := by rw [h0]; rfl
      have g1 : ((l.length : Int) != (L.length : Int)) = true := bne_iff_ne.2 (fun e => hz ⟨h0, by omega⟩)
      clear hz h0
      go_wp2_with fail
      refine (rint_calls _ 0 (by omega) (by omega)).mono ?_
      rintro e w6 ⟨v6, rfl, hv6, hb6⟩
      obtain ⟨q, hq⟩ : ∃ q : Rat, q = 0 := ⟨_, rfl⟩
      have hv6 : FrV w6 v6 q := by rw [hq]; exact hv6
      obtain ⟨P1, p1, P2, p2, rfl, _, _, _, _⟩ := FrIn.shape hv6
      have K6 := HR1.out.below hb6
      have m0 := K6.cell 0
      have m1 := K6.cell 1
      have m2 := K6.cell 2
      have mf := K6.free
      have HE := Lib.hid (HBAD.out w6 q P1 p1 P2 p2 (bl_trans HB1.out hb6) hq hv6 K6 HP.out)
      clear hq hv6 hb6
      go_wp2
      exact bodyPost_ret (results_fe (u := 5) rfl _ _ (w.heap.size + 1) 38 _ (0, 0) _ rfl (blk3 K6 _ _ _) Try.underlying38 rfl (by kernel_rfl)) rfl HE.out
    · have g0 : ((r : Int) != 0) = true := bne_iff_ne.2 h0
      clear hz h0
      go_wp2_with fail
      refine (rint_calls _ 0 (by omega) (by omega)).mono ?_
      rintro e w6 ⟨v6, rfl, hv6, hb6⟩
      obtain ⟨q, hq⟩ : ∃ q : Rat, q = 0 := ⟨_, rfl⟩
      have hv6 : FrV w6 v6 q := by rw [hq]; exact hv6
      obtain ⟨P1, p1, P2, p2, rfl, _, _, _, _⟩ := FrIn.shape hv6
      have K6 := HR1.out.below hb6
      have m0 := K6.cell 0
      have m1 := K6.cell 1
      have m2 := K6.cell 2
      have mf := K6.free
      have HE := Lib.hid (HBAD.out w6 q P1 p1 P2 p2 (bl_trans HB1.out hb6) hq hv6 K6 HP.out)
      clear hq hv6 hb6
      go_wp2
      exact bodyPost_ret (results_fe (u := 5) rfl _ _ (w.heap.size + 1) 38 _ (0, 0) _ rfl (blk3 K6 _ _ _) Try.underlying38 rfl (by kernel_rfl)) rfl HE.out
  obtain ⟨hz0, hzl⟩ := hz
  obtain ⟨z1, z2, z3⟩ := rightN_zero (HR.out.symm.trans hz0)
  obtain ⟨D, hD⟩ : ∃ D : Nat, days = (D : Int) := ⟨days.toNat, by omega⟩
  subst hD
  have HPB := Lib.hid (planB_is (days := (D : Int)) (each := each) (L := L) (l := l) ⟨HR.out.symm.trans hz0, hzl⟩)
  have hD12 : D ≤ 12 := by omega
  have hL12 : L.length ≤ 12 := by omega
  have HZL := Lib.hid hzl
  have HZ0 := Lib.hid hz0
  have g0 : ((r : Int) != 0) = false := by rw [hz0]; rfl
  have g1 : ((l.length : Int) != (L.length : Int)) = false := by rw [hzl]; simp
  have hmk := mk_ints (D + 1) (by omega)
  have HZ3 := Lib.hid z3
  have HTN := Lib.hid (ints_new w1 (D + 1))
  have HBN := Lib.hid (below_alloc0 w1 (.cells (madeCells #[.int .i64 0] (D + 1)) 3))
  have hsz1 := HB1.out.size
  have hltr := HR1.out.lt
  have hn1 : ((D : Int) + 1) = ((D + 1 : Nat) : Int) := by omega
  have HN1 := Lib.hid hn1
  rw [← hn1] at hmk
  clear z1 z2 z3 hz0 hzl hn1
  go_wp2_with fail
  refine (rint_calls _ 0 (by omega) (by omega)).mono ?_
  rintro e w2 ⟨v2, rfl, hv2, hb2⟩
  obtain ⟨q0, hq0⟩ : ∃ q : Rat, q = 0 := ⟨_, rfl⟩
  have hv2 : FrV w2 v2 q0 := by rw [hq0]; exact hv2
  obtain ⟨O1, o1, O2, o2, rfl, _, _, _, _⟩ := FrIn.shape hv2
  have HQ0 := Lib.hid hq0
  have al := below_alloc0 w2 (.cells #[.bool (decide (q0.num < 0)), .slice O1 (dg q0.num.natAbs).length o1, .slice O2 (dg q0.den).length o2] 38)
  have HB3 := Lib.hid (Below.trans (HBN.out) ((Below.trans hb2 (Below.mono al hb2.size)).mono HBN.out.size))
  have HT3 := Lib.hid (((HTN.out.fr (Fr.of_below (S := fun _ => False) hb2) (fun h => h))).fr (Fr.of_below (S := fun _ => False) al) (fun h => h))
  have HO3 := Lib.hid (Blk.new w2 38 #[.bool (decide (q0.num < 0)), .slice O1 (dg q0.num.natAbs).length o1, .slice O2 (dg q0.den).length o2])
  have HV3 := Lib.hid (FrV.below hv2 al)
  have hsz2 := hb2.size
  have hszn : (w1.alloc (.cells (madeCells #[.int .i64 0] (D + 1)) 3)).heap.size = w1.heap.size + 1 := by simp
  obtain ⟨g7, hg7⟩ : ∃ g, g = w2.heap.size := ⟨_, rfl⟩
  have HG7 := Lib.hid hg7
  have hg71 : w1.heap.size < g7 := by omega
  clear hq0 hv2 hb2 al hsz2 hszn hg7 HTN HBN
  go_wp2
  rw [← HG7.out]
  go_loopw [8] (fun iv wy => ∃ (m : Nat) (s : Rat) (O1 O2 : Option Addr) (o1 o2 : Nat), m ≤ L.length ∧ iv = .int .i64 (m : Int) ∧ (tdOf L).okp each (pday l) m = true ∧ s = (tdOf L).wsum (pday l) m ∧ Tb wy w1.heap.size 3 (D + 1) (D + 1) (fun j => .int .i64 (if j = 0 then 0 else ((cntD (pday l) (j : Int) m : Nat) : Int))) ∧ Below w1.heap.size w1 wy ∧ Blk wy g7 38 #[.bool (decide (s.num < 0)), .slice O1 (dg s.num.natAbs).length o1, .slice O2 (dg s.den).length o2] ∧ FrV wy (.agg #[.bool (decide (s.num < 0)), .slice O1 (dg s.num.natAbs).length o1, .slice O2 (dg s.den).length o2]) s)
    (fun iv _ => L.length - (intOf iv).toNat)
  case atStart => exact ⟨0, q0, O1, O2, o1, o2, by omega, rfl, rfl, by rw [HQ0.out]; rfl, HT3.out.congr (fun j _ => by simp [cntD]), HB3.out, by rw [HG7.out]; exact HO3.out, HV3.out⟩
  case round =>
    clear k0 k1 k2 hmk HT3 HB3 HO3 HV3
    obtain ⟨m, s, S1, S2, s1, s2, hm, rfl, hok, hs, hT, hb, hO, hVO⟩ := hrel
    have HO := Lib.hid hO
    have HVO := Lib.hid hVO
    have HT := Lib.hid hT
    have HB := Lib.hid hb
    have HOK := Lib.hid hok
    have HS := Lib.hid hs
    have HBw := Lib.hid (bl_trans HB1.out hb)
    have HRr := Lib.hid (HR1.out.below hb)
    have HKb := Lib.hid (HK1.out.below hb)
    have hq16 : ∀ i, i < (tdOf L).n → Szq 16 ((tdOf L).q i) := fun i hi => fqd_szq16 (by omega) HF.out HWD.out (List.getElem?_eq_getElem (l := L) (i := i) hi)
    have hszs : ∀ m, m ≤ L.length → Szq 300 ((tdOf L).wsum (pday l) m) := fun m hm => (wsum_szq hq16 m hm).mono (by omega)
    have HSZ := Lib.hid hszs
    by_cases hx : m < L.length
    case neg =>
      obtain rfl : m = L.length := by omega
      have q1 : ¬ (L.length : Int) < (l.length : Int) := by have := HZL.out; omega
      have HP := Lib.hid (HPB.out.trans HOK.out : planB (D : Int) each L l = true)
      have n0 := hO.cell 0
      have n1 := hO.cell 1
      have n2 := hO.cell 2
      have K6 := HRr.out
      have m0 := K6.cell 0
      have m1 := K6.cell 1
      have m2 := K6.cell 2
      have mf := K6.free
      have F2 := FBox.fr K6 (boolne _) (slne _ _ _) (slne _ _ _) (.bool (decide (s.num < 0))) (.slice S1 (dg s.num.natAbs).length s1) (.slice S2 (dg s.den).length s2)
      have HV6 := Lib.hid (F2.keep.fr hVO)
      have HBB := Lib.hid (HBw.out.trans (F2.below HBw.out.size (fun y hy => by have e : y = w.heap.size + 1 := hy; omega)))
      clear hT hb hok hs hO hVO hq16 hszs F2
      go_wp2
      refine bodyPost_ret (results_fe (u := 5) rfl _ _ (w.heap.size + 1) 38 _ (0, 0) _ rfl (blk3 K6 _ _ _) Try.underlying38 rfl (by kernel_rfl)) rfl ?_
      refine ⟨HBB.out, .agg #[.bool (decide (s.num < 0)), .slice S1 (dg s.num.natAbs).length s1, .slice S2 (dg s.den).length s2], ?_, ?_⟩
      · rw [HP.out]; rfl
      · rw [HP.out, if_pos rfl, ← HS.out]
        exact HV6.out
    obtain ⟨x, hx1⟩ : ∃ x, L[m]? = some x := ⟨_, List.getElem?_eq_getElem hx⟩
    have hxl : m < l.length := by rw [HZL.out]; exact hx
    obtain ⟨y, hy1⟩ : ∃ y, l[m]? = some y := ⟨_, List.getElem?_eq_getElem hxl⟩
    have q1 : (m : Int) < (l.length : Int) := by omega
    have q2 : (m : Int) < (L.length : Int) := by omega
    obtain ⟨adp, rfl, Y0⟩ := HL.out.at hy1
    obtain ⟨ad, A1, a1, A2, a2, rfl, E0, E1, E2, E3, E4, hfx⟩ := HV.out.at hx1
    have HYW := Lib.hid Y0
    have HE2 := Lib.hid E2
    have HE3 := Lib.hid E3
    have HE4 := Lib.hid E4
    have HFW := Lib.hid hfx
    have y0 := cell_below HBw.out Y0
    have e0 := cell_below HBw.out E0
    have e1 := cell_below HBw.out E1
    have e2 := cell_below HBw.out E2
    have e3 := cell_below HBw.out E3
    have e4 := cell_below HBw.out E4
    have few := HF.out x (List.mem_of_getElem? hx1)
    have HTC := Lib.hid (tdOf_at hx1).1
    have HTG := Lib.hid (tdOf_at hx1).2.1
    have HTQ := Lib.hid (tdOf_at hx1).2.2
    have HY := Lib.hid (pday_at hy1 : pday l m = y)
    have HGD := Lib.hid (bad_no (HZ3.out m x hx1))
    have HY0 := Lib.hid y0
    have b2 := HKb.out.cell 2
    have hs9 : (fun (w' : World) => Below wr.heap.size wr w' ∧ w'.cell? (adp.add m) = some (.int .i64 y) ∧ w'.cell? ⟨w.heap.size, 2, none⟩ = some (.slice (some ad) L.length c) ∧ w'.cell? (ad.add (m * 5)) = some (.int .i64 x.1) ∧ w'.cell? ⟨(ad.add (m * 5)).block, (ad.add (m * 5)).off + 1, none⟩ = some (.int .i64 x.2.1) ∧ w'.cell? ⟨(ad.add (m * 5)).block, (ad.add (m * 5)).off + 2, none⟩ = some (.bool x.2.2.1) ∧ w'.cell? ⟨(ad.add (m * 5)).block, (ad.add (m * 5)).off + 3, none⟩ = some (.slice A1 x.2.2.2.1.length a1) ∧ w'.cell? ⟨(ad.add (m * 5)).block, (ad.add (m * 5)).off + 4, none⟩ = some (.slice A2 x.2.2.2.2.length a2)) wr.drew := tp7_next (bl_drew wr) ⟨Below.refl _ _, y0, b2, e0, e1, e2, e3, e4⟩
    have HS9 := Lib.hid hs9
    clear hT hb hok hs hO hVO hx1 hy1 hfx hs9 b2 e0 e1 e2 e3 e4 Y0 E0 E1 E2 E3 E4 hq16 hszs
    by_cases hy0 : y = 0
    · have g2 : ((y : Int) == 0) = true := by rw [hy0]; rfl
      have HN := Lib.hid (show (tdOf L).wsum (pday l) (m + 1) = (tdOf L).wsum (pday l) m from if_pos (HY.out.trans hy0))
      have HC := Lib.hid (fun j (h : j ≠ 0) => (show cntD (pday l) ((j : Nat) : Int) (m + 1) = cntD (pday l) (j : Int) m by
        show _ + (if pday l m = (j : Int) then 1 else 0) = _
        rw [HY.out, hy0, if_neg (by omega), Nat.add_zero]))
      have HK := Lib.hid (okp_yes HOK.out (HY.out.trans hy0))
      clear hy0
      go_wp2
      exact ⟨⟨m + 1, s, S1, S2, s1, s2, by omega, by go_num, HK.out, by rw [HN.out]; exact HS.out, HT.out.congr (fun j _ => by
        by_cases h : j = 0
        · rw [if_pos h, if_pos h]
        · rw [if_neg h, if_neg h, HC.out j h]), HB.out, HO.out, HVO.out⟩, by simp [intOf]; omega⟩
    have g2 : ((y : Int) == 0) = false := beq_eq_false_iff_ne.2 hy0
    obtain ⟨bb, hbb⟩ : ∃ b : Bool, b = decide (¬ (x.1 ≤ y ∧ y ≤ x.2.1)) := ⟨_, rfl⟩
    have HBB := Lib.hid hbb
    have HYN := Lib.hid hy0
    clear hbb hy0
    go_upto_region 9 with fail
    clear y0 g2
    go_cut [54] (fun t54 wx => t54 = .bool bb ∧ Below wr.heap.size wr wx)
    case first =>
      have hS0 := HS9.out
      have hbb := HBB.out
      by_cases h1 : y < 0
      · have g3 : decide (y < 0) = true := decide_eq_true h1
        obtain rfl : bb = true := by rw [hbb]; exact decide_eq_true (fun h => by have := HGD.out; omega)
        clear h1 hbb
        go_wp2_with fail
        have hS := hS0
        refine wp_region_held_drew (S := fun (w' : World) => Below wr.heap.size wr w' ∧ w'.cell? (adp.add m) = some (.int .i64 y) ∧ w'.cell? ⟨w.heap.size, 2, none⟩ = some (.slice (some ad) L.length c) ∧ w'.cell? (ad.add (m * 5)) = some (.int .i64 x.1) ∧ w'.cell? ⟨(ad.add (m * 5)).block, (ad.add (m * 5)).off + 1, none⟩ = some (.int .i64 x.2.1) ∧ w'.cell? ⟨(ad.add (m * 5)).block, (ad.add (m * 5)).off + 2, none⟩ = some (.bool x.2.2.1) ∧ w'.cell? ⟨(ad.add (m * 5)).block, (ad.add (m * 5)).off + 3, none⟩ = some (.slice A1 x.2.2.2.1.length a1) ∧ w'.cell? ⟨(ad.add (m * 5)).block, (ad.add (m * 5)).off + 4, none⟩ = some (.slice A2 x.2.2.2.2.length a2)) (by kernel_rfl) hS (fun _ => ?_)
        simp only [List.size_toArray, List.length_cons, List.length_nil, Nat.reduceAdd]
        refine wpAnyH_takeD 0 (some 37) (v := ?vh1_0) rfl rfl (by kernel_rfl) (by kernel_rfl) (by kernel_rfl) (fun _ _ _ h => h) (.inl ⟨by kernel_rfl, ?hyh1_0⟩) hS ?resth1_0
        case hyh1_0 => (intro w hSw; (try dsimp only at hSw); go_simp; (try with_reducible rfl))
        (try simp only [Act.put, List.setIfInBounds_toArray, List.set_cons_zero, List.set_cons_succ])
        refine wpAnyH_takeD 1 (some 38) (v := ?vh1_1) rfl rfl (by kernel_rfl) (by kernel_rfl) (by kernel_rfl) (fun _ _ _ h => h) (.inl ⟨by kernel_rfl, ?hyh1_1⟩) hS ?resth1_1
        case hyh1_1 => (intro w hSw; (try dsimp only at hSw); go_simp; (try with_reducible rfl))
        (try simp only [Act.put, List.setIfInBounds_toArray, List.set_cons_zero, List.set_cons_succ])
        refine wpAnyH_takeD 2 (some 39) (v := ?vh1_2) rfl rfl (by kernel_rfl) (by kernel_rfl) (by kernel_rfl) (fun _ _ _ h => h) (.inl ⟨by kernel_rfl, ?hyh1_2⟩) hS ?resth1_2
        case hyh1_2 => (intro w hSw; (try dsimp only at hSw); go_simp; (try with_reducible rfl))
        (try simp only [Act.put, List.setIfInBounds_toArray, List.set_cons_zero, List.set_cons_succ])
        refine wpAnyH_takeD 3 (some 40) (v := ?vh1_3) rfl rfl (by kernel_rfl) (by kernel_rfl) (by kernel_rfl) (fun _ _ _ h => h) (.inl ⟨by kernel_rfl, ?hyh1_3⟩) hS ?resth1_3
        case hyh1_3 => (intro w hSw; (try dsimp only at hSw); go_simp; (try with_reducible rfl))
        (try simp only [Act.put, List.setIfInBounds_toArray, List.set_cons_zero, List.set_cons_succ])
        refine wpAnyH_takeD 4 (some 41) (v := ?vh1_4) rfl rfl (by kernel_rfl) (by kernel_rfl) (by kernel_rfl) (fun _ _ _ h => h) (.inl ⟨by kernel_rfl, ?hyh1_4⟩) hS ?resth1_4
        case hyh1_4 => (intro w hSw; (try dsimp only at hSw); go_simp; (try with_reducible rfl))
        (try simp only [Act.put, List.setIfInBounds_toArray, List.set_cons_zero, List.set_cons_succ])
        refine wpAnyH_takeD 5 (some 42) (v := ?vh1_5) rfl rfl (by kernel_rfl) (by kernel_rfl) (by kernel_rfl) (fun _ _ _ h => h) (.inl ⟨by kernel_rfl, ?hyh1_5⟩) hS ?resth1_5
        case hyh1_5 => (intro w hSw; (try dsimp only at hSw); go_simp; (try with_reducible rfl))
        (try simp only [Act.put, List.setIfInBounds_toArray, List.set_cons_zero, List.set_cons_succ])
        refine wpAnyH_takeD 6 (some 43) (v := undef) rfl rfl (by kernel_rfl) (by kernel_rfl) (by kernel_rfl) (fun _ _ _ h => h) (.inr ⟨by kernel_rfl, rfl⟩) hS ?_
        (try simp only [Act.put, List.setIfInBounds_toArray, List.set_cons_zero, List.set_cons_succ])
        refine wpAnyH_takeD 7 (some 44) (v := undef) rfl rfl (by kernel_rfl) (by kernel_rfl) (by kernel_rfl) (fun _ _ _ h => h) (.inr ⟨by kernel_rfl, rfl⟩) hS ?_
        (try simp only [Act.put, List.setIfInBounds_toArray, List.set_cons_zero, List.set_cons_succ])
        refine wpAnyH_takeD 8 (some 45) (v := undef) rfl rfl (by kernel_rfl) (by kernel_rfl) (by kernel_rfl) (fun _ _ _ h => h) (.inr ⟨by kernel_rfl, rfl⟩) hS ?_
        (try simp only [Act.put, List.setIfInBounds_toArray, List.set_cons_zero, List.set_cons_succ])
        refine wpAnyH_takeD 9 (some 46) (v := undef) rfl rfl (by kernel_rfl) (by kernel_rfl) (by kernel_rfl) (fun _ _ _ h => h) (.inr ⟨by kernel_rfl, rfl⟩) hS ?_
        (try simp only [Act.put, List.setIfInBounds_toArray, List.set_cons_zero, List.set_cons_succ])
        refine wpAnyH_takeD 10 (some 47) (v := undef) rfl rfl (by kernel_rfl) (by kernel_rfl) (by kernel_rfl) (fun _ _ _ h => h) (.inr ⟨by kernel_rfl, rfl⟩) hS ?_
        (try simp only [Act.put, List.setIfInBounds_toArray, List.set_cons_zero, List.set_cons_succ])
        refine wpAnyH_takeD 11 (some 48) (v := undef) rfl rfl (by kernel_rfl) (by kernel_rfl) (by kernel_rfl) (fun _ _ _ h => h) (.inr ⟨by kernel_rfl, rfl⟩) hS ?_
        (try simp only [Act.put, List.setIfInBounds_toArray, List.set_cons_zero, List.set_cons_succ])
        refine wpAnyH_takeD 12 (some 49) (v := undef) rfl rfl (by kernel_rfl) (by kernel_rfl) (by kernel_rfl) (fun _ _ _ h => h) (.inr ⟨by kernel_rfl, rfl⟩) hS ?_
        (try simp only [Act.put, List.setIfInBounds_toArray, List.set_cons_zero, List.set_cons_succ])
        refine wpAnyH_takeD 13 (some 50) (v := undef) rfl rfl (by kernel_rfl) (by kernel_rfl) (by kernel_rfl) (fun _ _ _ h => h) (.inr ⟨by kernel_rfl, rfl⟩) hS ?_
        (try simp only [Act.put, List.setIfInBounds_toArray, List.set_cons_zero, List.set_cons_succ])
        refine wpAnyH_takeD 14 (some 51) (v := undef) rfl rfl (by kernel_rfl) (by kernel_rfl) (by kernel_rfl) (fun _ _ _ h => h) (.inr ⟨by kernel_rfl, rfl⟩) hS ?_
        (try simp only [Act.put, List.setIfInBounds_toArray, List.set_cons_zero, List.set_cons_succ])
        refine wpAnyH_ready (rs := [15]) (by kernel_rfl) (by simp) ?_
        refine AllReadyH.cons (o := { dst := some 52, op := Op.call { callee := Callee.value (Operand.func 68), args := #[Operand.tmp 47, Operand.tmp 51], argTypes := #[40, 3] }, type := 4, pos := "ref.go:170", after := #[{ on := 10, ground := Ground.data }, { on := 14, ground := Ground.data }, { on := 5, ground := Ground.chain }, { on := 5, ground := Ground.guard }], guard := some (5, false) }) ?hoh1_15 ?hth1_15 ?hnh1_15
        case hoh1_15 => rfl
        case hnh1_15 => exact AllReadyH.nil
        intro K hK
        refine iteN (by kernel_rfl) ?_
        refine hK.out _ _ hS (fun _ => ?_)
        clear hK K
        (try simp only [Act.put, List.setIfInBounds_toArray, List.set_cons_zero, List.set_cons_succ])
        refine wpAnyH_takeD 16 (some 53) (v := undef) rfl rfl (by kernel_rfl) (by kernel_rfl) (by kernel_rfl) (fun _ _ _ h => h) (.inr ⟨by kernel_rfl, rfl⟩) hS ?_
        (try simp only [Act.put, List.setIfInBounds_toArray, List.set_cons_zero, List.set_cons_succ])
        refine wpAnyH_takeD 17 (some 54) (v := ?vh1_17) rfl rfl (by kernel_rfl) (by kernel_rfl) (by kernel_rfl) (fun _ _ _ h => h) (.inl ⟨by kernel_rfl, ?hyh1_17⟩) hS ?resth1_17
        case hyh1_17 => (intro w hSw; (try dsimp only at hSw); go_simp; (try with_reducible rfl))
        (try simp only [Act.put, List.setIfInBounds_toArray, List.set_cons_zero, List.set_cons_succ])
        refine wpAnyH_done (by kernel_rfl) ?_ _
        go_wp2
        go_meet
        case rel => exact ⟨rfl, hS.1⟩
      · have g3 : decide (y < 0) = false := decide_eq_false h1
        obtain ⟨tb, htb⟩ : ∃ b : Bool, b = decide (x.1 ≤ y ∧ y ≤ x.2.1) := ⟨_, rfl⟩
        have HTB := Lib.hid htb
        have hbt : bb = !tb := by rw [hbb, htb]; exact decide_not
        subst hbt
        clear h1 hbb htb
        go_wp2_with fail
        have hS := hS0
        refine wp_region_held_drew (S := fun (w' : World) => Below wr.heap.size wr w' ∧ w'.cell? (adp.add m) = some (.int .i64 y) ∧ w'.cell? ⟨w.heap.size, 2, none⟩ = some (.slice (some ad) L.length c) ∧ w'.cell? (ad.add (m * 5)) = some (.int .i64 x.1) ∧ w'.cell? ⟨(ad.add (m * 5)).block, (ad.add (m * 5)).off + 1, none⟩ = some (.int .i64 x.2.1) ∧ w'.cell? ⟨(ad.add (m * 5)).block, (ad.add (m * 5)).off + 2, none⟩ = some (.bool x.2.2.1) ∧ w'.cell? ⟨(ad.add (m * 5)).block, (ad.add (m * 5)).off + 3, none⟩ = some (.slice A1 x.2.2.2.1.length a1) ∧ w'.cell? ⟨(ad.add (m * 5)).block, (ad.add (m * 5)).off + 4, none⟩ = some (.slice A2 x.2.2.2.2.length a2)) (by kernel_rfl) hS (fun _ => ?_)
        simp only [List.size_toArray, List.length_cons, List.length_nil, Nat.reduceAdd]
        refine wpAnyH_takeD 0 (some 37) (v := ?vh2_0) rfl rfl (by kernel_rfl) (by kernel_rfl) (by kernel_rfl) (fun _ _ _ h => h) (.inl ⟨by kernel_rfl, ?hyh2_0⟩) hS ?resth2_0
        case hyh2_0 => (intro w hSw; (try dsimp only at hSw); go_simp; (try with_reducible rfl))
        (try simp only [Act.put, List.setIfInBounds_toArray, List.set_cons_zero, List.set_cons_succ])
        refine wpAnyH_takeD 1 (some 38) (v := ?vh2_1) rfl rfl (by kernel_rfl) (by kernel_rfl) (by kernel_rfl) (fun _ _ _ h => h) (.inl ⟨by kernel_rfl, ?hyh2_1⟩) hS ?resth2_1
        case hyh2_1 => (intro w hSw; (try dsimp only at hSw); go_simp; (try with_reducible rfl))
        (try simp only [Act.put, List.setIfInBounds_toArray, List.set_cons_zero, List.set_cons_succ])
        refine wpAnyH_takeD 2 (some 39) (v := ?vh2_2) rfl rfl (by kernel_rfl) (by kernel_rfl) (by kernel_rfl) (fun _ _ _ h => h) (.inl ⟨by kernel_rfl, ?hyh2_2⟩) hS ?resth2_2
        case hyh2_2 => (intro w hSw; (try dsimp only at hSw); go_simp; (try with_reducible rfl))
        (try simp only [Act.put, List.setIfInBounds_toArray, List.set_cons_zero, List.set_cons_succ])
        refine wpAnyH_takeD 3 (some 40) (v := ?vh2_3) rfl rfl (by kernel_rfl) (by kernel_rfl) (by kernel_rfl) (fun _ _ _ h => h) (.inl ⟨by kernel_rfl, ?hyh2_3⟩) hS ?resth2_3
        case hyh2_3 => (intro w hSw; (try dsimp only at hSw); go_simp; (try with_reducible rfl))
        (try simp only [Act.put, List.setIfInBounds_toArray, List.set_cons_zero, List.set_cons_succ])
        refine wpAnyH_takeD 4 (some 41) (v := ?vh2_4) rfl rfl (by kernel_rfl) (by kernel_rfl) (by kernel_rfl) (fun _ _ _ h => h) (.inl ⟨by kernel_rfl, ?hyh2_4⟩) hS ?resth2_4
        case hyh2_4 => (intro w hSw; (try dsimp only at hSw); go_simp; (try with_reducible rfl))
        (try simp only [Act.put, List.setIfInBounds_toArray, List.set_cons_zero, List.set_cons_succ])
        refine wpAnyH_takeD 5 (some 42) (v := ?vh2_5) rfl rfl (by kernel_rfl) (by kernel_rfl) (by kernel_rfl) (fun _ _ _ h => h) (.inl ⟨by kernel_rfl, ?hyh2_5⟩) hS ?resth2_5
        case hyh2_5 => (intro w hSw; (try dsimp only at hSw); go_simp; (try with_reducible rfl))
        (try simp only [Act.put, List.setIfInBounds_toArray, List.set_cons_zero, List.set_cons_succ])
        refine wpAnyH_takeD 6 (some 43) (v := ?vh2_6) rfl rfl (by kernel_rfl) (by kernel_rfl) (by kernel_rfl) (fun _ _ _ h => h) (.inl ⟨by kernel_rfl, ?hyh2_6⟩) hS ?resth2_6
        case hyh2_6 => (intro w hSw; (try dsimp only at hSw); go_simp; (try with_reducible rfl))
        (try simp only [Act.put, List.setIfInBounds_toArray, List.set_cons_zero, List.set_cons_succ])
        refine wpAnyH_takeD 7 (some 44) (v := ?vh2_7) rfl rfl (by kernel_rfl) (by kernel_rfl) (by kernel_rfl) (fun _ _ _ h => h) (.inl ⟨by kernel_rfl, ?hyh2_7⟩) hS ?resth2_7
        case hyh2_7 => (intro w hSw; (try dsimp only at hSw); go_simp; (try with_reducible rfl))
        (try simp only [Act.put, List.setIfInBounds_toArray, List.set_cons_zero, List.set_cons_succ])
        refine wpAnyH_takeD 8 (some 45) (v := ?vh2_8) rfl rfl (by kernel_rfl) (by kernel_rfl) (by kernel_rfl) (fun _ _ _ h => h) (.inl ⟨by kernel_rfl, ?hyh2_8⟩) hS ?resth2_8
        case hyh2_8 => (intro w hSw; (try dsimp only at hSw); go_simp; (try with_reducible rfl))
        (try simp only [Act.put, List.setIfInBounds_toArray, List.set_cons_zero, List.set_cons_succ])
        refine wpAnyH_takeD 9 (some 46) (v := ?vh2_9) rfl rfl (by kernel_rfl) (by kernel_rfl) (by kernel_rfl) (fun _ _ _ h => h) (.inl ⟨by kernel_rfl, ?hyh2_9⟩) hS ?resth2_9
        case hyh2_9 => (intro w hSw; (try dsimp only at hSw); go_simp; (try with_reducible rfl))
        (try simp only [Act.put, List.setIfInBounds_toArray, List.set_cons_zero, List.set_cons_succ])
        refine wpAnyH_takeD 10 (some 47) (v := ?vh2_10) rfl rfl (by kernel_rfl) (by kernel_rfl) (by kernel_rfl) (fun _ _ _ h => h) (.inl ⟨by kernel_rfl, ?hyh2_10⟩) hS ?resth2_10
        case hyh2_10 => (intro w hSw; (try dsimp only at hSw); go_simp; (try with_reducible rfl))
        (try simp only [Act.put, List.setIfInBounds_toArray, List.set_cons_zero, List.set_cons_succ])
        refine wpAnyH_takeD 11 (some 48) (v := ?vh2_11) rfl rfl (by kernel_rfl) (by kernel_rfl) (by kernel_rfl) (fun _ _ _ h => h) (.inl ⟨by kernel_rfl, ?hyh2_11⟩) hS ?resth2_11
        case hyh2_11 => (intro w hSw; (try dsimp only at hSw); go_simp; (try with_reducible rfl))
        (try simp only [Act.put, List.setIfInBounds_toArray, List.set_cons_zero, List.set_cons_succ])
        refine wpAnyH_takeD 12 (some 49) (v := ?vh2_12) rfl rfl (by kernel_rfl) (by kernel_rfl) (by kernel_rfl) (fun _ _ _ h => h) (.inl ⟨by kernel_rfl, ?hyh2_12⟩) hS ?resth2_12
        case hyh2_12 => (intro w hSw; (try dsimp only at hSw); go_simp; (try with_reducible rfl))
        (try simp only [Act.put, List.setIfInBounds_toArray, List.set_cons_zero, List.set_cons_succ])
        refine wpAnyH_takeD 13 (some 50) (v := ?vh2_13) rfl rfl (by kernel_rfl) (by kernel_rfl) (by kernel_rfl) (fun _ _ _ h => h) (.inl ⟨by kernel_rfl, ?hyh2_13⟩) hS ?resth2_13
        case hyh2_13 => (intro w hSw; (try dsimp only at hSw); go_simp; (try with_reducible rfl))
        (try simp only [Act.put, List.setIfInBounds_toArray, List.set_cons_zero, List.set_cons_succ])
        refine wpAnyH_takeD 14 (some 51) (v := ?vh2_14) rfl rfl (by kernel_rfl) (by kernel_rfl) (by kernel_rfl) (fun _ _ _ h => h) (.inl ⟨by kernel_rfl, ?hyh2_14⟩) hS ?resth2_14
        case hyh2_14 => (intro w hSw; (try dsimp only at hSw); go_simp; (try with_reducible rfl))
        (try simp only [Act.put, List.setIfInBounds_toArray, List.set_cons_zero, List.set_cons_succ])
        refine wpAnyH_ready (rs := [15]) (by kernel_rfl) (by simp) ?_
        refine AllReadyH.cons (o := { dst := some 52, op := Op.call { callee := Callee.value (Operand.func 68), args := #[Operand.tmp 47, Operand.tmp 51], argTypes := #[40, 3] }, type := 4, pos := "ref.go:170", after := #[{ on := 10, ground := Ground.data }, { on := 14, ground := Ground.data }, { on := 5, ground := Ground.chain }, { on := 5, ground := Ground.guard }], guard := some (5, false) }) ?hoh2_15 ?hth2_15 ?hnh2_15
        case hoh2_15 => rfl
        case hnh2_15 => exact AllReadyH.nil
        intro K hK
        refine iteP (by kernel_rfl) ?_
        go_simp
        go_at_call 68
        with_reducible refine (there_calls _ _ _ _ _ _ _ _ _ _ _).mono ?_
        rintro e w8 ⟨rfl, hb8⟩
        rw [← HTB.out]
        have hS8 := tp7_next hb8 hS
        refine hK.out _ _ hS8 (fun _ => ?_)
        clear hS K hK
        have hS := hS8
        clear hS8
        (try simp only [Act.put, List.setIfInBounds_toArray, List.set_cons_zero, List.set_cons_succ])
        refine wpAnyH_takeD 16 (some 53) (v := ?vh2_16) rfl rfl (by kernel_rfl) (by kernel_rfl) (by kernel_rfl) (fun _ _ _ h => h) (.inl ⟨by kernel_rfl, ?hyh2_16⟩) hS ?resth2_16
        case hyh2_16 => (intro w hSw; (try dsimp only at hSw); go_simp; (try with_reducible rfl))
        (try simp only [Act.put, List.setIfInBounds_toArray, List.set_cons_zero, List.set_cons_succ])
        refine wpAnyH_takeD 17 (some 54) (v := ?vh2_17) rfl rfl (by kernel_rfl) (by kernel_rfl) (by kernel_rfl) (fun _ _ _ h => h) (.inl ⟨by kernel_rfl, ?hyh2_17⟩) hS ?resth2_17
        case hyh2_17 => (intro w hSw; (try dsimp only at hSw); go_simp; (try with_reducible rfl))
        (try simp only [Act.put, List.setIfInBounds_toArray, List.set_cons_zero, List.set_cons_succ])
        refine wpAnyH_done (by kernel_rfl) ?_ _
        go_wp2
        go_meet
        case rel => exact ⟨rfl, hS.1⟩
    case rest =>
    obtain ⟨rfl, hbc⟩ := hcut
    have HBc := Lib.hid (HB.out.trans (hbc.mono HB.out.size))
    have HBwc := Lib.hid (bl_trans HBw.out hbc)
    have HRc := Lib.hid (HRr.out.below hbc)
    have HKc := Lib.hid (HKb.out.below hbc)
    have HTc := Lib.hid (HT.out.fr (Fr.of_below (S := fun _ => False) hbc) (fun h => h))
    have HOc := Lib.hid (HO.out.below hbc)
    have HVc := Lib.hid (FrV.below HVO.out hbc)
    have y1 := cell_below hbc HY0.out
    clear hbc
    clear HS9
    cases bb
    case true =>
      have HP := Lib.hid (HPB.out.trans (Td.okp_false (okp_out (p := pday l) (by rw [HY.out]; exact HYN.out) (by rw [HY.out, HTC.out, HTG.out]; exact fun h => of_decide_eq_true HBB.out.symm ⟨h.1, h.2.1⟩)) _ hx) : planB (D : Int) each L l = false)
      go_wp2_with fail
      refine (rint_calls _ 0 (by omega) (by omega)).mono ?_
      rintro e w6 ⟨v6, rfl, hv6, hb6⟩
      obtain ⟨q, hq⟩ : ∃ q : Rat, q = 0 := ⟨_, rfl⟩
      have hv6 : FrV w6 v6 q := by rw [hq]; exact hv6
      obtain ⟨P1, p1, P2, p2, rfl, _, _, _, _⟩ := FrIn.shape hv6
      have K6 := HRc.out.below hb6
      have m0 := K6.cell 0
      have m1 := K6.cell 1
      have m2 := K6.cell 2
      have mf := K6.free
      have HE := Lib.hid (HBAD.out w6 q P1 p1 P2 p2 (bl_trans HBwc.out hb6) hq hv6 K6 HP.out)
      clear hq hv6 hb6
      go_wp2
      exact bodyPost_ret (results_fe (u := 5) rfl _ _ (w.heap.size + 1) 38 _ (0, 0) _ rfl (blk3 K6 _ _ _) Try.underlying38 rfl (by kernel_rfl)) rfl HE.out
    have hin := Decidable.not_not.1 (of_decide_eq_false HBB.out.symm)
    obtain ⟨e, rfl⟩ : ∃ e : Nat, y = (e : Int) := ⟨y.toNat, by have := HGD.out; omega⟩
    have he : e < D + 1 := by have := HGD.out; omega
    have he0 : e ≠ 0 := by have := HGD.out; omega
    have q3 : (0 : Int) ≤ (e : Int) := by omega
    have q4 : (e : Int) < (D : Int) + 1 := by omega
    have q5 : (e : Int) < ((D + 1 : Nat) : Int) := by omega
    obtain ⟨ct, hct⟩ : ∃ ct, ct = cntD (pday l) (e : Int) m := ⟨_, rfl⟩
    have t0 := HTc.out.cell he
    rw [if_neg he0, ← hct] at t0
    have hctm : ct ≤ m := by rw [hct]; exact cnt_le (T := tdOf L) m
    have HTd := Lib.hid (HTc.out.fr (Fr.of_below (S := fun _ => False) (bl_drew wc)) (fun h => h))
    have ff := HTd.out.free
    have hst := HTd.out.set he (intne ((ct : Int) + 1))
    have HST := Lib.hid hst
    have hc1 : cntD (pday l) (e : Int) (m + 1) = ct + 1 := by
      show _ + (if pday l m = (e : Int) then 1 else 0) = _
      rw [if_pos HY.out, hct]
    have HC1 := Lib.hid hc1
    have HCO := Lib.hid (fun j (h : j ≠ e) => (show cntD (pday l) ((j : Nat) : Int) (m + 1) = cntD (pday l) (j : Int) m by
      show _ + (if pday l m = (j : Int) then 1 else 0) = _
      rw [HY.out, if_neg (by omega), Nat.add_zero]))
    have HE00 := Lib.hid he0
    have hS0 : (fun (w' : World) => Below wc.heap.size wc w' ∧ w'.cell? (adp.add m) = some (.int .i64 (e : Int)) ∧ w'.cell? ⟨w1.heap.size, e, none⟩ = some (.int .i64 (ct : Int))) wc.drew := tp2_next (bl_drew wc) ⟨Below.refl _ _, y1, t0⟩
    have hwrap : IntKind.i64.wrap ((ct : Int) + 1) = (ct : Int) + 1 := IntWalk.i64_in _ (by omega)
    clear hst hct hc1 he0 t0 y1
    go_upto_region 11 with fail
    refine wp_region_T (fun (w' : World) => Below wc.heap.size wc w' ∧ w'.cell? (adp.add m) = some (.int .i64 (e : Int)) ∧ w'.cell? ⟨w1.heap.size, e, none⟩ = some (.int .i64 (ct : Int))) 14 (by kernel_rfl) ?_
    have hS : (fun (w' : World) => Below wc.heap.size wc w' ∧ w'.cell? (adp.add m) = some (.int .i64 (e : Int)) ∧ w'.cell? ⟨w1.heap.size, e, none⟩ = some (.int .i64 (ct : Int))) _ := hS0
    simp only [List.size_toArray, List.length_cons, List.length_nil, Nat.reduceAdd]
    refine wpAnyT_take 0 (some 56) (v := ?vr1_0) rfl rfl (by kernel_rfl) (by kernel_rfl) (by kernel_rfl) (by kernel_rfl) (fun _ _ _ h => h) rfl ?hyr1_0 hS ?restr1_0
    case hyr1_0 => (intro w hSw; (try dsimp only at hSw); go_simp; (try with_reducible rfl))
    (try simp only [Act.put, List.setIfInBounds_toArray, List.set_cons_zero, List.set_cons_succ])
    refine wpAnyT_take 1 (some 57) (v := ?vr1_1) rfl rfl (by kernel_rfl) (by kernel_rfl) (by kernel_rfl) (by kernel_rfl) (fun _ _ _ h => h) rfl ?hyr1_1 hS ?restr1_1
    case hyr1_1 => (intro w hSw; (try dsimp only at hSw); go_simp; (try with_reducible rfl))
    (try simp only [Act.put, List.setIfInBounds_toArray, List.set_cons_zero, List.set_cons_succ])
    refine wpAnyT_take 2 (some 58) (v := ?vr1_2) rfl rfl (by kernel_rfl) (by kernel_rfl) (by kernel_rfl) (by kernel_rfl) (fun _ _ _ h => h) rfl ?hyr1_2 hS ?restr1_2
    case hyr1_2 => (intro w hSw; (try dsimp only at hSw); go_simp; (try with_reducible rfl))
    (try simp only [Act.put, List.setIfInBounds_toArray, List.set_cons_zero, List.set_cons_succ])
    refine wpAnyT_take 3 (some 59) (v := ?vr1_3) rfl rfl (by kernel_rfl) (by kernel_rfl) (by kernel_rfl) (by kernel_rfl) (fun _ _ _ h => h) rfl ?hyr1_3 hS ?restr1_3
    case hyr1_3 => (intro w hSw; (try dsimp only at hSw); go_simp; (try with_reducible rfl))
    (try simp only [Act.put, List.setIfInBounds_toArray, List.set_cons_zero, List.set_cons_succ])
    refine wpAnyT_take 4 (some 60) (v := ?vr1_4) rfl rfl (by kernel_rfl) (by kernel_rfl) (by kernel_rfl) (by kernel_rfl) (fun _ _ _ h => h) rfl ?hyr1_4 hS ?restr1_4
    case hyr1_4 => (intro w hSw; (try dsimp only at hSw); go_simp; (try with_reducible rfl))
    (try simp only [Act.put, List.setIfInBounds_toArray, List.set_cons_zero, List.set_cons_succ])
    refine wpAnyT_take 5 (some 61) (v := ?vr1_5) rfl rfl (by kernel_rfl) (by kernel_rfl) (by kernel_rfl) (by kernel_rfl) (fun _ _ _ h => h) rfl ?hyr1_5 hS ?restr1_5
    case hyr1_5 => (intro w hSw; (try dsimp only at hSw); go_simp; (try with_reducible rfl))
    (try simp only [Act.put, List.setIfInBounds_toArray, List.set_cons_zero, List.set_cons_succ])
    refine wpAnyT_take 6 (some 62) (v := ?vr1_6) rfl rfl (by kernel_rfl) (by kernel_rfl) (by kernel_rfl) (by kernel_rfl) (fun _ _ _ h => h) rfl ?hyr1_6 hS ?restr1_6
    case hyr1_6 => (intro w hSw; (try dsimp only at hSw); go_simp; (try with_reducible rfl))
    (try simp only [Act.put, List.setIfInBounds_toArray, List.set_cons_zero, List.set_cons_succ])
    refine wpAnyT_take 7 (some 63) (v := ?vr1_7) rfl rfl (by kernel_rfl) (by kernel_rfl) (by kernel_rfl) (by kernel_rfl) (fun _ _ _ h => h) rfl ?hyr1_7 hS ?restr1_7
    case hyr1_7 => (intro w hSw; (try dsimp only at hSw); go_simp; (try with_reducible rfl))
    (try simp only [Act.put, List.setIfInBounds_toArray, List.set_cons_zero, List.set_cons_succ])
    refine wpAnyT_take 8 (some 64) (v := ?vr1_8) rfl rfl (by kernel_rfl) (by kernel_rfl) (by kernel_rfl) (by kernel_rfl) (fun _ _ _ h => h) rfl ?hyr1_8 hS ?restr1_8
    case hyr1_8 => (intro w hSw; (try dsimp only at hSw); go_simp; (try with_reducible rfl))
    (try simp only [Act.put, List.setIfInBounds_toArray, List.set_cons_zero, List.set_cons_succ])
    refine wpAnyT_take 9 (some 65) (v := ?vr1_9) rfl rfl (by kernel_rfl) (by kernel_rfl) (by kernel_rfl) (by kernel_rfl) (fun _ _ _ h => h) rfl ?hyr1_9 hS ?restr1_9
    case hyr1_9 => (intro w hSw; (try dsimp only at hSw); go_simp; (try with_reducible rfl))
    (try simp only [Act.put, List.setIfInBounds_toArray, List.set_cons_zero, List.set_cons_succ])
    refine wpAnyT_take 10 (some 66) (v := ?vr1_10) rfl rfl (by kernel_rfl) (by kernel_rfl) (by kernel_rfl) (by kernel_rfl) (fun _ _ _ h => h) rfl ?hyr1_10 hS ?restr1_10
    case hyr1_10 => (intro w hSw; (try dsimp only at hSw); go_simp; (try with_reducible rfl))
    (try simp only [Act.put, List.setIfInBounds_toArray, List.set_cons_zero, List.set_cons_succ])
    refine wpAnyT_take 11 (some 67) (v := ?vr1_11) rfl rfl (by kernel_rfl) (by kernel_rfl) (by kernel_rfl) (by kernel_rfl) (fun _ _ _ h => h) rfl ?hyr1_11 hS ?restr1_11
    case hyr1_11 => (intro w hSw; (try dsimp only at hSw); go_simp; (try with_reducible rfl))
    (try simp only [Act.put, List.setIfInBounds_toArray, List.set_cons_zero, List.set_cons_succ])
    refine wpAnyT_take 12 (some 68) (v := ?vr1_12) rfl rfl (by kernel_rfl) (by kernel_rfl) (by kernel_rfl) (by kernel_rfl) (fun _ _ _ h => h) rfl ?hyr1_12 hS ?restr1_12
    case hyr1_12 => (intro w hSw; (try dsimp only at hSw); go_simp; (try with_reducible rfl))
    (try simp only [Act.put, List.setIfInBounds_toArray, List.set_cons_zero, List.set_cons_succ])
    refine wpAnyT_take 13 (some 69) (v := ?vr1_13) rfl rfl (by kernel_rfl) (by kernel_rfl) (by kernel_rfl) (by kernel_rfl) (fun _ _ _ h => h) rfl ?hyr1_13 hS ?restr1_13
    case hyr1_13 => (intro w hSw; (try dsimp only at hSw); go_simp; (try with_reducible rfl))
    (try simp only [Act.put, List.setIfInBounds_toArray, List.set_cons_zero, List.set_cons_succ])
    refine wpAnyT_one (i := 14) rfl (by kernel_rfl) rfl (fun K hK => ?_)
    simp only [List.getElem_toArray, List.getElem_cons_succ, List.getElem_cons_zero]
    have t0 := hS.2.2
    go_simp
    refine hK.out _ _ (fun h => absurd rfl h) ?_
    clear hS K hK hS0 t0
    refine wpAnyT_done (by kernel_rfl) ?_ _
    obtain ⟨w5, hw5⟩ : ∃ W, W = (wc.setCell ⟨w1.heap.size, e, none⟩ (.int .i64 ((ct : Int) + 1))).drew := ⟨_, rfl⟩
    have hst5 := HST.out
    rw [show wc.drew.setCell ⟨w1.heap.size, e, none⟩ (.int .i64 ((ct : Int) + 1)) = w5 from hw5.symm] at hst5
    obtain ⟨hT5, hfr5⟩ := hst5
    rw [← hw5]
    have hbd := bl_trans HBc.out (Below.refl _ _)
    have HBd := Lib.hid (HBc.out.trans ((bl_drew wc).mono HBc.out.size))
    have HB5 := Lib.hid (HBd.out.trans (hfr5.below HBd.out.size (fun y hy => by have e : y = w1.heap.size := hy; omega)))
    have HT5 := Lib.hid hT5
    have t5 := hT5.cell he
    rw [upd_at] at t5
    have HBw5 := Lib.hid (bl_trans HB1.out HB5.out)
    have HR5 := Lib.hid (HR1.out.below HB5.out)
    have HK5 := Lib.hid (HK1.out.below HB5.out)
    have HO5 := Lib.hid (hfr5.blk (HOc.out.below (bl_drew wc)) (fun e => by have e' : g7 = w1.heap.size := e; omega))
    have HV5 := Lib.hid (hfr5.keep.fr (FrV.below HVc.out (bl_drew wc)))
    have b1 := HK5.out.cell 1
    have y2 := cell_below HBw5.out HYW.out
    obtain ⟨b3, hb3⟩ : ∃ b : Bool, b = decide (each < (ct : Int) + 1) := ⟨_, rfl⟩
    have g5 : decide (each < (ct : Int) + 1) = b3 := hb3.symm
    have HB3b := Lib.hid hb3
    clear hw5 hfr5 hT5 hbd ff hb3 hwrap
    go_upto_region 12 with fail
    go_cut [79] (fun t79 wx => t79 = .bool b3 ∧ Below w5.heap.size w5 wx)
    case first =>
      go_wp2_with fail
      go_quiet (fail)
      go_wp2
      go_meet
      case rel => exact ⟨rfl, bl_drewN _ _⟩
    case rest =>
    obtain ⟨rfl, hbz⟩ := hcut
    clear t5 b1 y2
    have HRz := Lib.hid (HR5.out.below hbz)
    have HBz := Lib.hid (HB5.out.trans (hbz.mono HB5.out.size))
    have HBwz := Lib.hid (bl_trans HB1.out HBz.out)
    have HTz := Lib.hid (HT5.out.fr (Fr.of_below (S := fun _ => False) hbz) (fun h => h))
    have HKz := Lib.hid (HK5.out.below hbz)
    have HOz := Lib.hid (HO5.out.below hbz)
    have HVz := Lib.hid (FrV.below HV5.out hbz)
    clear hbz
    cases b3
    case true =>
      have h3 := of_decide_eq_true HB3b.out.symm
      have HP := Lib.hid (HPB.out.trans (Td.okp_false (okp_out (p := pday l) (by rw [HY.out]; exact HYN.out) (by rw [HY.out, HC1.out]; omega)) _ hx) : planB (D : Int) each L l = false)
      clear h3 hin
      go_wp2_with fail
      refine (rint_calls _ 0 (by omega) (by omega)).mono ?_
      rintro e w6 ⟨v6, rfl, hv6, hb6⟩
      obtain ⟨q, hq⟩ : ∃ q : Rat, q = 0 := ⟨_, rfl⟩
      have hv6 : FrV w6 v6 q := by rw [hq]; exact hv6
      obtain ⟨P1, p1, P2, p2, rfl, _, _, _, _⟩ := FrIn.shape hv6
      have K6 := HRz.out.below hb6
      have m0 := K6.cell 0
      have m1 := K6.cell 1
      have m2 := K6.cell 2
      have mf := K6.free
      have HE := Lib.hid (HBAD.out w6 q P1 p1 P2 p2 (bl_trans HBwz.out hb6) hq hv6 K6 HP.out)
      clear hq hv6 hb6
      go_wp2
      exact bodyPost_ret (results_fe (u := 5) rfl _ _ (w.heap.size + 1) 38 _ (0, 0) _ rfl (blk3 K6 _ _ _) Try.underlying38 rfl (by kernel_rfl)) rfl HE.out
    have h3 := of_decide_eq_false HB3b.out.symm
    have HK := Lib.hid (okp_in (p := pday l) HOK.out (by rw [HY.out, HTC.out]; exact hin.1) (by rw [HY.out, HTG.out]; exact hin.2) (by rw [HY.out, HC1.out]; omega) : (tdOf L).okp each (pday l) (m + 1) = true)
    obtain ⟨qx, hqx⟩ : ∃ q, q = fqd x.2.2 := ⟨_, rfl⟩
    obtain ⟨s', hs'⟩ : ∃ z, z = s + qx := ⟨_, rfl⟩
    have hN : s' = (tdOf L).wsum (pday l) (m + 1) := by
      show _ = (if pday l m = 0 then _ else _)
      rw [if_neg (by rw [HY.out]; exact HYN.out), hs', HS.out, HTQ.out, hqx]
    have HN := Lib.hid hN
    have hsh : Short (s + qx) := by rw [← hs', hN]; exact (HSZ.out (m + 1) (by omega)).short (by omega)
    have HSH := Lib.hid hsh
    have HSS := Lib.hid hs'
    have hshs : Short s := by rw [HS.out]; exact (HSZ.out m (by omega)).short (by omega)
    have HSHS := Lib.hid hshs
    have f2 := cell_below HBwz.out HE2.out
    have f3 := cell_below HBwz.out HE3.out
    have f4 := cell_below HBwz.out HE4.out
    have hS0 : (fun (w' : World) => Below wc.heap.size wc w' ∧ w'.cell? ⟨g7, 0, none⟩ = some (.bool (decide (s.num < 0))) ∧ w'.cell? ⟨g7, 1, none⟩ = some (.slice S1 (dg s.num.natAbs).length s1) ∧ w'.cell? ⟨g7, 2, none⟩ = some (.slice S2 (dg s.den).length s2) ∧ w'.cell? ⟨w.heap.size, 2, none⟩ = some (.slice (some ad) L.length c) ∧ w'.cell? ⟨(ad.add (m * 5)).block, (ad.add (m * 5)).off + 2, none⟩ = some (.bool x.2.2.1) ∧ w'.cell? ⟨(ad.add (m * 5)).block, (ad.add (m * 5)).off + 3, none⟩ = some (.slice A1 x.2.2.2.1.length a1) ∧ w'.cell? ⟨(ad.add (m * 5)).block, (ad.add (m * 5)).off + 4, none⟩ = some (.slice A2 x.2.2.2.2.length a2)) wc.drew := tp7_next (bl_drew wc) ⟨Below.refl _ _, HOz.out.cell 0, HOz.out.cell 1, HOz.out.cell 2, HKz.out.cell 2, f2, f3, f4⟩
    have HQX := Lib.hid (show FrQ wc (.agg #[.bool x.2.2.1, .slice A1 x.2.2.2.1.length a1, .slice A2 x.2.2.2.2.length a2]) qx from ⟨_, _, _, HFW.out.below HBwz.out, by omega, hqx.symm⟩)
    have HQS := Lib.hid (HVz.out.q hshs)
    clear h3 hin hqx hs' hN hsh hshs f2 f3 f4
    go_upto_region 14 with fail
    refine wp_region_T (fun (w' : World) => Below wc.heap.size wc w' ∧ w'.cell? ⟨g7, 0, none⟩ = some (.bool (decide (s.num < 0))) ∧ w'.cell? ⟨g7, 1, none⟩ = some (.slice S1 (dg s.num.natAbs).length s1) ∧ w'.cell? ⟨g7, 2, none⟩ = some (.slice S2 (dg s.den).length s2) ∧ w'.cell? ⟨w.heap.size, 2, none⟩ = some (.slice (some ad) L.length c) ∧ w'.cell? ⟨(ad.add (m * 5)).block, (ad.add (m * 5)).off + 2, none⟩ = some (.bool x.2.2.1) ∧ w'.cell? ⟨(ad.add (m * 5)).block, (ad.add (m * 5)).off + 3, none⟩ = some (.slice A1 x.2.2.2.1.length a1) ∧ w'.cell? ⟨(ad.add (m * 5)).block, (ad.add (m * 5)).off + 4, none⟩ = some (.slice A2 x.2.2.2.2.length a2)) 8 (by kernel_rfl) ?_
    have hS : (fun (w' : World) => Below wc.heap.size wc w' ∧ w'.cell? ⟨g7, 0, none⟩ = some (.bool (decide (s.num < 0))) ∧ w'.cell? ⟨g7, 1, none⟩ = some (.slice S1 (dg s.num.natAbs).length s1) ∧ w'.cell? ⟨g7, 2, none⟩ = some (.slice S2 (dg s.den).length s2) ∧ w'.cell? ⟨w.heap.size, 2, none⟩ = some (.slice (some ad) L.length c) ∧ w'.cell? ⟨(ad.add (m * 5)).block, (ad.add (m * 5)).off + 2, none⟩ = some (.bool x.2.2.1) ∧ w'.cell? ⟨(ad.add (m * 5)).block, (ad.add (m * 5)).off + 3, none⟩ = some (.slice A1 x.2.2.2.1.length a1) ∧ w'.cell? ⟨(ad.add (m * 5)).block, (ad.add (m * 5)).off + 4, none⟩ = some (.slice A2 x.2.2.2.2.length a2)) _ := hS0
    simp only [List.size_toArray, List.length_cons, List.length_nil, Nat.reduceAdd]
    refine wpAnyT_take 0 (some 81) (v := ?vr2_0) rfl rfl (by kernel_rfl) (by kernel_rfl) (by kernel_rfl) (by kernel_rfl) (fun _ _ _ h => h) rfl ?hyr2_0 hS ?restr2_0
    case hyr2_0 => (intro w hSw; (try dsimp only at hSw); go_simp; (try with_reducible rfl))
    (try simp only [Act.put, List.setIfInBounds_toArray, List.set_cons_zero, List.set_cons_succ])
    refine wpAnyT_take 1 (some 82) (v := ?vr2_1) rfl rfl (by kernel_rfl) (by kernel_rfl) (by kernel_rfl) (by kernel_rfl) (fun _ _ _ h => h) rfl ?hyr2_1 hS ?restr2_1
    case hyr2_1 => (intro w hSw; (try dsimp only at hSw); go_simp; (try with_reducible rfl))
    (try simp only [Act.put, List.setIfInBounds_toArray, List.set_cons_zero, List.set_cons_succ])
    refine wpAnyT_take 2 (some 83) (v := ?vr2_2) rfl rfl (by kernel_rfl) (by kernel_rfl) (by kernel_rfl) (by kernel_rfl) (fun _ _ _ h => h) rfl ?hyr2_2 hS ?restr2_2
    case hyr2_2 => (intro w hSw; (try dsimp only at hSw); go_simp; (try with_reducible rfl))
    (try simp only [Act.put, List.setIfInBounds_toArray, List.set_cons_zero, List.set_cons_succ])
    refine wpAnyT_take 3 (some 84) (v := ?vr2_3) rfl rfl (by kernel_rfl) (by kernel_rfl) (by kernel_rfl) (by kernel_rfl) (fun _ _ _ h => h) rfl ?hyr2_3 hS ?restr2_3
    case hyr2_3 => (intro w hSw; (try dsimp only at hSw); go_simp; (try with_reducible rfl))
    (try simp only [Act.put, List.setIfInBounds_toArray, List.set_cons_zero, List.set_cons_succ])
    refine wpAnyT_take 4 (some 85) (v := ?vr2_4) rfl rfl (by kernel_rfl) (by kernel_rfl) (by kernel_rfl) (by kernel_rfl) (fun _ _ _ h => h) rfl ?hyr2_4 hS ?restr2_4
    case hyr2_4 => (intro w hSw; (try dsimp only at hSw); go_simp; (try with_reducible rfl))
    (try simp only [Act.put, List.setIfInBounds_toArray, List.set_cons_zero, List.set_cons_succ])
    refine wpAnyT_take 5 (some 86) (v := ?vr2_5) rfl rfl (by kernel_rfl) (by kernel_rfl) (by kernel_rfl) (by kernel_rfl) (fun _ _ _ h => h) rfl ?hyr2_5 hS ?restr2_5
    case hyr2_5 => (intro w hSw; (try dsimp only at hSw); go_simp; (try with_reducible rfl))
    (try simp only [Act.put, List.setIfInBounds_toArray, List.set_cons_zero, List.set_cons_succ])
    refine wpAnyT_take 6 (some 87) (v := ?vr2_6) rfl rfl (by kernel_rfl) (by kernel_rfl) (by kernel_rfl) (by kernel_rfl) (fun _ _ _ h => h) rfl ?hyr2_6 hS ?restr2_6
    case hyr2_6 => (intro w hSw; (try dsimp only at hSw); go_simp; (try with_reducible rfl))
    (try simp only [Act.put, List.setIfInBounds_toArray, List.set_cons_zero, List.set_cons_succ])
    refine wpAnyT_one (i := 7) rfl (by kernel_rfl) rfl (fun K hK => ?_)
    simp only [List.getElem_toArray, List.getElem_cons_succ, List.getElem_cons_zero]
    go_simp
    go_at_call 41
    with_reducible refine (raddr _ _ _ s qx ?_ ?_ HSH.out).mono ?_
    exact HQS.out.below hS.1
    exact HQX.out.below hS.1
    rintro e8 w8 ⟨v8, rfl, hv8, hb8⟩
    rw [← HSS.out] at hv8
    obtain ⟨N1, nn1, N2, nn2, rfl, _, _, _, _⟩ := FrIn.shape hv8
    have hS8 := tp7_next hb8 hS
    have hb9 := hS8.1
    have K8 := HOz.out.below hb9
    have m0 := K8.cell 0
    have m1 := K8.cell 1
    have m2 := K8.cell 2
    have mf := K8.free
    have F2 := FBox.fr K8 (boolne _) (slne _ _ _) (slne _ _ _) (.bool (decide (s'.num < 0))) (.slice N1 (dg s'.num.natAbs).length nn1) (.slice N2 (dg s'.den).length nn2)
    have hb10 := HBz.out.trans (hb9.mono HBz.out.size)
    have HB10 := Lib.hid (hb10.trans (F2.below hb10.size (fun y hy => by have e : y = g7 := hy; omega)))
    have HV10 := Lib.hid (F2.keep.fr hv8)
    have HO10 := Lib.hid (blk3 K8 (.bool (decide (s'.num < 0))) (.slice N1 (dg s'.num.natAbs).length nn1) (.slice N2 (dg s'.den).length nn2))
    have HT10 := Lib.hid ((HTz.out.fr (Fr.of_below (S := fun _ => False) hb9) (fun h => h)).fr F2 (fun e => by have e' : w1.heap.size = g7 := e; omega))
    refine hK.out _ _ (fun _ => hS8) ?_
    clear hS K hK hb8 hb9 hb10 hv8 K8 F2
    have hS := hS8
    clear hS8
    (try simp only [Act.put, List.setIfInBounds_toArray, List.set_cons_zero, List.set_cons_succ])
    refine wpAnyT_one (i := 8) rfl (by kernel_rfl) rfl (fun K hK => ?_)
    simp only [List.getElem_toArray, List.getElem_cons_succ, List.getElem_cons_zero]
    go_simp
    refine hK.out _ _ (fun h => absurd rfl h) ?_
    clear hS K hK hS0
    refine wpAnyT_done (by kernel_rfl) ?_ _
    clear m0 m1 m2 mf
    go_wp2
    exact ⟨⟨m + 1, s', N1, N2, nn1, nn2, by omega, by go_num, HK.out, HN.out, HT10.out.congr (fun j hj => by
      by_cases hje : j = e
      · rw [hje, upd_at, if_neg HE00.out, HC1.out]
        congr 1
      · rw [upd_ne hje, HCO.out j hje]), HB10.out, HO10.out, HV10.out⟩, by simp [intOf]; omega⟩
end Go.Proofs.Ytajckdheecgceaa
