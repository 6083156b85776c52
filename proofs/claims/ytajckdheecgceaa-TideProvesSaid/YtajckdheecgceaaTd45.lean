/- Tides: the reference's rest: what is left to an agent at prices of days. -/
import Derived.Test.YtajckdheecgceaaTd44
set_option linter.unusedVariables false
set_option linter.unusedSimpArgs false
namespace Go.Proofs.Ytajckdheecgceaa
open Go.RowKit

theorem rsubr (w : World) (va vb : Value) (a b : Rat) (ha : FrQ w va a) (hb : FrQ w vb b) (hs : Short (a + -b)) : Calls Try.prog 66 #[va, vb] w (FrPost (a + -b) w) := by
  obtain ⟨n, l, d, h, h2, rfl⟩ := ha
  obtain ⟨n', l', d', h', h2', rfl⟩ := hb
  exact rsub_calls w va vb n n' l d l' d' h h' h2 h2' hs
set_option maxRecDepth 100000 in
set_option maxHeartbeats 16000000 in
theorem rrest_calls (w : World) (a b : Nat) (d : Bool × List Int × List Int) (X1 X2 : Option Addr) (x1 x2 : Nat) (hd : FrIn w (.agg #[.bool d.1, .slice X1 d.2.1.length x1, .slice X2 d.2.2.length x2]) d.1 d.2.1 d.2.2) (hd1 : d.2.1.length ≤ 16) (hd2 : d.2.2.length ≤ 16) (vp : Value) (P : List (Bool × List Int × List Int)) (hp : FL w vp P) (hf : FewD 16 P) (hab : a < b) (hbP : b ≤ P.length) (hP : P.length ≤ 4096) :
    Calls Try.prog 77 #[.agg #[.int .i64 ((a : Int) + 1), .int .i64 (b : Int), .bool d.1, .slice X1 d.2.1.length x1, .slice X2 d.2.2.length x2], vp] w (FrPost (rmx (prq P) (fqd d) a (b - a)) w) := by
  obtain ⟨C, cp, rfl⟩ := hp.shape
  have HP := Lib.hid hp
  have HD := Lib.hid hd
  have HF := Lib.hid hf
  obtain ⟨f, hff⟩ : ∃ f, f = prq P := ⟨_, rfl⟩
  have HFF := Lib.hid hff
  rw [← hff]
  have hszf : ∀ j, Szq 16 (f j) := fun j => by rw [hff]; exact prq_szq (by omega) hf hp.wd j
  obtain ⟨qx, hqx⟩ : ∃ q, q = fqd d := ⟨_, rfl⟩
  rw [← hqx]
  have HQX := Lib.hid hqx
  have hszx : Szq 16 qx := by rw [hqx]; exact szq_fix hd.wd.1 hd.wd.2 hd1 hd2 (by omega)
  have HSF := Lib.hid hszf
  have HSX := Lib.hid hszx
  obtain ⟨wa, hwa⟩ : ∃ W, W = w.alloc (.cells #[.int .i64 ((a : Int) + 1), .int .i64 (b : Int), .bool d.1, .slice X1 d.2.1.length x1, .slice X2 d.2.2.length x2] 40) := ⟨_, rfl⟩
  obtain ⟨wb, hwb⟩ : ∃ W, W = wa.alloc (.cells #[.bool false, .slice none 0 0, .slice none 0 0] 38) := ⟨_, rfl⟩
  have sa : wa.heap.size = w.heap.size + 1 := by rw [hwa]; simp
  have ba : Below w.heap.size w wa := by rw [hwa]; exact below_alloc0 _ _
  have bb : Below wa.heap.size wa wb := by rw [hwb]; exact below_alloc0 _ _
  have KA : Blk wa w.heap.size 40 #[.int .i64 ((a : Int) + 1), .int .i64 (b : Int), .bool d.1, .slice X1 d.2.1.length x1, .slice X2 d.2.2.length x2] := by rw [hwa]; exact Blk.new _ _ _
  have KB : Blk wb (w.heap.size + 1) 38 #[.bool false, .slice none 0 0, .slice none 0 0] := by rw [hwb, ← sa]; exact Blk.new _ _ _
  have HB0 := Lib.hid (bl_trans ba bb)
  have HK0 := Lib.hid (KA.below bb)
  have HE0 := Lib.hid KB
  have HWB := Lib.hid (show (w.alloc (.cells #[.int .i64 ((a : Int) + 1), .int .i64 (b : Int), .bool d.1, .slice X1 d.2.1.length x1, .slice X2 d.2.2.length x2] 40)).alloc (.cells #[.bool false, .slice none 0 0, .slice none 0 0] 38) = wb by rw [hwb, hwa])
  clear hp hd hf hff hszf hqx hszx hwa hwb sa ba bb KA KB
  go_enter Try.func77, Try.ntmps77
  go_upto_region 1 with fail
  rw [HWB.out]
  go_wp2_with fail
  refine (rint_calls _ 0 (by omega) (by omega)).mono ?_
  rintro e w1 ⟨v, rfl, hv, hb1⟩
  obtain ⟨q0, hq0⟩ : ∃ q : Rat, q = 0 := ⟨_, rfl⟩
  have hv : FrV w1 v q0 := by rw [hq0]; exact hv
  obtain ⟨O1, o1, O2, o2, rfl, _, _, _, _⟩ := FrIn.shape hv
  have HQ0 := Lib.hid hq0
  have al := below_alloc0 w1 (.cells #[.bool (decide (q0.num < 0)), .slice O1 (dg q0.num.natAbs).length o1, .slice O2 (dg q0.den).length o2] 38)
  have KO := Blk.new w1 38 #[.bool (decide (q0.num < 0)), .slice O1 (dg q0.num.natAbs).length o1, .slice O2 (dg q0.den).length o2]
  have hsz1 := (bl_trans HB0.out hb1).size
  have hlt1 := (HE0.out.below hb1).lt
  have HB1 := Lib.hid (bl_trans (bl_trans HB0.out hb1) al)
  have HK1 := Lib.hid ((HK0.out.below hb1).below al)
  have HE1 := Lib.hid ((HE0.out.below hb1).below al)
  have HO1 := Lib.hid KO
  have HV1 := Lib.hid (FrV.below hv al)
  have k0 := HK1.out.cell 0
  obtain ⟨g5, hg5⟩ : ∃ g, g = w1.heap.size := ⟨_, rfl⟩
  have HG5 := Lib.hid hg5
  have hg5w : w.heap.size + 1 < g5 := by omega
  have kk : ∀ (W : World), Blk W w.heap.size 40 #[.int .i64 ((a : Int) + 1), .int .i64 (b : Int), .bool d.1, .slice X1 d.2.1.length x1, .slice X2 d.2.2.length x2] → True := fun _ _ => trivial
  clear hq0 hv al KO hb1 hg5 hsz1 hlt1 kk
  go_wp2
  clear k0
  rw [← HG5.out]
  go_loopw [6] (fun iv wr => ∃ (k : Nat) (s : Rat) (O1 O2 : Option Addr) (o1 o2 : Nat), a ≤ k ∧ k ≤ b ∧ iv = .int .i64 ((k : Int) + 1) ∧ s = rmx f qx a (k - a) ∧ (Below w.heap.size w wr ∧ Blk wr w.heap.size 40 #[.int .i64 ((a : Int) + 1), .int .i64 (b : Int), .bool d.1, .slice X1 d.2.1.length x1, .slice X2 d.2.2.length x2] ∧ Blk wr (w.heap.size + 1) 38 #[.bool false, .slice none 0 0, .slice none 0 0]) ∧ Blk wr g5 38 #[.bool (decide (s.num < 0)), .slice O1 (dg s.num.natAbs).length o1, .slice O2 (dg s.den).length o2] ∧ FrV wr (.agg #[.bool (decide (s.num < 0)), .slice O1 (dg s.num.natAbs).length o1, .slice O2 (dg s.den).length o2]) s) (fun iv _ => b + 1 - (intOf iv).toNat)
  case atStart =>
    refine ⟨a, q0, O1, O2, o1, o2, by omega, by omega, rfl, ?_, ⟨HB1.out, HK1.out, HE1.out⟩, ?_, HV1.out⟩
    · rw [HQ0.out, Nat.sub_self]; rfl
    · rw [HG5.out]; exact HO1.out
  case round =>
    obtain ⟨k, s, S1, S2, s1, s2, hka, hkb, rfl, hs, ⟨hb, hK, hE⟩, hO, hV⟩ := hrel
    have HB := Lib.hid hb
    have HK := Lib.hid hK
    have HE := Lib.hid hE
    have HO := Lib.hid hO
    have HV := Lib.hid hV
    have HS := Lib.hid hs
    have k1 := hK.cell 1
    by_cases hx : k < b
    case neg =>
      obtain rfl : k = b := by omega
      have q3 : ¬ (k : Int) + 1 ≤ (k : Int) := by omega
      have q4 : decide ((k : Int) + 1 ≤ (k : Int)) = false := decide_eq_false q3
      have m0 := hO.cell 0
      have m1 := hO.cell 1
      have m2 := hO.cell 2
      have n0 := hE.cell 0
      have n1 := hE.cell 1
      have n2 := hE.cell 2
      have nf := hE.free
      clear hb hK hE hO hV hs
      go_wp2
      have F2 := FBox.fr HE.out (boolne _) (slne _ _ _) (slne _ _ _) (.bool (decide (s.num < 0))) (.slice S1 (dg s.num.natAbs).length s1) (.slice S2 (dg s.den).length s2)
      refine bodyPost_ret (results_cell_row rfl _ _ (w.heap.size + 1) 38 _ (0, 0) _ rfl (blk3 HE.out _ _ _) Try.underlying38 rfl (by kernel_rfl)) rfl ⟨_, rfl, ?_, HB.out.trans (F2.below HB.out.size (fun y hy => by have e : y = w.heap.size + 1 := hy; omega))⟩
      rw [← HS.out]
      exact F2.keep.fr HV.out
    obtain ⟨p, hp1⟩ : ∃ p, P[k]? = some p := ⟨_, List.getElem?_eq_getElem (by omega)⟩
    obtain ⟨pd, cp', P1, p1, P2, p2, hsl, _, _, f0, f1, f2, hfp⟩ := (HP.out.below hb).at hp1
    obtain ⟨rfl, rfl⟩ : C = some pd ∧ cp = cp' := by simpa using hsl
    have fewp := HF.out p (List.mem_of_getElem? hp1)
    have q3 : (k : Int) + 1 ≤ (b : Int) := by omega
    have q4 : decide ((k : Int) + 1 ≤ (b : Int)) = true := decide_eq_true q3
    have q5 : IntKind.i64.wrap (k : Int) = (k : Int) := IntWalk.i64_in _ (by omega)
    have q6 : (0 : Int) ≤ (k : Int) := by omega
    have q7 : (k : Int) < (P.length : Int) := by omega
    obtain ⟨qp, hqp⟩ : ∃ q, q = f k := ⟨_, rfl⟩
    have hqp2 : fqd p = qp := by rw [hqp, HFF.out, prq_at hp1]
    obtain ⟨y, hy⟩ : ∃ y, y = qx + -qp := ⟨_, rfl⟩
    have hshy : Short y := by rw [hy, hqp]; exact (szq_add HSX.out (szq_neg (HSF.out k))).short (by omega)
    have hshs : Short s := by rw [hs]; exact (rmx_szq (by omega) HSX.out HSF.out (k - a)).short (by omega)
    have HQV := Lib.hid (show FrQ wr (.agg #[.bool d.1, .slice X1 d.2.1.length x1, .slice X2 d.2.2.length x2]) qx from ⟨_, _, _, HD.out.below hb, by omega, HQX.out.symm⟩)
    have HQP := Lib.hid (show FrQ wr (.agg #[.bool p.1, .slice P1 p.2.1.length p1, .slice P2 p.2.2.length p2]) qp from ⟨_, _, _, hfp, by omega, hqp2⟩)
    have hs5 : (fun (w' : World) => Below wr.heap.size wr w' ∧ w'.cell? ⟨w.heap.size, 2, none⟩ = some (.bool d.1) ∧ w'.cell? ⟨w.heap.size, 3, none⟩ = some (.slice X1 d.2.1.length x1) ∧ w'.cell? ⟨w.heap.size, 4, none⟩ = some (.slice X2 d.2.2.length x2) ∧ w'.cell? (pd.add (k * 3)) = some (.bool p.1) ∧ w'.cell? ⟨(pd.add (k * 3)).block, (pd.add (k * 3)).off + 1, none⟩ = some (.slice P1 p.2.1.length p1) ∧ w'.cell? ⟨(pd.add (k * 3)).block, (pd.add (k * 3)).off + 2, none⟩ = some (.slice P2 p.2.2.length p2)) wr.drew := tp6_next (bl_drew wr) ⟨Below.refl _ _, hK.cell 2, hK.cell 3, hK.cell 4, f0, f1, f2⟩
    have HS5 := Lib.hid hs5
    have hnx : rmx f qx a (k + 1 - a) = if s < y then y else s := by
      rw [show k + 1 - a = (k - a) + 1 by omega]
      show (if rmx f qx a (k - a) < qx + -(f (a + (k - a))) then qx + -(f (a + (k - a))) else rmx f qx a (k - a)) = _
      rw [show a + (k - a) = k by omega, ← hqp, ← hy, ← hs]
    have HNX := Lib.hid hnx
    have HY := Lib.hid hy
    have HSHY := Lib.hid hshy
    have HSHS := Lib.hid hshs
    clear hb hK hE hO hV hs hp1 hsl f0 f1 f2 hfp fewp hqp hqp2 hy hshy hshs hs5 hnx
    go_upto_region 5 with fail
    clear k1
    go_cut [7] (fun t7 wx => ∃ g O1 o1 O2 o2, t7 = .pointer (some ⟨g, 0, none⟩) ∧ wr.heap.size ≤ g ∧ Below wr.heap.size wr wx ∧ Blk wx g 38 #[.bool (decide (y.num < 0)), .slice O1 (dg y.num.natAbs).length o1, .slice O2 (dg y.den).length o2] ∧ FrV wx (.agg #[.bool (decide (y.num < 0)), .slice O1 (dg y.num.natAbs).length o1, .slice O2 (dg y.den).length o2]) y)
    case first =>
      have hS0 := HS5.out
      refine wp_region_T (fun (w' : World) => Below wr.heap.size wr w' ∧ w'.cell? ⟨w.heap.size, 2, none⟩ = some (.bool d.1) ∧ w'.cell? ⟨w.heap.size, 3, none⟩ = some (.slice X1 d.2.1.length x1) ∧ w'.cell? ⟨w.heap.size, 4, none⟩ = some (.slice X2 d.2.2.length x2) ∧ w'.cell? (pd.add (k * 3)) = some (.bool p.1) ∧ w'.cell? ⟨(pd.add (k * 3)).block, (pd.add (k * 3)).off + 1, none⟩ = some (.slice P1 p.2.1.length p1) ∧ w'.cell? ⟨(pd.add (k * 3)).block, (pd.add (k * 3)).off + 2, none⟩ = some (.slice P2 p.2.2.length p2)) 9 (by kernel_rfl) ?_
      have hS : (fun (w' : World) => Below wr.heap.size wr w' ∧ w'.cell? ⟨w.heap.size, 2, none⟩ = some (.bool d.1) ∧ w'.cell? ⟨w.heap.size, 3, none⟩ = some (.slice X1 d.2.1.length x1) ∧ w'.cell? ⟨w.heap.size, 4, none⟩ = some (.slice X2 d.2.2.length x2) ∧ w'.cell? (pd.add (k * 3)) = some (.bool p.1) ∧ w'.cell? ⟨(pd.add (k * 3)).block, (pd.add (k * 3)).off + 1, none⟩ = some (.slice P1 p.2.1.length p1) ∧ w'.cell? ⟨(pd.add (k * 3)).block, (pd.add (k * 3)).off + 2, none⟩ = some (.slice P2 p.2.2.length p2)) _ := hS0
      simp only [List.size_toArray, List.length_cons, List.length_nil, Nat.reduceAdd]
      refine wpAnyT_take 0 (some 17) (v := ?vq1_1) rfl rfl (by kernel_rfl) (by kernel_rfl) (by kernel_rfl) (by kernel_rfl) (fun _ _ _ h => h) rfl ?hyq1_1 hS ?restq1_1
      case hyq1_1 => (intro w hSw; (try dsimp only at hSw); go_simp; (try with_reducible rfl))
      (try simp only [Act.put, List.setIfInBounds_toArray, List.set_cons_zero, List.set_cons_succ])
      refine wpAnyT_take 1 (some 18) (v := ?vq1_2) rfl rfl (by kernel_rfl) (by kernel_rfl) (by kernel_rfl) (by kernel_rfl) (fun _ _ _ h => h) rfl ?hyq1_2 hS ?restq1_2
      case hyq1_2 => (intro w hSw; (try dsimp only at hSw); go_simp; (try with_reducible rfl))
      (try simp only [Act.put, List.setIfInBounds_toArray, List.set_cons_zero, List.set_cons_succ])
      refine wpAnyT_take 2 (some 19) (v := ?vq1_3) rfl rfl (by kernel_rfl) (by kernel_rfl) (by kernel_rfl) (by kernel_rfl) (fun _ _ _ h => h) rfl ?hyq1_3 hS ?restq1_3
      case hyq1_3 => (intro w hSw; (try dsimp only at hSw); go_simp; (try with_reducible rfl))
      (try simp only [Act.put, List.setIfInBounds_toArray, List.set_cons_zero, List.set_cons_succ])
      refine wpAnyT_take 3 (some 20) (v := ?vq1_4) rfl rfl (by kernel_rfl) (by kernel_rfl) (by kernel_rfl) (by kernel_rfl) (fun _ _ _ h => h) rfl ?hyq1_4 hS ?restq1_4
      case hyq1_4 => (intro w hSw; (try dsimp only at hSw); go_simp; (try with_reducible rfl))
      (try simp only [Act.put, List.setIfInBounds_toArray, List.set_cons_zero, List.set_cons_succ])
      refine wpAnyT_take 4 (some 21) (v := ?vq1_5) rfl rfl (by kernel_rfl) (by kernel_rfl) (by kernel_rfl) (by kernel_rfl) (fun _ _ _ h => h) rfl ?hyq1_5 hS ?restq1_5
      case hyq1_5 => (intro w hSw; (try dsimp only at hSw); go_simp; (try with_reducible rfl))
      (try simp only [Act.put, List.setIfInBounds_toArray, List.set_cons_zero, List.set_cons_succ])
      refine wpAnyT_take 5 (some 22) (v := ?vq1_6) rfl rfl (by kernel_rfl) (by kernel_rfl) (by kernel_rfl) (by kernel_rfl) (fun _ _ _ h => h) rfl ?hyq1_6 hS ?restq1_6
      case hyq1_6 => (intro w hSw; (try dsimp only at hSw); go_simp; (try with_reducible rfl))
      (try simp only [Act.put, List.setIfInBounds_toArray, List.set_cons_zero, List.set_cons_succ])
      refine wpAnyT_take 6 (some 23) (v := ?vq1_7) rfl rfl (by kernel_rfl) (by kernel_rfl) (by kernel_rfl) (by kernel_rfl) (fun _ _ _ h => h) rfl ?hyq1_7 hS ?restq1_7
      case hyq1_7 => (intro w hSw; (try dsimp only at hSw); go_simp; (try with_reducible rfl))
      (try simp only [Act.put, List.setIfInBounds_toArray, List.set_cons_zero, List.set_cons_succ])
      refine wpAnyT_duo (i := 7) (j := 8) rfl rfl (by kernel_rfl) rfl rfl (fun K hK => ?_) (fun K hK => ?_)
      · simp only [List.getElem_toArray, List.getElem_cons_succ, List.getElem_cons_zero]
        go_simp
        go_at_call 66
        with_reducible refine (rsubr _ _ _ qx qp ?_ ?_ (by rw [← HY.out]; exact HSHY.out)).mono ?_
        exact HQV.out.below hS.1
        exact HQP.out.below hS.1
        rintro e w20 ⟨v20, rfl, hv20, hb20⟩
        rw [← HY.out] at hv20
        obtain ⟨O1, o1, O2, o2, rfl, _, _, _, _⟩ := FrIn.shape hv20
        have hS8 := tp6_next hb20 hS
        refine hK.out _ _ (fun _ => hS8) ?_
        clear hS K hK
        have hS := hS8
        clear hS8
        (try simp only [Act.put, List.setIfInBounds_toArray, List.set_cons_zero, List.set_cons_succ])
        refine wpAnyT_one (i := 8) rfl (by kernel_rfl) rfl (fun K hK => ?_)
        simp only [List.getElem_toArray, List.getElem_cons_succ, List.getElem_cons_zero]
        go_simp
        have al := below_alloc0 w20 (.cells #[.bool false, .slice none 0 0, .slice none 0 0] 38)
        have KO : Blk (w20.alloc (.cells #[.bool false, .slice none 0 0, .slice none 0 0] 38)) w20.heap.size 38 #[.bool false, .slice none 0 0, .slice none 0 0] := Blk.new w20 _ _
        have hge : wr.heap.size ≤ w20.heap.size := hS.1.size
        have hSC := hS
        have hSA := tp6_next al hS
        have hvb20 := FrV.below hv20 al
        refine hK.out _ _ (fun _ => hSA) ?_
        clear hS K hK
        have hS := hSA
        clear hSA
        (try simp only [Act.put, List.setIfInBounds_toArray, List.set_cons_zero, List.set_cons_succ])
        have m0 := KO.cell 0
        have m1 := KO.cell 1
        have m2 := KO.cell 2
        have mf := KO.free
        have al9 := below_alloc0 w20 (.cells #[.bool (decide (y.num < 0)), .slice O1 (dg y.num.natAbs).length o1, .slice O2 (dg y.den).length o2] 38)
        have HB9 := Lib.hid (bl_trans hSC.1 al9)
        have HV9 := Lib.hid (FrV.below hv20 al9)
        have HK9 := Lib.hid (Blk.new w20 38 #[.bool (decide (y.num < 0)), .slice O1 (dg y.num.natAbs).length o1, .slice O2 (dg y.den).length o2])
        clear al9
        clear KO
        refine wpAnyT_one (i := 9) rfl (by kernel_rfl) rfl (fun K hK => ?_)
        simp only [List.getElem_toArray, List.getElem_cons_succ, List.getElem_cons_zero]
        go_simp
        refine hK.out _ _ (fun h => absurd rfl h) ?_
        clear hS K hK
        refine wpAnyT_done (by kernel_rfl) ?_ _
        clear m0 m1 m2 mf
        go_wp2
        go_meet
        case rel => exact ⟨_, O1, o1, O2, o2, rfl, hge, HB9.out, HK9.out, HV9.out⟩
      · simp only [List.getElem_toArray, List.getElem_cons_succ, List.getElem_cons_zero]
        go_simp
        have al := below_alloc0 wr.drew (.cells #[.bool false, .slice none 0 0, .slice none 0 0] 38)
        have KO : Blk (wr.drew.alloc (.cells #[.bool false, .slice none 0 0, .slice none 0 0] 38)) wr.heap.size 38 #[.bool false, .slice none 0 0, .slice none 0 0] := Blk.new wr.drew _ _
        have hge : wr.heap.size ≤ wr.heap.size := hS.1.size
        have hSC := hS
        have hSA := tp6_next al hS
        refine hK.out _ _ (fun _ => hSA) ?_
        clear hS K hK
        have hS := hSA
        clear hSA
        (try simp only [Act.put, List.setIfInBounds_toArray, List.set_cons_zero, List.set_cons_succ])
        refine wpAnyT_one (i := 7) rfl (by kernel_rfl) rfl (fun K hK => ?_)
        simp only [List.getElem_toArray, List.getElem_cons_succ, List.getElem_cons_zero]
        go_simp
        go_at_call 66
        with_reducible refine (rsubr _ _ _ qx qp ?_ ?_ (by rw [← HY.out]; exact HSHY.out)).mono ?_
        exact HQV.out.below hS.1
        exact HQP.out.below hS.1
        rintro e w20 ⟨v20, rfl, hv20, hb20⟩
        rw [← HY.out] at hv20
        have KO := KO.below hb20
        obtain ⟨O1, o1, O2, o2, rfl, _, _, _, _⟩ := FrIn.shape hv20
        have hS8 := tp6_next hb20 hS
        refine hK.out _ _ (fun _ => hS8) ?_
        clear hS K hK
        have hS := hS8
        clear hS8
        (try simp only [Act.put, List.setIfInBounds_toArray, List.set_cons_zero, List.set_cons_succ])
        have m0 := KO.cell 0
        have m1 := KO.cell 1
        have m2 := KO.cell 2
        have mf := KO.free
        have F2 := FBox.fr KO (boolne _) (slne _ _ _) (slne _ _ _) (.bool (decide (y.num < 0))) (.slice O1 (dg y.num.natAbs).length o1) (.slice O2 (dg y.den).length o2)
        have HB9 := Lib.hid (hS.1.trans (F2.below hS.1.size (fun y hy => by have e : y = wr.heap.size := hy; omega)))
        have HV9 := Lib.hid (F2.keep.fr hv20)
        have HK9 := Lib.hid (blk3 KO (.bool (decide (y.num < 0))) (.slice O1 (dg y.num.natAbs).length o1) (.slice O2 (dg y.den).length o2))
        clear F2
        clear KO
        refine wpAnyT_one (i := 9) rfl (by kernel_rfl) rfl (fun K hK => ?_)
        simp only [List.getElem_toArray, List.getElem_cons_succ, List.getElem_cons_zero]
        go_simp
        refine hK.out _ _ (fun h => absurd rfl h) ?_
        clear hS K hK
        refine wpAnyT_done (by kernel_rfl) ?_ _
        clear m0 m1 m2 mf
        go_wp2
        go_meet
        case rel => exact ⟨_, O1, o1, O2, o2, rfl, hge, HB9.out, HK9.out, HV9.out⟩
    case rest =>
    obtain ⟨g7, O1, o1, O2, o2, rfl, hge7, hbc, hKc, hVc⟩ := hcut
    have HBc := Lib.hid (bl_trans HB.out hbc)
    have HKc := Lib.hid (HK.out.below hbc)
    have HEc := Lib.hid (HE.out.below hbc)
    have HOc := Lib.hid (HO.out.below hbc)
    have HVo := Lib.hid (FrV.below HV.out hbc)
    have H7 := Lib.hid hKc
    have HV7 := Lib.hid hVc
    have m0 := HOc.out.cell 0
    have m1 := HOc.out.cell 1
    have m2 := HOc.out.cell 2
    have n0 := hKc.cell 0
    have n1 := hKc.cell 1
    have n2 := hKc.cell 2
    obtain ⟨cq, hcq⟩ : ∃ c, c = rcmp y s := ⟨_, rfl⟩
    have HCQ := Lib.hid hcq
    clear hbc hKc hVc hcq hge7
    go_wp2_with fail
    refine (rcmpq _ _ _ y s (HV7.out.q HSHY.out) (HVo.out.q HSHS.out)).mono ?_
    rintro e w8 ⟨rfl, hb8⟩
    rw [← HCQ.out]
    have HB8 := Lib.hid (bl_trans HBc.out hb8)
    have HK8 := Lib.hid (HKc.out.below hb8)
    have HE8 := Lib.hid (HEc.out.below hb8)
    have HO8 := Lib.hid (HOc.out.below hb8)
    have HVo8 := Lib.hid (FrV.below HVo.out hb8)
    have H78 := Lib.hid (H7.out.below hb8)
    have HV78 := Lib.hid (FrV.below HV7.out hb8)
    clear hb8 m0 m1 m2 n0 n1 n2
    by_cases hlt : s < y
    · have g1 : decide (0 < cq) = true := decide_eq_true (by rw [HCQ.out]; unfold rcmp; grind)
      have HN := Lib.hid (show rmx f qx a (k + 1 - a) = y by rw [HNX.out, if_pos hlt])
      have n0 := H78.out.cell 0
      have n1 := H78.out.cell 1
      have n2 := H78.out.cell 2
      have m0 := HO8.out.cell 0
      have m1 := HO8.out.cell 1
      have m2 := HO8.out.cell 2
      have mf := HO8.out.free
      clear hlt
      have F2 := FBox.fr HO8.out (boolne _) (slne _ _ _) (slne _ _ _) (.bool (decide (y.num < 0))) (.slice O1 (dg y.num.natAbs).length o1) (.slice O2 (dg y.den).length o2)
      have HK9 := Lib.hid (F2.blk HK8.out (fun e => by have e' : w.heap.size = g5 := e; omega))
      have HE9 := Lib.hid (F2.blk HE8.out (fun e => by have e' : w.heap.size + 1 = g5 := e; omega))
      have HB9 := Lib.hid (HB8.out.trans (F2.below HB8.out.size (fun z hz => by have e : z = g5 := hz; omega)))
      have HO9 := Lib.hid (blk3 HO8.out (.bool (decide (y.num < 0))) (.slice O1 (dg y.num.natAbs).length o1) (.slice O2 (dg y.den).length o2))
      have HV9 := Lib.hid (F2.keep.fr HV78.out)
      clear F2
      go_wp2
      exact ⟨⟨k + 1, y, O1, O2, o1, o2, by omega, by omega, by go_num, HN.out.symm, ⟨HB9.out, HK9.out, HE9.out⟩, HO9.out, HV9.out⟩, by simp [intOf]; omega⟩
    · have g1 : decide (0 < cq) = false := decide_eq_false (by rw [HCQ.out]; unfold rcmp; grind)
      have HN := Lib.hid (show rmx f qx a (k + 1 - a) = s by rw [HNX.out, if_neg hlt])
      clear hlt
      go_wp2
      exact ⟨⟨k + 1, s, S1, S2, s1, s2, by omega, by omega, by go_num, HN.out.symm, ⟨HB8.out, HK8.out, HE8.out⟩, HO8.out, HVo8.out⟩, by simp [intOf]; omega⟩
end Go.Proofs.Ytajckdheecgceaa
