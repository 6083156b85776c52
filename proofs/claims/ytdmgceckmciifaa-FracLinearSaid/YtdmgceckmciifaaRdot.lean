/- Systems of equations: the reference's Dot of longer numbers. -/
import Derived.Test.YtdmgceckmciifaaLst8
import Derived.Test.YtdmgceckmciifaaForm
import Derived.Test.YtdmgceckmciifaaTail
set_option linter.unusedVariables false
set_option linter.unusedSimpArgs false
namespace Go.Proofs.Ytdmgceckmciifaa
open Go.RowKit

set_option maxRecDepth 100000 in
set_option maxHeartbeats 4000000 in
theorem rdot_gen (w : World) (va vb : Value) (L M : List (Bool × List Int × List Int)) (ha : FL w va L) (hb : FL w vb M) (hL : L.length ≤ 64) (hM : M.length ≤ 64) (hf : FewD 2000 L) (hf2 : FewD 2000 M) (hsho : ∀ k, k ≤ min L.length M.length → Short (psum (dots L M) k)) (hshm : ∀ q ∈ dots L M, Short q) :
    Calls Try.prog 44 #[va, vb] w (FrPost (psum (dots L M) (min L.length M.length)) w) := by
  obtain ⟨n, hn⟩ : ∃ n, n = min L.length M.length := ⟨_, rfl⟩
  rw [← hn]
  have hn1 : n ≤ L.length := by omega
  have hn2 : n ≤ M.length := by omega
  rw [← hn] at hsho
  have HSHO := Lib.hid hsho
  have HSHM := Lib.hid hshm
  clear hsho hshm
  have HA := Lib.hid ha
  have HB := Lib.hid hb
  have HFW := Lib.hid hf
  have HFW2 := Lib.hid hf2
  have hcL := ha
  have hcM := hb
  obtain ⟨A, c, rfl, cl1, cl2, _⟩ := hcL
  obtain ⟨A2, c2, rfl, cm1, cm2, _⟩ := hcM
  have hbl0 := below_alloc0 w (.cells #[.bool false, .slice none 0 0, .slice none 0 0] 24)
  have K := Blk.new w 24 #[.bool false, .slice none 0 0, .slice none 0 0]
  have HN := Lib.hid hn
  clear ha hb hf hf2 hn
  go_enter Try.func44, Try.ntmps44
  go_wp2_with fail
  refine (rzero_calls _).mono ?_
  rintro e w1 ⟨v, rfl, hv0, hb1⟩
  obtain ⟨s0, hs0⟩ : ∃ s : Rat, s = psum (dots L M) 0 := ⟨_, rfl⟩
  have HS0 := Lib.hid hs0
  have hv1 : FrV w1 v s0 := by rw [hs0]; exact hv0
  obtain ⟨B1, b1, B2, b2, rfl, _, _, _, _⟩ := FrIn.shape hv1
  have al := below_alloc0 w1 (.cells #[.bool (decide (s0.num < 0)), .slice B1 (dg s0.num.natAbs).length b1, .slice B2 (dg s0.den).length b2] 24)
  have RB := Lib.hid (show FBox (w1.alloc (.cells #[.bool (decide (s0.num < 0)), .slice B1 (dg s0.num.natAbs).length b1, .slice B2 (dg s0.den).length b2] 24)) w1.heap.size s0 from ⟨_, _, _, _, Blk.new w1 _ _, FrV.below hv1 al⟩)
  have hbw := bl_trans (bl_trans hbl0 hb1) al
  have K1 := Lib.hid ((K.below hb1).below al)
  have hlt1 : w.heap.size < w1.heap.size := (K.below hb1).lt
  obtain ⟨gS, hgS⟩ : ∃ g, g = w1.heap.size := ⟨_, rfl⟩
  rw [← hgS] at RB hlt1
  clear hs0 hv0 hv1 K hbl0 hb1 al
  go_wp2
  rw [← hgS]
  clear hgS
  go_loopw [6] (fun i wr => ∃ k : Nat, k ≤ n ∧ i = .int .i64 (k : Int) ∧ FBox wr gS (psum (dots L M) k) ∧ Blk wr w.heap.size 24 #[.bool false, .slice none 0 0, .slice none 0 0] ∧ Below w.heap.size w wr)
    (fun i _ => n - (intOf i).toNat)
  case atStart => exact ⟨0, by omega, rfl, by rw [← HS0.out]; exact RB.out, K1.out, hbw⟩
  case round =>
    clear RB K1 hbw HS0
    obtain ⟨k, hk, rfl, hRB, hK, hbl⟩ := hrel
    obtain ⟨D1, d1, D2, d2, KS, hsr⟩ := hRB
    have HK := Lib.hid hK
    have HBL := Lib.hid hbl
    by_cases hx : k < n
    · obtain ⟨x, hx1⟩ : ∃ x, L[k]? = some x := ⟨_, List.getElem?_eq_getElem (by omega)⟩
      obtain ⟨y, hy1⟩ : ∃ y, M[k]? = some y := ⟨_, List.getElem?_eq_getElem (by omega)⟩
      have fewx := HFW.out x (List.mem_of_getElem? hx1)
      have fewy := HFW2.out y (List.mem_of_getElem? hy1)
      obtain ⟨ad, c', A1, a1, A2', a2, hsl, _, _, e0, e1, e2, hfr⟩ := HA.out.at hx1
      obtain ⟨rfl, rfl⟩ : A = some ad ∧ c = c' := by simpa using hsl
      obtain ⟨ad2, c2', A3, a3, A4, a4, hsl2, _, _, e3, e4, e5, hfr2⟩ := HB.out.at hy1
      obtain ⟨rfl, rfl⟩ : A2 = some ad2 ∧ c2 = c2' := by simpa using hsl2
      replace e0 := cell_below hbl e0
      replace e1 := cell_below hbl e1
      replace e2 := cell_below hbl e2
      replace e3 := cell_below hbl e3
      replace e4 := cell_below hbl e4
      replace e5 := cell_below hbl e5
      have hps := psum_succ (dots_at hx1 hy1)
      have sh1 := HSHO.out (k + 1) (by omega)
      have sh0 := HSHO.out k (by omega)
      have shm := HSHM.out _ (List.mem_of_getElem? (dots_at hx1 hy1))
      rw [hps] at sh1
      obtain ⟨p0, hp0⟩ : ∃ p, p = psum (dots L M) k := ⟨_, rfl⟩
      rw [← hp0] at KS hsr hps sh1 sh0
      have HPS := Lib.hid hps.symm
      have hqx := Lib.hid (show FrQ wr (.agg #[.bool x.1, .slice A1 x.2.1.length a1, .slice A2' x.2.2.length a2]) (fqd x) from ⟨x.1, x.2.1, x.2.2, hfr.below hbl, by omega, rfl⟩)
      have hqy := Lib.hid (show FrQ wr (.agg #[.bool y.1, .slice A3 y.2.1.length a3, .slice A4 y.2.2.length a4]) (fqd y) from ⟨y.1, y.2.1, y.2.2, hfr2.below hbl, by omega, rfl⟩)
      have hp := Lib.hid (FrV.q hsr sh0)
      have q1 : (k : Int) < (L.length : Int) := by omega
      have q2 : (k : Int) < (M.length : Int) := by omega
      have hgS2 : gS < wr.heap.size := KS.lt
      by_cases hnx : 0 < x.2.1.length
      · by_cases hny : 0 < y.2.1.length
        · have g1 : decide ((x.2.1.length : Int) > 0) = true := decide_eq_true (by omega)
          have g2 : decide ((y.2.1.length : Int) > 0) = true := decide_eq_true (by omega)
          have KD := KS.below (bl_drew wr)
          have u0 := KD.cell 0
          have u1 := KD.cell 1
          have u2 := KD.cell 2
          have e0' := cell_below (bl_drew wr) e0
          have e1' := cell_below (bl_drew wr) e1
          have e2' := cell_below (bl_drew wr) e2
          have e3' := cell_below (bl_drew wr) e3
          have e4' := cell_below (bl_drew wr) e4
          have e5' := cell_below (bl_drew wr) e5
          have HK' := Lib.hid (HK.out.below (bl_drew wr))
          have HB' := Lib.hid (bl_trans hbl (bl_drew wr))
          have hqx' := Lib.hid (FrQ.below hqx.out (bl_drew wr))
          have hqy' := Lib.hid (FrQ.below hqy.out (bl_drew wr))
          have hp' := Lib.hid (FrQ.below hp.out (bl_drew wr))
          clear hx1 hy1 hps hp0 hK hbl hsr hfr hfr2 hsl hsl2
          go_wp2_with fail
          go_region_law (first
            | (go_simp; go_at_call 33; (with_reducible refine (rmulq _ _ _ (fqd x) (fqd y) hqx'.out hqy'.out shm).mono ?_); (rintro e w4 ⟨v4, rfl, hv4, hb4⟩); (have hv4' := FrV.q hv4 shm); (have hp4 := FrQ.below hp'.out hb4); (have KS4 := KD.below hb4); (have z0 := KS4.cell 0); (have z1 := KS4.cell 1); (have z2 := KS4.cell 2))
            | (go_simp; go_at_call 31; (with_reducible refine (raddq _ _ _ p0 (fqd x * fqd y) hp4 hv4' sh1).mono ?_); (rintro e w5 ⟨v5, rfl, hv5, hb5⟩); (rw [HPS.out] at hv5); (obtain ⟨C1, y1, C2, y2, rfl, _, _, _, _⟩ := FrIn.shape hv5); (have KS5 := (KD.below hb4).below hb5); (have m0 := KS5.cell 0); (have m1 := KS5.cell 1); (have m2 := KS5.cell 2); (have mf := KS5.free))
            )
          all_goals
            have hb45 := bl_trans hb4 hb5
            go_wp2
            refine ⟨⟨k + 1, by omega, by go_num, FBox.set KS5 (boolne _) (slne _ _ _) (slne _ _ _) hv5, (((HK'.out.below hb45).other _ _ (by simp; omega)).other _ _ (by simp; omega)).other _ _ (by simp; omega), three_below (bl_trans HB'.out hb45) (by omega) _ _ _⟩, by simp [intOf]; omega⟩
        · have g1 : decide ((x.2.1.length : Int) > 0) = true := decide_eq_true (by omega)
          have g2 : decide ((y.2.1.length : Int) > 0) = false := decide_eq_false (by omega)
          have h0 : psum (dots L M) (k + 1) = p0 := by rw [HPS.out.symm, fqd_nil (d := y) (by omega), Rat.mul_zero, Rat.add_zero]
          have H0 := Lib.hid h0
          have HSR := Lib.hid (show FBox wr gS p0 from ⟨_, _, _, _, KS, hsr⟩)
          clear hx1 hy1 hps hp0 hK hbl hsr hfr hfr2 hsl hsl2 h0
          go_wp2
          exact ⟨⟨k + 1, by omega, by go_num, by rw [H0.out]; exact HSR.out, HK.out, HBL.out⟩, by simp [intOf]; omega⟩
      · have g1 : decide ((x.2.1.length : Int) > 0) = false := decide_eq_false (by omega)
        have h0 : psum (dots L M) (k + 1) = p0 := by rw [HPS.out.symm, fqd_nil (d := x) (by omega), Rat.zero_mul, Rat.add_zero]
        have H0 := Lib.hid h0
        have HSR := Lib.hid (show FBox wr gS p0 from ⟨_, _, _, _, KS, hsr⟩)
        clear hx1 hy1 hps hp0 hK hbl hsr hfr hfr2 hsl hsl2 h0
        go_wp2
        exact ⟨⟨k + 1, by omega, by go_num, by rw [H0.out]; exact HSR.out, HK.out, HBL.out⟩, by simp [intOf]; omega⟩
    · obtain rfl : k = n := by omega
      have k0 := KS.cell 0
      have k1 := KS.cell 1
      have k2 := KS.cell 2
      obtain ⟨p0, hp0⟩ : ∃ p, p = psum (dots L M) k := ⟨_, rfl⟩
      rw [← hp0] at KS hsr k0 k1 k2
      have m0 := hK.cell 0
      have m1 := hK.cell 1
      have m2 := hK.cell 2
      have f1 := hK.free
      have HP0 := Lib.hid hp0
      have HSR := Lib.hid hsr
      clear hp0 hsr
      by_cases hkl : k < L.length
      · have g1 : decide ((k : Int) < (L.length : Int)) = true := by simp; omega
        have g2 : ¬ k < M.length := by have := HN.out; omega
        go_wp2
        obtain ⟨v1, v2, hv, r1, r2, r3, r4⟩ := HSR.out
        exact bodyPost_ret (results_cell_row rfl _ _ w.heap.size 24 _ (0, 0) _ rfl (blk3 HK.out _ _ _) Try.underlying24 rfl (by kernel_rfl)) rfl ⟨_, rfl, by rw [← HP0.out]; exact ⟨v1, v2, hv, r1.three m0 m1 m2 (boolne _) (slne _ _ _) (slne _ _ _) _ _ _, r2.three m0 m1 m2 (boolne _) (slne _ _ _) (slne _ _ _) _ _ _, r3, r4⟩, three_below HBL.out (Nat.le_refl _) _ _ _⟩
      · have g1 : decide ((k : Int) < (L.length : Int)) = false := by simp; omega
        go_wp2
        obtain ⟨v1, v2, hv, r1, r2, r3, r4⟩ := HSR.out
        exact bodyPost_ret (results_cell_row rfl _ _ w.heap.size 24 _ (0, 0) _ rfl (blk3 HK.out _ _ _) Try.underlying24 rfl (by kernel_rfl)) rfl ⟨_, rfl, by rw [← HP0.out]; exact ⟨v1, v2, hv, r1.three m0 m1 m2 (boolne _) (slne _ _ _) (slne _ _ _) _ _ _, r2.three m0 m1 m2 (boolne _) (slne _ _ _) (slne _ _ _) _ _ _, r3, r4⟩, three_below HBL.out (Nat.le_refl _) _ _ _⟩


theorem few3_fl (w : World) (v : Value) (L : List (Bool × List Int × List Int)) (h : FL w v L) : Calls Try.prog 17 #[.int .i64 3, v] w fun e w' => e = .returned (.bool (decide (FewD 3 L))) ∧ Below w.heap.size w w' := few_fl w v L 3 h
/-- The systems that the statements speak of. -/
def sysOK (LL : List (List (Bool × List Int × List Int))) (Rl : List (Bool × List Int × List Int)) : Prop := LL.length ≤ 7 ∧ Rl.length ≤ 7 ∧ FewD 3 Rl ∧ ∀ L ∈ LL, L.length ≤ 7 ∧ FewD 3 L
instance (k : Nat) (L : List (Bool × List Int × List Int)) : Decidable (FewD k L) := by unfold FewD; infer_instance
instance (LL : List (List (Bool × List Int × List Int))) (Rl : List (Bool × List Int × List Int)) : Decidable (sysOK LL Rl) := by unfold sysOK; infer_instance
def rowsOK (LL : List (List (Bool × List Int × List Int))) : Prop := ∀ L ∈ LL, L.length ≤ 7 ∧ FewD 3 L
theorem rowsOK_take {LL : List (List (Bool × List Int × List Int))} {k : Nat} {L : List (Bool × List Int × List Int)} (h : LL[k]? = some L) (h1 : rowsOK (LL.take k)) (h2 : L.length ≤ 7 ∧ FewD 3 L) : rowsOK (LL.take (k + 1)) := by
  intro M hM
  rw [take_snocL h] at hM
  rcases List.mem_append.1 hM with hM | hM
  · exact h1 M hM
  · rw [List.mem_singleton.1 hM]; exact h2
set_option maxRecDepth 100000 in
set_option maxHeartbeats 4000000 in
theorem system_calls (w : World) (va vb : Value) (LL : List (List (Bool × List Int × List Int))) (Rl : List (Bool × List Int × List Int)) (ha : FLL w va LL) (hb : FL w vb Rl) :
    Calls Try.prog 53 #[va, vb] w fun e w' => e = .returned (.bool (decide (sysOK LL Rl))) ∧ Below w.heap.size w w' := by
  obtain ⟨b, hbb⟩ : ∃ b, b = decide (sysOK LL Rl) := ⟨_, rfl⟩
  rw [← hbb]
  have HA := Lib.hid ha
  have HBL := Lib.hid hb
  have HBB := Lib.hid hbb
  obtain ⟨A, c, rfl⟩ := ha.shape
  obtain ⟨Ab, cb, rfl⟩ := hb.shape
  have hcc := ha.bounds
  have hcb : Rl.length ≤ 9223372036854775807 := by obtain ⟨_, _, hv, k1, k2, _⟩ := hb; omega
  clear ha hb hbb
  by_cases h1 : LL.length ≤ 7
  · have g1 : decide ((7 : Int) < (LL.length : Int)) = false := decide_eq_false (by omega)
    by_cases h2 : Rl.length ≤ 7
    · have g2 : decide ((7 : Int) < (Rl.length : Int)) = false := decide_eq_false (by omega)
      by_cases h3 : FewD 3 Rl
      · have h3d : decide (FewD 3 Rl) = true := decide_eq_true h3
        have H3 := Lib.hid h3d
        have HF3 := Lib.hid h3
        clear h3 h3d
        go_enter Try.func53, Try.ntmps53
        go_wp2_with fail
        refine (few3_fl _ _ Rl HBL.out).mono ?_
        rintro e w1 ⟨rfl, hb1⟩
        rw [H3.out]
        have HB1 := Lib.hid hb1
        clear hb1
        go_wp2
        go_loopw [5] (fun i wr => ∃ k : Nat, k ≤ LL.length ∧ i = .int .i64 (k : Int) ∧ rowsOK (LL.take k) ∧ Below w.heap.size w wr) (fun i _ => LL.length - (intOf i).toNat)
        case atStart => exact ⟨0, by omega, rfl, by intro L hL; simp at hL, HB1.out⟩
        case round =>
          obtain ⟨k, hk, rfl, hro, hbl⟩ := hrel
          have HRO := Lib.hid hro
          have HB := Lib.hid hbl
          by_cases hx : k < LL.length
          · obtain ⟨L, hL⟩ : ∃ L, LL[k]? = some L := ⟨_, List.getElem?_eq_getElem hx⟩
            obtain ⟨ad, c', A1, c1, hv, _, _, e0, hc1, hc2, hfl⟩ := HA.out.at hL
            obtain ⟨rfl, rfl⟩ : A = some ad ∧ c = c' := by simpa using hv
            replace e0 := cell_below hbl e0
            have HFL := Lib.hid (hfl.below hbl)
            have HL := Lib.hid hL
            have q1 : (k : Int) < (LL.length : Int) := by omega
            clear hro hbl hL hv hfl
            by_cases h4 : L.length ≤ 7
            · have g4 : decide ((7 : Int) < (L.length : Int)) = false := decide_eq_false (by omega)
              by_cases h5 : FewD 3 L
              · have h5d : decide (FewD 3 L) = true := decide_eq_true h5
                have H5 := Lib.hid h5d
                have HN := Lib.hid (rowsOK_take HL.out HRO.out ⟨h4, h5⟩)
                clear h5 h5d
                go_wp2_with fail
                refine (few3_fl _ _ L HFL.out).mono ?_
                rintro e w2 ⟨rfl, hb2⟩
                rw [H5.out]
                have HB2 := Lib.hid (bl_trans HB.out hb2)
                clear hb2
                go_wp2
                exact ⟨⟨k + 1, by omega, by go_num, HN.out, HB2.out⟩, by simp [intOf]; omega⟩
              · have h5d : decide (FewD 3 L) = false := decide_eq_false h5
                have H5 := Lib.hid h5d
                have HN := Lib.hid (show decide (sysOK LL Rl) = false from decide_eq_false (fun h => h5 (h.2.2.2 L (List.mem_of_getElem? HL.out)).2))
                clear h5 h5d
                go_wp2_with fail
                refine (few3_fl _ _ L HFL.out).mono ?_
                rintro e w2 ⟨rfl, hb2⟩
                rw [H5.out]
                have HB2 := Lib.hid (bl_trans HB.out hb2)
                clear hb2
                go_wp2
                go_ret
                exact ⟨by rw [HBB.out, HN.out]; rfl, HB2.out⟩
            · have g4 : decide ((7 : Int) < (L.length : Int)) = true := decide_eq_true (by omega)
              have HN := Lib.hid (show decide (sysOK LL Rl) = false from decide_eq_false (fun h => h4 (h.2.2.2 L (List.mem_of_getElem? HL.out)).1))
              go_wp2
              go_ret
              exact ⟨by rw [HBB.out, HN.out]; rfl, HB.out⟩
          · obtain rfl : k = LL.length := by omega
            rw [List.take_length] at hro
            have HN := Lib.hid (show decide (sysOK LL Rl) = true from decide_eq_true ⟨h1, h2, HF3.out, hro⟩)
            clear hro hbl
            go_wp2
            go_ret
            exact ⟨by rw [HBB.out, HN.out]; rfl, HB.out⟩
      · have h3d : decide (FewD 3 Rl) = false := decide_eq_false h3
        have H3 := Lib.hid h3d
        have HN := Lib.hid (show decide (sysOK LL Rl) = false from decide_eq_false (fun h => h3 h.2.2.1))
        clear h3 h3d
        go_enter Try.func53, Try.ntmps53
        go_wp2_with fail
        refine (few3_fl _ _ Rl HBL.out).mono ?_
        rintro e w1 ⟨rfl, hb1⟩
        rw [H3.out]
        go_wp2
        go_ret
        exact ⟨by rw [HBB.out, HN.out]; rfl, hb1⟩
    · have g2 : decide ((7 : Int) < (Rl.length : Int)) = true := decide_eq_true (by omega)
      have HN := Lib.hid (show decide (sysOK LL Rl) = false from decide_eq_false (fun h => h2 h.2.1))
      go_enter Try.func53, Try.ntmps53
      go_wp2
      go_ret
      exact ⟨by rw [HBB.out, HN.out]; rfl, Below.refl _ _⟩
  · have g1 : decide ((7 : Int) < (LL.length : Int)) = true := decide_eq_true (by omega)
    have HN := Lib.hid (show decide (sysOK LL Rl) = false from decide_eq_false (fun h => h1 h.1))
    go_enter Try.func53, Try.ntmps53
    go_wp2
    go_ret
    exact ⟨by rw [HBB.out, HN.out]; rfl, Below.refl _ _⟩

theorem rcmp_eq0 (a b : Rat) : rcmp a b = 0 ↔ a = b := by
  unfold rcmp; grind
theorem dots_szq2 {L M : List (Bool × List Int × List Int)} {m n : Nat} (hm : 1 ≤ m) (hn : 1 ≤ n) (h : FewD m L) (h2 : FewD n M) (hw : ∀ d ∈ L, Wd d.2.1 ∧ Wd d.2.2) (hw2 : ∀ d ∈ M, Wd d.2.1 ∧ Wd d.2.2) : ∀ q ∈ dots L M, Szq (m + n) q := by
  intro q hq
  obtain ⟨k, hk, rfl⟩ := List.mem_iff_getElem.1 hq
  rw [dots_len] at hk
  have e := dots_at (L := L) (M := M) (k := k) (List.getElem?_eq_getElem (by omega)) (List.getElem?_eq_getElem (by omega))
  rw [List.getElem?_eq_getElem (by rw [dots_len]; exact hk)] at e
  rw [Option.some.inj e]
  have hx := few_szq hm h hw
  have hy := few_szq hn h2 hw2
  exact szq_mul (hx _ (List.mem_map.2 ⟨_, List.getElem_mem _, rfl⟩)) (hy _ (List.mem_map.2 ⟨_, List.getElem_mem _, rfl⟩))
/-- Sums of at most 7 products are short. -/
theorem dots_short {L M : List (Bool × List Int × List Int)} {m n : Nat} (hm : 1 ≤ m) (hn : 1 ≤ n) (h : FewD m L) (h2 : FewD n M) (hw : ∀ d ∈ L, Wd d.2.1 ∧ Wd d.2.2) (hw2 : ∀ d ∈ M, Wd d.2.1 ∧ Wd d.2.2) (hmn : m + n ≤ 280) : (∀ k, k ≤ 7 → Short (psum (dots L M) k)) ∧ ∀ q ∈ dots L M, Short q := by
  have hz := dots_szq2 hm hn h h2 hw hw2
  refine ⟨fun k hk => (psum_szq hz k).short ?_, fun q hq => (hz q hq).short (by omega)⟩
  have := Nat.mul_le_mul (show m + n + 1 ≤ 281 by omega) hk
  omega
set_option maxRecDepth 100000 in
theorem same_q (w : World) (va vb : Value) (a b : Rat) (ha : FrQ w va a) (hb : FrQ w vb b) : Calls Try.prog 97 #[va, vb] w fun e w' => e = .returned (.bool (decide (a = b))) ∧ Below w.heap.size w w' := by
  have hqa := Lib.hid ha
  have hqb := Lib.hid hb
  obtain ⟨n1, l1, d1, h1, s1, _⟩ := ha
  obtain ⟨n2, l2, d2, h2, s2, _⟩ := hb
  obtain ⟨A, c, A2, c2, rfl, _, _, _, _⟩ := FrIn.shape h1
  obtain ⟨B, e, B2, e2, rfl, _, _, _, _⟩ := FrIn.shape h2
  have al := below_alloc0 w (.cells #[.bool n1, .slice A l1.length c, .slice A2 d1.length c2] 24)
  have al2 := below_alloc0 (w.alloc (.cells #[.bool n1, .slice A l1.length c, .slice A2 d1.length c2] 24)) (.cells #[.bool n2, .slice B l2.length e, .slice B2 d2.length e2] 24)
  have K := (Blk.new w 24 #[.bool n1, .slice A l1.length c, .slice A2 d1.length c2]).below al2
  have K2 := Blk.new (w.alloc (.cells #[.bool n1, .slice A l1.length c, .slice A2 d1.length c2] 24)) 24 #[.bool n2, .slice B l2.length e, .slice B2 d2.length e2]
  have k0 := K.cell 0
  have k1 := K.cell 1
  have k2 := K.cell 2
  have j0 := K2.cell 0
  have j1 := K2.cell 1
  have j2 := K2.cell 2
  have hal := Lib.hid (bl_trans al al2)
  have hc : (((rcmp a b : Int)) == 0) = decide (a = b) := by
    rw [Bool.eq_iff_iff, beq_iff_eq, decide_eq_true_iff]
    exact rcmp_eq0 a b
  have HC := Lib.hid hc
  clear h1 h2 al al2 K K2 hc
  go_enter Try.func97, Try.ntmps97
  go_wp2_with fail
  refine (rcmpq _ _ _ a b (FrQ.below hqa.out hal.out) (FrQ.below hqb.out hal.out)).mono ?_
  rintro x w2 ⟨rfl, hb2⟩
  have HB2 := Lib.hid (bl_trans hal.out hb2)
  clear hb2 k0 k1 k2 j0 j1 j2
  go_wp2
  go_ret
  exact ⟨by rw [← HC.out]; rfl, HB2.out⟩
set_option maxRecDepth 100000 in
set_option maxHeartbeats 4000000 in
theorem equal_calls (w : World) (va vb : Value) (L M : List (Bool × List Int × List Int)) (ha : FL w va L) (hb : FL w vb M) (hf : FewD 2000 L) (hf2 : FewD 2000 M) (hlen : L.length = M.length) (heq : L.map fqd = M.map fqd) :
    Calls Try.prog 61 #[va, vb] w fun e w' => e = .returned (.bool true) ∧ Below w.heap.size w w' := by
  have HA := Lib.hid ha
  have HB := Lib.hid hb
  have HEQ := Lib.hid heq
  obtain ⟨A, c, rfl⟩ := ha.shape
  obtain ⟨B, cb, rfl⟩ := hb.shape
  have q0 : ((L.length : Int) != (M.length : Int)) = false := by rw [hlen]; simp
  have hL : L.length ≤ 9223372036854775807 := by obtain ⟨_, _, _, k1, k2, _⟩ := ha; omega
  have HL := Lib.hid hlen
  clear ha hb heq hlen
  go_enter Try.func61, Try.ntmps61
  go_wp2
  go_loopw [5] (fun i wr => ∃ k : Nat, k ≤ L.length ∧ i = .int .i64 (k : Int) ∧ Below w.heap.size w wr) (fun i _ => L.length - (intOf i).toNat)
  case atStart => exact ⟨0, by omega, rfl, Below.refl _ _⟩
  case round =>
    obtain ⟨k, hk, rfl, hbl⟩ := hrel
    have HBL := Lib.hid hbl
    by_cases hx : k < L.length
    · obtain ⟨x, hx1⟩ : ∃ x, L[k]? = some x := ⟨_, List.getElem?_eq_getElem hx⟩
      obtain ⟨y, hy1⟩ : ∃ y, M[k]? = some y := ⟨_, List.getElem?_eq_getElem (by have := HL.out; omega)⟩
      have hxy : fqd x = fqd y := by
        have h := congrArg (fun l => l[k]?) HEQ.out
        simp only [List.getElem?_map, hx1, hy1, Option.map_some] at h
        exact Option.some.inj h
      have fewx := hf x (List.mem_of_getElem? hx1)
      have fewy := hf2 y (List.mem_of_getElem? hy1)
      obtain ⟨ad, c', A1, a1, A2, a2, hsl, _, _, e0, e1, e2, hfr⟩ := HA.out.at hx1
      obtain ⟨rfl, rfl⟩ : A = some ad ∧ c = c' := by simpa using hsl
      obtain ⟨ad2, c2', A3, a3, A4, a4, hsl2, _, _, e3, e4, e5, hfr2⟩ := HB.out.at hy1
      obtain ⟨rfl, rfl⟩ : B = some ad2 ∧ cb = c2' := by simpa using hsl2
      have hs := holdff_next (bl_drew wr) ⟨(⟨hbl, ⟨x.1, x.2.1, x.2.2, hfr.below hbl, by omega, rfl⟩, ⟨y.1, y.2.1, y.2.2, hfr2.below hbl, by omega, rfl⟩⟩ : HoldFF w _ _ (fqd x) (fqd y) wr), ⟨cell_below hbl e0, cell_below hbl e1, cell_below hbl e2⟩, ⟨cell_below hbl e3, cell_below hbl e4, cell_below hbl e5⟩⟩
      have q1 : (k : Int) < (L.length : Int) := by omega
      have q2 : (k : Int) < (M.length : Int) := by have := HL.out; omega
      have HD := Lib.hid (show decide (fqd x = fqd y) = true from decide_eq_true hxy)
      clear hbl hfr hfr2 hsl hsl2 e0 e1 e2 e3 e4 e5 hx1 hy1 hxy
      go_wp2_with fail
      go_region_held3 (fun w' => HoldFF w (.agg #[.bool x.1, .slice A1 x.2.1.length a1, .slice A2 x.2.2.length a2]) (.agg #[.bool y.1, .slice A3 y.2.1.length a3, .slice A4 y.2.2.length a4]) (fqd x) (fqd y) w' ∧ (w'.cell? (ad.add (k * 3)) = some (.bool x.1) ∧ w'.cell? ⟨(ad.add (k * 3)).block, (ad.add (k * 3)).off + 1, none⟩ = some (.slice A1 x.2.1.length a1) ∧ w'.cell? ⟨(ad.add (k * 3)).block, (ad.add (k * 3)).off + 2, none⟩ = some (.slice A2 x.2.2.length a2)) ∧ (w'.cell? (ad2.add (k * 3)) = some (.bool y.1) ∧ w'.cell? ⟨(ad2.add (k * 3)).block, (ad2.add (k * 3)).off + 1, none⟩ = some (.slice A3 y.2.1.length a3) ∧ w'.cell? ⟨(ad2.add (k * 3)).block, (ad2.add (k * 3)).off + 2, none⟩ = some (.slice A4 y.2.2.length a4)))
        ((first | exact hs | exact holdff_next hbN (by assumption)))
        (first
          | (go_at_call 97; (with_reducible refine (same_q _ _ _ (fqd x) (fqd y) ?_ ?_).mono ?_); (exact HoldFF.t1 (And.left (by assumption))); (exact HoldFF.t2 (And.left (by assumption))); (rintro e w' ⟨rfl, hbN⟩); (rw [HD.out]); (have H1 := HoldFF.next hbN (And.left (by assumption)))))
      go_wp2
      exact ⟨⟨k + 1, by omega, by go_num, H1.1⟩, by simp [intOf]; omega⟩
    · obtain rfl : k = L.length := by omega
      clear hbl
      go_wp2
      go_ret
      exact ⟨rfl, HBL.out⟩
/-- The numbers solve the equations. -/
def solvesP (LL : List (List (Bool × List Int × List Int))) (Rl X : List (Bool × List Int × List Int)) : Prop := ∀ (i : Nat) (L : List (Bool × List Int × List Int)) (d : Bool × List Int × List Int), LL[i]? = some L → Rl[i]? = some d → psum (dots L X) L.length = fqd d
/-- What solves holds on to. -/
def HoldS (w : World) (v1 vx v2 : Value) (L X : List (Bool × List Int × List Int)) (r : Rat) (w' : World) : Prop := Below w.heap.size w w' ∧ FL w' v1 L ∧ FL w' vx X ∧ FrQ w' v2 r
theorem HoldS.next {w w1 w2 : World} {v1 vx v2 : Value} {L X : List (Bool × List Int × List Int)} {r : Rat} (hb : Below w1.heap.size w1 w2) (h : HoldS w v1 vx v2 L X r w1) : HoldS w v1 vx v2 L X r w2 := ⟨bl_trans h.1 hb, h.2.1.below hb, h.2.2.1.below hb, FrQ.below h.2.2.2 hb⟩
theorem holds_next {w w1 w2 : World} {v1 vx v2 : Value} {L X : List (Bool × List Int × List Int)} {r : Rat} {a0 a1 a2 a3 : Addr} {x0 x1 x2 x3 : Value} (hb : Below w1.heap.size w1 w2) (h : HoldS w v1 vx v2 L X r w1 ∧ w1.cell? a0 = some x0 ∧ w1.cell? a1 = some x1 ∧ w1.cell? a2 = some x2 ∧ w1.cell? a3 = some x3) : HoldS w v1 vx v2 L X r w2 ∧ w2.cell? a0 = some x0 ∧ w2.cell? a1 = some x1 ∧ w2.cell? a2 = some x2 ∧ w2.cell? a3 = some x3 := by
  obtain ⟨h0, e0, e1, e2, e3⟩ := h
  exact ⟨h0.next hb, cell_below hb e0, cell_below hb e1, cell_below hb e2, cell_below hb e3⟩
set_option maxRecDepth 100000 in
set_option maxHeartbeats 4000000 in
theorem solves_calls (w : World) (va vb vx : Value) (LL : List (List (Bool × List Int × List Int))) (Rl X : List (Bool × List Int × List Int)) (ha : FLL w va LL) (hb : FL w vb Rl) (hX : FL w vx X) (hs : sysOK LL Rl) (hu : unif LL) (hlr : LL.length = Rl.length) (hxl : 0 < LL.length → X.length = colsN LL) (hf : FewD 214 X) :
    Calls Try.prog 56 #[va, vb, vx] w fun e w' => ∃ b : Bool, e = .returned (.bool b) ∧ (b = true ↔ solvesP LL Rl X) ∧ Below w.heap.size w w' := by
  have HA := Lib.hid ha
  have HB := Lib.hid hb
  have HX := Lib.hid hX
  have HS := Lib.hid hs
  have HU := Lib.hid hu
  have HLR := Lib.hid hlr
  have HXL := Lib.hid hxl
  have HFX := Lib.hid hf
  obtain ⟨A, c, rfl⟩ := ha.shape
  obtain ⟨B, cb, rfl⟩ := hb.shape
  obtain ⟨Ax, cx, rfl⟩ := hX.shape
  have hL : LL.length ≤ 7 := hs.1
  clear ha hb hX hs hu hlr hxl hf
  go_enter Try.func56, Try.ntmps56
  go_wp2
  go_loopw [7] (fun i wr => ∃ k : Nat, k ≤ LL.length ∧ i = .int .i64 (k : Int) ∧ Below w.heap.size w wr ∧ ∀ (i : Nat) (L : List (Bool × List Int × List Int)) (d : Bool × List Int × List Int), i < k → LL[i]? = some L → Rl[i]? = some d → psum (dots L X) L.length = fqd d) (fun i _ => LL.length - (intOf i).toNat)
  case atStart => exact ⟨0, by omega, rfl, Below.refl _ _, fun i L d h => by omega⟩
  case round =>
    obtain ⟨k, hk, rfl, hbl, hso⟩ := hrel
    have HBL := Lib.hid hbl
    have HSO := Lib.hid hso
    by_cases hx : k < LL.length
    · obtain ⟨L, hL1⟩ : ∃ x, LL[k]? = some x := ⟨_, List.getElem?_eq_getElem hx⟩
      obtain ⟨y, hy1⟩ : ∃ y, Rl[k]? = some y := ⟨_, List.getElem?_eq_getElem (by have := HLR.out; omega)⟩
      obtain ⟨ad, c', A1, a1, hsl, _, _, e0, _, _, hfl⟩ := HA.out.at hL1
      obtain ⟨rfl, rfl⟩ : A = some ad ∧ c = c' := by simpa using hsl
      obtain ⟨ad2, c2', A3, a3, A4, a4, hsl2, _, _, e3, e4, e5, hfr2⟩ := HB.out.at hy1
      obtain ⟨rfl, rfl⟩ : B = some ad2 ∧ cb = c2' := by simpa using hsl2
      have hLl : L.length = X.length := by rw [HXL.out (by omega)]; exact HU.out L (List.mem_of_getElem? hL1)
      have few := HS.out.2.2.2 L (List.mem_of_getElem? hL1)
      have fewy := HS.out.2.2.1 y (List.mem_of_getElem? hy1)
      obtain ⟨sh1, sh2⟩ := dots_short (m := 3) (n := 214) (by omega) (by omega) few.2 HFX.out hfl.wd HX.out.wd (by omega)
      have SH := Lib.hid (sh1 L.length few.1)
      have SH1 := Lib.hid sh1
      have SH2 := Lib.hid sh2
      have hs := holds_next (bl_drew wr) ⟨(⟨hbl, hfl.below hbl, HX.out.below hbl, ⟨y.1, y.2.1, y.2.2, hfr2.below hbl, by omega, rfl⟩⟩ : HoldS w _ _ _ L X (fqd y) wr), cell_below hbl e0, cell_below hbl e3, cell_below hbl e4, cell_below hbl e5⟩
      obtain ⟨p, hp⟩ : ∃ p, p = psum (dots L X) L.length := ⟨_, rfl⟩
      have HP := Lib.hid hp
      have hmin : min L.length X.length = L.length := by omega
      have HMIN := Lib.hid hmin
      have SHp : Short p := by rw [hp]; exact SH.out
      have HSP := Lib.hid SHp
      have HF1 := Lib.hid (FewD.mono few.2 (show 3 ≤ 2000 by omega))
      have HF2 := Lib.hid (FewD.mono HFX.out (show 214 ≤ 2000 by omega))
      have q1 : (k : Int) < (LL.length : Int) := by omega
      have q2 : (k : Int) < (Rl.length : Int) := by have := HLR.out; omega
      have q3 : ((X.length : Int) != (L.length : Int)) = false := by rw [hLl]; simp
      have q4 : decide ((Rl.length : Int) ≤ (k : Int)) = false := decide_eq_false (by omega)
      have q5 : decide (Rl.length ≤ k) = false := decide_eq_false (by have := HLR.out; omega)
      have l7 := few.1
      have l8 : X.length ≤ 7 := by omega
      have HL1 := Lib.hid hL1
      have HY1 := Lib.hid hy1
      clear hbl hfl hfr2 hsl hsl2 e0 e3 e4 e5 hL1 hy1 sh1 sh2 SH hso hp hLl few hmin SHp
      by_cases hc : p = fqd y
      · have HC := Lib.hid hc
        have HD := Lib.hid (show decide (p = fqd y) = true from decide_eq_true hc)
        clear hc
        go_wp2_with fail
        go_region_held3 (fun w' => HoldS w (.slice A1 L.length a1) (.slice Ax X.length cx) (.agg #[.bool y.1, .slice A3 y.2.1.length a3, .slice A4 y.2.2.length a4]) L X (fqd y) w' ∧ w'.cell? (ad.add k) = some (.slice A1 L.length a1) ∧ w'.cell? (ad2.add (k * 3)) = some (.bool y.1) ∧ w'.cell? ⟨(ad2.add (k * 3)).block, (ad2.add (k * 3)).off + 1, none⟩ = some (.slice A3 y.2.1.length a3) ∧ w'.cell? ⟨(ad2.add (k * 3)).block, (ad2.add (k * 3)).off + 2, none⟩ = some (.slice A4 y.2.2.length a4))
          ((first | exact hs | exact holds_next hbN (by assumption)))
          (first
            | (go_at_call 44; (with_reducible refine (rdot_gen _ _ _ L X ?_ ?_ (by omega) (by omega) HF1.out HF2.out ?_ SH2.out).mono ?_); (exact (And.left (by assumption) : HoldS _ _ _ _ _ _ _ _).2.1); (exact (And.left (by assumption) : HoldS _ _ _ _ _ _ _ _).2.2.1); (exact fun k hk => SH1.out k (by omega)); (rintro e w' ⟨v5, rfl, hv5, hbN⟩); (rw [HMIN.out, ← HP.out] at hv5); (obtain ⟨C1, g1, C2, g2, rfl, _, _, _, _⟩ := FrIn.shape hv5); (have H0 := HoldS.next hbN (And.left (by assumption))))
            | (go_at_call 97; (with_reducible refine (same_q _ _ _ p (fqd y) (FrV.q hv5 HSP.out) ?_).mono ?_); (exact (And.left (by assumption) : HoldS _ _ _ _ _ _ _ _).2.2.2); (rintro e w' ⟨rfl, hbN⟩); (rw [HD.out]); (have H1 := HoldS.next hbN (And.left (by assumption)))))
        go_wp2
        exact ⟨⟨k + 1, by omega, by go_num, H1.1, fun i L' d' h1 h2 h3 => by
          rcases Nat.lt_or_ge i k with h | h
          · exact HSO.out i L' d' h h2 h3
          · obtain rfl : i = k := by omega
            obtain rfl : L = L' := Option.some.inj (HL1.out.symm.trans h2)
            obtain rfl : y = d' := Option.some.inj (HY1.out.symm.trans h3)
            rw [← HP.out]; exact HC.out⟩, by simp [intOf]; omega⟩
      · have HC := Lib.hid hc
        have HD := Lib.hid (show decide (p = fqd y) = false from decide_eq_false hc)
        clear hc
        go_wp2_with fail
        go_region_held3 (fun w' => HoldS w (.slice A1 L.length a1) (.slice Ax X.length cx) (.agg #[.bool y.1, .slice A3 y.2.1.length a3, .slice A4 y.2.2.length a4]) L X (fqd y) w' ∧ w'.cell? (ad.add k) = some (.slice A1 L.length a1) ∧ w'.cell? (ad2.add (k * 3)) = some (.bool y.1) ∧ w'.cell? ⟨(ad2.add (k * 3)).block, (ad2.add (k * 3)).off + 1, none⟩ = some (.slice A3 y.2.1.length a3) ∧ w'.cell? ⟨(ad2.add (k * 3)).block, (ad2.add (k * 3)).off + 2, none⟩ = some (.slice A4 y.2.2.length a4))
          ((first | exact hs | exact holds_next hbN (by assumption)))
          (first
            | (go_at_call 44; (with_reducible refine (rdot_gen _ _ _ L X ?_ ?_ (by omega) (by omega) HF1.out HF2.out ?_ SH2.out).mono ?_); (exact (And.left (by assumption) : HoldS _ _ _ _ _ _ _ _).2.1); (exact (And.left (by assumption) : HoldS _ _ _ _ _ _ _ _).2.2.1); (exact fun k hk => SH1.out k (by omega)); (rintro e w' ⟨v5, rfl, hv5, hbN⟩); (rw [HMIN.out, ← HP.out] at hv5); (obtain ⟨C1, g1, C2, g2, rfl, _, _, _, _⟩ := FrIn.shape hv5); (have H0 := HoldS.next hbN (And.left (by assumption))))
            | (go_at_call 97; (with_reducible refine (same_q _ _ _ p (fqd y) (FrV.q hv5 HSP.out) ?_).mono ?_); (exact (And.left (by assumption) : HoldS _ _ _ _ _ _ _ _).2.2.2); (rintro e w' ⟨rfl, hbN⟩); (rw [HD.out]); (have H1 := HoldS.next hbN (And.left (by assumption)))))
        go_wp2
        go_ret
        exact ⟨false, rfl, ⟨fun h => by simp at h, fun h => absurd (HP.out.trans (h k L y HL1.out HY1.out)) HC.out⟩, H1.1⟩
    · obtain rfl : k = LL.length := by omega
      clear hbl hso
      go_wp2
      go_ret
      exact ⟨true, rfl, ⟨fun _ i L d h1 h2 => HSO.out i L d (List.getElem?_eq_some_iff.1 h1).1 h1 h2, fun _ => rfl⟩, HBL.out⟩
/-- A column. -/
def colL (LL : List (List (Bool × List Int × List Int))) (k : Nat) : List (Bool × List Int × List Int) := LL.map (fun L => L.getD k (false, [], []))
theorem colL_at {LL : List (List (Bool × List Int × List Int))} {k l : Nat} {L : List (Bool × List Int × List Int)} {x : Bool × List Int × List Int} (h : LL[l]? = some L) (hx : L[k]? = some x) : (colL LL k)[l]? = some x := by
  simp [colL, h, List.getD_eq_getElem?_getD, hx]
theorem colL_len (LL : List (List (Bool × List Int × List Int))) (k : Nat) : (colL LL k).length = LL.length := by simp [colL]
/-- The numbers prove that there is no solution. -/
def provesP (LL : List (List (Bool × List Int × List Int))) (Rl Y : List (Bool × List Int × List Int)) : Prop := Y.length = LL.length ∧ 0 < LL.length ∧ (∀ k, k < colsN LL → psum (dots Y (colL LL k)) LL.length = 0) ∧ psum (dots Y Rl) LL.length ≠ 0
theorem len_zero2 {q : Rat} : (((dg q.num.natAbs).length : Int) == 0) = decide (q = 0) := by
  rw [Bool.eq_iff_iff, beq_iff_eq, decide_eq_true_iff]
  constructor
  · intro h
    have h1 : (dg q.num.natAbs).length = 0 := by omega
    have h2 := nv_dg q.num.natAbs
    rw [List.length_eq_zero_iff.1 h1] at h2
    exact Rat.num_eq_zero.1 (Int.natAbs_eq_zero.1 h2.symm)
  · rintro rfl
    simp [dg_zero]
theorem num_len_gt {q : Rat} : decide ((0 : Int) < ((dg q.num.natAbs).length : Int)) = decide (q ≠ 0) := by
  have h1 := len_zero2 (q := q)
  rw [Bool.eq_iff_iff, beq_iff_eq, decide_eq_true_iff] at h1
  rw [decide_eq_decide]
  constructor
  · intro h h2
    have := h1.2 h2
    omega
  · intro h
    have : ¬ (((dg q.num.natAbs).length : Int) = 0) := fun e => h (h1.1 e)
    omega
set_option maxRecDepth 100000 in
set_option maxHeartbeats 8000000 in
theorem proves_calls (w : World) (va vb vy : Value) (LL : List (List (Bool × List Int × List Int))) (Rl Y : List (Bool × List Int × List Int)) (ha : FLL w va LL) (hb : FL w vb Rl) (hY : FL w vy Y) (hs : sysOK LL Rl) (hu : unif LL) (hlr : LL.length = Rl.length) (hf : FewD 214 Y) :
    Calls Try.prog 57 #[va, vb, vy] w fun e w' => ∃ b : Bool, e = .returned (.bool b) ∧ (b = true ↔ provesP LL Rl Y) ∧ Below w.heap.size w w' := by
  have HA := Lib.hid ha
  have HB := Lib.hid hb
  have HY := Lib.hid hY
  have HS := Lib.hid hs
  have HU := Lib.hid hu
  have HLR := Lib.hid hlr
  have HFY := Lib.hid hf
  have hYb : Y.length ≤ 9223372036854775807 := by obtain ⟨_, _, _, k1, k2, _⟩ := hY; omega
  obtain ⟨A, c, rfl⟩ := ha.shape
  obtain ⟨B, cb, rfl⟩ := hb.shape
  obtain ⟨Ay, cy, rfl⟩ := hY.shape
  have hL : LL.length ≤ 7 := hs.1
  have g2 : ((Rl.length : Int) != (LL.length : Int)) = false := by rw [hlr]; simp
  clear ha hb hY hs hu hlr hf
  by_cases hyl : Y.length = LL.length
  · have g1 : ((Y.length : Int) != (LL.length : Int)) = false := by rw [hyl]; simp
    by_cases h0 : LL.length = 0
    · have g3 : ((LL.length : Int) == 0) = true := by rw [h0]; rfl
      have HN := Lib.hid h0
      clear hyl h0
      go_enter Try.func57, Try.ntmps57
      go_wp2
      go_ret
      exact ⟨false, rfl, ⟨fun h => by simp at h, fun h => absurd HN.out (by have := h.2.1; omega)⟩, Below.refl _ _⟩
    · have g3 : ((LL.length : Int) == 0) = false := beq_eq_false_iff_ne.2 (by omega)
      have HYL := Lib.hid hyl
      obtain ⟨L0, hL0⟩ : ∃ L, LL[0]? = some L := ⟨_, List.getElem?_eq_getElem (by omega)⟩
      obtain ⟨ad, c', A0, c0, hv, _, _, e0, hc1, hc2, _⟩ := HA.out.at hL0
      obtain ⟨rfl, rfl⟩ : A = some ad ∧ c = c' := by simpa using hv
      rw [add0] at e0
      have hn : L0.length = colsN LL := HU.out L0 (List.mem_of_getElem? hL0)
      have hc7 : colsN LL ≤ 7 := by have := (HS.out.2.2.2 L0 (List.mem_of_getElem? hL0)).1; omega
      rw [hn] at e0
      have q0 : (0 : Int) < (LL.length : Int) := by omega
      obtain ⟨n, hnn⟩ : ∃ n, n = colsN LL := ⟨_, rfl⟩
      rw [← hnn] at e0 hc7
      have HN := Lib.hid hnn
      have E0 := Lib.hid e0
      clear hyl hv hL0 hn hnn e0
      go_enter Try.func57, Try.ntmps57
      go_wp2
      go_loopw [7] (fun i wr => ∃ k : Nat, k ≤ n ∧ i = .int .i64 (k : Int) ∧ Below w.heap.size w wr ∧ ∀ j, j < k → psum (dots Y (colL LL j)) LL.length = 0) (fun i _ => n - (intOf i).toNat)
      case atStart => exact ⟨0, by omega, rfl, Below.refl _ _, fun j h => by omega⟩
      case round =>
        obtain ⟨k, hk, rfl, hbl, hze⟩ := hrel
        have HBL := Lib.hid hbl
        have HZE := Lib.hid hze
        have e0 := cell_below hbl E0.out
        by_cases hx : k < n
        · have q1 : (k : Int) < (n : Int) := by omega
          have hwc : ∀ d ∈ colL LL k, Wd d.2.1 ∧ Wd d.2.2 := by
            intro d hd
            obtain ⟨L, hLm, rfl⟩ := List.mem_map.1 hd
            obtain ⟨l, hl, rfl⟩ := List.mem_iff_getElem.1 hLm
            obtain ⟨_, _, _, _, _, _, _, _, _, _, hfl⟩ := HA.out.at (List.getElem?_eq_getElem hl)
            have hkl : k < (LL[l]).length := by have := HU.out _ (List.getElem_mem hl); have := HN.out; omega
            have e : (LL[l]).getD k (false, [], []) = (LL[l])[k] := by rw [List.getD_eq_getElem?_getD, List.getElem?_eq_getElem hkl]; rfl
            rw [e]
            exact hfl.wd _ (List.getElem_mem hkl)
          have hfc : FewD 3 (colL LL k) := by
            intro d hd
            obtain ⟨L, hLm, rfl⟩ := List.mem_map.1 hd
            have hkl : k < L.length := by have := HU.out _ hLm; have := HN.out; omega
            have e : L.getD k (false, [], []) = L[k] := by rw [List.getD_eq_getElem?_getD, List.getElem?_eq_getElem hkl]; rfl
            rw [e]
            exact (HS.out.2.2.2 L hLm).2 _ (List.getElem_mem hkl)
          obtain ⟨sh1, sh2⟩ := dots_short (m := 214) (n := 3) (by omega) (by omega) HFY.out hfc HY.out.wd hwc (by omega)
          have SH1 := Lib.hid sh1
          have SH2 := Lib.hid sh2
          clear hbl hze hwc hfc sh1 sh2
          go_wp2_with fail
          refine (rzero_calls _).mono ?_
          rintro e w1 ⟨v, rfl, hv0, hb1⟩
          obtain ⟨s0, hs0⟩ : ∃ s : Rat, s = psum (dots Y (colL LL k)) 0 := ⟨_, rfl⟩
          have HS0 := Lib.hid hs0
          have hv1 : FrV w1 v s0 := by rw [hs0]; exact hv0
          obtain ⟨B1, b1, B2, b2, rfl, _, _, _, _⟩ := FrIn.shape hv1
          have al := below_alloc0 w1 (.cells #[.bool (decide (s0.num < 0)), .slice B1 (dg s0.num.natAbs).length b1, .slice B2 (dg s0.den).length b2] 24)
          have RB := Lib.hid (show FBox (w1.alloc (.cells #[.bool (decide (s0.num < 0)), .slice B1 (dg s0.num.natAbs).length b1, .slice B2 (dg s0.den).length b2] 24)) w1.heap.size s0 from ⟨_, _, _, _, Blk.new w1 _ _, FrV.below hv1 al⟩)
          have HBW := Lib.hid (bl_trans (bl_trans HBL.out hb1) al)
          have hlt1 : w.heap.size ≤ w1.heap.size := (bl_trans HBL.out hb1).size
          obtain ⟨gS, hgS⟩ : ∃ g, g = w1.heap.size := ⟨_, rfl⟩
          rw [← hgS] at RB hlt1
          clear hs0 hv0 hv1 hb1 al e0
          go_wp2
          rw [← hgS]
          clear hgS
          go_loopw [9] (fun i wr => ∃ l : Nat, l ≤ LL.length ∧ i = .int .i64 (l : Int) ∧ FBox wr gS (psum (dots Y (colL LL k)) l) ∧ Below w.heap.size w wr) (fun i _ => LL.length - (intOf i).toNat)
          case atStart => exact ⟨0, by omega, rfl, by rw [← HS0.out]; exact RB.out, HBW.out⟩
          case round =>
            clear RB HBW HS0
            obtain ⟨l, hl, rfl, hRB, hby⟩ := hrel
            obtain ⟨D1, d1, D2, d2, KS, hsr⟩ := hRB
            have HBY := Lib.hid hby
            by_cases hlx : l < LL.length
            · obtain ⟨y, hy1⟩ : ∃ x, Y[l]? = some x := ⟨_, List.getElem?_eq_getElem (by have := HYL.out; omega)⟩
              obtain ⟨L, hL1⟩ : ∃ x, LL[l]? = some x := ⟨_, List.getElem?_eq_getElem hlx⟩
              have hLn : L.length = n := by have := HU.out L (List.mem_of_getElem? hL1); have := HN.out; omega
              obtain ⟨x, hx1⟩ : ∃ x, L[k]? = some x := ⟨_, List.getElem?_eq_getElem (by omega)⟩
              have fewy := HFY.out y (List.mem_of_getElem? hy1)
              have fewx := (HS.out.2.2.2 L (List.mem_of_getElem? hL1)).2 x (List.mem_of_getElem? hx1)
              obtain ⟨ay, cy', Y1, y1, Y2, y2, hsl, _, _, f0, f1, f2, hfy⟩ := HY.out.at hy1
              obtain ⟨rfl, rfl⟩ : Ay = some ay ∧ cy = cy' := by simpa using hsl
              obtain ⟨ad', c', AL, c1, hsl2, _, _, e1, hcl1, hcl2, hfl⟩ := HA.out.at hL1
              have hh : ad = ad' ∧ c = c' := by simpa using hsl2
              obtain rfl := hh.1
              obtain ⟨al, cl', X1, x1, X2, x2, hsl3, _, _, j0, j1, j2, hfx⟩ := hfl.at hx1
              obtain ⟨rfl, rfl⟩ : AL = some al ∧ c1 = cl' := by simpa using hsl3
              replace f0 := cell_below hby f0
              replace f1 := cell_below hby f1
              replace f2 := cell_below hby f2
              replace e1 := cell_below hby e1
              replace j0 := cell_below hby j0
              replace j1 := cell_below hby j1
              replace j2 := cell_below hby j2
              have hda := dots_at hy1 (colL_at hL1 hx1)
              have hps := psum_succ hda
              have hsa := SH1.out (l + 1) (by omega)
              have hs0 := SH1.out l (by omega)
              rw [hps] at hsa
              obtain ⟨p0, hp0⟩ : ∃ p, p = psum (dots Y (colL LL k)) l := ⟨_, rfl⟩
              rw [← hp0] at KS hsr hps hsa hs0
              have HPS := Lib.hid hps.symm
              have HSA := Lib.hid hsa
              have HSM := Lib.hid (SH2.out _ (List.mem_of_getElem? hda))
              have HQY := Lib.hid (show FrQ wr (.agg #[.bool y.1, .slice Y1 y.2.1.length y1, .slice Y2 y.2.2.length y2]) (fqd y) from ⟨y.1, y.2.1, y.2.2, hfy.below hby, by omega, rfl⟩)
              have HQX := Lib.hid (show FrQ wr (.agg #[.bool x.1, .slice X1 x.2.1.length x1, .slice X2 x.2.2.length x2]) (fqd x) from ⟨x.1, x.2.1, x.2.2, hfx.below hby, by omega, rfl⟩)
              have HQP := Lib.hid (FrV.q hsr hs0)
              have HKS := Lib.hid KS
              have s0c := KS.cell 0
              have s1c := KS.cell 1
              have s2c := KS.cell 2
              have hgS2 : gS < wr.heap.size := KS.lt
              have q2 : (l : Int) < (Y.length : Int) := by have := HYL.out; omega
              have q3 : (l : Int) < (LL.length : Int) := by omega
              have q4 : (k : Int) < (L.length : Int) := by omega
              clear hby hsl hsl2 hsl3 hy1 hL1 hx1 hda hps hsa hs0 hp0 hsr KS hfy hfl hfx hh hLn
              go_upto_region 10 with fail
              have hbw : Below wr.heap.size wr wr.drew := bl_drew _
              have mkS : ∀ w', Below wr.heap.size wr w' → (w'.cell? ⟨gS, 0, none⟩ = some (.bool (decide (p0.num < 0))) ∧ w'.cell? ⟨gS, 1, none⟩ = some (.slice D1 (dg p0.num.natAbs).length d1) ∧ w'.cell? ⟨gS, 2, none⟩ = some (.slice D2 (dg p0.den).length d2) ∧ w'.cell? (ay.add (l * 3)) = some (.bool y.1) ∧ w'.cell? ⟨(ay.add (l * 3)).block, (ay.add (l * 3)).off + 1, none⟩ = some (.slice Y1 y.2.1.length y1) ∧ w'.cell? ⟨(ay.add (l * 3)).block, (ay.add (l * 3)).off + 2, none⟩ = some (.slice Y2 y.2.2.length y2) ∧ w'.cell? (ad.add l) = some (.slice (some al) L.length c1) ∧ w'.cell? (al.add (k * 3)) = some (.bool x.1) ∧ w'.cell? ⟨(al.add (k * 3)).block, (al.add (k * 3)).off + 1, none⟩ = some (.slice X1 x.2.1.length x1) ∧ w'.cell? ⟨(al.add (k * 3)).block, (al.add (k * 3)).off + 2, none⟩ = some (.slice X2 x.2.2.length x2)) := fun w' hb => ⟨cell_below hb s0c, cell_below hb s1c, cell_below hb s2c, cell_below hb f0, cell_below hb f1, cell_below hb f2, cell_below hb e1, cell_below hb j0, cell_below hb j1, cell_below hb j2⟩
              refine wp_region_T (fun (w' : World) => w'.cell? ⟨gS, 0, none⟩ = some (.bool (decide (p0.num < 0))) ∧ w'.cell? ⟨gS, 1, none⟩ = some (.slice D1 (dg p0.num.natAbs).length d1) ∧ w'.cell? ⟨gS, 2, none⟩ = some (.slice D2 (dg p0.den).length d2) ∧ w'.cell? (ay.add (l * 3)) = some (.bool y.1) ∧ w'.cell? ⟨(ay.add (l * 3)).block, (ay.add (l * 3)).off + 1, none⟩ = some (.slice Y1 y.2.1.length y1) ∧ w'.cell? ⟨(ay.add (l * 3)).block, (ay.add (l * 3)).off + 2, none⟩ = some (.slice Y2 y.2.2.length y2) ∧ w'.cell? (ad.add l) = some (.slice (some al) L.length c1) ∧ w'.cell? (al.add (k * 3)) = some (.bool x.1) ∧ w'.cell? ⟨(al.add (k * 3)).block, (al.add (k * 3)).off + 1, none⟩ = some (.slice X1 x.2.1.length x1) ∧ w'.cell? ⟨(al.add (k * 3)).block, (al.add (k * 3)).off + 2, none⟩ = some (.slice X2 x.2.2.length x2)) 14 (by kernel_rfl) ?_
              have hS : (fun (w' : World) => w'.cell? ⟨gS, 0, none⟩ = some (.bool (decide (p0.num < 0))) ∧ w'.cell? ⟨gS, 1, none⟩ = some (.slice D1 (dg p0.num.natAbs).length d1) ∧ w'.cell? ⟨gS, 2, none⟩ = some (.slice D2 (dg p0.den).length d2) ∧ w'.cell? (ay.add (l * 3)) = some (.bool y.1) ∧ w'.cell? ⟨(ay.add (l * 3)).block, (ay.add (l * 3)).off + 1, none⟩ = some (.slice Y1 y.2.1.length y1) ∧ w'.cell? ⟨(ay.add (l * 3)).block, (ay.add (l * 3)).off + 2, none⟩ = some (.slice Y2 y.2.2.length y2) ∧ w'.cell? (ad.add l) = some (.slice (some al) L.length c1) ∧ w'.cell? (al.add (k * 3)) = some (.bool x.1) ∧ w'.cell? ⟨(al.add (k * 3)).block, (al.add (k * 3)).off + 1, none⟩ = some (.slice X1 x.2.1.length x1) ∧ w'.cell? ⟨(al.add (k * 3)).block, (al.add (k * 3)).off + 2, none⟩ = some (.slice X2 x.2.2.length x2)) _ := mkS _ hbw
              simp only [List.size_toArray, List.length_cons, List.length_nil, Nat.reduceAdd]
              refine wpAnyT_take 0 (some 43) (v := ?vr1_0) rfl rfl (by kernel_rfl) (by kernel_rfl) (by kernel_rfl) (by kernel_rfl) (fun _ _ _ h => h) rfl ?hyr1_0 hS ?restr1_0
              case hyr1_0 => (intro w hSw; (try dsimp only at hSw); go_simp; (try with_reducible rfl))
              (try simp only [Act.put, List.setIfInBounds_toArray, List.set_cons_zero, List.set_cons_succ])
              refine wpAnyT_take 1 (some 44) (v := ?vr1_1) rfl rfl (by kernel_rfl) (by kernel_rfl) (by kernel_rfl) (by kernel_rfl) (fun _ _ _ h => h) rfl ?hyr1_1 hS ?restr1_1
              case hyr1_1 => (intro w hSw; (try dsimp only at hSw); go_simp; (try with_reducible rfl))
              (try simp only [Act.put, List.setIfInBounds_toArray, List.set_cons_zero, List.set_cons_succ])
              refine wpAnyT_take 2 (some 45) (v := ?vr1_2) rfl rfl (by kernel_rfl) (by kernel_rfl) (by kernel_rfl) (by kernel_rfl) (fun _ _ _ h => h) rfl ?hyr1_2 hS ?restr1_2
              case hyr1_2 => (intro w hSw; (try dsimp only at hSw); go_simp; (try with_reducible rfl))
              (try simp only [Act.put, List.setIfInBounds_toArray, List.set_cons_zero, List.set_cons_succ])
              refine wpAnyT_take 3 (some 46) (v := ?vr1_3) rfl rfl (by kernel_rfl) (by kernel_rfl) (by kernel_rfl) (by kernel_rfl) (fun _ _ _ h => h) rfl ?hyr1_3 hS ?restr1_3
              case hyr1_3 => (intro w hSw; (try dsimp only at hSw); go_simp; (try with_reducible rfl))
              (try simp only [Act.put, List.setIfInBounds_toArray, List.set_cons_zero, List.set_cons_succ])
              refine wpAnyT_take 4 (some 47) (v := ?vr1_4) rfl rfl (by kernel_rfl) (by kernel_rfl) (by kernel_rfl) (by kernel_rfl) (fun _ _ _ h => h) rfl ?hyr1_4 hS ?restr1_4
              case hyr1_4 => (intro w hSw; (try dsimp only at hSw); go_simp; (try with_reducible rfl))
              (try simp only [Act.put, List.setIfInBounds_toArray, List.set_cons_zero, List.set_cons_succ])
              refine wpAnyT_take 5 (some 48) (v := ?vr1_5) rfl rfl (by kernel_rfl) (by kernel_rfl) (by kernel_rfl) (by kernel_rfl) (fun _ _ _ h => h) rfl ?hyr1_5 hS ?restr1_5
              case hyr1_5 => (intro w hSw; (try dsimp only at hSw); go_simp; (try with_reducible rfl))
              (try simp only [Act.put, List.setIfInBounds_toArray, List.set_cons_zero, List.set_cons_succ])
              refine wpAnyT_take 6 (some 49) (v := ?vr1_6) rfl rfl (by kernel_rfl) (by kernel_rfl) (by kernel_rfl) (by kernel_rfl) (fun _ _ _ h => h) rfl ?hyr1_6 hS ?restr1_6
              case hyr1_6 => (intro w hSw; (try dsimp only at hSw); go_simp; (try with_reducible rfl))
              (try simp only [Act.put, List.setIfInBounds_toArray, List.set_cons_zero, List.set_cons_succ])
              refine wpAnyT_take 7 (some 50) (v := ?vr1_7) rfl rfl (by kernel_rfl) (by kernel_rfl) (by kernel_rfl) (by kernel_rfl) (fun _ _ _ h => h) rfl ?hyr1_7 hS ?restr1_7
              case hyr1_7 => (intro w hSw; (try dsimp only at hSw); go_simp; (try with_reducible rfl))
              (try simp only [Act.put, List.setIfInBounds_toArray, List.set_cons_zero, List.set_cons_succ])
              refine wpAnyT_take 8 (some 51) (v := ?vr1_8) rfl rfl (by kernel_rfl) (by kernel_rfl) (by kernel_rfl) (by kernel_rfl) (fun _ _ _ h => h) rfl ?hyr1_8 hS ?restr1_8
              case hyr1_8 => (intro w hSw; (try dsimp only at hSw); go_simp; (try with_reducible rfl))
              (try simp only [Act.put, List.setIfInBounds_toArray, List.set_cons_zero, List.set_cons_succ])
              refine wpAnyT_take 9 (some 52) (v := ?vr1_9) rfl rfl (by kernel_rfl) (by kernel_rfl) (by kernel_rfl) (by kernel_rfl) (fun _ _ _ h => h) rfl ?hyr1_9 hS ?restr1_9
              case hyr1_9 => (intro w hSw; (try dsimp only at hSw); go_simp; (try with_reducible rfl))
              (try simp only [Act.put, List.setIfInBounds_toArray, List.set_cons_zero, List.set_cons_succ])
              refine wpAnyT_take 10 (some 53) (v := ?vr1_10) rfl rfl (by kernel_rfl) (by kernel_rfl) (by kernel_rfl) (by kernel_rfl) (fun _ _ _ h => h) rfl ?hyr1_10 hS ?restr1_10
              case hyr1_10 => (intro w hSw; (try dsimp only at hSw); go_simp; (try with_reducible rfl))
              (try simp only [Act.put, List.setIfInBounds_toArray, List.set_cons_zero, List.set_cons_succ])
              refine wpAnyT_take 11 (some 54) (v := ?vr1_11) rfl rfl (by kernel_rfl) (by kernel_rfl) (by kernel_rfl) (by kernel_rfl) (fun _ _ _ h => h) rfl ?hyr1_11 hS ?restr1_11
              case hyr1_11 => (intro w hSw; (try dsimp only at hSw); go_simp; (try with_reducible rfl))
              (try simp only [Act.put, List.setIfInBounds_toArray, List.set_cons_zero, List.set_cons_succ])
              refine wpAnyT_one (i := 12) rfl (by kernel_rfl) rfl (fun K hK => ?_)
              simp only [List.getElem_toArray, List.getElem_cons_succ, List.getElem_cons_zero]
              go_simp
              go_at_call 33
              with_reducible refine (rmulq _ _ _ (fqd y) (fqd x) (FrQ.below HQY.out hbw) (FrQ.below HQX.out hbw) HSM.out).mono ?_
              rintro e w5 ⟨v5, rfl, hv5, hb5⟩
              have hbw := bl_trans hbw hb5
              have hS2 := mkS _ hbw
              refine hK.out _ _ (fun _ => hS2) ?_
              clear hS K hK
              have hS := hS2
              clear hS2
              (try simp only [Act.put, List.setIfInBounds_toArray, List.set_cons_zero, List.set_cons_succ])
              refine wpAnyT_one (i := 13) rfl (by kernel_rfl) rfl (fun K hK => ?_)
              simp only [List.getElem_toArray, List.getElem_cons_succ, List.getElem_cons_zero]
              go_simp
              go_at_call 31
              with_reducible refine (raddq _ _ _ p0 (fqd y * fqd x) (FrQ.below HQP.out hbw) (FrV.q hv5 HSM.out) HSA.out).mono ?_
              rintro e w6 ⟨v6, rfl, hv6, hb6⟩
              rw [HPS.out] at hv6
              obtain ⟨C1, e1, C2, e2, rfl, _, _, _, _⟩ := FrIn.shape hv6
              have hbw := bl_trans hbw hb6
              have hS2 := mkS _ hbw
              refine hK.out _ _ (fun _ => hS2) ?_
              clear hS K hK
              have hS := hS2
              clear hS2
              (try simp only [Act.put, List.setIfInBounds_toArray, List.set_cons_zero, List.set_cons_succ])
              refine wpAnyT_one (i := 14) rfl (by kernel_rfl) rfl (fun K hK => ?_)
              have KS6 := HKS.out.below hbw
              have m0 := KS6.cell 0
              have m1 := KS6.cell 1
              have m2 := KS6.cell 2
              have mf := KS6.free
              have HB9 := Lib.hid (bl_trans HBY.out hbw)
              have HV6 := Lib.hid hv6
              have HK6 := Lib.hid KS6
              simp only [List.getElem_toArray, List.getElem_cons_succ, List.getElem_cons_zero]
              go_simp
              refine hK.out _ _ (fun h => absurd rfl h) ?_
              refine wpAnyT_done (by kernel_rfl) ?_ _
              clear hS K hK mkS hbw hv5 hb5 hv6 hb6 KS6
              go_wp2
              exact ⟨⟨l + 1, by omega, by go_num, FBox.set HK6.out (boolne _) (slne _ _ _) (slne _ _ _) HV6.out, three_below HB9.out (by omega) _ _ _⟩, by simp [intOf]; omega⟩
            · obtain rfl : l = LL.length := by omega
              obtain ⟨p0, hp0⟩ : ∃ p, p = psum (dots Y (colL LL k)) LL.length := ⟨_, rfl⟩
              rw [← hp0] at KS hsr
              have HP0 := Lib.hid hp0
              have k1 := KS.cell 1
              have kf := KS.free
              have hgt := num_len_gt (q := p0)
              by_cases hz : p0 = 0
              · rw [decide_eq_false (p := p0 ≠ 0) (fun h => h hz)] at hgt
                have hgn : ¬ 0 < (dg p0.num.natAbs).length := by have := of_decide_eq_false hgt; omega
                have HZ0 := Lib.hid hz
                clear hby hp0 hsr KS hz
                go_wp2
                exact ⟨⟨k + 1, by omega, by go_num, HBY.out, fun j hj => by
                  rcases Nat.lt_or_ge j k with h | h
                  · exact HZE.out j h
                  · obtain rfl : j = k := by omega
                    rw [← HP0.out]; exact HZ0.out⟩, by simp [intOf]; omega⟩
              · rw [decide_eq_true (p := p0 ≠ 0) hz] at hgt
                have hgn : 0 < (dg p0.num.natAbs).length := by have := of_decide_eq_true hgt; omega
                have HZ0 := Lib.hid hz
                clear hby hp0 hsr KS hz
                go_wp2
                go_ret
                exact ⟨false, rfl, ⟨fun h => by simp at h, fun h => absurd (HP0.out.trans (h.2.2.1 k (by rw [← HN.out]; exact hx))) HZ0.out⟩, HBY.out⟩
        · obtain rfl : k = n := by omega
          have q1 : ¬ (k : Int) < (k : Int) := by omega
          obtain ⟨sh1, sh2⟩ := dots_short (m := 214) (n := 3) (by omega) (by omega) HFY.out HS.out.2.2.1 HY.out.wd HB.out.wd (by omega)
          have SH1 := Lib.hid sh1
          have SH2 := Lib.hid sh2
          have hmin : min Y.length Rl.length = LL.length := by have := HYL.out; have := HLR.out; omega
          have HMIN := Lib.hid hmin
          clear hbl hze sh1 sh2 hmin
          go_wp2_with fail
          refine (rdot_gen _ _ _ Y Rl (HY.out.below HBL.out) (HB.out.below HBL.out) (by have := HYL.out; omega) (by have := HLR.out; omega) (FewD.mono HFY.out (by omega)) (FewD.mono HS.out.2.2.1 (by omega)) (fun k hk => SH1.out k (by have := HMIN.out; omega)) SH2.out).mono ?_
          rintro e w5 ⟨v5, rfl, hv5, hb5⟩
          rw [HMIN.out] at hv5
          obtain ⟨p0, hp0⟩ : ∃ p, p = psum (dots Y Rl) LL.length := ⟨_, rfl⟩
          rw [← hp0] at hv5
          have HP0 := Lib.hid hp0
          obtain ⟨C1, e1, C2, e2, rfl, _, _, _, _⟩ := FrIn.shape hv5
          have al := below_alloc0 w5 (.cells #[.bool (decide (p0.num < 0)), .slice C1 (dg p0.num.natAbs).length e1, .slice C2 (dg p0.den).length e2] 24)
          have K := Blk.new w5 24 #[.bool (decide (p0.num < 0)), .slice C1 (dg p0.num.natAbs).length e1, .slice C2 (dg p0.den).length e2]
          have k1 := K.cell 1
          have hgt := num_len_gt (q := p0)
          have HB9 := Lib.hid (bl_trans (bl_trans HBL.out hb5) al)
          clear hp0 hv5 hb5 al K e0
          by_cases hz : p0 = 0
          · rw [decide_eq_false (p := p0 ≠ 0) (fun h => h hz)] at hgt
            have hgn : ¬ 0 < (dg p0.num.natAbs).length := by have := of_decide_eq_false hgt; omega
            have HZ0 := Lib.hid hz
            clear hz
            go_wp2
            go_ret
            exact ⟨false, rfl, ⟨fun h => by simp at h, fun h => absurd HZ0.out (by rw [HP0.out]; exact h.2.2.2)⟩, HB9.out⟩
          · rw [decide_eq_true (p := p0 ≠ 0) hz] at hgt
            have hgn : 0 < (dg p0.num.natAbs).length := by have := of_decide_eq_true hgt; omega
            have HZ0 := Lib.hid hz
            clear hz
            go_wp2
            go_ret
            exact ⟨true, rfl, ⟨fun _ => ⟨HYL.out, by omega, fun j hj => HZE.out j (by rw [HN.out]; exact hj), by rw [← HP0.out]; exact HZ0.out⟩, fun _ => rfl⟩, HB9.out⟩
  · have g1 : ((Y.length : Int) != (LL.length : Int)) = true := bne_iff_ne.2 (by omega)
    have HYL := Lib.hid hyl
    clear hyl
    go_enter Try.func57, Try.ntmps57
    go_wp2
    go_ret
    exact ⟨false, rfl, ⟨fun h => by simp at h, fun h => absurd h.1 HYL.out⟩, Below.refl _ _⟩

end Go.Proofs.Ytdmgceckmciifaa
