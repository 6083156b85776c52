/- Words: div, the long way. -/
import Derived.Test.YtdmgceckmciifaaDiv2
set_option linter.unusedVariables false
set_option linter.unusedSimpArgs false
namespace Go.Proofs.Ytdmgceckmciifaa
open Go.RowKit

set_option maxHeartbeats 1000000 in
set_option maxRecDepth 100000 in
theorem div_long (w : World) (va vb : Value) (a b : Nat) (ha : Nm w va a) (hb : Nm w vb b) (hle : b ≤ a) (hb0 : 0 < b) (sa : 2 < (dg a).length) (sb : 2 ≤ (dg b).length) (sm : (dg a).length ≤ 1073741823) :
    Calls Try.prog 77 #[va, vb] w (DivPost a b w) := by
  have hn := ncmp_nonneg hle
  have hlen := dg_len_mono hle
  have hbl := Nat.lt_of_lt_of_le (show 0 < 2 by omega) sb
  have r := wat_range (Wd_dg b) ((dg b).length - 1)
  have hx0 : 0 < wat (dg b) ((dg b).length - 1) := by
    have := dg_last (n := b) (by omega)
    have h : wat (dg b) ((dg b).length - 1) ≠ 0 := this
    omega
  have hx1 := r.2
  have hb' := hb
  obtain ⟨A, c, rfl, hl, hc, hr⟩ := hb'
  obtain ⟨ad, rfl, hcell⟩ := hr hbl
  have c0 := hcell ((dg b).length - 1) (by omega)
  clear hr hcell r
  have g1 : (((dg b).length : Int) == 1) = false := beq_eq_false_iff_ne.2 (by omega)
  go_enter Try.func77, Try.ntmps77
  go_wp2_with fail
  refine (cmp_calls _ _ _ _ _ ha hb).mono ?_
  rintro e w1 ⟨rfl, hb1⟩
  go_wp2_with fail
  refine (small_no _ _ _ (ha.below hb1) sa).mono ?_
  rintro e w2 ⟨rfl, hb2⟩
  have hb12 := bl_trans hb1 hb2
  have c2 := cell_below hb12 c0
  go_wp2_with fail
  refine (lz_calls _ _ hx0 hx1).mono ?_
  rintro e w2' ⟨n, rfl, hn32, hz1, hz2, rfl⟩
  have HN := Lib.hid (norm_len sb hn32 hz1 hz2)
  clear hz1 hz2
  go_wp2_with fail
  refine (shifted_post _ _ _ n (RdI.below ha hb12) (Wd_dg a) hn32 (by omega)).mono ?_
  rintro e w3 ⟨gu, R, rfl, hgu, ou, wu, lu, nu, hb3⟩
  have LU := ou.lt
  go_wp2_with fail
  refine (shifted_post _ _ _ n (RdI.below hb (bl_trans hb12 hb3)) (Wd_dg b) hn32 (by omega)).mono ?_
  rintro e w4 ⟨gv, V, rfl, hgv, ov, wv, lv, nv4, hb4⟩
  have LV := ov.lt
  have NV := Lib.hid nv4
  have NU := Lib.hid nu
  clear nv4 nu
  go_wp2_with fail
  refine (trim_calls _ _ _ _ _ ov wv (by omega) (Nat.le_refl _) (by omega)).mono ?_
  rintro e w4' ⟨m, hm, rfl, hmt, rfl⟩
  rw [NV.out, nv_dg] at hmt
  have hm2 : m = (dg b).length := by
    have := congrArg List.length hmt
    rw [HN.out.1, List.length_take] at this
    omega
  subst hm2
  have MT := Lib.hid hmt
  clear hmt
  have hmk := fun w => mk_words (((dg a).length : Int) + 1 - ((dg b).length : Int)) (by omega) (by omega) w
  have hbb : Below w.heap.size w w4' := bl_trans (bl_trans hb12 hb3) hb4
  have hB4 := hbb.size
  have hB3 := (bl_trans hb12 hb3).size
  have hB2 := hb12.size
  have ou4 := ou.below hb4
  have D0 := Lib.hid (DivRel.start lu wu (by rw [NU.out, nv_dg]) hn32 hlen sb HN.out.2.1)
  clear hb1 hb2 hb12 hb3 hb4 ou c0 c2 NU
  go_wp2
  obtain ⟨gq, hgq⟩ : ∃ g, g = w4'.heap.size := ⟨_, rfl⟩
  rw [← hgq]
  go_loopw [16] (fun i wr => ∃ (k : Nat) (R Q : List Int), k ≤ (dg a).length + 1 - (dg b).length ∧ i = .int .i64 ((k : Int) - 1) ∧ DivRel R Q (b * 2 ^ n) (a * 2 ^ n) ((dg a).length + 1) (dg b).length k ∧ Ow wr gu R ∧ Ow wr gv V ∧ Ow wr gq Q ∧ Below w.heap.size w wr)
    (fun i _ => (intOf i + 1).toNat)
  case atStart =>
    refine ⟨_, _, _, Nat.le_refl _, rfl, D0.out, ou4.below (below_alloc0 _ _), ov.below (below_alloc0 _ _), ?_, hbb.alloc hB4 _⟩
    rw [hgq]
    exact Ow.zeros _ _
  case round =>
    have hvq : gv < gq := by omega
    clear D0 ou4 ov hbb hmk hgq
    obtain ⟨k, R, Q, hk, rfl, hd, ou, ov, oq, hbb⟩ := hrel
    have HD := Lib.hid hd
    have lR := hd.lenR
    have lQ := hd.lenQ
    clear hd
    by_cases h0 : 0 < k
    · obtain ⟨j, rfl⟩ : ∃ j, k = j + 1 := ⟨k - 1, by omega⟩
      rw [show ((j + 1 : Nat) : Int) - 1 = (j : Int) by omega]
      have hwin := HD.out.win HN.out.2.2.1
      have HWIN := Lib.hid hwin
      have lq : gq < wr.heap.size := oq.lt
      have hne1 : gv ≠ gu := by omega
      have hne2 : gq ≠ gu := by omega
      have hne3 : gq ≠ gv := by omega
      have hVn : wat V ((dg b).length - 1) = wat (dg (b * 2 ^ n)) ((dg b).length - 1) := by
        rw [← MT.out]
        simp only [wat, List.getD_eq_getElem?_getD]
        rw [List.getElem?_take_of_lt (by omega)]
      have hRe : R.take j ++ ((R.drop j).take ((dg b).length + 1) ++ R.drop (j + (dg b).length + 1)) = R := by
        rw [show j + (dg b).length + 1 = j + ((dg b).length + 1) by omega, ← List.drop_drop, List.take_append_drop, List.take_append_drop]
      have hWin : Win wr gu j (R.take j) ((R.drop j).take ((dg b).length + 1)) (R.drop (j + (dg b).length + 1)) :=
        ⟨by rw [hRe]; exact ou, by rw [List.length_take]; omega⟩
      have WIN := Lib.hid hWin
      have HNR := Lib.hid (show 2147483648 ≤ wat V ((dg b).length - 1) by rw [hVn]; exact HN.out.2.2.2)
      have HSM := Lib.hid (show nv ((R.drop j).take ((dg b).length + 1)) < nv (V.take (dg b).length) * 4294967296 by rw [MT.out, nv_dg, hwin.2.2.1]; exact hwin.2.2.2)
      clear hwin hVn hRe hWin
      go_wp2_with fail
      rw [show j + (dg b).length + 1 - j = (dg b).length + 1 by omega]
      refine (digit_calls w.heap.size w wr gu j gv (dg b).length (dg b).length _ _ _ V WIN.out HWIN.out.2.1 (Wd_take (Wd_drop HD.out.wdR _) _) sb (by omega) (by omega) ov (by omega) wv hne1 (Nat.le_refl _) (by omega) HNR.out HSM.out hbb (by omega)).mono ?_
      rintro e w5 ⟨u', rfl, hw5, lu', wu', nu', ov5, bs5⟩
      rw [MT.out, nv_dg, HWIN.out.2.2.1] at nu' ⊢
      obtain ⟨q, hq⟩ : ∃ q : Int, q = ((nv (R.drop j) / (b * 2 ^ n) : Nat) : Int) := ⟨_, rfl⟩
      rw [← hq]
      have hst := Lib.hid (HD.out.step (u := u') HN.out.2.2.1 (Nat.mul_pos hb0 (Nat.two_pow_pos n)) lu' wu' nu' q hq)
      have oq5 : Ow w5 gq Q := (bs5.2.2 gq hne2 lq).trans oq
      have ou5 := hw5.1
      have hbb5 := bs5.1
      have f5 := oq5.free j
      have c5 := oq5.cell (j := j) (by omega)
      clear WIN hw5 bs5 nu' ou ov oq hq
      go_wp2
      refine ⟨⟨j, _, _, by omega, rfl, hst.out, ou5.other _ hne2.symm _, ov5.other _ hne3.symm _, oq5.set _ _, hbb5.setCell (show w.heap.size ≤ gq by omega) _⟩, by simp [intOf]; try omega⟩
    · obtain rfl : k = 0 := by omega
      have HE := Lib.hid (HD.out.done hb0)
      go_wp2_with fail
      refine (trim_nm _ _ _ _ _ oq HD.out.wdQ (by omega) (Nat.le_refl _) (by omega)).mono ?_
      rintro e w5 ⟨v5, rfl, hv5, rfl⟩
      have HR := Lib.hid (show RdI .u32 wr (.slice (some ⟨gu, 0, none⟩) ((dg a).length + 1) ((dg a).length + 1)) R by
        have := ou.rd ((dg a).length + 1) ((dg a).length + 1) (by omega) (Nat.le_refl _) (by omega)
        rw [List.take_of_length_le (by omega)] at this
        exact this)
      go_wp2_with fail
      refine (unshifted_calls _ _ _ n HR.out HD.out.wdR hn32 (by omega)).mono ?_
      rintro e w6 ⟨v6, rfl, hv6, hb6⟩
      go_wp2_with fail
      refine (trim_rd _ _ _ hv6 (Wd_dg _)).mono ?_
      rintro e w7 ⟨v7, rfl, hv7, hb7⟩
      rw [nv_dg, HE.out.2] at hv7
      rw [HE.out.1] at hv5
      go_wp2
      go_ret2
      exact ⟨_, _, rfl, (hv5.below hb6).below hb7, hv7, bl_trans (bl_trans hbb hb6) hb7⟩

/-- div. -/
theorem div_calls (w : World) (va vb : Value) (a b : Nat) (ha : Nm w va a) (hb : Nm w vb b) (hb0 : 0 < b) (sm : (dg a).length ≤ 1073741823) :
    Calls Try.prog 77 #[va, vb] w (DivPost a b w) := by
  by_cases hlt : a < b
  · exact div_less w va vb a b ha hb hlt (by omega)
  · by_cases s2 : (dg a).length ≤ 2
    · exact div_small w va vb a b ha hb (by omega) hb0 s2
    · have hb1 : (dg b).length ≠ 0 := fun h => by have := dg_len_zero.1 h; omega
      by_cases s1 : (dg b).length = 1
      · exact div_one w va vb a b ha hb (by omega) hb0 (by omega) s1 (by omega)
      · exact div_long w va vb a b ha hb (by omega) hb0 (by omega) (by omega) sm
end Go.Proofs.Ytdmgceckmciifaa
