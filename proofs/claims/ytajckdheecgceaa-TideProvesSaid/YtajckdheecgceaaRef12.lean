/- The reference: parts, the long way. -/
import Derived.Test.YtajckdheecgceaaRef1
set_option linter.unusedVariables false
set_option linter.unusedSimpArgs false
namespace Go.Proofs.Ytajckdheecgceaa
open Go.RowKit

set_option maxRecDepth 100000 in
set_option maxHeartbeats 4000000 in
theorem rparts_long (w : World) (va vb : Value) (a b : Nat) (ha : Nm w va a) (hb : Nm w vb b) (hle : b ≤ a) (hb0 : 0 < b) (sb : 2 ≤ (dg b).length) (sm : (dg a).length ≤ 1073741823) :
    Calls Try.prog 112 #[va, vb] w (PartsPost a b w) := by
  have hn := ncmp_nonneg hle
  have hlen := dg_len_mono hle
  have hbl := Nat.lt_of_lt_of_le (show 0 < 2 by omega) sb
  have r := wat_range (Wd_dg b) ((dg b).length - 1)
  have hx0 : 0 < wat (dg b) ((dg b).length - 1) := by
    have := dg_last (n := b) (by omega)
    have h : wat (dg b) ((dg b).length - 1) ≠ 0 := this
    omega
  have hx1 := r.2
  have hbl0 := below_alloc0 w (.cells #[.slice none 0 0, .slice none 0 0] 130)
  have K := Blk.new w 130 #[.slice none 0 0, .slice none 0 0]
  have hb' := hb
  obtain ⟨A, c, rfl, hl, hc, hr⟩ := hb'
  obtain ⟨ad, rfl, hcell⟩ := hr hbl
  have c0 := hcell ((dg b).length - 1) (by omega)
  obtain ⟨A1, c1, rfl⟩ := ha.shape
  have g1 : (((dg b).length : Int) == 1) = false := beq_eq_false_iff_ne.2 (by omega)
  clear hr hcell r
  go_enter Try.func112, Try.ntmps112
  go_wp2_with fail
  refine (rorder_calls _ _ _ _ _ (ha.below hbl0) (hb.below hbl0)).mono ?_
  rintro e w1 ⟨rfl, hb1⟩
  have K1 := K.below hb1
  have hbw := bl_trans hbl0 hb1
  have c2 := cell_below hbw c0
  obtain ⟨x, hx⟩ : ∃ x, x = wat (dg b) ((dg b).length - 1) := ⟨_, rfl⟩
  rw [← hx] at hx0 hx1 c2
  have HX := Lib.hid hx
  clear hx c0
  go_wp2
  go_loopw [7] (fun s wr => ∃ n : Nat, s = .int .u64 (n : Int) ∧ n < 32 ∧ x.toNat * 2 ^ n < 4294967296 ∧ wr = w1) (fun s _ => 32 - (intOf s).toNat)
  case atStart => exact ⟨0, rfl, by omega, by omega, rfl⟩
  case round =>
    obtain ⟨n, rfl, hn32, hsm, rfl⟩ := hrel
    have tb := top_bit (n := n) (Int.le_of_lt hx0) hsm
    by_cases ht : x.toNat * 2 ^ n < 2147483648
    · rw [decide_eq_true ht] at tb
      have HS := Lib.hid hsm
      have HT := Lib.hid ht
      have h31 : n < 31 := by
        apply Nat.lt_of_not_le
        intro h
        have h2 := Nat.pow_le_pow_right (show 0 < 2 by omega) h
        have h3 := Nat.mul_le_mul (show 1 ≤ x.toNat by omega) h2
        rw [Nat.one_mul] at h3
        omega
      clear hsm ht
      go_wp2
      refine ⟨⟨n + 1, by go_num, by omega, ?_, trivial⟩, by simp [intOf]; try omega⟩
      have := HT.out
      rw [Nat.pow_succ, ← Nat.mul_assoc]
      omega
    rw [decide_eq_false ht] at tb
    have HN := Lib.hid (norm_len sb hn32 (by rw [← HX.out]; omega) (by rw [← HX.out]; exact hsm))
    clear hsm ht K hbl0
    go_wp2_with fail
    refine (rshift_calls _ _ _ n (RdI.below hb hbw) (Wd_dg b) hn32 (by omega)).mono ?_
    rintro e w3 ⟨gv, V, rfl, hgv, ov, wv, lv, nv4, hb3⟩
    have LV := ov.lt
    go_wp2_with fail
    refine (rshift_calls _ _ _ n (RdI.below ha (bl_trans hbw hb3)) (Wd_dg a) hn32 (by omega)).mono ?_
    rintro e w4 ⟨gu, R, rfl, hgu, ou, wu, lu, nu, hb4⟩
    have LU := ou.lt
    have NV := Lib.hid nv4
    have NU := Lib.hid nu
    have hV : nv (V.take (dg b).length) = b * 2 ^ n := by
      have h1 := nv_split V (dg b).length (by omega)
      rw [NV.out, nv_dg] at h1
      have h2 := HN.out.2.2.1
      rcases Nat.eq_zero_or_pos (nv (V.drop (dg b).length)) with h0 | h0
      · rw [h0] at h1; omega
      · have := Nat.mul_le_mul_left (4294967296 ^ (dg b).length) h0
        rw [Nat.mul_one] at this
        omega
    have HV := Lib.hid hV
    clear nv4 nu hV
    have hmk := fun w => mk_u32 (((dg a).length : Int) - ((dg b).length : Int) + 1) (by omega) (by omega) w
    have hbb : Below w.heap.size w w4 := bl_trans (bl_trans hbw hb3) hb4
    have hB4 := hbb.size
    have hB3 := (bl_trans hbw hb3).size
    have hB2 := hbw.size
    have K4 := (K1.below hb3).below hb4
    have lK := K1.lt
    have ov4 := ov.below hb4
    have D0 := Lib.hid (DivRel.start lu wu (by rw [NU.out, nv_dg]) hn32 hlen sb HN.out.2.1)
    clear hb1 hbw hb3 hb4 ov K1 tb NU
    clear c2 HX hx0 hx1
    go_wp2
    obtain ⟨gq, hgq⟩ : ∃ g, g = w4.heap.size := ⟨_, rfl⟩
    rw [← hgq]
    go_loopw [12] (fun i wr => ∃ (k : Nat) (R Q : List Int), k ≤ (dg a).length + 1 - (dg b).length ∧ i = .int .i64 ((k : Int) - 1) ∧ DivRel R Q (b * 2 ^ n) (a * 2 ^ n) ((dg a).length + 1) (dg b).length k ∧ Ow wr gu R ∧ Ow wr gv V ∧ Ow wr gq Q ∧ Blk wr w.heap.size 130 #[.slice none 0 0, .slice none 0 0] ∧ Below w.heap.size w wr)
      (fun i _ => (intOf i + 1).toNat)
    case atStart =>
      refine ⟨_, _, _, Nat.le_refl _, by go_num, D0.out, ou.below (below_alloc0 _ _), ov4.below (below_alloc0 _ _), ?_, K4.below (below_alloc0 _ _), hbb.alloc hB4 _⟩
      rw [hgq, show (dg a).length + 1 - (dg b).length = (dg a).length - (dg b).length + 1 by omega]
      exact Ow.zeros _ _
    case round =>
      have hvq : gv < gq := by omega
      have hwv : w.heap.size < gv := by omega
      have hvu : gv < gu := by omega
      have huq : gu < gq := by omega
      clear D0 ou ov4 hbb hmk hgq K4 hB4 hB3 hB2 lK LU LV hgu hgv ha hb hle hn hl hc
      obtain ⟨k, R, Q, hk, rfl, hd, ou, ov, oq, hK, hbb⟩ := hrel
      have HD := Lib.hid hd
      have lR := hd.lenR
      have lQ := hd.lenQ
      clear hd
      by_cases h0 : 0 < k
      · obtain ⟨j, rfl⟩ : ∃ j, k = j + 1 := ⟨k - 1, by omega⟩
        rw [show ((j + 1 : Nat) : Int) - 1 = (j : Int) by omega]
        have hwin := HD.out.win HN.out.2.2.1
        have HWIN := Lib.hid hwin
        have lq : gq < wr.heap.size := oq.lt
        have hne1 : gv ≠ gu := by omega
        have hne2 : gq ≠ gu := by omega
        have hne3 : gq ≠ gv := by omega
        have hne4 : w.heap.size ≠ gu := by omega
        have hne5 : w.heap.size ≠ gq := by omega
        have HNR := Lib.hid (top_word wv sb (by omega) (by rw [HV.out]; exact HN.out.2.1))
        have hul := hwin.2.1
        have hwu : Wd ((R.drop j).take ((dg b).length + 1)) := Wd_take (Wd_drop HD.out.wdR _) _
        have hU := hWin_of (j := j) (n := (dg b).length) ou (by omega)
        obtain ⟨u, hu⟩ : ∃ u, u = (R.drop j).take ((dg b).length + 1) := ⟨_, rfl⟩
        obtain ⟨P, hP⟩ : ∃ P, P = R.take j := ⟨_, rfl⟩
        obtain ⟨S, hS⟩ : ∃ S, S = R.drop (j + (dg b).length + 1) := ⟨_, rfl⟩
        rw [← hu, ← hP, ← hS] at hU
        rw [← hu] at hul hwu
        have hnu : nv u = nv (R.drop j) := by rw [hu]; exact hwin.2.2.1
        have KN := Lib.hid (kn_of sb hul hwu (show (dg b).length ≤ V.length by omega) wv HNR.out (by rw [HV.out, hnu]; exact hwin.2.2.2))
        have HU := Lib.hid hu
        have HP := Lib.hid hP
        have HS := Lib.hid hS
        have HNU := Lib.hid hnu
        have hjm : j + (dg b).length + 1 ≤ (dg a).length + 1 := by omega
        have hjq : j < Q.length := by omega
        have lV : (dg b).length ≤ V.length := by omega
        have hmm : (dg b).length ≤ 1073741823 := by omega
        have hjj : j ≤ 1073741823 := by omega
        clear hwin hu hP hS hnu hk lR lQ
        have r0 := wat_range wv ((dg b).length - 1)
        have r1 := wat_range wv ((dg b).length - 2)
        have s0 := wat_range hwu ((dg b).length - 2)
        have s1 := wat_range hwu ((dg b).length - 1)
        have s2 := wat_range hwu (dg b).length
        have r0a := r0.1
        have r0b := r0.2
        have r1a := r1.1
        have r1b := r1.2
        have s0a := s0.1
        have s0b := s0.2
        have s1a := s1.1
        have s1b := s1.2
        have s2a := s2.1
        have s2b := s2.2
        clear r0 r1 s0 s1 s2
        have c0 := ov.cell (j := (dg b).length - 1) (by omega)
        have c1 := ov.cell (j := (dg b).length - 2) (by omega)
        have d1 := hU.cell (i := (dg b).length - 1) (by omega)
        have d2 := hU.cell (i := (dg b).length) (by omega)
        have ho := or_shl64 (wat u (dg b).length) (wat u ((dg b).length - 1)) s2a s2b s1a s1b
        have hz : ¬ wat V ((dg b).length - 1) = 0 := by have := HNR.out; omega
        have e0 : IntKind.i64.wrap ((j : Int) + ((dg b).length : Int)) = (j : Int) + ((dg b).length : Int) := IntWalk.i64_in _ (by omega)
        have e1 : 0 ≤ (j : Int) + ((dg b).length : Int) := by omega
        have e2 : (j : Int) + ((dg b).length : Int) < ((dg a).length : Int) + 1 := by omega
        have e3 : ((j : Int) + ((dg b).length : Int)).toNat = j + (dg b).length := by omega
        have e4 : IntKind.i64.wrap ((j : Int) + ((dg b).length : Int) - 1) = (j : Int) + ((dg b).length : Int) - 1 := IntWalk.i64_in _ (by omega)
        have e5 : 0 ≤ (j : Int) + ((dg b).length : Int) - 1 := by omega
        have e6 : (j : Int) + ((dg b).length : Int) - 1 < ((dg a).length : Int) + 1 := by omega
        have e7 : ((j : Int) + ((dg b).length : Int) - 1).toNat = j + ((dg b).length - 1) := by omega
        go_wp2
        go_quiet (fail)
        have H0 : PHold 130 w gu gv gq j P u S V Q wr := ⟨hU, ov, oq, hK, hbb⟩
        go_upto_block 4 with fail
        generalize hw1 : World.drewN _ _ = w1
        have H1 : PHold 130 w gu gv gq j P u S V Q w1 := by rw [← hw1]; exact H0.drewN _
        have G0 := Lib.hid (Guess.start KN.out s2a s1a r0a)
        clear hw1 hU ov oq hK hbb c0 c1 d1 d2 H0 ho e0 e1 e2 e3 e4 e5 e6 e7
        go_cut [14] (fun s14 wx => ∃ gi : Int, s14 = .int .u64 gi ∧ Guessed (nv u) (nv (V.take (dg b).length)) gi ∧ PHold 130 w gu gv gq j P u S V Q wx)
        case first =>
          go_wp2
          go_loopw [14, 15] (fun s r wr => ∃ gi ri : Int, s = .int .u64 gi ∧ r = .int .u64 ri ∧ ri < 4294967296 ∧ Guess (nv u) (nv (V.take (dg b).length)) (wat V ((dg b).length - 1)) ((wat u (dg b).length).toNat * 4294967296 + (wat u ((dg b).length - 1)).toNat) gi ri ∧ PHold 130 w gu gv gq j P u S V Q wr)
            (fun s _ _ => (intOf s).toNat)
          case atStart => exact ⟨_, _, rfl, rfl, G0.out.2, G0.out.1, H1⟩
          case round =>
            clear G0 H1
            obtain ⟨gi, ri, rfl, rfl, hri, hg, H1⟩ := hrel
            have HG := Lib.hid hg
            have g0 := hg.g0
            have g1 := hg.g1
            have r0 := hg.r0
            have c0 := H1.2.1.cell (j := (dg b).length - 1) (by omega)
            have c1 := H1.2.1.cell (j := (dg b).length - 2) (by omega)
            have d0 := H1.1.cell (i := (dg b).length - 2) (by omega)
            have ho := or_shl64 ri (wat u ((dg b).length - 2)) r0 hri s0a s0b
            have hH := Lib.hid H1
            clear hg H1
            by_cases hc : 4294967296 ≤ gi
            · have HD := Lib.hid (HG.out.down KN.out hri r0a r0b (.inl hc))
              have hg1 := HD.out.1
              have q0 : decide (4294967295 < gi) = true := decide_eq_true (by omega)
              clear c1 d0 ho
              go_wp2
              go_quiet (fail)
              clear q0
              go_wp2
              · go_meet
                have hbr : 4294967295 < ri + wat V ((dg b).length - 1) := by assumption
                exact ⟨_, rfl, HD.out.2.fin KN.out (.inr (by omega)), hH.out.drewN _⟩
              · have hnb : ri + wat V ((dg b).length - 1) < 4294967296 := by first | (have hx : ri + wat V ((dg b).length - 1) ≤ 4294967295 := by assumption
                                                                                      omega) | (have hx : ¬ 4294967295 < ri + wat V ((dg b).length - 1) := by assumption
                                                                                                omega)
                exact ⟨⟨_, _, rfl, rfl, hnb, HD.out.2, hH.out.drewN _⟩, by simp [intOf]; omega⟩
            · have q0 : decide (4294967295 < gi) = false := decide_eq_false (by omega)
              have q6 : ((dg b).length : Int) - 2 < ((dg b).length : Int) := by omega
              have q1 : IntKind.i64.wrap (((dg b).length : Int) - 2) = ((dg b).length : Int) - 2 := IntWalk.i64_in _ (by omega)
              have m1 := mul_bound g0 (by omega) r1a r1b
              have m1a := m1.1
              have m1b := m1.2
              clear m1
              have q2 : IntKind.u64.wrap (ri * 4294967296) = ri * 4294967296 := wraps_u64 _ (by omega) (by omega)
              have q3 : IntKind.u64.wrap (gi * wat V ((dg b).length - 2)) = gi * wat V ((dg b).length - 2) := wraps_u64 _ (by omega) (by omega)
              have q4 : 0 ≤ ((dg b).length : Int) - 2 := by omega
              have q5 : (((dg b).length : Int) - 2).toNat = (dg b).length - 2 := by omega
              have e0 : IntKind.i64.wrap ((j : Int) + ((dg b).length : Int)) = (j : Int) + ((dg b).length : Int) := IntWalk.i64_in _ (by omega)
              have e4 : IntKind.i64.wrap ((j : Int) + ((dg b).length : Int) - 2) = (j : Int) + ((dg b).length : Int) - 2 := IntWalk.i64_in _ (by omega)
              have e5 : 0 ≤ (j : Int) + ((dg b).length : Int) - 2 := by omega
              have e6 : (j : Int) + ((dg b).length : Int) - 2 < ((dg a).length : Int) + 1 := by omega
              have e7 : ((j : Int) + ((dg b).length : Int) - 2).toNat = j + ((dg b).length - 2) := by omega
              by_cases hd : ri * 4294967296 + wat u ((dg b).length - 2) < gi * wat V ((dg b).length - 2)
              · have HD := Lib.hid (HG.out.down KN.out hri r0a r0b (.inr (toNat_lt_mul g0 r1a r0 s0a hd)))
                have hg1 := HD.out.1
                go_wp2
                go_quiet (fail)
                clear q0 q1 q2 q3 q4 q5 q6 e0 e4 e5 e6 e7
                go_wp2
                · go_meet
                  have hbr : 4294967295 < ri + wat V ((dg b).length - 1) := by assumption
                  exact ⟨_, rfl, HD.out.2.fin KN.out (.inr (by omega)), hH.out.drewN _⟩
                · have hnb : ri + wat V ((dg b).length - 1) < 4294967296 := by first | (have hx : ri + wat V ((dg b).length - 1) ≤ 4294967295 := by assumption
                                                                                        omega) | (have hx : ¬ 4294967295 < ri + wat V ((dg b).length - 1) := by assumption
                                                                                                  omega)
                  exact ⟨⟨_, _, rfl, rfl, hnb, HD.out.2, hH.out.drewN _⟩, by simp [intOf]; omega⟩
              · have HD := Lib.hid (HG.out.fin KN.out (.inl ⟨by omega, toNat_le_mul g0 r1a r0 s0a hd⟩))
                go_wp2
                go_quiet (fail)
                clear q0 q1 q2 q3 q4 q5 q6 e0 e4 e5 e6 e7
                go_wp2
                go_meet
                exact ⟨_, rfl, HD.out, hH.out.drewN _⟩
        case rest =>
          clear G0 H1
          obtain ⟨gi, rfl, hg, H1⟩ := hcut
          have HGD := Lib.hid hg
          have g0 := hg.g0
          have g1 := hg.g1
          have hv0 := Lib.hid KN.out.vpos
          have hH := Lib.hid H1
          clear hg H1
          go_wp2
          go_loopw [16, 17, 18] (fun c bw i wr => ∃ (k : Nat) (x y : Int) (u' : List Int), k ≤ (dg b).length + 1 ∧ c = .int .u64 y ∧ bw = .int .u64 x ∧ i = .int .i64 (k : Int) ∧ u'.length = (dg b).length + 1 ∧ (k ≤ (dg b).length → SubM V u u' (dg b).length k gi y x) ∧ (k = (dg b).length + 1 → SubF V u u' (dg b).length gi x) ∧ PHold 130 w gu gv gq j P u' S V Q wr)
            (fun _ _ i _ => (dg b).length + 1 - (intOf i).toNat)
          case atStart => exact ⟨0, 0, 0, u, by omega, rfl, rfl, rfl, hul, fun _ => SubM.start hul hwu, fun h => by omega, hH.out⟩
          case round =>
            clear hH
            obtain ⟨k, x, y, u', hk, rfl, rfl, rfl, hl, hs1, hs2, H1⟩ := hrel
            have HS1 := Lib.hid hs1
            have HS2 := Lib.hid hs2
            have hH := Lib.hid H1
            clear hs1 hs2
            by_cases hx : k < (dg b).length
            · have hs := HS1.out (by omega)
              have HS := Lib.hid hs
              have y0 := hs.c0
              have y1 := hs.c1
              have x0 := hs.b0
              have x1 := hs.b1
              have hw := hs.wd
              have r := wat_range wv k
              have ra := r.1
              have rb := r.2
              have s := wat_range hw k
              have sa := s.1
              have sb' := s.2
              have m1 := mul_bound g0 g1 ra rb
              have m1a := m1.1
              have m1b := m1.2
              have c0 := H1.2.1.cell (j := k) (by omega)
              have d0 := H1.1.cell (i := k) (by omega)
              have f0 := H1.1.free (j + k)
              have am := and_mask (y + gi * wat V k) (by omega) (by omega)
              clear r s m1 hs H1 HS1 HS2
              by_cases ht : wat u' k < (y + gi * wat V k) % 4294967296 + x
              · have am2 := and_small (x := (wat u' k + 4294967296 - ((y + gi * wat V k) % 4294967296 + x))) (by omega) (by omega)
                go_wp2
                exact ⟨⟨k + 1, _, _, _, by omega, rfl, rfl, by go_num, by simpa using hl, fun _ => HS.out.step (y := 1) wv hwu hul hx (by omega) ⟨g0, g1⟩ rfl (by omega) (by omega) (by omega), fun h => by omega, hH.out.set hne1 hne2 (by omega) (by omega) _⟩, by simp [intOf]; try omega⟩
              · have am2 := and_small (x := (wat u' k - ((y + gi * wat V k) % 4294967296 + x))) (by omega) (by omega)
                go_wp2
                exact ⟨⟨k + 1, _, _, _, by omega, rfl, rfl, by go_num, by simpa using hl, fun _ => HS.out.step (y := 0) wv hwu hul hx (by omega) ⟨g0, g1⟩ rfl (by omega) (by omega) (by omega), fun h => by omega, hH.out.set hne1 hne2 (by omega) (by omega) _⟩, by simp [intOf]; try omega⟩
            · by_cases hx2 : k = (dg b).length
              · have hs := HS1.out (by omega)
                rw [hx2] at hs
                have HS := Lib.hid hs
                have y0 := hs.c0
                have y1 := hs.c1
                have x0 := hs.b0
                have x1 := hs.b1
                have hw := hs.wd
                have s := wat_range hw (dg b).length
                have sa := s.1
                have sb' := s.2
                have d0 := H1.1.cell (i := (dg b).length) (by omega)
                have f0 := H1.1.free (j + (dg b).length)
                have am := and_small (x := y) (by omega) (by omega)
                subst hx2
                clear s hs H1 HS1 HS2
                by_cases ht : wat u' (dg b).length < y + x
                · have am2 := and_small (x := (wat u' (dg b).length + 4294967296 - (y + x))) (by omega) (by omega)
                  go_wp2
                  exact ⟨⟨(dg b).length + 1, _, _, _, by omega, rfl, rfl, by go_num, by simpa using hl, fun h => by omega, fun _ => HS.out.wrong' hul hwu hv0.out HGD.out ht, hH.out.set hne1 hne2 (by omega) (by omega) _⟩, by simp [intOf]; try omega⟩
                · have am2 := and_small (x := (wat u' (dg b).length - (y + x))) (by omega) (by omega)
                  go_wp2
                  exact ⟨⟨(dg b).length + 1, _, _, _, by omega, rfl, rfl, by go_num, by simpa using hl, fun h => by omega, fun _ => HS.out.right' hul hv0.out HGD.out (by omega), hH.out.set hne1 hne2 (by omega) (by omega) _⟩, by simp [intOf]; try omega⟩
              · obtain rfl : k = (dg b).length + 1 := by omega
                have hf := HS2.out rfl
                have HF := Lib.hid hf
                have ho := hf.out
                clear HS1 HS2 hf hx hx2 H1
                have hx01 : x = 0 ∨ x = 1 := by rcases ho with h | h; exact .inl h.1; exact .inr h.1
                clear ho
                rcases hx01 with rfl | rfl
                · have HQ := Lib.hid (HF.out.fine g0)
                  have wg : gi % 4294967296 = gi := Int.emod_eq_of_lt g0 g1
                  have cq := hH.out.2.2.1.cell (j := j) (by omega)
                  have fq := hH.out.2.2.1.free j
                  go_wp2
                  obtain ⟨p1, p2, p3, p4, p5⟩ := hH.out.put hne3.symm hne2.symm (by omega) j gi
                  have hst := HD.out.step (u := u') HN.out.2.2.1 (Nat.mul_pos hb0 (Nat.two_pow_pos n)) HQ.out.len HQ.out.wd (by rw [HQ.out.val, HV.out, HNU.out]) gi (by rw [← HV.out, ← HNU.out]; exact HQ.out.q)
                  rw [← HP.out, ← HS.out] at hst
                  exact ⟨⟨j, _, _, by omega, rfl, hst, p1, p2, p3, p4, p5⟩, by simp [intOf]; try omega⟩
                · have HP1 := HF.out.pos
                  go_wp2
                  go_loopw [22, 23] (fun c i wr => ∃ (k : Nat) (z : Int) (u'' : List Int), k ≤ (dg b).length + 1 ∧ c = .int .u64 z ∧ i = .int .i64 (k : Int) ∧ u''.length = (dg b).length + 1 ∧ (k ≤ (dg b).length → AddM V u' u'' (dg b).length k z) ∧ (k = (dg b).length + 1 → DigF u u'' (nv (V.take (dg b).length)) (dg b).length (gi - 1)) ∧ PHold 130 w gu gv gq j P u'' S V Q wr)
                    (fun _ i _ => (dg b).length + 1 - (intOf i).toNat)
                  case atStart => exact ⟨0, 0, u', by omega, rfl, rfl, hl, fun _ => AddM.start hl HF.out.wd, fun h => by omega, hH.out⟩
                  case round =>
                    clear hH
                    obtain ⟨k, z, u'', hk, rfl, rfl, hl2, ha1, ha2, H1⟩ := hrel
                    have HA1 := Lib.hid ha1
                    have HA2 := Lib.hid ha2
                    have hH := Lib.hid H1
                    clear ha1 ha2
                    by_cases hx : k < (dg b).length
                    · have hs := HA1.out (by omega)
                      have HS1 := Lib.hid hs
                      have z0 := hs.c0
                      have z1 := hs.c1
                      have hw := hs.wd
                      have r := wat_range wv k
                      have ra := r.1
                      have rb := r.2
                      have s := wat_range hw k
                      have sa := s.1
                      have sb' := s.2
                      have c0 := H1.2.1.cell (j := k) (by omega)
                      have d0 := H1.1.cell (i := k) (by omega)
                      have f0 := H1.1.free (j + k)
                      have am := and_mask (wat u'' k + z + wat V k) (by omega) (by omega)
                      clear r s hs H1 HA1 HA2
                      go_wp2
                      exact ⟨⟨k + 1, _, _, by omega, rfl, by go_num, by simpa using hl2, fun _ => HS1.out.step wv hl hx (by omega) (by omega), fun h => by omega, hH.out.set hne1 hne2 (by omega) (by omega) _⟩, by simp [intOf]; try omega⟩
                    · by_cases hx2 : k = (dg b).length
                      · have hs := HA1.out (by omega)
                        rw [hx2] at hs
                        have HS1 := Lib.hid hs
                        have z0 := hs.c0
                        have z1 := hs.c1
                        have hw := hs.wd
                        have s := wat_range hw (dg b).length
                        have sa := s.1
                        have sb' := s.2
                        have d0 := H1.1.cell (i := (dg b).length) (by omega)
                        have f0 := H1.1.free (j + (dg b).length)
                        have am := and_mask (wat u'' (dg b).length + z) (by omega) (by omega)
                        subst hx2
                        clear s hs H1 HA1 HA2
                        go_wp2
                        exact ⟨⟨(dg b).length + 1, _, _, by omega, rfl, by go_num, by simpa using hl2, fun h => by omega, fun _ => HF.out.more wv (by omega) hv0.out HS1.out, hH.out.set hne1 hne2 (by omega) (by omega) _⟩, by simp [intOf]; try omega⟩
                      · obtain rfl : k = (dg b).length + 1 := by omega
                        have HQ := Lib.hid (HA2.out rfl)
                        have g2 := HQ.out.g0
                        have wg : (gi - 1) % 4294967296 = gi - 1 := Int.emod_eq_of_lt (by omega) (by omega)
                        have cq := hH.out.2.2.1.cell (j := j) (by omega)
                        have fq := hH.out.2.2.1.free j
                        clear HA1 HA2 H1 hx hx2
                        go_wp2
                        obtain ⟨p1, p2, p3, p4, p5⟩ := hH.out.put hne3.symm hne2.symm (by omega) j (gi - 1)
                        have hst := HD.out.step (u := u'') HN.out.2.2.1 (Nat.mul_pos hb0 (Nat.two_pow_pos n)) HQ.out.len HQ.out.wd (by rw [HQ.out.val, HV.out, HNU.out]) (gi - 1) (by rw [← HV.out, ← HNU.out]; exact HQ.out.q)
                        rw [← HP.out, ← HS.out] at hst
                        exact ⟨⟨j, _, _, by omega, rfl, hst, p1, p2, p3, p4, p5⟩, by simp [intOf]; try omega⟩
      · obtain rfl : k = 0 := by omega
        have HE := Lib.hid (HD.out.done hb0)
        have hwq := HD.out.wdQ
        have HR := Lib.hid (show RdI .u32 wr (.slice (some ⟨gu, 0, none⟩) ((dg a).length + 1) ((dg a).length + 1)) R by
          have := ou.rd ((dg a).length + 1) ((dg a).length + 1) (by omega) (Nat.le_refl _) (by omega)
          rw [List.take_of_length_le (by omega)] at this
          exact this)
        have hlq : (dg a).length - (dg b).length + 1 = Q.length := by omega
        rw [hlq]
        have HRQ := Lib.hid (show RdI .u32 wr (.slice (some ⟨gq, 0, none⟩) Q.length Q.length) Q by
          have := oq.rd Q.length Q.length (by omega) (Nat.le_refl _) (by omega)
          rw [List.take_of_length_le (by omega)] at this
          exact this)
        clear ou oq ov hlq
        go_wp2_with fail
        refine (rtrim _ _ Q HRQ.out hwq).mono ?_
        rintro e w5 ⟨v5, rfl, hv5, hb5⟩
        go_wp2_with fail
        refine (rback_calls _ _ R n (HR.out.below hb5) HD.out.wdR hn32 (by omega)).mono ?_
        rintro e w6 ⟨v6, rfl, hv6, hb6⟩
        have hb56 := bl_trans hb5 hb6
        have K6 := hK.below hb56
        have hbw6 := bl_trans hbb hb56
        have m0 := K6.cell 0
        have m1 := K6.cell 1
        have f1 := K6.free
        rw [HE.out.2] at hv6
        rw [HE.out.1] at hv5
        have hv5' := hv5.below hb6
        obtain ⟨A3, c3, rfl⟩ := hv5.shape
        obtain ⟨A4, c4, rfl⟩ := hv6.shape
        clear hK hbb hb5 hb6 hb56 hv5 HR HRQ
        go_wp2
        exact bodyPost_ret (results_cell_row rfl _ _ w.heap.size 130 _ (0, 0) _ rfl (blk2 K6 _ _) Try.underlying130 rfl (by kernel_rfl)) rfl ⟨_, _, rfl, two_keep hv5' K6 (slne _ _ _) (slne _ _ _) _ _, two_keep hv6 K6 (slne _ _ _) (slne _ _ _) _ _, (hbw6.setCell (Nat.le_refl _) _).setCell (Nat.le_refl _) _⟩

end Go.Proofs.Ytajckdheecgceaa
