/- Texts of fractions: the reference's Parse. -/
import Derived.Test.YtdmgceckmciifaaPrs2
import Derived.Test.YtdmgceckmciifaaRnum
set_option linter.unusedVariables false
set_option linter.unusedSimpArgs false
namespace Go.Proofs.Ytdmgceckmciifaa
open Go.RowKit

theorem right_low {neg : Bool} {n d : Nat} (hd : d ≠ 0) (hg : Nat.gcd n d = 1) (hz : NNZ neg n) : RightP neg (dg n) (dg d) := by
  obtain ⟨e1, e2⟩ := mk_low (neg := neg) hd hg
  have e3 : decide ((mkRat (sgn neg n) d).num < 0) = neg := by
    rw [e1]
    have := sgn_ltz hz
    cases neg <;> simp [this]
  have h := right_of (mkRat (sgn neg n) d)
  rw [e3, e1, e2, sgn_natAbs] at h
  exact h
theorem right_not {neg : Bool} {n d : Nat} (hg : Nat.gcd n d ≠ 1) : ¬ RightP neg (dg n) (dg d) := fun h => hg (by
  have := (h.parts (Wd_dg n) (Wd_dg d)).2.1
  rwa [nv_dg, nv_dg] at this)
theorem frv_low {w : World} {v1 v2 : Value} {neg : Bool} {n d : Nat} (hd : d ≠ 0) (hg : Nat.gcd n d = 1) (hz : NNZ neg n) (h1 : Nm w v1 n) (h2 : Nm w v2 d) : FrV w (.agg #[.bool neg, v1, v2]) (mkRat (sgn neg n) d) := by
  obtain ⟨e1, e2⟩ := mk_low (neg := neg) hd hg
  have e3 : decide ((mkRat (sgn neg n) d).num < 0) = neg := by
    rw [e1]
    have := sgn_ltz hz
    cases neg <;> simp [this]
  exact ⟨v1, v2, by rw [e3], by rw [e1, sgn_natAbs]; exact h1, by rw [e2]; exact h2, Wd_dg _, Wd_dg _⟩
theorem FrV.three {w : World} {v : Value} {q : Rat} {B : Nat} (h : FrV w v q) {x0 x1 x2 : Value} (h0 : w.cell? ⟨B, 0, none⟩ = some x0) (h1 : w.cell? ⟨B, 1, none⟩ = some x1) (h2 : w.cell? ⟨B, 2, none⟩ = some x2)
    (n0 : ∀ n, x0 ≠ .int .u32 n) (n1 : ∀ n, x1 ≠ .int .u32 n) (n2 : ∀ n, x2 ≠ .int .u32 n) (y0 y1 y2 : Value) : FrV (((w.setCell ⟨B, 0, none⟩ y0).setCell ⟨B, 1, none⟩ y1).setCell ⟨B, 2, none⟩ y2) v q := by
  obtain ⟨v1, v2, rfl, r1, r2, r3, r4⟩ := h
  exact ⟨v1, v2, rfl, r1.three h0 h1 h2 n0 n1 n2 _ _ _, r2.three h0 h1 h2 n0 n1 n2 _ _ _, r3, r4⟩
theorem abv_at {t : List UInt8} {k : Nat} {b : UInt8} (h : t[k]? = some b) : (k < (abv t).length → (b == 47) = false) ∧ (k = (abv t).length → b = 47) := by
  unfold abv
  induction t generalizing k with
  | nil => simp at h
  | cons x t ih =>
    rw [List.takeWhile_cons]
    by_cases hx : (x != 47) = true
    · rw [if_pos hx]
      cases k with
      | zero =>
        obtain rfl : x = b := by simpa using h
        exact ⟨fun _ => by simpa using hx, fun h0 => by simp at h0⟩
      | succ k =>
        obtain ⟨i1, i2⟩ := ih (k := k) (by simpa using h)
        exact ⟨fun h0 => i1 (by simpa using h0), fun h0 => i2 (by simpa using h0)⟩
    · rw [if_neg hx]
      refine ⟨fun h0 => by simp at h0, fun h0 => ?_⟩
      obtain rfl : k = 0 := by simpa using h0
      obtain rfl : x = b := by simpa using h
      simpa using hx
set_option maxRecDepth 100000 in
set_option maxHeartbeats 4000000 in
theorem rparse_calls (w : World) (l : List UInt8) (hl : l.length ≤ 1000) : Calls Try.prog 52 #[.string ⟨l.toArray⟩] w (ParsePost l w) := by
  obtain ⟨neg, hneg⟩ : ∃ b, b = decide (l.head? = some 45) := ⟨_, rfl⟩
  obtain ⟨t, ht⟩ : ∃ t, t = ptl l := ⟨_, rfl⟩
  have htl : t.length ≤ 1000 := by rw [ht]; exact Nat.le_trans (ptl_len l) hl
  have hal := abv_len t
  have HBAD := Lib.hid (pars_bad (l := l))
  have HWH := Lib.hid (pars_whole (l := l))
  have HPT := Lib.hid (pars_parts (l := l))
  rw [← ht, ← hneg] at HBAD HWH HPT
  have HT := Lib.hid (show t = if neg = true then l.tail else l by rw [ht, hneg]; rfl)
  have HNEG := Lib.hid hneg
  clear ht hneg
  obtain ⟨a, ha⟩ : ∃ a, a = abv t := ⟨_, rfl⟩
  rw [← ha] at HBAD HWH HPT hal
  have HA := Lib.hid ha
  clear ha
  have hK := Blk.new w 24 #[.bool false, .slice none 0 0, .slice none 0 0]
  have hbl0 := below_alloc0 w (.cells #[.bool false, .slice none 0 0, .slice none 0 0] 24)
  have hKB := Blk.new (w.alloc (.cells #[.bool false, .slice none 0 0, .slice none 0 0] 24)) 24 #[.bool false, .slice none 0 0, .slice none 0 0]
  have hbl1 := below_alloc0 (w.alloc (.cells #[.bool false, .slice none 0 0, .slice none 0 0] 24)) (.cells #[.bool false, .slice none 0 0, .slice none 0 0] 24)
  rw [show (w.alloc (.cells #[.bool false, .slice none 0 0, .slice none 0 0] 24)).heap.size = w.heap.size + 1 by simp] at hKB
  have K0 := Lib.hid (hK.below hbl1)
  have KB0 := Lib.hid hKB
  have B0 := Lib.hid (bl_trans hbl0 hbl1)
  clear hK hKB hbl0 hbl1
  go_enter Try.func52, Try.ntmps52
  go_upto_region 3 with fail
  generalize (w.alloc (.cells #[.bool false, .slice none 0 0, .slice none 0 0] 24)).alloc (.cells #[.bool false, .slice none 0 0, .slice none 0 0] 24) = W0 at K0 KB0 B0 ⊢
  go_cut [6] (fun v6 wx => v6 = .bool neg ∧ wx = W0)
  case first =>
    cases l with
    | nil =>
      obtain rfl : neg = false := by rw [HNEG.out]; rfl
      go_wp2
      all_goals go_meet
      case rel => exact ⟨rfl, rfl⟩
    | cons x r =>
      have xk := byte_at (l := x :: r) (k := 0) rfl
      have g : ((x.toNat : Int) == 45) = neg := by
        rw [HNEG.out]
        by_cases h : x = 45
        · subst h; rfl
        · have h2 : x.toNat ≠ 45 := fun h3 => h (UInt8.toNat_inj.1 (by rw [h3]; rfl))
          have h3 : ((x.toNat : Int) == 45) = false := beq_eq_false_iff_ne.2 (by omega)
          rw [h3]
          simp [h]
      have q : (0 : Int) < ((x :: r).length : Int) := Int.natCast_pos.2 (Nat.succ_pos _)
      go_wp2
      all_goals go_meet
      case rel => exact ⟨by simp [g], rfl⟩
  case rest =>
  obtain ⟨rfl, rfl⟩ := hcut
  go_upto_if 25 with fail
  go_cut [5] (fun v5 wx => v5 = .string ⟨t.toArray⟩ ∧ wx = wc)
  case first =>
    cases neg
    · have ht : t = l := HT.out
      go_wp2
      all_goals go_meet
      case rel => exact ⟨by rw [ht], rfl⟩
    · have ht : t = l.drop 1 := HT.out.trans List.drop_one.symm
      have hl1 : (1 : Int) ≤ (l.length : Int) := by
        have h := HNEG.out
        cases l with
        | nil => cases h
        | cons x r => exact Int.natCast_pos.2 (Nat.succ_pos _)
      go_wp2
      all_goals go_meet
      case rel => exact ⟨by rw [ht, ← str_drop], rfl⟩
  case rest =>
  obtain ⟨rfl, rfl⟩ := hcut
  go_upto_block 0 with fail
  go_cut [7] (fun v7 wx => v7 = .int .i64 (a.length : Int) ∧ wx = wc)
  case first =>
    go_wp2
    go_loopw [7, 8] (fun v i wr => wr = wc ∧ ∃ k : Nat, k ≤ t.length ∧ i = .int .i64 (k : Int) ∧ ((v = .int .i64 (t.length : Int) ∧ k ≤ a.length) ∨ (v = .int .i64 (a.length : Int) ∧ k = a.length + 1 ∧ a.length < t.length)))
      (fun _ i _ => t.length - (intOf i).toNat)
    case atStart => exact ⟨rfl, 0, by omega, rfl, Or.inl ⟨rfl, by omega⟩⟩
    case round =>
      obtain ⟨rfl, k, hk, rfl, hc⟩ := hrel
      rcases hc with ⟨rfl, hka⟩ | ⟨rfl, rfl, hlt⟩
      · by_cases hx : k < t.length
        · obtain ⟨b, hb⟩ : ∃ b, t[k]? = some b := ⟨_, List.getElem?_eq_getElem hx⟩
          have xk := byte_at hb
          have q1 : (k : Int) < (t.length : Int) := by omega
          obtain ⟨i1, i2⟩ := abv_at hb
          rw [← HA.out] at i1 i2
          by_cases hka2 : k < a.length
          · have hb47 := i1 hka2
            have g : ((b.toNat : Int) == 47) = false := by
              have h2 : b ≠ 47 := by simpa using hb47
              have h3 : b.toNat ≠ 47 := fun h4 => h2 (UInt8.toNat_inj.1 (by rw [h4]; rfl))
              exact beq_eq_false_iff_ne.2 (by omega)
            clear i1 i2 hb hb47
            go_wp2
            exact ⟨⟨by trivial, k + 1, by omega, by go_num, Or.inl ⟨rfl, by omega⟩⟩, by simp [intOf]; omega⟩
          · obtain rfl : k = a.length := by omega
            obtain rfl := i2 rfl
            have g : (((47 : UInt8).toNat : Int) == 47) = true := rfl
            clear i1 i2 hb
            go_wp2
            exact ⟨⟨by trivial, a.length + 1, by omega, by go_num, Or.inr ⟨rfl, rfl, hx⟩⟩, by simp [intOf]; omega⟩
        · obtain rfl : k = t.length := by omega
          have hat : (a.length : Int) = (t.length : Int) := by omega
          have HAT := Lib.hid hat
          clear hat
          go_wp2
          all_goals go_meet
          case rel => exact ⟨by rw [HAT.out], rfl⟩
      · by_cases hx : a.length + 1 < t.length
        · have q1 : ((a.length + 1 : Nat) : Int) < (t.length : Int) := by omega
          have q2 : ((a.length : Int) == (t.length : Int)) = false := beq_eq_false_iff_ne.2 (by omega)
          go_wp2
          all_goals go_meet
          case rel => exact ⟨rfl, rfl⟩
        · have q1 : ¬ ((a.length + 1 : Nat) : Int) < (t.length : Int) := by omega
          go_wp2
          all_goals go_meet
          case rel => exact ⟨rfl, rfl⟩
  case rest =>
  obtain ⟨rfl, rfl⟩ := hcut
  have q0 : (a.length : Int) ≤ (t.length : Int) := by omega
  have HTA := Lib.hid (show (⟨t.toArray⟩ : ByteArray).extract 0 a.length = ⟨a.toArray⟩ by
    have h := abv_take t
    rw [← HA.out] at h
    rw [str_take, ← h])
  go_wp2_with fail
  rw [HTA.out]
  refine (rnumber_calls _ a (by omega)).mono ?_
  rintro e w3 ⟨v1, rfl, hv1, hb3⟩
  have K3 := Lib.hid (K0.out.below hb3)
  have KB3 := Lib.hid (KB0.out.below hb3)
  have B3 := Lib.hid (bl_trans B0.out hb3)
  clear hb3 K0 KB0 B0 HTA
  by_cases hok : okn a
  · rw [decide_eq_true hok]
    rw [if_pos hok] at hv1
    have OKA := Lib.hid hok
    have V1 := Lib.hid hv1
    obtain ⟨A1, c1, rfl⟩ := hv1.shape
    by_cases hz : neg = true ∧ numv a = 0
    · obtain ⟨rfl, hn0⟩ := hz
      have HN := Lib.hid (HBAD.out (Or.inr ⟨rfl, hn0⟩))
      rw [hn0, dg_zero]
      have j0 := K3.out.cell 0
      have j1 := K3.out.cell 1
      have j2 := K3.out.cell 2
      have b0 := KB3.out.cell 0
      have b1 := KB3.out.cell 1
      have b2 := KB3.out.cell 2
      have jf := K3.out.free
      clear hok hv1 hn0
      go_wp2
      (refine bodyPost_ret (results_fe rfl _ _ w.heap.size 24 _ (0, 0) _ rfl (blk3 K3.out _ _ _) Try.underlying24 rfl (by kernel_rfl)) rfl ?_; exact ParsePost.no HN.out (three_below B3.out (Nat.le_refl _) _ _ _))
    · have HPT2 := Lib.hid (HPT.out (fun h => h.elim (fun h => h hok) hz))
      have HWH2 := Lib.hid (HWH.out (fun h => h.elim (fun h => h hok) hz))
      have g1 : neg = false ∨ (neg = true ∧ (((dg (numv a)).length : Int) == 0) = false) := by
        cases hn : neg
        · exact Or.inl rfl
        · refine Or.inr ⟨rfl, beq_eq_false_iff_ne.2 fun h => hz ⟨hn, dg_len_zero.1 (by omega)⟩⟩
      have LA := Lib.hid (okn_len hok)
      have HZ := Lib.hid (show NNZ neg (numv a) from hz)
      clear hok hv1 HPT HWH HBAD hz
      go_upto_region 15 with (first | (rcases g1 with rfl | ⟨rfl, g1⟩))
      all_goals
        go_wp2_with fail
        refine (rone_calls _).mono ?_
        rintro e w4 ⟨vd, rfl, hvd, hb4⟩
        obtain ⟨A9, c9, rfl⟩ := hvd.shape
        have V4 := Lib.hid (V1.out.below hb4)
        have VD4 := Lib.hid hvd
        have K4 := Lib.hid (K3.out.below hb4)
        have KB4 := Lib.hid (KB3.out.below hb4)
        have B4 := Lib.hid (bl_trans B3.out hb4)
        clear hvd hb4 V1 K3 KB3 B3
        by_cases hlt : a.length < t.length
        · have q3 : (a.length : Int) < (t.length : Int) := by omega
          have q4 : (a.length : Int) + 1 ≤ (t.length : Int) := by omega
          have HPT3 := Lib.hid (HPT2.out hlt)
          obtain ⟨b, hb⟩ : ∃ b, b = t.drop (a.length + 1) := ⟨_, rfl⟩
          rw [← hb] at HPT3
          have HSD := Lib.hid (show (⟨t.toArray⟩ : ByteArray).extract (a.length + 1) t.length = ⟨b.toArray⟩ by rw [str_drop, hb])
          have hbl : b.length ≤ 1000 := by rw [hb]; simp; omega
          clear hlt HWH2 HPT2 hb VD4
          go_wp2_with fail
          rw [HSD.out]
          refine (rnumber_calls _ b hbl).mono ?_
          rintro e w5 ⟨v2, rfl, hv2, hb5⟩
          have K5 := Lib.hid (K4.out.below hb5)
          have KB5 := Lib.hid (KB4.out.below hb5)
          have B5 := Lib.hid (bl_trans B4.out hb5)
          have V5 := Lib.hid (V4.out.below hb5)
          clear hb5 K4 KB4 B4 V4 HSD
          by_cases hokb : okn b
          · rw [decide_eq_true hokb]
            rw [if_pos hokb] at hv2
            have LB := Lib.hid (okn_len hokb)
            have V2 := Lib.hid hv2
            by_cases hb0 : numv b = 0
            · obtain ⟨A2, c2, rfl⟩ := hv2.shape
              have HN := Lib.hid (show pars l = none by rw [HPT3.out]; exact if_pos (Or.inr (Or.inl hb0)))
              rw [hb0, dg_zero]
              have j0 := K5.out.cell 0
              have j1 := K5.out.cell 1
              have j2 := K5.out.cell 2
              have b0 := KB5.out.cell 0
              have b1 := KB5.out.cell 1
              have b2 := KB5.out.cell 2
              have jf := K5.out.free
              clear hokb hv2 hb0
              go_wp2
              (refine bodyPost_ret (results_fe rfl _ _ w.heap.size 24 _ (0, 0) _ rfl (blk3 K5.out _ _ _) Try.underlying24 rfl (by kernel_rfl)) rfl ?_; exact ParsePost.no HN.out (three_below B5.out (Nat.le_refl _) _ _ _))
            · have hdp : 0 < (dg (numv b)).length := Nat.pos_of_ne_zero (fun h => hb0 (dg_len_zero.1 h))
              have g2 : (((dg (numv b)).length : Int) == 0) = false := beq_eq_false_iff_ne.2 (by omega)
              by_cases hb1 : numv b = 1
              · have HN := Lib.hid (show pars l = none by rw [HPT3.out]; exact if_pos (Or.inr (Or.inr (Or.inl hb1))))
                have hl1 : (dg (numv b)).length = 1 := by rw [hb1, dg_one]; rfl
                have hc0 := den_cell hb0 hl1
                obtain ⟨A2, c2, rfl, _, _, hrd⟩ := hv2
                obtain ⟨ad, rfl, hcell⟩ := hrd (by omega)
                have c0 := hcell 0 (by omega)
                rw [hc0, hb1] at c0
                have c0' : w5.cell? ad = some (.int .u32 1) := by simpa [Addr.add] using c0
                rw [hl1]
                have j0 := K5.out.cell 0
                have j1 := K5.out.cell 1
                have j2 := K5.out.cell 2
                have b0 := KB5.out.cell 0
                have b1 := KB5.out.cell 1
                have b2 := KB5.out.cell 2
                have jf := K5.out.free
                clear hokb hb0 hb1 hdp g2 hcell hrd c0 hc0 V2
                go_wp2
                (refine bodyPost_ret (results_fe rfl _ _ w.heap.size 24 _ (0, 0) _ rfl (blk3 K5.out _ _ _) Try.underlying24 rfl (by kernel_rfl)) rfl ?_; exact ParsePost.no HN.out (three_below B5.out (Nat.le_refl _) _ _ _))
              · have HB1' := Lib.hid hb1
                have HB0' := Lib.hid hb0
                have HOK := Lib.hid hokb
                have hsp : ((((dg (numv b)).length : Int) == 1) = false) ∨ (dg (numv b)).length = 1 := by
                  by_cases h : (dg (numv b)).length = 1
                  · exact Or.inr h
                  · exact Or.inl (beq_eq_false_iff_ne.2 (by omega))
                have HDC := Lib.hid (fun h => den_cell hb0 h)
                obtain ⟨A2, c2, rfl, _, _, hrd⟩ := hv2
                have HRD := Lib.hid hrd
                clear hrd hokb hb0 hb1
                rcases hsp with g3 | hl1
                · clear HDC HRD
                  go_wp2_with fail
                  generalize hW6 : World.alloc w5 _ = w6
                  have al : Below w5.heap.size w5 w6 := by rw [← hW6]; exact below_alloc0 _ _
                  first | (have KF : Blk w6 w5.heap.size 24 #[.bool false, .slice A1 (dg (numv a)).length c1, .slice A2 (dg (numv b)).length c2] := by rw [← hW6]; exact Blk.new _ _ _) | (have KF : Blk w6 w5.heap.size 24 #[.bool true, .slice A1 (dg (numv a)).length c1, .slice A2 (dg (numv b)).length c2] := by rw [← hW6]; exact Blk.new _ _ _)
                  clear hW6
                  refine (rright_calls _ _ _ (dg (numv a)) (dg (numv b)) ⟨_, _, rfl, V5.out.below al, V2.out.below al, Wd_dg _, Wd_dg _⟩ (by have := LA.out; have := LB.out; omega)).mono ?_
                  rintro e w8 ⟨rfl, hb8⟩
                  have K8 := (K5.out.below al).below hb8
                  have KB8 := (KB5.out.below al).below hb8
                  have KF8 := KF.below hb8
                  have B8 := bl_trans (bl_trans B5.out al) hb8
                  have U8 := (V5.out.below al).below hb8
                  have X8 := (V2.out.below al).below hb8
                  clear KF
                  by_cases hg : Nat.gcd (numv a) (numv b) = 1
                  · rw [decide_eq_true (right_low HB0'.out hg HZ.out)]
                    have HS := Lib.hid (HPT3.out.trans (if_neg (fun h => h.elim (fun h => h HOK.out) (fun h => h.elim HB0'.out (fun h => h.elim HB1'.out (fun h => h hg))))))
                    have FR := Lib.hid (frv_low HB0'.out hg HZ.out U8 X8)
                    have j0 := K8.cell 0
                    have j1 := K8.cell 1
                    have j2 := K8.cell 2
                    have b0 := KF8.cell 0
                    have b1 := KF8.cell 1
                    have b2 := KF8.cell 2
                    have jf := K8.free
                    clear hg al hb8 U8 X8 KB8
                    go_wp2
                    (refine bodyPost_ret (results_fe rfl _ _ w.heap.size 24 _ (0, 0) _ rfl (blk3 K8 _ _ _) Try.underlying24 rfl (by kernel_rfl)) rfl ?_; exact ParsePost.yes HS.out (FrV.three FR.out j0 j1 j2 (boolne _) (slne _ _ _) (slne _ _ _) _ _ _) (three_below B8 (Nat.le_refl _) _ _ _))
                  · rw [decide_eq_false (right_not hg)]
                    have HN := Lib.hid (show pars l = none by rw [HPT3.out]; exact if_pos (Or.inr (Or.inr (Or.inr hg))))
                    have j0 := K8.cell 0
                    have j1 := K8.cell 1
                    have j2 := K8.cell 2
                    have b0 := KB8.cell 0
                    have b1 := KB8.cell 1
                    have b2 := KB8.cell 2
                    have jf := K8.free
                    clear hg al hb8 U8 X8 KF8
                    go_wp2
                    (refine bodyPost_ret (results_fe rfl _ _ w.heap.size 24 _ (0, 0) _ rfl (blk3 K8 _ _ _) Try.underlying24 rfl (by kernel_rfl)) rfl ?_; exact ParsePost.no HN.out (three_below B8 (Nat.le_refl _) _ _ _))
                · obtain ⟨ad, rfl, hcell⟩ := HRD.out (by omega)
                  have c0 := hcell 0 (by omega)
                  rw [HDC.out hl1] at c0
                  have c0' : w5.cell? ad = some (.int .u32 (numv b : Int)) := by simpa [Addr.add] using c0
                  have g4 : ((numv b : Int) == 1) = false := beq_eq_false_iff_ne.2 (by have := HB1'.out; omega)
                  clear c0 hcell HDC HRD hdp g2
                  have HL1 := Lib.hid hl1
                  rw [hl1]
                  clear hl1
                  have VX := Lib.hid (show Nm w5 (.slice (some ad) 1 c2) (numv b) by have h := V2.out; rwa [HL1.out] at h)
                  go_wp2_with fail
                  generalize hW6 : World.alloc w5 _ = w6
                  have al : Below w5.heap.size w5 w6 := by rw [← hW6]; exact below_alloc0 _ _
                  first | (have KF : Blk w6 w5.heap.size 24 #[.bool false, .slice A1 (dg (numv a)).length c1, .slice (some ad) 1 c2] := by rw [← hW6]; exact Blk.new _ _ _) | (have KF : Blk w6 w5.heap.size 24 #[.bool true, .slice A1 (dg (numv a)).length c1, .slice (some ad) 1 c2] := by rw [← hW6]; exact Blk.new _ _ _)
                  clear hW6
                  refine (rright_calls _ _ _ (dg (numv a)) (dg (numv b)) ⟨_, _, rfl, V5.out.below al, VX.out.below al, Wd_dg _, Wd_dg _⟩ (by have := LA.out; have := LB.out; omega)).mono ?_
                  rintro e w8 ⟨rfl, hb8⟩
                  have K8 := (K5.out.below al).below hb8
                  have KB8 := (KB5.out.below al).below hb8
                  have KF8 := KF.below hb8
                  have B8 := bl_trans (bl_trans B5.out al) hb8
                  have U8 := (V5.out.below al).below hb8
                  have X8 := (VX.out.below al).below hb8
                  clear KF
                  by_cases hg : Nat.gcd (numv a) (numv b) = 1
                  · rw [decide_eq_true (right_low HB0'.out hg HZ.out)]
                    have HS := Lib.hid (HPT3.out.trans (if_neg (fun h => h.elim (fun h => h HOK.out) (fun h => h.elim HB0'.out (fun h => h.elim HB1'.out (fun h => h hg))))))
                    have FR := Lib.hid (frv_low HB0'.out hg HZ.out U8 X8)
                    have j0 := K8.cell 0
                    have j1 := K8.cell 1
                    have j2 := K8.cell 2
                    have b0 := KF8.cell 0
                    have b1 := KF8.cell 1
                    have b2 := KF8.cell 2
                    have jf := K8.free
                    clear hg al hb8 U8 X8 KB8
                    go_wp2
                    (refine bodyPost_ret (results_fe rfl _ _ w.heap.size 24 _ (0, 0) _ rfl (blk3 K8 _ _ _) Try.underlying24 rfl (by kernel_rfl)) rfl ?_; exact ParsePost.yes HS.out (FrV.three FR.out j0 j1 j2 (boolne _) (slne _ _ _) (slne _ _ _) _ _ _) (three_below B8 (Nat.le_refl _) _ _ _))
                  · rw [decide_eq_false (right_not hg)]
                    have HN := Lib.hid (show pars l = none by rw [HPT3.out]; exact if_pos (Or.inr (Or.inr (Or.inr hg))))
                    have j0 := K8.cell 0
                    have j1 := K8.cell 1
                    have j2 := K8.cell 2
                    have b0 := KB8.cell 0
                    have b1 := KB8.cell 1
                    have b2 := KB8.cell 2
                    have jf := K8.free
                    clear hg al hb8 U8 X8 KF8
                    go_wp2
                    (refine bodyPost_ret (results_fe rfl _ _ w.heap.size 24 _ (0, 0) _ rfl (blk3 K8 _ _ _) Try.underlying24 rfl (by kernel_rfl)) rfl ?_; exact ParsePost.no HN.out (three_below B8 (Nat.le_refl _) _ _ _))
          · have HN := Lib.hid (show pars l = none by rw [HPT3.out]; exact if_pos (Or.inl hokb))
            rw [decide_eq_false hokb]
            rw [if_neg hokb] at hv2
            obtain ⟨A2, c2, rfl⟩ := hv2.shape
            have j0 := K5.out.cell 0
            have j1 := K5.out.cell 1
            have j2 := K5.out.cell 2
            have b0 := KB5.out.cell 0
            have b1 := KB5.out.cell 1
            have b2 := KB5.out.cell 2
            have jf := K5.out.free
            clear hokb hv2
            go_wp2
            (refine bodyPost_ret (results_fe rfl _ _ w.heap.size 24 _ (0, 0) _ rfl (blk3 K5.out _ _ _) Try.underlying24 rfl (by kernel_rfl)) rfl ?_; exact ParsePost.no HN.out (three_below B5.out (Nat.le_refl _) _ _ _))
        · have HWH3 := Lib.hid (HWH2.out hlt)
          have q3 : ¬ (a.length : Int) < (t.length : Int) := by omega
          have LB := Lib.hid (show (dg 1).length ≤ 5 by rw [dg_one]; simp)
          clear hlt HWH2 HPT2
          go_wp2_with fail
          generalize hW6 : World.alloc w4 _ = w6
          have al : Below w4.heap.size w4 w6 := by rw [← hW6]; exact below_alloc0 _ _
          first | (have KF : Blk w6 w4.heap.size 24 #[.bool false, .slice A1 (dg (numv a)).length c1, .slice A9 (dg 1).length c9] := by rw [← hW6]; exact Blk.new _ _ _) | (have KF : Blk w6 w4.heap.size 24 #[.bool true, .slice A1 (dg (numv a)).length c1, .slice A9 (dg 1).length c9] := by rw [← hW6]; exact Blk.new _ _ _)
          clear hW6
          refine (rright_calls _ _ _ (dg (numv a)) (dg 1) ⟨_, _, rfl, V4.out.below al, VD4.out.below al, Wd_dg _, Wd_dg _⟩ (by have := LA.out; have := LB.out; omega)).mono ?_
          rintro e w8 ⟨rfl, hb8⟩
          have K8 := (K4.out.below al).below hb8
          have KB8 := (KB4.out.below al).below hb8
          have KF8 := KF.below hb8
          have B8 := bl_trans (bl_trans B4.out al) hb8
          have U8 := (V4.out.below al).below hb8
          have X8 := (VD4.out.below al).below hb8
          clear KF
          have hg : Nat.gcd (numv a) 1 = 1 := by simp
          rw [decide_eq_true (right_low (by omega) hg HZ.out)]
          have HS := Lib.hid (HWH3.out)
          have FR := Lib.hid (frv_low (by omega) hg HZ.out U8 X8)
          have j0 := K8.cell 0
          have j1 := K8.cell 1
          have j2 := K8.cell 2
          have b0 := KF8.cell 0
          have b1 := KF8.cell 1
          have b2 := KF8.cell 2
          have jf := K8.free
          clear hg al hb8 U8 X8 KB8
          go_wp2
          (refine bodyPost_ret (results_fe rfl _ _ w.heap.size 24 _ (0, 0) _ rfl (blk3 K8 _ _ _) Try.underlying24 rfl (by kernel_rfl)) rfl ?_; exact ParsePost.yes HS.out (FrV.three FR.out j0 j1 j2 (boolne _) (slne _ _ _) (slne _ _ _) _ _ _) (three_below B8 (Nat.le_refl _) _ _ _))
  · rw [decide_eq_false hok]
    have HN := Lib.hid (HBAD.out (Or.inl hok))
    rw [if_neg hok] at hv1
    obtain ⟨A1, c1, rfl⟩ := hv1.shape
    have j0 := K3.out.cell 0
    have j1 := K3.out.cell 1
    have j2 := K3.out.cell 2
    have b0 := KB3.out.cell 0
    have b1 := KB3.out.cell 1
    have b2 := KB3.out.cell 2
    have jf := K3.out.free
    clear hok hv1
    go_wp2
    (refine bodyPost_ret (results_fe rfl _ _ w.heap.size 24 _ (0, 0) _ rfl (blk3 K3.out _ _ _) Try.underlying24 rfl (by kernel_rfl)) rfl ?_; exact ParsePost.no HN.out (three_below B3.out (Nat.le_refl _) _ _ _))
end Go.Proofs.Ytdmgceckmciifaa
