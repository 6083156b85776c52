/- Systems of equations: the reference's elimination. -/
import Derived.Test.YtdmgceckmciifaaRrd
import Derived.BigRegion
set_option linter.unusedVariables false
set_option linter.unusedSimpArgs false
namespace Go.Proofs.Ytdmgceckmciifaa
open Go.RowKit

set_option maxRecDepth 100000 in
set_option maxHeartbeats 4000000 in
theorem rreduced_calls (w : World) (B gr cap R C n : Nat) (vs : Nat → Value) (A : Nat → Nat → Rat) (hT : Tb w gr 32 cap R vs) (hrows : ∀ i, i < R → OF w B (vs i) ((rowq C (A i)).map dq)) (hB : B ≤ w.heap.size) (hgr : B ≤ gr)
    (hR : R ≤ 4096) (hn : n ≤ C) (hC : C ≤ 4096) (hcap : cap ≤ 9223372036854775807) (hz : ∀ col i j, col ≤ n → i < R → j < C → Szq 400 ((gj A R col).M i j)) :
    Calls Try.prog 99 #[.slice (some ⟨gr, 0, none⟩) R cap, .int .i64 (n : Int)] w fun e w' => ∃ stv vs', e = .returned (.agg #[.slice (some ⟨gr, 0, none⟩) R cap, stv]) ∧ HO w B gr cap R C vs' (gj A R n).M stv (gj A R n).st w' := by
  have hRc : R ≤ cap := by obtain ⟨cs, _, h2, h3, _⟩ := hT; exact h3
  have HZ := Lib.hid hz
  have hbl0 := below_alloc0 w (.cells #[.slice none 0 0, .slice none 0 0] 100)
  have K4 := Blk.new w 100 #[.slice none 0 0, .slice none 0 0]
  obtain ⟨Wa, hWa⟩ : ∃ W, W = w.alloc (.cells #[.slice none 0 0, .slice none 0 0] 100) := ⟨_, rfl⟩
  have hsa : Wa.heap.size = w.heap.size + 1 := by rw [hWa]; simp
  rw [← hWa] at hbl0 K4
  have hbl1 := below_alloc0 Wa (.cells #[.slice (some ⟨gr, 0, none⟩) R cap, .slice none 0 0] 100)
  have K5 := Blk.new Wa 100 #[.slice (some ⟨gr, 0, none⟩) R cap, .slice none 0 0]
  rw [hsa] at K5
  have hb2 := bl_trans hbl0 hbl1
  have h0 : HE w B w.heap.size (w.heap.size + 1) gr cap R C vs A (.slice none 0 0) [] (Wa.alloc (.cells #[.slice (some ⟨gr, 0, none⟩) R cap, .slice none 0 0] 100)) :=
    ⟨K5, hT.fr (Fr.of_below (S := fun _ => False) hb2) (fun h => h), fun i hi => (hrows i hi).below hb2, World.ownsRow_nil _ _ _ _, NoW.nil _, Fr.of_below hb2, hB, by omega, hgr, K4.below hbl1, by omega, fun g hg => by cases hg⟩
  have H0 := Lib.hid h0
  clear hz h0 hbl0 hbl1 K4 K5 hb2 hT hrows
  go_enter Try.func99, Try.ntmps99
  go_wp2
  obtain ⟨g4, hg4⟩ : ∃ g, g = w.heap.size := ⟨_, rfl⟩
  have HG4 := Lib.hid (show w.heap.size ≤ g4 by omega)
  obtain ⟨g5, hg5⟩ : ∃ g, g = w.heap.size + 1 := ⟨_, rfl⟩
  rw [← hg5, ← hg4] at H0
  rw [← hWa, ← hg5, ← hg4]
  clear hg4 hg5 hsa hWa
  go_loopw [6] (fun cv wr => ∃ col : Nat, col ≤ n ∧ cv = .int .i64 (col : Int) ∧ ∃ stv vs1, HE w B g4 g5 gr cap R C vs1 (gj A R col).M stv (gj A R col).st wr)
    (fun cv _ => n - (intOf cv).toNat)
  case atStart => exact ⟨0, by omega, rfl, _, vs, H0.out⟩
  case round =>
    clear H0
    obtain ⟨col, hcn, rfl, stv, vs1, hH⟩ := hrel
    have hok := gj_ok A R C col (by omega)
    obtain ⟨S, hS⟩ : ∃ S, S = gj A R col := ⟨_, rfl⟩
    rw [← hS] at hok hH
    have hkR := hok.len
    obtain ⟨k, hk⟩ : ∃ k, k = S.st.length := ⟨_, rfl⟩
    obtain ⟨As, cs, rfl, hcs1, hcs2⟩ := own_shp hH.own
    rw [← hk] at hkR hcs1
    have c0 := hH.box.cell 0
    have c1 := hH.box.cell 1
    rw [← hk] at c1
    have HH := Lib.hid hH
    have HK := Lib.hid hk
    have HS := Lib.hid hS
    have HOK := Lib.hid hok
    have r0 := hH.res.cell 0
    have r1 := hH.res.cell 1
    have rf := hH.res.free
    clear hH hk hS hok
    by_cases hx : col < n
    · have q1 : (col : Int) < (n : Int) := by omega
      by_cases hx2 : k < R
      · have q2 : (k : Int) < (R : Int) := by omega
        clear r0 r1 rf
        go_upto_block 2 with fail
        obtain ⟨f, hf⟩ : ∃ f, f = fnd S.M col (R - k) k := ⟨_, rfl⟩
        obtain ⟨f1, f2, f3, f4⟩ := fnd_spec S.M col (R - k) k
        rw [← hf] at f1 f2 f3 f4
        have hfR : f ≤ R := by omega
        have HF := Lib.hid hf
        have F3 := Lib.hid f3
        have F4 := Lib.hid f4
        clear hf f2 f3 f4 c0 c1
        go_cut [7] (fun v7 wx => v7 = .int .i64 (f : Int) ∧ HE w B g4 g5 gr cap R C vs1 S.M (.slice As S.st.length cs) S.st wx)
        case first =>
          go_wp2
          go_loopw [7] (fun v wx => ∃ m : Nat, k ≤ m ∧ m ≤ f ∧ v = .int .i64 (m : Int) ∧ HE w B g4 g5 gr cap R C vs1 S.M (.slice As S.st.length cs) S.st wx)
            (fun v _ => f - (intOf v).toNat)
          case atStart => exact ⟨k, Nat.le_refl _, f1, rfl, HH.out⟩
          case round =>
            clear HH
            obtain ⟨m, hm1, hm2, rfl, hH⟩ := hrel
            have c0 := hH.box.cell 0
            by_cases hmR : m < R
            · have q3 : (m : Int) < (R : Int) := by omega
              have q4 : (col : Int) < (C : Int) := by omega
              have t0 := hH.tb.cell hmR
              obtain ⟨ad, cm, A1, a1, A2, a2, hv, hcm1, hcm2, e0, e1, e2, hfr⟩ := hH.elem hmR (show col < C by omega)
              rw [hv] at t0
              obtain ⟨y, hy⟩ : ∃ y, y = S.M m col := ⟨_, rfl⟩
              rw [← hy] at e1
              have HY := Lib.hid hy
              have HH3 := Lib.hid hH
              clear hH hy e0 e2 hfr hv
              by_cases hmf : m < f
              · have g : (((dg y.num.natAbs).length : Int) == 0) = true := by rw [len_zero]; exact decide_eq_true (HY.out.trans (F3.out m hm1 hmf))
                go_wp2
                exact ⟨⟨m + 1, by omega, by omega, by go_num, HH3.out⟩, by simp [intOf]; omega⟩
              · obtain rfl : m = f := by omega
                have g : (((dg y.num.natAbs).length : Int) == 0) = false := by rw [len_zero]; exact decide_eq_false (fun h => F4.out (by omega) (HY.out.symm.trans h))
                go_wp2
                all_goals go_meet
                case rel => exact ⟨rfl, HH3.out⟩
            · obtain rfl : m = f := by omega
              obtain rfl : m = R := by omega
              have HH3 := Lib.hid hH
              clear hH
              go_wp2
              all_goals go_meet
              case rel => exact ⟨rfl, HH3.out⟩
        case rest =>
        clear HH
        obtain ⟨rfl, hH⟩ := hcut
        have c0 := hH.box.cell 0
        have c1 := hH.box.cell 1
        rw [← HK.out] at c1
        have HH2 := Lib.hid hH
        clear hH
        by_cases hfe : f = R
        · have g : ((f : Int) == (R : Int)) = true := by rw [hfe]; simp
          have HE1 := Lib.hid (show gj A R (col + 1) = S by rw [gj, ← HS.out]; exact gstep_none (by rw [← HK.out, ← HF.out]; exact hfe))
          clear hfe
          go_wp2
          exact ⟨⟨col + 1, by omega, by go_num, _, vs1, by rw [HE1.out]; exact HH2.out⟩, by simp [intOf]; omega⟩
        · have g : ((f : Int) == (R : Int)) = false := beq_eq_false_iff_ne.2 (by omega)
          have hfR2 : f < R := by omega
          have HE1 := Lib.hid (show gj A R (col + 1) = ⟨elim S.M k f col, S.st ++ [col]⟩ by rw [gj, ← HS.out, HK.out]; exact gstep_some hfR2 (by rw [← HK.out]; exact f1) (by rw [← HK.out]; exact HF.out.symm))
          have hp := Lib.hid (F4.out (by omega))
          clear hfe
          go_upto_region 10 with fail
          have HD := HH2
          obtain ⟨y1, y2⟩ := HD.out.swap hx2 hfR2
          obtain ⟨adk, ck, _, _, _, _, hvk, hck1, hck2, _⟩ := HD.out.elem hx2 (show col < C by omega)
          obtain ⟨adf, cf, _, _, _, _, hvf, hcf1, hcf2, _⟩ := HD.out.elem hfR2 (show col < C by omega)
          have dk := HD.out.tb.cell hx2
          have df := HD.out.tb.cell hfR2
          have dfr := HD.out.tb.free
          have dk2 := (HD.out.tb.set hfR2 (y := vs1 k) (by rw [hvk]; exact slne _ _ _)).1.cell hx2
          have df2 := (HD.out.tb.set hx2 (y := vs1 f) (by rw [hvf]; exact slne _ _ _)).1.cell hfR2
          have dz1 := (HD.out.set hx2 (HD.out.rows f hfR2)).box.cell 0
          have dz2 := (HD.out.set hfR2 (HD.out.rows k hx2)).box.cell 0
          rw [hvk] at dz2
          rw [hvf] at dz1
          rw [hvk] at dk dk2 y1 y2
          rw [hvf] at df df2 y1 y2
          have Y1 := Lib.hid (y1.below (bl_drew _))
          have Y2 := Lib.hid (y2.below (bl_drew _))
          have q5 : (k : Int) < (R : Int) := by omega
          have q6 : (f : Int) < (R : Int) := by omega
          clear y1 y2 HH2 c1 hvk hvf
          go_cut [8] (fun v8 wx => v8 = .int .i64 (k : Int) ∧ HE w B g4 g5 gr cap R C (fun i => vs1 (tau k f i)) (fun i => S.M (tau k f i)) (.slice As S.st.length cs) S.st wx)
          case first =>
            go_region
            all_goals
              go_wp2
              go_meet
              first | exact ⟨rfl, Y1.out⟩ | exact ⟨rfl, Y2.out⟩
          case rest =>
          obtain ⟨rfl, hH⟩ := hcut
          clear HD dk df dfr dk2 df2 Y1 Y2 c0 dz1 dz2 hck1 hck2 hcf1 hcf2
          obtain ⟨vs2, hvs2⟩ : ∃ b2, b2 = fun i => vs1 (tau k f i) := ⟨_, rfl⟩
          rw [← hvs2] at hH
          obtain ⟨p, hpe⟩ : ∃ p, p = S.M f col := ⟨_, rfl⟩
          have HP := Lib.hid (show p ≠ 0 by rw [hpe]; exact hp.out)
          have HPE := Lib.hid hpe
          have q7 : (col : Int) < (C : Int) := by omega
          have zp := HZ.out col f col hcn hfR2 (by omega)
          rw [← HS.out, ← hpe] at zp
          have hD := hH.below (bl_drew wc)
          have c0 := hD.box.cell 0
          have c1 := hD.tb.cell hx2
          obtain ⟨ad, ck, A1, a1, A2, a2, hv, hck1, hck2, e0, e1, e2, hfr⟩ := hD.elem hx2 (show col < C by omega)
          have hpk : S.M (tau k f k) col = p := by rw [tau_k, hpe]
          rw [hv] at c1
          simp only [hpk] at e0 e1 e2 hfr
          have HH3 := Lib.hid hD
          have HRT := Lib.hid hfr
          obtain ⟨W0, hW0⟩ : ∃ W, W = wc.drew := ⟨_, rfl⟩
          rw [← hW0] at c0 c1 e0 e1 e2 HH3 HRT
          clear hvs2 hpe hp hH hD hfr hv hpk
          obtain ⟨ip, hip⟩ : ∃ ip, ip = p⁻¹ := ⟨_, rfl⟩
          have HIP := Lib.hid hip
          have zip := Lib.hid (show Szq 400 ip by rw [hip]; exact szq_inv zp (by omega))
          have HONE := Lib.hid (show ((1 : Int) : Rat) * p⁻¹ = ip by rw [hip, show ((1 : Int) : Rat) = 1 from rfl, Rat.one_mul])
          clear hip
          go_upto_region 11 with fail
          have mkS : ∀ w', Below W0.heap.size W0 w' → (Below W0.heap.size W0 w' ∧ w'.cell? ⟨g5, 0, none⟩ = some (.slice (some ⟨gr, 0, none⟩) R cap) ∧ w'.cell? ⟨gr, k, none⟩ = some (.slice (some ad) C ck) ∧ w'.cell? (ad.add (col * 3)) = some (.bool (decide (p.num < 0))) ∧ w'.cell? ⟨(ad.add (col * 3)).block, (ad.add (col * 3)).off + 1, none⟩ = some (.slice A1 (dg p.num.natAbs).length a1) ∧ w'.cell? ⟨(ad.add (col * 3)).block, (ad.add (col * 3)).off + 2, none⟩ = some (.slice A2 (dg p.den).length a2)) := fun w' hb => ⟨hb, cell_below hb c0, cell_below hb c1, cell_below hb e0, cell_below hb e1, cell_below hb e2⟩
          have hge0 : W0.heap.size ≤ wc.heap.size := by rw [hW0]; exact Nat.le_refl _
          have hSw : Below W0.heap.size W0 wc := by rw [hW0]; exact ⟨rfl, rfl, rfl, Nat.le_refl _, fun _ _ => rfl⟩
          have hS0 := mkS wc.drew (by rw [← hW0]; exact Below.refl _ _)
          clear hW0
          go_cut [9] (fun v9 wx => ∃ g9 : Nat, v9 = .pointer (some ⟨g9, 0, none⟩) ∧ FBox wx g9 ip ∧ HE w B g4 g5 gr cap R C vs2 (fun i => S.M (tau k f i)) (.slice As S.st.length cs) S.st wx)
          case first =>
            go_region_held3 (fun w' => Below W0.heap.size W0 w' ∧ w'.cell? ⟨g5, 0, none⟩ = some (.slice (some ⟨gr, 0, none⟩) R cap) ∧ w'.cell? ⟨gr, k, none⟩ = some (.slice (some ad) C ck) ∧ w'.cell? (ad.add (col * 3)) = some (.bool (decide (p.num < 0))) ∧ w'.cell? ⟨(ad.add (col * 3)).block, (ad.add (col * 3)).off + 1, none⟩ = some (.slice A1 (dg p.num.natAbs).length a1) ∧ w'.cell? ⟨(ad.add (col * 3)).block, (ad.add (col * 3)).off + 2, none⟩ = some (.slice A2 (dg p.den).length a2))
              ((first | exact hS0 | exact mkS _ (bl_trans (bl_trans hSw (below_alloc0 _ _)) (bl_drew _)) | exact mkS _ (bl_trans (And.left (by assumption)) hbN) | exact mkS _ (bl_trans (And.left (by assumption)) (below_alloc0 _ _)) | exact mkS _ (bl_trans hB6 (below_alloc0 _ _)) | exact mkS _ (((hB6.setCell hge5 _).setCell hge5 _).setCell hge5 _) | exact mkS _ (((hB6.setCell hge0 _).setCell hge0 _).setCell hge0 _)))
              (first
              | (go_at_call 66; (with_reducible refine (rint_calls _ 1 (by omega) (by omega)).mono ?_); (rintro e w5 ⟨v5, rfl, hv5, hbN⟩); (have hb5 := hbN); (have hge5 : W0.heap.size ≤ w5.heap.size := Nat.le_trans (Below.size (And.left (by assumption))) hb5.size); (first | (have KX := ((Blk.new wc 24 #[.bool false, .slice none 0 0, .slice none 0 0]).below (bl_drew _)).below hb5; have kx0 := KX.cell 0; have kx1 := KX.cell 1; have kx2 := KX.cell 2; have kxf := KX.free) | skip))
              | (go_at_call 30; (with_reducible refine (rdivq _ _ _ _ p ip (FrV.q ?_ (int_len (n := 1) (by omega) (by omega) |>.short (by omega))) (FrV.q (FrV.below HRT.out (And.left (by assumption))) (zp.short (by omega))) HP.out HONE.out (zip.out.short (by omega))).mono ?_); (first | exact hv5 | exact FrV.below hv5 (below_alloc0 _ _)); (rintro e w6 ⟨v6, rfl, hv6, hbN⟩); (have hb6 := hbN); (have hB6 : Below W0.heap.size W0 w6 := bl_trans (And.left (by assumption)) hbN); (obtain ⟨P1, p1, P2, p2, rfl, _, _, _, _⟩ := FrIn.shape hv6); (first | (have KY := KX.below hb6; have ky0 := KY.cell 0; have ky1 := KY.cell 1; have ky2 := KY.cell 2; have kyf := KY.free) | (have KY := (Blk.new w5 24 #[.bool false, .slice none 0 0, .slice none 0 0]).below hb6; have ky0 := KY.cell 0; have ky1 := KY.cell 1; have ky2 := KY.cell 2; have kyf := KY.free) | skip)))
            all_goals
              go_wp2
              go_meet
              first
                | exact ⟨w6.heap.size, rfl, ⟨P1, p1, P2, p2, Blk.new w6 _ _, FrV.below hv6 (below_alloc0 _ _)⟩, HH3.out.below (bl_trans hB6 (below_alloc0 _ _))⟩
                | exact ⟨w5.heap.size, rfl, ⟨P1, p1, P2, p2, blk3 KY _ _ _, FrV.three3 hv6 ky0 ky1 ky2 (boolne _) (slne _ _ _) (slne _ _ _) _ _ _⟩, HH3.out.below (((hB6.setCell hge5 _).setCell hge5 _).setCell hge5 _)⟩
                | exact ⟨wc.heap.size, rfl, ⟨P1, p1, P2, p2, blk3 KY _ _ _, FrV.three3 hv6 ky0 ky1 ky2 (boolne _) (slne _ _ _) (slne _ _ _) _ _ _⟩, HH3.out.below (((hB6.setCell hge0 _).setCell hge0 _).setCell hge0 _)⟩
          case rest =>
          clear hS0 mkS c0 c1 e0 e1 e2 hge0 hSw
          obtain ⟨g9, rfl, hBx, hH⟩ := hcut
          obtain ⟨ad, ck, _, _, _, _, hv, hck1, hck2, _⟩ := hH.elem hx2 (show col < C by omega)
          have hD := hH.below (bl_drew wc)
          obtain ⟨D1, d1, D2, d2, KB9, hfr9⟩ := FBox.below hBx (bl_drew wc)
          have c0 := hD.box.cell 0
          have c1 := hD.tb.cell hx2
          rw [hv] at c1
          have e0 := KB9.cell 0
          have e1 := KB9.cell 1
          have e2 := KB9.cell 2
          have hrow := hD.rows k hx2
          rw [hv] at hrow
          have HROW := Lib.hid hrow
          have HIPV := Lib.hid hfr9
          have HD := Lib.hid hD
          have HZS := Lib.hid (show ∀ a ∈ rowq C ((fun i => S.M (tau k f i)) k), Szq 1000 a from fun a ha => by
            obtain ⟨j, hj, rfl⟩ := rowq_mem ha
            have h := HZ.out col (tau k f k) j hcn (tau_lt hx2 hfR2 hx2) hj
            rw [← HS.out] at h
            exact h.mono (by omega))
          obtain ⟨W1, hW1⟩ : ∃ W, W = wc.drew := ⟨_, rfl⟩
          rw [← hW1] at c0 c1 e0 e1 e2 HROW HIPV HD
          clear hBx hH hD KB9 hfr9 hrow hv HH3 HRT
          go_upto_region 12 with fail
          have mkS : ∀ w', Below W1.heap.size W1 w' → (fun w' => Below W1.heap.size W1 w' ∧ w'.cell? ⟨g5, 0, none⟩ = some (.slice (some ⟨gr, 0, none⟩) R cap) ∧ w'.cell? ⟨gr, k, none⟩ = some (.slice (some ad) C ck) ∧ w'.cell? ⟨g9, 0, none⟩ = some (.bool (decide (ip.num < 0))) ∧ w'.cell? ⟨g9, 1, none⟩ = some (.slice D1 (dg ip.num.natAbs).length d1) ∧ w'.cell? ⟨g9, 2, none⟩ = some (.slice D2 (dg ip.den).length d2)) w' := fun w' hb => ⟨hb, cell_below hb c0, cell_below hb c1, cell_below hb e0, cell_below hb e1, cell_below hb e2⟩
          refine wp_region_T (fun w' => Below W1.heap.size W1 w' ∧ w'.cell? ⟨g5, 0, none⟩ = some (.slice (some ⟨gr, 0, none⟩) R cap) ∧ w'.cell? ⟨gr, k, none⟩ = some (.slice (some ad) C ck) ∧ w'.cell? ⟨g9, 0, none⟩ = some (.bool (decide (ip.num < 0))) ∧ w'.cell? ⟨g9, 1, none⟩ = some (.slice D1 (dg ip.num.natAbs).length d1) ∧ w'.cell? ⟨g9, 2, none⟩ = some (.slice D2 (dg ip.den).length d2)) 11 (by kernel_rfl) ?_
          rw [← hW1]
          clear hW1
          have hS : (fun w' => Below W1.heap.size W1 w' ∧ w'.cell? ⟨g5, 0, none⟩ = some (.slice (some ⟨gr, 0, none⟩) R cap) ∧ w'.cell? ⟨gr, k, none⟩ = some (.slice (some ad) C ck) ∧ w'.cell? ⟨g9, 0, none⟩ = some (.bool (decide (ip.num < 0))) ∧ w'.cell? ⟨g9, 1, none⟩ = some (.slice D1 (dg ip.num.natAbs).length d1) ∧ w'.cell? ⟨g9, 2, none⟩ = some (.slice D2 (dg ip.den).length d2)) _ := mkS _ (Below.refl _ _)
          simp only [List.size_toArray, List.length_cons, List.length_nil, Nat.reduceAdd]
          refine wpAnyT_take 0 (some 87) (v := ?vr1_0) rfl rfl (by kernel_rfl) (by kernel_rfl) (by kernel_rfl) (by kernel_rfl) (fun _ _ _ h => h) rfl ?hyr1_0 hS ?restr1_0
          case hyr1_0 => (intro w hSw; (try dsimp only at hSw); go_simp; (try with_reducible rfl))
          (try simp only [Act.put, List.setIfInBounds_toArray, List.set_cons_zero, List.set_cons_succ])
          refine wpAnyT_take 1 (some 88) (v := ?vr1_1) rfl rfl (by kernel_rfl) (by kernel_rfl) (by kernel_rfl) (by kernel_rfl) (fun _ _ _ h => h) rfl ?hyr1_1 hS ?restr1_1
          case hyr1_1 => (intro w hSw; (try dsimp only at hSw); go_simp; (try with_reducible rfl))
          (try simp only [Act.put, List.setIfInBounds_toArray, List.set_cons_zero, List.set_cons_succ])
          refine wpAnyT_take 2 (some 89) (v := ?vr1_2) rfl rfl (by kernel_rfl) (by kernel_rfl) (by kernel_rfl) (by kernel_rfl) (fun _ _ _ h => h) rfl ?hyr1_2 hS ?restr1_2
          case hyr1_2 => (intro w hSw; (try dsimp only at hSw); go_simp; (try with_reducible rfl))
          (try simp only [Act.put, List.setIfInBounds_toArray, List.set_cons_zero, List.set_cons_succ])
          refine wpAnyT_take 3 (some 90) (v := ?vr1_3) rfl rfl (by kernel_rfl) (by kernel_rfl) (by kernel_rfl) (by kernel_rfl) (fun _ _ _ h => h) rfl ?hyr1_3 hS ?restr1_3
          case hyr1_3 => (intro w hSw; (try dsimp only at hSw); go_simp; (try with_reducible rfl))
          (try simp only [Act.put, List.setIfInBounds_toArray, List.set_cons_zero, List.set_cons_succ])
          refine wpAnyT_take 4 (some 91) (v := ?vr1_4) rfl rfl (by kernel_rfl) (by kernel_rfl) (by kernel_rfl) (by kernel_rfl) (fun _ _ _ h => h) rfl ?hyr1_4 hS ?restr1_4
          case hyr1_4 => (intro w hSw; (try dsimp only at hSw); go_simp; (try with_reducible rfl))
          (try simp only [Act.put, List.setIfInBounds_toArray, List.set_cons_zero, List.set_cons_succ])
          refine wpAnyT_take 5 (some 92) (v := ?vr1_5) rfl rfl (by kernel_rfl) (by kernel_rfl) (by kernel_rfl) (by kernel_rfl) (fun _ _ _ h => h) rfl ?hyr1_5 hS ?restr1_5
          case hyr1_5 => (intro w hSw; (try dsimp only at hSw); go_simp; (try with_reducible rfl))
          (try simp only [Act.put, List.setIfInBounds_toArray, List.set_cons_zero, List.set_cons_succ])
          refine wpAnyT_take 6 (some 93) (v := ?vr1_6) rfl rfl (by kernel_rfl) (by kernel_rfl) (by kernel_rfl) (by kernel_rfl) (fun _ _ _ h => h) rfl ?hyr1_6 hS ?restr1_6
          case hyr1_6 => (intro w hSw; (try dsimp only at hSw); go_simp; (try with_reducible rfl))
          (try simp only [Act.put, List.setIfInBounds_toArray, List.set_cons_zero, List.set_cons_succ])
          refine wpAnyT_take 7 (some 94) (v := ?vr1_7) rfl rfl (by kernel_rfl) (by kernel_rfl) (by kernel_rfl) (by kernel_rfl) (fun _ _ _ h => h) rfl ?hyr1_7 hS ?restr1_7
          case hyr1_7 => (intro w hSw; (try dsimp only at hSw); go_simp; (try with_reducible rfl))
          (try simp only [Act.put, List.setIfInBounds_toArray, List.set_cons_zero, List.set_cons_succ])
          refine wpAnyT_take 8 (some 95) (v := ?vr1_8) rfl rfl (by kernel_rfl) (by kernel_rfl) (by kernel_rfl) (by kernel_rfl) (fun _ _ _ h => h) rfl ?hyr1_8 hS ?restr1_8
          case hyr1_8 => (intro w hSw; (try dsimp only at hSw); go_simp; (try with_reducible rfl))
          (try simp only [Act.put, List.setIfInBounds_toArray, List.set_cons_zero, List.set_cons_succ])
          refine wpAnyT_one (i := 9) rfl (by kernel_rfl) rfl (fun K hK => ?_)
          simp only [List.getElem_toArray, List.getElem_cons_succ, List.getElem_cons_zero]
          go_simp
          go_at_call 124
          with_reducible refine (scaled_calls _ _ _ (rowq C ((fun i => S.M (tau k f i)) k)) ip (OF.fl (OF.below HROW.out hS.1)) (FrV.below HIPV.out hS.1) (by rw [rowq_len]; exact hC) (zip.out.mono (by omega)) HZS.out).mono ?_
          rintro e w6 ⟨v6, rfl, hv6, hb6⟩
          rw [rowq_scaled] at hv6
          obtain ⟨As6, c6, hsh6, _, _⟩ := hv6.shape
          rw [List.length_map, rowq_len] at hsh6
          subst hsh6
          skip
          have hS2 := mkS _ (bl_trans hS.1 hb6)
          refine hK.out _ _ (fun _ => hS2) ?_
          clear hS K hK
          have hS := hS2
          clear hS2
          (try simp only [Act.put, List.setIfInBounds_toArray, List.set_cons_zero, List.set_cons_succ])
          refine wpAnyT_take 10 (some 97) (v := ?vr1_10) rfl rfl (by kernel_rfl) (by kernel_rfl) (by kernel_rfl) (by kernel_rfl) (fun _ _ _ h => h) rfl ?hyr1_10 hS ?restr1_10
          case hyr1_10 => (intro w hSw; (try dsimp only at hSw); go_simp; (try with_reducible rfl))
          (try simp only [Act.put, List.setIfInBounds_toArray, List.set_cons_zero, List.set_cons_succ])
          refine wpAnyT_one (i := 11) rfl (by kernel_rfl) rfl (fun K hK => ?_)
          simp only [List.getElem_toArray, List.getElem_cons_succ, List.getElem_cons_zero]
          have HD2 := HE.below HD.out hS.1
          have mf := HD2.tb.free
          go_simp
          refine hK.out _ _ (fun h => absurd rfl h) ?_
          refine wpAnyT_done (by kernel_rfl) ?_ _
          clear K hK mkS
          have HN := Lib.hid ((HD2.set hx2 (hv6.mono (Nat.le_trans HD.out.hB HD.out.fr.size))).congr (fun i j _ _ => by
            show Go.Proofs.Ytdmgceckmciifaa.upd (fun i => S.M (tau k f i)) k (fun j => S.M (tau k f k) j * ip) i j = mixM S.M k f col 0 i j
            rw [HIP.out, HPE.out, tau_k]
            exact mixM_scaled i j))
          clear hS HD HD2 hv6 HROW HIPV hb6
          go_wp2
          go_loopw [11] (fun v wx => ∃ (l : Nat) (vs3 : Nat → Value), l ≤ R ∧ v = .int .i64 (l : Int) ∧ HE w B g4 g5 gr cap R C vs3 (mixM S.M k f col l) (.slice As S.st.length cs) S.st wx)
            (fun v _ => R - (intOf v).toNat)
          case atStart => exact ⟨0, _, by omega, rfl, HN.out⟩
          case round =>
            clear HN c0 c1 e0 e1 e2
            obtain ⟨l, vs3, hl, rfl, hH⟩ := hrel
            by_cases hlx : l < R
            · have q9 : (l : Int) < (R : Int) := by omega
              by_cases hlk : l = k
              · have g9 : ((l : Int) == (k : Int)) = true := by rw [hlk]; simp
                have g9b : ((l : Int) != (k : Int)) = false := by rw [hlk]; simp
                have HH7 := Lib.hid (show HE w B g4 g5 gr cap R C vs3 (mixM S.M k f col (l + 1)) (.slice As S.st.length cs) S.st wr from by
                  have h := hH
                  rw [hlk] at h ⊢
                  exact h.congr (fun i j _ _ => mixM_skip i j))
                clear hH hlk
                go_wp2
                exact ⟨⟨l + 1, vs3, by omega, by go_num, HH7.out⟩, by simp [intOf]; omega⟩
              · have g9 : ((l : Int) == (k : Int)) = false := beq_eq_false_iff_ne.2 (by omega)
                have g9b : ((l : Int) != (k : Int)) = true := bne_iff_ne.2 (by omega)
                have HLK := Lib.hid hlk
                have c0 := hH.box.cell 0
                have c1 := hH.tb.cell hlx
                obtain ⟨adl, cl, A1, a1, A2, a2, hv, hcl1, hcl2, e0, e1, e2, hfr⟩ := hH.elem hlx (show col < C by omega)
                rw [hv] at c1
                obtain ⟨x, hxe⟩ : ∃ x, x = mixM S.M k f col l l col := ⟨_, rfl⟩
                rw [← hxe] at e0 e1 e2 hfr
                have HXE := Lib.hid hxe
                have HH6 := Lib.hid hH
                by_cases hx0 : x = 0
                · have g10 : ¬ (0 : Int) < ((dg x.num.natAbs).length : Int) := by rw [hx0]; simp [dg_zero]
                  have HH7 := Lib.hid (hH.congr (fun i j _ _ => mixM_none hlk (hxe.symm.trans hx0) i j))
                  clear hH hlk hxe hx0 hfr e0 e2 hv
                  go_wp2
                  exact ⟨⟨l + 1, vs3, by omega, by go_num, HH7.out⟩, by simp [intOf]; omega⟩
                · have g10 : (0 : Int) < ((dg x.num.natAbs).length : Int) := by
                    have h := len_zero (q := x)
                    rw [decide_eq_false hx0] at h
                    have h2 := beq_eq_false_iff_ne.1 h
                    omega
                  have hzx : ∀ i j, i < R → j < C → Szq 400 (mixM S.M k f col l i j) := fun i j hi hj => by
                    unfold mixM
                    split
                    · have h := HZ.out (col + 1) i j (by omega) hi hj
                      rw [HE1.out] at h
                      exact h
                    · have h := HZ.out col (tau k f i) j hcn (tau_lt hx2 hfR2 hi) hj
                      rw [← HS.out] at h
                      exact h
                  have zx : Szq 400 x := by rw [hxe]; exact hzx l col hlx (by omega)
                  have HZL := Lib.hid (show ∀ a ∈ rowq C (mixM S.M k f col l l), Szq 400 a from fun a ha => by obtain ⟨j, hj, rfl⟩ := rowq_mem ha; exact hzx l j hlx hj)
                  have HZK := Lib.hid (show ∀ a ∈ rowq C (mixM S.M k f col l k), Szq 400 a from fun a ha => by obtain ⟨j, hj, rfl⟩ := rowq_mem ha; exact hzx k j hx2 hj)
                  obtain ⟨adk, ck2, _, _, _, _, hvk, hk1, hk2, _⟩ := hH.elem hx2 (show col < C by omega)
                  have c2 := hH.tb.cell hx2
                  rw [hvk] at c2
                  have d0 := cell_below (bl_drew wr) c0
                  have d1 := cell_below (bl_drew wr) c1
                  have d2 := cell_below (bl_drew wr) c2
                  have d3 := cell_below (bl_drew wr) e0
                  have d4 := cell_below (bl_drew wr) e1
                  have d5 := cell_below (bl_drew wr) e2
                  have hD := hH.below (bl_drew wr)
                  have rl := hD.rows l hlx
                  have rk := hD.rows k hx2
                  rw [hv] at rl
                  rw [hvk] at rk
                  have HRL := Lib.hid rl
                  have HRK := Lib.hid rk
                  have HD := Lib.hid hD
                  have HXV := Lib.hid (FrV.below hfr (bl_drew wr))
                  obtain ⟨W1, hW1⟩ : ∃ W, W = wr.drew := ⟨_, rfl⟩
                  rw [← hW1] at d0 d1 d2 d3 d4 d5 HRL HRK HD HXV
                  clear hH hlk hxe hx0 hfr e0 e2 hv c2 hD rl rk hvk hzx HH6
                  go_upto_region 17 with fail
                  have mkS : ∀ w', Below W1.heap.size W1 w' → (fun w' => Below W1.heap.size W1 w' ∧ w'.cell? ⟨g5, 0, none⟩ = some (.slice (some ⟨gr, 0, none⟩) R cap) ∧ w'.cell? ⟨gr, l, none⟩ = some (.slice (some adl) C cl) ∧ w'.cell? ⟨gr, k, none⟩ = some (.slice (some adk) C ck2) ∧ w'.cell? (adl.add (col * 3)) = some (.bool (decide (x.num < 0))) ∧ w'.cell? ⟨(adl.add (col * 3)).block, (adl.add (col * 3)).off + 1, none⟩ = some (.slice A1 (dg x.num.natAbs).length a1) ∧ w'.cell? ⟨(adl.add (col * 3)).block, (adl.add (col * 3)).off + 2, none⟩ = some (.slice A2 (dg x.den).length a2)) w' := fun w' hb => ⟨hb, cell_below hb d0, cell_below hb d1, cell_below hb d2, cell_below hb d3, cell_below hb d4, cell_below hb d5⟩
                  refine wp_region_T (fun w' => Below W1.heap.size W1 w' ∧ w'.cell? ⟨g5, 0, none⟩ = some (.slice (some ⟨gr, 0, none⟩) R cap) ∧ w'.cell? ⟨gr, l, none⟩ = some (.slice (some adl) C cl) ∧ w'.cell? ⟨gr, k, none⟩ = some (.slice (some adk) C ck2) ∧ w'.cell? (adl.add (col * 3)) = some (.bool (decide (x.num < 0))) ∧ w'.cell? ⟨(adl.add (col * 3)).block, (adl.add (col * 3)).off + 1, none⟩ = some (.slice A1 (dg x.num.natAbs).length a1) ∧ w'.cell? ⟨(adl.add (col * 3)).block, (adl.add (col * 3)).off + 2, none⟩ = some (.slice A2 (dg x.den).length a2)) 23 (by kernel_rfl) ?_
                  rw [← hW1]
                  clear hW1
                  have hS : (fun w' => Below W1.heap.size W1 w' ∧ w'.cell? ⟨g5, 0, none⟩ = some (.slice (some ⟨gr, 0, none⟩) R cap) ∧ w'.cell? ⟨gr, l, none⟩ = some (.slice (some adl) C cl) ∧ w'.cell? ⟨gr, k, none⟩ = some (.slice (some adk) C ck2) ∧ w'.cell? (adl.add (col * 3)) = some (.bool (decide (x.num < 0))) ∧ w'.cell? ⟨(adl.add (col * 3)).block, (adl.add (col * 3)).off + 1, none⟩ = some (.slice A1 (dg x.num.natAbs).length a1) ∧ w'.cell? ⟨(adl.add (col * 3)).block, (adl.add (col * 3)).off + 2, none⟩ = some (.slice A2 (dg x.den).length a2)) _ := mkS _ (Below.refl _ _)
                  simp only [List.size_toArray, List.length_cons, List.length_nil, Nat.reduceAdd]
                  refine wpAnyT_take 0 (some 120) (v := ?vr2_0) rfl rfl (by kernel_rfl) (by kernel_rfl) (by kernel_rfl) (by kernel_rfl) (fun _ _ _ h => h) rfl ?hyr2_0 hS ?restr2_0
                  case hyr2_0 => (intro w hSw; (try dsimp only at hSw); go_simp; (try with_reducible rfl))
                  (try simp only [Act.put, List.setIfInBounds_toArray, List.set_cons_zero, List.set_cons_succ])
                  refine wpAnyT_take 1 (some 121) (v := ?vr2_1) rfl rfl (by kernel_rfl) (by kernel_rfl) (by kernel_rfl) (by kernel_rfl) (fun _ _ _ h => h) rfl ?hyr2_1 hS ?restr2_1
                  case hyr2_1 => (intro w hSw; (try dsimp only at hSw); go_simp; (try with_reducible rfl))
                  (try simp only [Act.put, List.setIfInBounds_toArray, List.set_cons_zero, List.set_cons_succ])
                  refine wpAnyT_take 2 (some 122) (v := ?vr2_2) rfl rfl (by kernel_rfl) (by kernel_rfl) (by kernel_rfl) (by kernel_rfl) (fun _ _ _ h => h) rfl ?hyr2_2 hS ?restr2_2
                  case hyr2_2 => (intro w hSw; (try dsimp only at hSw); go_simp; (try with_reducible rfl))
                  (try simp only [Act.put, List.setIfInBounds_toArray, List.set_cons_zero, List.set_cons_succ])
                  refine wpAnyT_take 3 (some 123) (v := ?vr2_3) rfl rfl (by kernel_rfl) (by kernel_rfl) (by kernel_rfl) (by kernel_rfl) (fun _ _ _ h => h) rfl ?hyr2_3 hS ?restr2_3
                  case hyr2_3 => (intro w hSw; (try dsimp only at hSw); go_simp; (try with_reducible rfl))
                  (try simp only [Act.put, List.setIfInBounds_toArray, List.set_cons_zero, List.set_cons_succ])
                  refine wpAnyT_take 4 (some 124) (v := ?vr2_4) rfl rfl (by kernel_rfl) (by kernel_rfl) (by kernel_rfl) (by kernel_rfl) (fun _ _ _ h => h) rfl ?hyr2_4 hS ?restr2_4
                  case hyr2_4 => (intro w hSw; (try dsimp only at hSw); go_simp; (try with_reducible rfl))
                  (try simp only [Act.put, List.setIfInBounds_toArray, List.set_cons_zero, List.set_cons_succ])
                  refine wpAnyT_take 5 (some 125) (v := ?vr2_5) rfl rfl (by kernel_rfl) (by kernel_rfl) (by kernel_rfl) (by kernel_rfl) (fun _ _ _ h => h) rfl ?hyr2_5 hS ?restr2_5
                  case hyr2_5 => (intro w hSw; (try dsimp only at hSw); go_simp; (try with_reducible rfl))
                  (try simp only [Act.put, List.setIfInBounds_toArray, List.set_cons_zero, List.set_cons_succ])
                  refine wpAnyT_take 6 (some 126) (v := ?vr2_6) rfl rfl (by kernel_rfl) (by kernel_rfl) (by kernel_rfl) (by kernel_rfl) (fun _ _ _ h => h) rfl ?hyr2_6 hS ?restr2_6
                  case hyr2_6 => (intro w hSw; (try dsimp only at hSw); go_simp; (try with_reducible rfl))
                  (try simp only [Act.put, List.setIfInBounds_toArray, List.set_cons_zero, List.set_cons_succ])
                  refine wpAnyT_take 7 (some 127) (v := ?vr2_7) rfl rfl (by kernel_rfl) (by kernel_rfl) (by kernel_rfl) (by kernel_rfl) (fun _ _ _ h => h) rfl ?hyr2_7 hS ?restr2_7
                  case hyr2_7 => (intro w hSw; (try dsimp only at hSw); go_simp; (try with_reducible rfl))
                  (try simp only [Act.put, List.setIfInBounds_toArray, List.set_cons_zero, List.set_cons_succ])
                  refine wpAnyT_take 8 (some 128) (v := ?vr2_8) rfl rfl (by kernel_rfl) (by kernel_rfl) (by kernel_rfl) (by kernel_rfl) (fun _ _ _ h => h) rfl ?hyr2_8 hS ?restr2_8
                  case hyr2_8 => (intro w hSw; (try dsimp only at hSw); go_simp; (try with_reducible rfl))
                  (try simp only [Act.put, List.setIfInBounds_toArray, List.set_cons_zero, List.set_cons_succ])
                  refine wpAnyT_take 9 (some 129) (v := ?vr2_9) rfl rfl (by kernel_rfl) (by kernel_rfl) (by kernel_rfl) (by kernel_rfl) (fun _ _ _ h => h) rfl ?hyr2_9 hS ?restr2_9
                  case hyr2_9 => (intro w hSw; (try dsimp only at hSw); go_simp; (try with_reducible rfl))
                  (try simp only [Act.put, List.setIfInBounds_toArray, List.set_cons_zero, List.set_cons_succ])
                  refine wpAnyT_take 10 (some 130) (v := ?vr2_10) rfl rfl (by kernel_rfl) (by kernel_rfl) (by kernel_rfl) (by kernel_rfl) (fun _ _ _ h => h) rfl ?hyr2_10 hS ?restr2_10
                  case hyr2_10 => (intro w hSw; (try dsimp only at hSw); go_simp; (try with_reducible rfl))
                  (try simp only [Act.put, List.setIfInBounds_toArray, List.set_cons_zero, List.set_cons_succ])
                  refine wpAnyT_take 11 (some 131) (v := ?vr2_11) rfl rfl (by kernel_rfl) (by kernel_rfl) (by kernel_rfl) (by kernel_rfl) (fun _ _ _ h => h) rfl ?hyr2_11 hS ?restr2_11
                  case hyr2_11 => (intro w hSw; (try dsimp only at hSw); go_simp; (try with_reducible rfl))
                  (try simp only [Act.put, List.setIfInBounds_toArray, List.set_cons_zero, List.set_cons_succ])
                  refine wpAnyT_take 12 (some 132) (v := ?vr2_12) rfl rfl (by kernel_rfl) (by kernel_rfl) (by kernel_rfl) (by kernel_rfl) (fun _ _ _ h => h) rfl ?hyr2_12 hS ?restr2_12
                  case hyr2_12 => (intro w hSw; (try dsimp only at hSw); go_simp; (try with_reducible rfl))
                  (try simp only [Act.put, List.setIfInBounds_toArray, List.set_cons_zero, List.set_cons_succ])
                  refine wpAnyT_take 13 (some 133) (v := ?vr2_13) rfl rfl (by kernel_rfl) (by kernel_rfl) (by kernel_rfl) (by kernel_rfl) (fun _ _ _ h => h) rfl ?hyr2_13 hS ?restr2_13
                  case hyr2_13 => (intro w hSw; (try dsimp only at hSw); go_simp; (try with_reducible rfl))
                  (try simp only [Act.put, List.setIfInBounds_toArray, List.set_cons_zero, List.set_cons_succ])
                  refine wpAnyT_take 14 (some 134) (v := ?vr2_14) rfl rfl (by kernel_rfl) (by kernel_rfl) (by kernel_rfl) (by kernel_rfl) (fun _ _ _ h => h) rfl ?hyr2_14 hS ?restr2_14
                  case hyr2_14 => (intro w hSw; (try dsimp only at hSw); go_simp; (try with_reducible rfl))
                  (try simp only [Act.put, List.setIfInBounds_toArray, List.set_cons_zero, List.set_cons_succ])
                  refine wpAnyT_take 15 (some 135) (v := ?vr2_15) rfl rfl (by kernel_rfl) (by kernel_rfl) (by kernel_rfl) (by kernel_rfl) (fun _ _ _ h => h) rfl ?hyr2_15 hS ?restr2_15
                  case hyr2_15 => (intro w hSw; (try dsimp only at hSw); go_simp; (try with_reducible rfl))
                  (try simp only [Act.put, List.setIfInBounds_toArray, List.set_cons_zero, List.set_cons_succ])
                  refine wpAnyT_take 16 (some 136) (v := ?vr2_16) rfl rfl (by kernel_rfl) (by kernel_rfl) (by kernel_rfl) (by kernel_rfl) (fun _ _ _ h => h) rfl ?hyr2_16 hS ?restr2_16
                  case hyr2_16 => (intro w hSw; (try dsimp only at hSw); go_simp; (try with_reducible rfl))
                  (try simp only [Act.put, List.setIfInBounds_toArray, List.set_cons_zero, List.set_cons_succ])
                  refine wpAnyT_take 17 (some 137) (v := ?vr2_17) rfl rfl (by kernel_rfl) (by kernel_rfl) (by kernel_rfl) (by kernel_rfl) (fun _ _ _ h => h) rfl ?hyr2_17 hS ?restr2_17
                  case hyr2_17 => (intro w hSw; (try dsimp only at hSw); go_simp; (try with_reducible rfl))
                  (try simp only [Act.put, List.setIfInBounds_toArray, List.set_cons_zero, List.set_cons_succ])
                  refine wpAnyT_take 18 (some 138) (v := ?vr2_18) rfl rfl (by kernel_rfl) (by kernel_rfl) (by kernel_rfl) (by kernel_rfl) (fun _ _ _ h => h) rfl ?hyr2_18 hS ?restr2_18
                  case hyr2_18 => (intro w hSw; (try dsimp only at hSw); go_simp; (try with_reducible rfl))
                  (try simp only [Act.put, List.setIfInBounds_toArray, List.set_cons_zero, List.set_cons_succ])
                  refine wpAnyT_take 19 (some 139) (v := ?vr2_19) rfl rfl (by kernel_rfl) (by kernel_rfl) (by kernel_rfl) (by kernel_rfl) (fun _ _ _ h => h) rfl ?hyr2_19 hS ?restr2_19
                  case hyr2_19 => (intro w hSw; (try dsimp only at hSw); go_simp; (try with_reducible rfl))
                  (try simp only [Act.put, List.setIfInBounds_toArray, List.set_cons_zero, List.set_cons_succ])
                  refine wpAnyT_take 20 (some 140) (v := ?vr2_20) rfl rfl (by kernel_rfl) (by kernel_rfl) (by kernel_rfl) (by kernel_rfl) (fun _ _ _ h => h) rfl ?hyr2_20 hS ?restr2_20
                  case hyr2_20 => (intro w hSw; (try dsimp only at hSw); go_simp; (try with_reducible rfl))
                  (try simp only [Act.put, List.setIfInBounds_toArray, List.set_cons_zero, List.set_cons_succ])
                  refine wpAnyT_one (i := 21) rfl (by kernel_rfl) rfl (fun K hK => ?_)
                  simp only [List.getElem_toArray, List.getElem_cons_succ, List.getElem_cons_zero]
                  go_simp
                  go_at_call 125
                  with_reducible refine (rless_calls _ _ _ _ (rowq C (mixM S.M k f col l l)) (rowq C (mixM S.M k f col l k)) x (OF.fl (OF.below HRL.out hS.1)) (OF.fl (OF.below HRK.out hS.1)) (FrV.below HXV.out hS.1) (by rw [rowq_len]; exact hC) (by rw [rowq_len, rowq_len]; exact Nat.le_refl _) zx HZL.out HZK.out).mono ?_
                  rintro e w6 ⟨v6, rfl, hv6, hb6⟩
                  rw [rowq_less] at hv6
                  obtain ⟨As6, c6, hsh6, _, _⟩ := hv6.shape
                  rw [List.length_map, rowq_len] at hsh6
                  subst hsh6
                  have hS2 := mkS _ (bl_trans hS.1 hb6)
                  refine hK.out _ _ (fun _ => hS2) ?_
                  clear hS K hK
                  have hS := hS2
                  clear hS2
                  (try simp only [Act.put, List.setIfInBounds_toArray, List.set_cons_zero, List.set_cons_succ])
                  refine wpAnyT_take 22 (some 142) (v := ?vr2_22) rfl rfl (by kernel_rfl) (by kernel_rfl) (by kernel_rfl) (by kernel_rfl) (fun _ _ _ h => h) rfl ?hyr2_22 hS ?restr2_22
                  case hyr2_22 => (intro w hSw; (try dsimp only at hSw); go_simp; (try with_reducible rfl))
                  (try simp only [Act.put, List.setIfInBounds_toArray, List.set_cons_zero, List.set_cons_succ])
                  refine wpAnyT_one (i := 23) rfl (by kernel_rfl) rfl (fun K hK => ?_)
                  simp only [List.getElem_toArray, List.getElem_cons_succ, List.getElem_cons_zero]
                  have HD2 := HE.below HD.out hS.1
                  have mf := HD2.tb.free
                  go_simp
                  refine hK.out _ _ (fun h => absurd rfl h) ?_
                  refine wpAnyT_done (by kernel_rfl) ?_ _
                  clear K hK mkS
                  have HN := Lib.hid ((HD2.set hlx (hv6.mono (Nat.le_trans HD.out.hB HD.out.fr.size))).congr (M' := mixM S.M k f col (l + 1)) (fun i j _ _ => by
                    rw [HXE.out]
                    exact mixM_less2 HLK.out i j))
                  clear hS HD HD2 hv6 HRL HRK HXV hb6
                  go_wp2
                  exact ⟨⟨l + 1, _, by omega, by go_num, HN.out⟩, by simp [intOf]; omega⟩
            · have hlR : l = R := by omega
              rw [hlR] at hH
              have ql : ¬ (l : Int) < (R : Int) := by omega
              have hH2 := hH.congr (M' := elim S.M k f col) (fun i j hi _ => mixM_end hi)
              have c2 := hH2.box.cell 1
              obtain ⟨v', w2, hrun, f2, f3, hN⟩ := hH2.push col (by have := HK.out; omega)
              obtain ⟨As2, cs2, rfl, _, _⟩ := own_shp hN.own
              rw [List.length_append, List.length_singleton] at hN hrun
              have HN := Lib.hid hN
              have HRUN := Lib.hid hrun
              clear hH hH2 hlx hlR hN hrun
              go_wp2_with (first
                | (at_builtin; refine wpList_append_run _ rfl _ _ 95 rfl _ _ rfl rfl ⟨_, w2, HRUN.out, ?_⟩)
                | go_in)
              exact ⟨⟨col + 1, by omega, by go_num, _, vs3, by rw [HE1.out]; exact HN.out⟩, by simp [intOf]; omega⟩
      · have q2 : ¬ (k : Int) < (R : Int) := by omega
        have HEQ := Lib.hid (show gj A R n = S by
          rw [HS.out, show n = col + (n - col) by omega]
          exact gj_full (by rw [← HS.out, ← HK.out]; omega) _)
        obtain ⟨z1, z2⟩ := HH.out.out HG4.out (.slice (some ⟨gr, 0, none⟩) R cap) (.slice As k cs)
        have Z1 := Lib.hid z1
        have Z2 := Lib.hid z2
        clear z1 z2
        go_wp2
        exact bodyPost_ret (results_cell_row rfl _ _ g4 100 _ (0, 0) _ rfl Z2.out Try.underlying100 rfl (by kernel_rfl)) rfl ⟨_, rfl, vs1, by rw [HEQ.out]; have h := Z1.out; rw [← HK.out] at h; exact h⟩
    · have q1 : ¬ (col : Int) < (n : Int) := by omega
      have HEQ := Lib.hid (show gj A R n = S by rw [HS.out, show n = col by omega])
      obtain ⟨z1, z2⟩ := HH.out.out HG4.out (.slice (some ⟨gr, 0, none⟩) R cap) (.slice As k cs)
      have Z1 := Lib.hid z1
      have Z2 := Lib.hid z2
      clear z1 z2
      go_wp2
      exact bodyPost_ret (results_cell_row rfl _ _ g4 100 _ (0, 0) _ rfl Z2.out Try.underlying100 rfl (by kernel_rfl)) rfl ⟨_, rfl, vs1, by rw [HEQ.out]; have h := Z1.out; rw [← HK.out] at h; exact h⟩
end Go.Proofs.Ytdmgceckmciifaa
