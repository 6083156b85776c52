/- Systems of equations: the program's elimination. -/
import Derived.Test.YtdmgceckmciifaaRed
import Derived.Test.YtdmgceckmciifaaTail
import Derived.BigRegion
set_option linter.unusedVariables false
set_option linter.unusedSimpArgs false
namespace Go.Proofs.Ytdmgceckmciifaa
open Go.RowKit

theorem RBox.put {w : World} {gb : Nat} {q : Rat} (h : RBox w gb q) {g : Nat} (hg : g ≠ gb) {j : Nat} {x0 x1 x2 : Value} (h0 : w.cell? ⟨g, j * 3, none⟩ = some x0) (h1 : w.cell? ⟨g, j * 3 + 1, none⟩ = some x1) (h2 : w.cell? ⟨g, j * 3 + 2, none⟩ = some x2) (n0 : ∀ n, x0 ≠ .int .u32 n) (n1 : ∀ n, x1 ≠ .int .u32 n) (n2 : ∀ n, x2 ≠ .int .u32 n) (a b c : Value) :
    RBox (((w.setCell ⟨g, j * 3, none⟩ a).setCell ⟨g, j * 3 + 1, none⟩ b).setCell ⟨g, j * 3 + 2, none⟩ c) gb q := by
  have k := put3_fr h0 h1 h2 n0 n1 n2 a b c
  obtain ⟨D1, d1, D2, d2, k1, k2⟩ := h
  exact ⟨D1, d1, D2, d2, k.blk k1 (fun e => hg e.symm), k.keep.rt k2⟩
set_option maxRecDepth 100000 in
set_option maxHeartbeats 4000000 in
theorem reduce_calls (w : World) (B gs gr cap R C n : Nat) (b cp : Nat → Nat) (A : Nat → Nat → Rat) (h0 : HR w B gs gr cap R C n b cp A (.slice none 0 0) [] w) (hR : R ≤ 4096) (hn : n ≤ C) (hC : C ≤ 4096) (hcap : cap ≤ 9223372036854775807)
    (hz : ∀ col i j, col ≤ n → i < R → j < C → Szq 1000 ((gj A R col).M i j)) :
    Calls Try.prog 96 #[.pointer (some ⟨gs, 0, none⟩)] w fun e w' => e = .returned (.tuple #[]) ∧ ∃ stv b' cp', HR w B gs gr cap R C n b' cp' (gj A R n).M stv (gj A R n).st w' := by
  have hRc : R ≤ cap := by obtain ⟨cs, _, h2, h3, _⟩ := h0.sys.tb; exact h3
  have HZ := Lib.hid hz
  have H0 := Lib.hid h0
  clear hz h0
  go_enter Try.func96, Try.ntmps96
  go_wp2
  go_loopw [2] (fun cv wr => ∃ col : Nat, col ≤ n ∧ cv = .int .i64 (col : Int) ∧ ∃ stv b' cp', HR w B gs gr cap R C n b' cp' (gj A R col).M stv (gj A R col).st wr)
    (fun cv _ => n - (intOf cv).toNat)
  case atStart => exact ⟨0, by omega, rfl, _, b, cp, H0.out⟩
  case round =>
    clear H0
    obtain ⟨col, hcn, rfl, stv, b1, cp1, hH⟩ := hrel
    have hok := gj_ok A R C col (by omega)
    obtain ⟨S, hS⟩ : ∃ S, S = gj A R col := ⟨_, rfl⟩
    rw [← hS] at hok hH
    have hkR := hok.len
    obtain ⟨k, hk⟩ : ∃ k, k = S.st.length := ⟨_, rfl⟩
    obtain ⟨As, cs, rfl, hcs1, hcs2⟩ := own_shp hH.own
    rw [← hk] at hkR hcs1
    have c0 := hH.blk.cell 0
    have c1 := hH.blk.cell 1
    have c2 := hH.blk.cell 2
    rw [← hk] at c2
    have HH := Lib.hid hH
    have HK := Lib.hid hk
    have HS := Lib.hid hS
    have HOK := Lib.hid hok
    clear hH hk hS hok
    by_cases hx : col < n
    · have q1 : decide ((col : Int) < (n : Int)) = true := decide_eq_true (by omega)
      by_cases hx2 : k < R
      · have q2 : decide ((k : Int) < (R : Int)) = true := decide_eq_true (by omega)
        go_wp2_with fail
        go_quiet (fail)
        go_upto_block 2 with fail
        have HH1 := Lib.hid (HH.out.below (bl_drewN wr nq))
        generalize wr.drewN nq = w1 at HH1 ⊢
        obtain ⟨f, hf⟩ : ∃ f, f = fnd S.M col (R - k) k := ⟨_, rfl⟩
        obtain ⟨f1, f2, f3, f4⟩ := fnd_spec S.M col (R - k) k
        rw [← hf] at f1 f2 f3 f4
        have hfR : f ≤ R := by omega
        have HF := Lib.hid hf
        have F3 := Lib.hid f3
        have F4 := Lib.hid f4
        clear hf f2 f3 f4 c0 c1 c2 q1 q2 HH
        go_cut [4] (fun v4 wx => v4 = .int .i64 (f : Int) ∧ HR w B gs gr cap R C n b1 cp1 S.M (.slice As S.st.length cs) S.st wx)
        case first =>
          go_wp2
          go_loopw [4] (fun v wx => ∃ m : Nat, k ≤ m ∧ m ≤ f ∧ v = .int .i64 (m : Int) ∧ HR w B gs gr cap R C n b1 cp1 S.M (.slice As S.st.length cs) S.st wx)
            (fun v _ => f - (intOf v).toNat)
          case atStart => exact ⟨k, Nat.le_refl _, f1, rfl, HH1.out⟩
          case round =>
            clear HH1
            obtain ⟨m, hm1, hm2, rfl, hH⟩ := hrel
            have c0 := hH.blk.cell 0
            by_cases hmR : m < R
            · have q3 : (m : Int) < (R : Int) := by omega
              have q4 : (col : Int) < (C : Int) := by omega
              have r0 := hH.sys.tb.cell hmR
              obtain ⟨E1, x1, E2, x2, e0, e1, e2, hrt⟩ := (hH.sys.rows m hmR).cell (show col < C by omega)
              obtain ⟨y, hy⟩ : ∃ y, y = S.M m col := ⟨_, rfl⟩
              rw [← hy] at e0 e1 e2 hrt
              have hcm : C ≤ cp1 m ∧ cp1 m ≤ 9223372036854775807 := by obtain ⟨cs, _, _, h3, h4, _⟩ := hH.sys.rows m hmR; exact ⟨h3, h4⟩
              obtain ⟨bm, hbm⟩ : ∃ bm, bm = b1 m := ⟨_, rfl⟩
              rw [← hbm] at r0 e0 e1 e2
              have HY := Lib.hid hy
              have HH2 := Lib.hid hH
              have HRT := Lib.hid hrt
              clear hH hy hbm hrt
              go_wp2_with fail
              refine (sign_calls _ _ y HRT.out).mono ?_
              rintro e w4 ⟨rfl, hb4⟩
              have HH3 := Lib.hid (HH2.out.below hb4)
              clear c0 r0 e0 e1 e2 hb4 HH2
              by_cases hmf : m < f
              · have g : (y.num.sign == 0) = true := by rw [sign_zero]; exact decide_eq_true (HY.out.trans (F3.out m hm1 hmf))
                go_wp2
                exact ⟨⟨m + 1, by omega, by omega, by go_num, HH3.out⟩, by simp [intOf]; omega⟩
              · obtain rfl : m = f := by omega
                have g : (y.num.sign == 0) = false := by rw [sign_zero]; exact decide_eq_false (fun h => F4.out (by omega) (HY.out.symm.trans h))
                go_wp2
                all_goals go_meet
                case rel => exact ⟨rfl, HH3.out⟩
            · obtain rfl : m = f := by omega
              obtain rfl : m = R := by omega
              have HH3 := Lib.hid hH
              clear hH
              go_wp2
              all_goals go_meet
              case rel => exact ⟨rfl, HH3.out⟩
        case rest =>
        clear HH1
        obtain ⟨rfl, hH⟩ := hcut
        have c0 := hH.blk.cell 0
        have HH2 := Lib.hid hH
        clear hH
        by_cases hfe : f = R
        · have g : ((f : Int) == (R : Int)) = true := by rw [hfe]; simp
          have HE := Lib.hid (show gj A R (col + 1) = S by rw [gj, ← HS.out]; exact gstep_none (by rw [← HK.out, ← HF.out]; exact hfe))
          clear hfe
          go_wp2
          exact ⟨⟨col + 1, by omega, by go_num, _, b1, cp1, by rw [HE.out]; exact HH2.out⟩, by simp [intOf]; omega⟩
        · have g : ((f : Int) == (R : Int)) = false := beq_eq_false_iff_ne.2 (by omega)
          have hfR2 : f < R := by omega
          have HE := Lib.hid (show gj A R (col + 1) = ⟨elim S.M k f col, S.st ++ [col]⟩ by rw [gj, ← HS.out, HK.out]; exact gstep_some hfR2 (by rw [← HK.out]; exact f1) (by rw [← HK.out]; exact HF.out.symm))
          have hp := Lib.hid (F4.out (by omega))
          clear hfe
          go_upto_region 8 with fail
          have HD := HH2
          obtain ⟨⟨y1, y2⟩, ⟨y3, y4⟩⟩ := HD.out.sys.swap hx2 hfR2
          have dk := HD.out.sys.tb.cell hx2
          have df := HD.out.sys.tb.cell hfR2
          have dfr := HD.out.sys.tb.free
          have dk2 := (HD.out.sys.tb.set hfR2 (y := .slice (some ⟨b1 k, 0, none⟩) C (cp1 k)) (slne _ _ _)).1.cell hx2
          have df2 := (HD.out.sys.tb.set hx2 (y := .slice (some ⟨b1 f, 0, none⟩) C (cp1 f)) (slne _ _ _)).1.cell hfR2
          have tb2 : ∀ i, i < R → (∃ j, j < R ∧ b1 (tau k f i) = b1 j) ∨ wc.heap.size ≤ b1 (tau k f i) := fun i hi => Or.inl ⟨_, tau_lt hx2 hfR2 hi, rfl⟩
          have Y1 := Lib.hid ((HD.out.table y2 y1 tb2).below (bl_drew _))
          have Y2 := Lib.hid ((HD.out.table y4 y3 tb2).below (bl_drew _))
          have q5 : (k : Int) < (R : Int) := by omega
          have q6 : (f : Int) < (R : Int) := by omega
          clear y1 y2 y3 y4 tb2 HH2
          go_cut [3] (fun v3 wx => v3 = .int .i64 (k : Int) ∧ HR w B gs gr cap R C n (fun i => b1 (tau k f i)) (fun i => cp1 (tau k f i)) (fun i => S.M (tau k f i)) (.slice As S.st.length cs) S.st wx)
          case first =>
            go_region
            all_goals
              go_wp2
              go_meet
              first | exact ⟨rfl, Y1.out⟩ | exact ⟨rfl, Y2.out⟩
          case rest =>
          obtain ⟨rfl, hH⟩ := hcut
          clear HD dk df dfr dk2 df2 Y1 Y2 c0
          obtain ⟨b2, hb2⟩ : ∃ b2, b2 = fun i => b1 (tau k f i) := ⟨_, rfl⟩
          obtain ⟨cp2, hcp2⟩ : ∃ c2, c2 = fun i => cp1 (tau k f i) := ⟨_, rfl⟩
          rw [← hb2, ← hcp2] at hH
          obtain ⟨p, hpe⟩ : ∃ p, p = S.M f col := ⟨_, rfl⟩
          have HP := Lib.hid (show p ≠ 0 by rw [hpe]; exact hp.out)
          have HPE := Lib.hid hpe
          have hH2 := hH.congr (M' := sclM S.M k f col 0) (fun i j _ _ => sclM_start i j)
          have q7 : (col : Int) < (C : Int) := by omega
          have zp := HZ.out col f col hcn hfR2 (by omega)
          rw [← HS.out, ← hpe] at zp
          have hck : C ≤ cp2 k ∧ cp2 k ≤ 9223372036854775807 := by obtain ⟨cs, _, _, h3, h4, _⟩ := hH.sys.rows k hx2; exact ⟨h3, h4⟩
          have c0 := hH2.blk.cell 0
          have c1 := hH2.sys.tb.cell hx2
          obtain ⟨E1, x1, E2, x2, e0, e1, e2, hrt⟩ := (hH2.sys.rows k hx2).cell (show col < C by omega)
          have hpk : sclM S.M k f col 0 k col = p := by rw [← sclM_start, tau_k, hpe]
          rw [hpk] at e0 e1 e2 hrt
          obtain ⟨bk, hbk⟩ : ∃ bk, bk = b2 k := ⟨_, rfl⟩
          obtain ⟨ck, hck'⟩ : ∃ ck, ck = cp2 k := ⟨_, rfl⟩
          have HBK := Lib.hid hbk
          have HCK := Lib.hid hck'
          rw [← hbk, ← hck'] at c1
          rw [← hbk] at e0 e1 e2
          rw [← hck'] at hck
          have HH3 := Lib.hid hH2
          have HRT := Lib.hid hrt
          clear hb2 hcp2 hpe hp hH hH2 hrt hbk hck' hpk
          go_wp2_with fail
          refine (over_calls _ _ p HRT.out HP.out).mono ?_
          rintro e w4 ⟨v4, rfl, hv4, hb4⟩
          obtain ⟨ip, hip⟩ : ∃ ip, ip = p⁻¹ := ⟨_, rfl⟩
          rw [← hip] at hv4
          have HIP := Lib.hid hip
          have zpi := Lib.hid (show Szq 500000000 ip by rw [hip]; exact (szq_inv zp (by omega)).mono (show 1000 ≤ 500000000 by omega))
          clear hip
          obtain ⟨D1, d1, D2, d2, rfl, _, _⟩ := hv4.open
          have al := below_alloc0 w4 (.cells #[.slice D1 (dg ip.num.natAbs).length d1, .slice D2 (dg ip.den).length d2, .bool (decide (ip.num < 0))] 59)
          have RB := Lib.hid (show RBox (w4.alloc (.cells #[.slice D1 (dg ip.num.natAbs).length d1, .slice D2 (dg ip.den).length d2, .bool (decide (ip.num < 0))] 59)) w4.heap.size ip from ⟨_, _, _, _, Blk.new w4 _ _, hv4.below al⟩)
          have hb5 := bl_trans hb4 al
          have HH4 := Lib.hid (HH3.out.below hb5)
          have g0 := HH4.out.blk.cell 0
          have g1 := HH4.out.sys.tb.cell hx2
          rw [← HBK.out, ← HCK.out] at g1
          have hltb : ∀ i, i < R → b2 i < w4.heap.size := fun i hi => Nat.lt_of_lt_of_le ((HH3.out.sys.rows i hi).lt) hb4.size
          have HLB := Lib.hid hltb
          obtain ⟨W5, hW5⟩ : ∃ W, W = w4.alloc (.cells #[.slice D1 (dg ip.num.natAbs).length d1, .slice D2 (dg ip.den).length d2, .bool (decide (ip.num < 0))] 59) := ⟨_, rfl⟩
          obtain ⟨gy, hgy⟩ : ∃ g, g = w4.heap.size := ⟨_, rfl⟩
          rw [← hW5] at RB HH4
          rw [← hgy] at RB HLB
          clear c0 c1 e0 e1 e2 hv4 hb4 hb5 al hltb
          go_wp2
          rw [← hW5]
          rw [← hgy]
          clear g0 g1 hW5 hgy HH3 HRT
          go_loopw [110] (fun v wx => ∃ m : Nat, m ≤ C ∧ v = .int .i64 (m : Int) ∧ HR w B gs gr cap R C n b2 cp2 (sclM S.M k f col m) (.slice As S.st.length cs) S.st wx ∧ RBox wx gy ip)
            (fun v _ => C - (intOf v).toNat)
          case atStart => exact ⟨0, by omega, rfl, HH4.out, RB.out⟩
          case round =>
            clear HH4 RB
            obtain ⟨m, hm, rfl, hH, hB⟩ := hrel
            by_cases hmx : m < C
            · have q8 : (m : Int) < (C : Int) := by omega
              have c0 := hH.blk.cell 0
              have c1 := hH.sys.tb.cell hx2
              obtain ⟨E1, x1, E2, x2, c2, c3, c4, hrt⟩ := (hH.sys.rows k hx2).cell hmx
              obtain ⟨x, hxe⟩ : ∃ x, x = S.M f m := ⟨_, rfl⟩
              have hxk : sclM S.M k f col m k m = x := by unfold sclM; rw [if_neg (fun h => by omega), tau_k, hxe]
              rw [hxk] at c2 c3 c4 hrt
              have zx := HZ.out col f m hcn hfR2 hmx
              rw [← HS.out, ← hxe] at zx
              obtain ⟨D1, d1, D2, d2, KB, hrtb⟩ := hB
              have c5 := KB.cell 0
              have c6 := KB.cell 1
              have c7 := KB.cell 2
              rw [← HBK.out, ← HCK.out] at c1
              rw [← HBK.out] at c2 c3 c4
              have CE0 := Lib.hid (And.intro c0 (And.intro c1 (And.intro c2 (And.intro c3 (And.intro c4 (And.intro c5 (And.intro c6 (And.intro c7 (And.intro c0 (And.intro c0 c0))))))))))
              have CE := Lib.hid (ce11 (bl_drew _) CE0.out)
              obtain ⟨m0, m1, m2, m3, m4, m5, m6, m7, _, _, _⟩ := CE.out
              have HH5 := Lib.hid (hH.below (bl_drew _))
              have RB5 := Lib.hid (RBox.below (⟨D1, d1, D2, d2, KB, hrtb⟩ : RBox _ gy ip) (bl_drew _))
              have TX := Lib.hid (hrt.below (bl_drew _))
              have TB := Lib.hid (hrtb.below (bl_drew _))
              have HQ := Lib.hid (show ∀ i j, upd (sclM S.M k f col m) k (upd (sclM S.M k f col m k) m (x * ip)) i j = sclM S.M k f col (m + 1) i j by
                intro i j
                rw [hxe, HIP.out, HPE.out]
                exact sclM_set i j)
              clear hH hrt KB hrtb hxe hxk c0 c1 c2 c3 c4 c5 c6 c7 CE0
              go_wp2_with fail
              refine wp_region_T (fun w' => HR w B gs gr cap R C n b2 cp2 (sclM S.M k f col m) (.slice As S.st.length cs) S.st w' ∧ w'.cell? ⟨gs, 0, none⟩ = some (.slice (some ⟨gr, 0, none⟩) R cap) ∧ w'.cell? ⟨gr, k, none⟩ = some (.slice (some ⟨bk, 0, none⟩) C ck) ∧ w'.cell? ⟨bk, m * 3, none⟩ = some (.slice E1 (dg x.num.natAbs).length x1) ∧ w'.cell? ⟨bk, m * 3 + 1, none⟩ = some (.slice E2 (dg x.den).length x2) ∧ w'.cell? ⟨bk, m * 3 + 2, none⟩ = some (.bool (decide (x.num < 0))) ∧ w'.cell? ⟨gy, 0, none⟩ = some (.slice D1 (dg ip.num.natAbs).length d1) ∧ w'.cell? ⟨gy, 1, none⟩ = some (.slice D2 (dg ip.den).length d2) ∧ w'.cell? ⟨gy, 2, none⟩ = some (.bool (decide (ip.num < 0)))) 21 (by kernel_rfl) ?_
              have hS : (fun w' => HR w B gs gr cap R C n b2 cp2 (sclM S.M k f col m) (.slice As S.st.length cs) S.st w' ∧ w'.cell? ⟨gs, 0, none⟩ = some (.slice (some ⟨gr, 0, none⟩) R cap) ∧ w'.cell? ⟨gr, k, none⟩ = some (.slice (some ⟨bk, 0, none⟩) C ck) ∧ w'.cell? ⟨bk, m * 3, none⟩ = some (.slice E1 (dg x.num.natAbs).length x1) ∧ w'.cell? ⟨bk, m * 3 + 1, none⟩ = some (.slice E2 (dg x.den).length x2) ∧ w'.cell? ⟨bk, m * 3 + 2, none⟩ = some (.bool (decide (x.num < 0))) ∧ w'.cell? ⟨gy, 0, none⟩ = some (.slice D1 (dg ip.num.natAbs).length d1) ∧ w'.cell? ⟨gy, 1, none⟩ = some (.slice D2 (dg ip.den).length d2) ∧ w'.cell? ⟨gy, 2, none⟩ = some (.bool (decide (ip.num < 0)))) _ := ⟨HH5.out, m0, m1, m2, m3, m4, m5, m6, m7⟩
              simp only [List.size_toArray, List.length_cons, List.length_nil, Nat.reduceAdd]
              refine wpAnyT_take 0 (some 113) (v := ?v0) rfl rfl (by kernel_rfl) (by kernel_rfl) (by kernel_rfl) (by kernel_rfl) (fun _ _ _ h => h) rfl ?hy0 hS ?rest0
              case hy0 => (intro w hSw; (try dsimp only at hSw); go_simp; (try with_reducible rfl))
              (try simp only [Act.put, List.setIfInBounds_toArray, List.set_cons_zero, List.set_cons_succ])
              refine wpAnyT_take 1 (some 114) (v := ?v1) rfl rfl (by kernel_rfl) (by kernel_rfl) (by kernel_rfl) (by kernel_rfl) (fun _ _ _ h => h) rfl ?hy1 hS ?rest1
              case hy1 => (intro w hSw; (try dsimp only at hSw); go_simp; (try with_reducible rfl))
              (try simp only [Act.put, List.setIfInBounds_toArray, List.set_cons_zero, List.set_cons_succ])
              refine wpAnyT_take 2 (some 115) (v := ?v2) rfl rfl (by kernel_rfl) (by kernel_rfl) (by kernel_rfl) (by kernel_rfl) (fun _ _ _ h => h) rfl ?hy2 hS ?rest2
              case hy2 => (intro w hSw; (try dsimp only at hSw); go_simp; (try with_reducible rfl))
              (try simp only [Act.put, List.setIfInBounds_toArray, List.set_cons_zero, List.set_cons_succ])
              refine wpAnyT_take 3 (some 116) (v := ?v3) rfl rfl (by kernel_rfl) (by kernel_rfl) (by kernel_rfl) (by kernel_rfl) (fun _ _ _ h => h) rfl ?hy3 hS ?rest3
              case hy3 => (intro w hSw; (try dsimp only at hSw); go_simp; (try with_reducible rfl))
              (try simp only [Act.put, List.setIfInBounds_toArray, List.set_cons_zero, List.set_cons_succ])
              refine wpAnyT_take 4 (some 117) (v := ?v4) rfl rfl (by kernel_rfl) (by kernel_rfl) (by kernel_rfl) (by kernel_rfl) (fun _ _ _ h => h) rfl ?hy4 hS ?rest4
              case hy4 => (intro w hSw; (try dsimp only at hSw); go_simp; (try with_reducible rfl))
              (try simp only [Act.put, List.setIfInBounds_toArray, List.set_cons_zero, List.set_cons_succ])
              refine wpAnyT_take 5 (some 118) (v := ?v5) rfl rfl (by kernel_rfl) (by kernel_rfl) (by kernel_rfl) (by kernel_rfl) (fun _ _ _ h => h) rfl ?hy5 hS ?rest5
              case hy5 => (intro w hSw; (try dsimp only at hSw); go_simp; (try with_reducible rfl))
              (try simp only [Act.put, List.setIfInBounds_toArray, List.set_cons_zero, List.set_cons_succ])
              refine wpAnyT_take 6 (some 119) (v := ?v6) rfl rfl (by kernel_rfl) (by kernel_rfl) (by kernel_rfl) (by kernel_rfl) (fun _ _ _ h => h) rfl ?hy6 hS ?rest6
              case hy6 => (intro w hSw; (try dsimp only at hSw); go_simp; (try with_reducible rfl))
              (try simp only [Act.put, List.setIfInBounds_toArray, List.set_cons_zero, List.set_cons_succ])
              refine wpAnyT_take 7 (some 120) (v := ?v7) rfl rfl (by kernel_rfl) (by kernel_rfl) (by kernel_rfl) (by kernel_rfl) (fun _ _ _ h => h) rfl ?hy7 hS ?rest7
              case hy7 => (intro w hSw; (try dsimp only at hSw); go_simp; (try with_reducible rfl))
              (try simp only [Act.put, List.setIfInBounds_toArray, List.set_cons_zero, List.set_cons_succ])
              refine wpAnyT_take 8 (some 121) (v := ?v8) rfl rfl (by kernel_rfl) (by kernel_rfl) (by kernel_rfl) (by kernel_rfl) (fun _ _ _ h => h) rfl ?hy8 hS ?rest8
              case hy8 => (intro w hSw; (try dsimp only at hSw); go_simp; (try with_reducible rfl))
              (try simp only [Act.put, List.setIfInBounds_toArray, List.set_cons_zero, List.set_cons_succ])
              refine wpAnyT_take 9 (some 122) (v := ?v9) rfl rfl (by kernel_rfl) (by kernel_rfl) (by kernel_rfl) (by kernel_rfl) (fun _ _ _ h => h) rfl ?hy9 hS ?rest9
              case hy9 => (intro w hSw; (try dsimp only at hSw); go_simp; (try with_reducible rfl))
              (try simp only [Act.put, List.setIfInBounds_toArray, List.set_cons_zero, List.set_cons_succ])
              refine wpAnyT_take 10 (some 123) (v := ?v10) rfl rfl (by kernel_rfl) (by kernel_rfl) (by kernel_rfl) (by kernel_rfl) (fun _ _ _ h => h) rfl ?hy10 hS ?rest10
              case hy10 => (intro w hSw; (try dsimp only at hSw); go_simp; (try with_reducible rfl))
              (try simp only [Act.put, List.setIfInBounds_toArray, List.set_cons_zero, List.set_cons_succ])
              refine wpAnyT_take 11 (some 124) (v := ?v11) rfl rfl (by kernel_rfl) (by kernel_rfl) (by kernel_rfl) (by kernel_rfl) (fun _ _ _ h => h) rfl ?hy11 hS ?rest11
              case hy11 => (intro w hSw; (try dsimp only at hSw); go_simp; (try with_reducible rfl))
              (try simp only [Act.put, List.setIfInBounds_toArray, List.set_cons_zero, List.set_cons_succ])
              refine wpAnyT_take 12 (some 125) (v := ?v12) rfl rfl (by kernel_rfl) (by kernel_rfl) (by kernel_rfl) (by kernel_rfl) (fun _ _ _ h => h) rfl ?hy12 hS ?rest12
              case hy12 => (intro w hSw; (try dsimp only at hSw); go_simp; (try with_reducible rfl))
              (try simp only [Act.put, List.setIfInBounds_toArray, List.set_cons_zero, List.set_cons_succ])
              refine wpAnyT_take 13 (some 126) (v := ?v13) rfl rfl (by kernel_rfl) (by kernel_rfl) (by kernel_rfl) (by kernel_rfl) (fun _ _ _ h => h) rfl ?hy13 hS ?rest13
              case hy13 => (intro w hSw; (try dsimp only at hSw); go_simp; (try with_reducible rfl))
              (try simp only [Act.put, List.setIfInBounds_toArray, List.set_cons_zero, List.set_cons_succ])
              refine wpAnyT_take 14 (some 127) (v := ?v14) rfl rfl (by kernel_rfl) (by kernel_rfl) (by kernel_rfl) (by kernel_rfl) (fun _ _ _ h => h) rfl ?hy14 hS ?rest14
              case hy14 => (intro w hSw; (try dsimp only at hSw); go_simp; (try with_reducible rfl))
              (try simp only [Act.put, List.setIfInBounds_toArray, List.set_cons_zero, List.set_cons_succ])
              refine wpAnyT_take 15 (some 128) (v := ?v15) rfl rfl (by kernel_rfl) (by kernel_rfl) (by kernel_rfl) (by kernel_rfl) (fun _ _ _ h => h) rfl ?hy15 hS ?rest15
              case hy15 => (intro w hSw; (try dsimp only at hSw); go_simp; (try with_reducible rfl))
              (try simp only [Act.put, List.setIfInBounds_toArray, List.set_cons_zero, List.set_cons_succ])
              refine wpAnyT_take 16 (some 129) (v := ?v16) rfl rfl (by kernel_rfl) (by kernel_rfl) (by kernel_rfl) (by kernel_rfl) (fun _ _ _ h => h) rfl ?hy16 hS ?rest16
              case hy16 => (intro w hSw; (try dsimp only at hSw); go_simp; (try with_reducible rfl))
              (try simp only [Act.put, List.setIfInBounds_toArray, List.set_cons_zero, List.set_cons_succ])
              refine wpAnyT_take 17 (some 130) (v := ?v17) rfl rfl (by kernel_rfl) (by kernel_rfl) (by kernel_rfl) (by kernel_rfl) (fun _ _ _ h => h) rfl ?hy17 hS ?rest17
              case hy17 => (intro w hSw; (try dsimp only at hSw); go_simp; (try with_reducible rfl))
              (try simp only [Act.put, List.setIfInBounds_toArray, List.set_cons_zero, List.set_cons_succ])
              refine wpAnyT_take 18 (some 131) (v := ?v18) rfl rfl (by kernel_rfl) (by kernel_rfl) (by kernel_rfl) (by kernel_rfl) (fun _ _ _ h => h) rfl ?hy18 hS ?rest18
              case hy18 => (intro w hSw; (try dsimp only at hSw); go_simp; (try with_reducible rfl))
              (try simp only [Act.put, List.setIfInBounds_toArray, List.set_cons_zero, List.set_cons_succ])
              refine wpAnyT_one (i := 19) rfl (by kernel_rfl) rfl (fun K hK => ?_)
              simp only [List.getElem_toArray, List.getElem_cons_succ, List.getElem_cons_zero]
              go_simp
              go_at_call 63
              with_reducible refine (times_calls _ _ _ x ip TX.out TB.out (zx.mono (by omega)) zpi.out).mono ?_
              rintro e w6 ⟨v6, rfl, hv6, hb6⟩
              obtain ⟨P1, p1', P2, p2', rfl, _, _⟩ := hv6.open
              have hS2 : (fun w' => HR w B gs gr cap R C n b2 cp2 (sclM S.M k f col m) (.slice As S.st.length cs) S.st w' ∧ w'.cell? ⟨gs, 0, none⟩ = some (.slice (some ⟨gr, 0, none⟩) R cap) ∧ w'.cell? ⟨gr, k, none⟩ = some (.slice (some ⟨bk, 0, none⟩) C ck) ∧ w'.cell? ⟨bk, m * 3, none⟩ = some (.slice E1 (dg x.num.natAbs).length x1) ∧ w'.cell? ⟨bk, m * 3 + 1, none⟩ = some (.slice E2 (dg x.den).length x2) ∧ w'.cell? ⟨bk, m * 3 + 2, none⟩ = some (.bool (decide (x.num < 0))) ∧ w'.cell? ⟨gy, 0, none⟩ = some (.slice D1 (dg ip.num.natAbs).length d1) ∧ w'.cell? ⟨gy, 1, none⟩ = some (.slice D2 (dg ip.den).length d2) ∧ w'.cell? ⟨gy, 2, none⟩ = some (.bool (decide (ip.num < 0)))) w6 := ⟨HR.next hb6 hS.1, cell_below hb6 hS.2.1, cell_below hb6 hS.2.2.1, cell_below hb6 hS.2.2.2.1, cell_below hb6 hS.2.2.2.2.1, cell_below hb6 hS.2.2.2.2.2.1, cell_below hb6 hS.2.2.2.2.2.2.1, cell_below hb6 hS.2.2.2.2.2.2.2.1, cell_below hb6 hS.2.2.2.2.2.2.2.2⟩
              refine hK.out _ _ (fun _ => hS2) ?_
              clear hS K hK
              have hS := hS2
              clear hS2
              (try simp only [Act.put, List.setIfInBounds_toArray, List.set_cons_zero, List.set_cons_succ])
              refine wpAnyT_take 20 (some 133) (v := ?v20) rfl rfl (by kernel_rfl) (by kernel_rfl) (by kernel_rfl) (by kernel_rfl) (fun _ _ _ h => h) rfl ?hy20 hS ?rest20
              case hy20 => (intro w hSw; (try dsimp only at hSw); go_simp; (try with_reducible rfl))
              (try simp only [Act.put, List.setIfInBounds_toArray, List.set_cons_zero, List.set_cons_succ])
              refine wpAnyT_one (i := 21) rfl (by kernel_rfl) rfl (fun K hK => ?_)
              have HN := Lib.hid ((hS.1.entry hx2 hmx hv6).congr (fun i j _ _ => HQ.out i j))
              have RB6 := RB5.out.below hb6
              rw [← HBK.out] at HN
              have mf := (hS.1.sys.rows k hx2).free
              rw [← HBK.out] at mf
              have n2 := hS.2.2.2.1
              have n3 := hS.2.2.2.2.1
              have n4 := hS.2.2.2.2.2.1
              have RB7 := Lib.hid (RBox.put RB6 (g := bk) (by have := HLB.out k hx2; rw [← HBK.out] at this; omega) (j := m) n2 n3 n4 (slne _ _ _) (slne _ _ _) (boolne _) (.slice P1 (dg (x * ip).num.natAbs).length p1') (.slice P2 (dg (x * ip).den).length p2') (.bool (decide ((x * ip).num < 0))))
              simp only [List.getElem_toArray, List.getElem_cons_succ, List.getElem_cons_zero]
              go_simp
              refine hK.out _ _ (fun h => absurd rfl h) ?_
              refine wpAnyT_done (by kernel_rfl) ?_ _
              clear hS K hK hv6
              go_wp2
              exact ⟨⟨m + 1, by omega, by go_num, HN.out, RB7.out⟩, by simp [intOf]; omega⟩
            · have hmC : m = C := by omega
              rw [hmC] at hH
              have qm : ¬ (m : Int) < (C : Int) := by omega
              have HH5 := Lib.hid (hH.congr (fun i j _ hj => sclM_end i j hj))
              have c0 := hH.blk.cell 0
              clear hH hB hmx hmC
              go_wp2
              go_loopw [140] (fun v wx => ∃ (l : Nat) (b3 cp3 : Nat → Nat), l ≤ R ∧ v = .int .i64 (l : Int) ∧ HR w B gs gr cap R C n b3 cp3 (mixM S.M k f col l) (.slice As S.st.length cs) S.st wx)
                (fun v _ => R - (intOf v).toNat)
              case atStart => exact ⟨0, b2, cp2, by omega, rfl, HH5.out⟩
              case round =>
                clear HH5 c0
                obtain ⟨l, b3, cp3, hl, rfl, hH⟩ := hrel
                by_cases hlx : l < R
                · have q9 : (l : Int) < (R : Int) := by omega
                  have HH6 := Lib.hid hH
                  by_cases hlk : l = k
                  · have g9 : ((l : Int) == (k : Int)) = true := by rw [hlk]; simp
                    have HH7 := Lib.hid (show HR w B gs gr cap R C n b3 cp3 (mixM S.M k f col (l + 1)) (.slice As S.st.length cs) S.st wr from by
                      have h := hH
                      rw [hlk] at h ⊢
                      exact h.congr (fun i j _ _ => mixM_skip i j))
                    clear hH HH6 hlk
                    go_wp2
                    exact ⟨⟨l + 1, b3, cp3, by omega, by go_num, HH7.out⟩, by simp [intOf]; omega⟩
                  · have g9 : ((l : Int) == (k : Int)) = false := beq_eq_false_iff_ne.2 (by omega)
                    have HLK := Lib.hid hlk
                    clear hH hlk
                    go_wp2_with fail
                    refine (less_calls _ gs gr cap R C b3 cp3 (mixM S.M k f col l) (n : Int) _ l k col HH6.out.blk HH6.out.sys hlx hx2 (by omega) hcap hC (fun i j hi hj => ?_) HH6.out.gsgr).mono ?_
                    · unfold mixM
                      split
                      · have h := HZ.out (col + 1) i j (by omega) hi hj
                        rw [HE.out] at h
                        exact h.mono (by omega)
                      · have h := HZ.out col (tau k f i) j hcn (tau_lt hx2 hfR2 hi) hj
                        rw [← HS.out] at h
                        exact h.mono (by omega)
                    rintro e w7 ⟨rfl, b', c', hsys, hfr, hb'⟩
                    have HN := Lib.hid ((HH6.out.table hfr hsys (fun i hi => by
                      by_cases e : i = l
                      · rw [e, upd_at]
                        rcases hb' with h | h
                        · exact Or.inl ⟨l, hlx, h⟩
                        · exact Or.inr h
                      · rw [upd_ne e]; exact Or.inl ⟨i, hi, rfl⟩)).congr (fun i j _ _ => mixM_less HLK.out (fun j hj => HOK.out.zero f j (by rw [← HK.out]; exact f1) hfR2 hj) i j))
                    clear hsys hfr hb' HH6
                    go_wp2
                    exact ⟨⟨l + 1, _, _, by omega, by go_num, HN.out⟩, by simp [intOf]; omega⟩
                · have hlR : l = R := by omega
                  rw [hlR] at hH
                  have ql : ¬ (l : Int) < (R : Int) := by omega
                  have hH2 := hH.congr (M' := elim S.M k f col) (fun i j hi _ => mixM_end hi)
                  have c2 := hH2.blk.cell 2
                  obtain ⟨v', w2, hrun, e2, e3, hN⟩ := hH2.push col (by have := HK.out; omega) _ rfl
                  obtain ⟨As2, cs2, rfl, _, _⟩ := own_shp hN.own
                  rw [List.length_append, List.length_singleton] at hN hrun
                  have HN := Lib.hid hN
                  have HRUN := Lib.hid hrun
                  clear hH hH2 hlx hlR hN hrun
                  go_wp2_with (first
                    | (at_builtin; refine wpList_append_run _ rfl _ _ 95 rfl _ _ rfl rfl ⟨_, w2, HRUN.out, ?_⟩)
                    | go_in)
                  exact ⟨⟨col + 1, by omega, by go_num, _, b3, cp3, by rw [HE.out]; exact HN.out⟩, by simp [intOf]; omega⟩
      · have q2 : decide ((k : Int) < (R : Int)) = false := decide_eq_false (by omega)
        have HE := Lib.hid (show gj A R n = S by
          rw [HS.out, show n = col + (n - col) by omega]
          exact gj_full (by rw [← HS.out, ← HK.out]; omega) _)
        go_wp2_with fail
        go_quiet (fail)
        go_wp2
        go_end0
        exact ⟨rfl, _, b1, cp1, by rw [HE.out]; exact HH.out.below (bl_drewN _ _)⟩
    · have q1 : decide ((col : Int) < (n : Int)) = false := decide_eq_false (by omega)
      obtain rfl : col = n := by omega
      go_wp2_with fail
      go_quiet (fail)
      go_wp2
      go_end0
      exact ⟨rfl, _, b1, cp1, by rw [← HS.out]; exact HH.out.below (bl_drewN _ _)⟩
end Go.Proofs.Ytdmgceckmciifaa
