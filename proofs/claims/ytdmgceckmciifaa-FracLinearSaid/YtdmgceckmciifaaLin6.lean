/- Systems of equations: the statement FracLinear. -/
import Derived.Test.YtdmgceckmciifaaLin4
set_option linter.unusedVariables false
set_option linter.unusedSimpArgs false
namespace Go.Proofs.Ytdmgceckmciifaa
open Go.RowKit

theorem nil_sys {LL : List (List (Bool × List Int × List Int))} {Rl : List (Bool × List Int × List Int)} (h : sysOK LL Rl) : sysOK LL [] := ⟨h.1, by simp, fun d hd => absurd hd (by simp), h.2.2.2⟩
set_option maxRecDepth 100000 in
set_option maxHeartbeats 16000000 in
theorem law_linear (w : World) (va vb : Value) (LL : List (List (Bool × List Int × List Int))) (Rl : List (Bool × List Int × List Int)) (ha : FLL w va LL) (hb : FL w vb Rl) :
    Calls Try.prog 12 #[va, vb] w fun e w' => e = .returned (.bool true) ∧ Below w.heap.size w w' := by
  have HA := Lib.hid ha
  have HB := Lib.hid hb
  obtain ⟨A, c, rfl⟩ := ha.shape
  obtain ⟨Ab, cb, rfl⟩ := hb.shape
  clear ha hb
  go_enter Try.func12, Try.ntmps12
  go_wp2_with fail
  refine (system_calls _ _ _ LL Rl HA.out HB.out).mono ?_
  rintro e w1 ⟨rfl, hb1⟩
  by_cases hs : sysOK LL Rl
  · rw [decide_eq_true hs]
    have HS := Lib.hid hs
    have HB2 := Lib.hid hb1
    have hR7 : LL.length ≤ 7 := hs.1
    have hr7 : Rl.length ≤ 7 := hs.2.1
    clear hs hb1
    go_wp2_with fail
    refine (copyrows_calls _ _ LL (HA.out.below HB2.out) (by omega) (fun L hL => ⟨by have := (HS.out.2.2.2 L hL).1; omega, (HS.out.2.2.2 L hL).2.mono (by omega)⟩)).mono ?_
    rintro e w3 ⟨v3, rfl, hO3, hb3⟩
    have HO3 := Lib.hid hO3.fll
    have HB3 := Lib.hid (bl_trans HB2.out hb3)
    clear hO3 hb3 HB2
    go_wp2_with fail
    refine (copyfracs_of _ _ Rl (HB.out.below HB3.out) (by omega) (HS.out.2.2.1.mono (by omega))).mono ?_
    rintro e w4 ⟨v4, rfl, hO4, hb4⟩
    have HO4 := Lib.hid hO4.fl
    have HO34 := Lib.hid (HO3.out.below hb4)
    have HB4 := Lib.hid (bl_trans HB3.out hb4)
    have HWL := Lib.hid HA.out.wd
    have HWR := Lib.hid HB.out.wd
    have HSQ := Lib.hid (fun hu => sys_szq HS.out HWL.out HWR.out hu)
    have HSN := Lib.hid (fun hu => sys_szq (nil_sys HS.out) HWL.out (fun d hd => absurd hd (by simp)) hu)
    have HRK := Lib.hid (fun hu => rank_szq HS.out.1 HS.out.2.2.2 HWL.out hu)
    clear hO4 hb4 HB3 HO3
    go_wp2_with fail
    refine (linear_calls _ _ _ LL Rl HO34.out HO4.out (by omega) (by omega) HS.out.rows (HS.out.2.2.1.mono (by omega)) (fun hu col i j h1 h2 h3 => (HSQ.out hu col i j h1 h2 h3).mono (by omega))).mono ?_
    rintro e w5 ⟨hb5, hcase⟩
    have HO35 := Lib.hid (HO34.out.below hb5)
    have HB5 := Lib.hid (bl_trans HB4.out hb5)
    clear hb5 HO4 HO34 HB4
    have rk : ∀ (w : World) (va : Value), FLL w va LL → Calls Try.prog 59 #[va] w fun e w' => e = .returned (.tuple #[.int .i64 (if formE LL (-1) = 0 then ((sysG LL []).st.length : Int) else 0), .int .i64 (formE LL (-1))]) ∧ Below w.heap.size w w' := by
      intro w va ha
      refine (rank_calls w va LL ha (by omega) HS.out.rows (fun hu col i j h1 h2 h3 => (HRK.out hu col i j h1 h2 h3).mono (by omega))).mono ?_
      rintro e w' ⟨rfl, hb⟩
      refine ⟨?_, hb⟩
      by_cases hf : formE LL (-1) = 0
      · have hun : unif LL := by
          apply Classical.byContradiction
          intro h
          rw [formE_no (fun k => h k.1)] at hf
          cases hf
        rw [if_pos hf, if_pos hf, rank_eq [] hun]
      · rw [if_neg hf, if_neg hf]
    have HRANK := Lib.hid rk
    obtain ⟨rv, hrv⟩ : ∃ r : Int, r = (if formE LL (-1) = 0 then ((sysG LL []).st.length : Int) else 0) := ⟨_, rfl⟩
    obtain ⟨fv, hfv⟩ : ∃ r : Int, r = formE LL (-1) := ⟨_, rfl⟩
    have HRV := Lib.hid hrv
    have HFV := Lib.hid hfv
    clear rk hrv hfv
    have rl : ∀ w6, Below w5.heap.size w5 w6 → Calls Try.prog 58 #[.slice A LL.length c, .slice Ab Rl.length cb] w6 (LinR LL Rl w6) := fun w6 hb => rlinear_calls _ _ _ LL Rl (HA.out.below (bl_trans HB5.out hb)) (HB.out.below (bl_trans HB5.out hb)) (by omega) (by omega) HS.out.rows (HS.out.2.2.1.mono (by omega)) (fun hu col i j h1 h2 h3 => (HSQ.out hu col i j h1 h2 h3).mono (by omega))
    have HRL := Lib.hid rl
    have rr : ∀ w6, Below w5.heap.size w5 w6 → Calls Try.prog 60 #[.slice A LL.length c] w6 fun e w' => e = .returned (.tuple #[.int .i64 rv, .int .i64 fv]) ∧ Below w6.heap.size w6 w' := fun w6 hb => by rw [HRV.out, HFV.out]; exact rrank_calls _ _ LL (HA.out.below (bl_trans HB5.out hb)) (by omega) HS.out.rows (fun hu col i j h1 h2 h3 => (HSN.out hu col i j h1 h2 h3).mono (by omega))
    have HRR := Lib.hid rr
    have pr : ∀ w6, Below w5.heap.size w5 w6 → Calls Try.prog 59 #[v3] w6 fun e w' => e = .returned (.tuple #[.int .i64 rv, .int .i64 fv]) ∧ Below w6.heap.size w6 w' := fun w6 hb => by rw [HRV.out, HFV.out]; exact HRANK.out _ _ (HO35.out.below hb)
    have HPR := Lib.hid pr
    have b0 : ((rv : Int) != rv) = false := by simp
    have b1 : ((fv : Int) != fv) = false := by simp
    clear rl rr pr
    rcases hcase with ⟨hno, rfl⟩ | ⟨hu, hlr, hok, g, rfl, hg, hF⟩ | ⟨hu, hlr, i, hi1, hi2, hne, v, rfl, hO⟩
    · have HNO := Lib.hid hno
      clear hno
      go_wp2_with fail
      refine (HRL.out _ (Below.refl _ _)).mono ?_
      rintro e w6 ⟨hb6, ⟨_, rfl⟩ | ⟨h1, h2, _⟩ | ⟨h1, h2, _⟩⟩
      · have HB6 := Lib.hid hb6
        clear hb6
        go_wp2_with fail
        refine (HPR.out _ HB6.out).mono ?_
        rintro e w7 ⟨rfl, hb7⟩
        have HB7 := Lib.hid (bl_trans HB6.out hb7)
        clear hb7
        go_wp2_with fail
        refine (HRR.out _ HB7.out).mono ?_
        rintro e w8 ⟨rfl, hb8⟩
        have HB8 := Lib.hid (bl_trans HB7.out hb8)
        clear hb8
        go_wp2_with fail
        refine (half_calls _).mono ?_
        rintro e w9 ⟨rfl, hb9⟩
        have HB9 := Lib.hid (bl_trans HB8.out hb9)
        have q9 : ((12 : Int) != 0) = true := rfl
        clear hb9
        go_wp2
        go_ret
        exact ⟨rfl, bl_trans HB5.out HB9.out⟩
      · exact absurd ⟨h1, h2⟩ HNO.out
      · exact absurd ⟨h1, h2⟩ HNO.out
    · have hX := hF.fl
      rw [xL_eq] at hX
      obtain ⟨n, hn⟩ : ∃ n, n = colsN LL := ⟨_, rfl⟩
      rw [← hn] at hX ⊢
      have HX := Lib.hid hX
      have HN := Lib.hid hn
      have HU := Lib.hid hu
      have HLR := Lib.hid hlr
      have HOK := Lib.hid hok
      clear hX hn hF hg hu hlr hok
      go_wp2_with fail
      refine (HRL.out _ (Below.refl _ _)).mono ?_
      rintro e w6 ⟨hb6, ⟨hno, rfl⟩ | ⟨h1, h2, h3, v6, rfl, hW⟩ | ⟨h1, h2, h3, _⟩⟩
      · exact absurd ⟨HU.out, HLR.out⟩ hno
      · rw [xL_eq] at hW
        obtain ⟨Aw, cw, rfl⟩ := hW.shape
        have hxl : (xL LL Rl).length = n := by simp [xL, HN.out]
        rw [hxl] at hW ⊢
        have HW := Lib.hid hW
        have HB6 := Lib.hid hb6
        have HXL := Lib.hid hxl
        clear hb6 hW hxl h1 h2 h3
        go_wp2_with fail
        refine (HPR.out _ HB6.out).mono ?_
        rintro e w7 ⟨rfl, hb7⟩
        have HW7 := Lib.hid (HW.out.below hb7)
        have HB7 := Lib.hid (bl_trans HB6.out hb7)
        clear hb7
        go_wp2_with fail
        refine (HRR.out _ HB7.out).mono ?_
        rintro e w8 ⟨rfl, hb8⟩
        have HW8 := Lib.hid (HW7.out.below hb8)
        have HB8 := Lib.hid (bl_trans HB7.out hb8)
        clear hb8
        go_wp2_with fail
        refine (half_calls _).mono ?_
        rintro e w9 ⟨rfl, hb9⟩
        have HW9 := Lib.hid (HW8.out.below hb9)
        have HB9 := Lib.hid (bl_trans HB8.out hb9)
        have HX9 := Lib.hid (HX.out.below HB9.out)
        have b2 : ((n : Int) == (n : Int)) = true := by simp
        clear hb9
        go_wp2_with fail
        refine (equal_calls _ _ _ (xL LL Rl) (xL LL Rl) HX9.out HW9.out ((xL_few (HSQ.out HU.out)).mono (by omega)) ((xL_few (HSQ.out HU.out)).mono (by omega)) rfl rfl).mono ?_
        rintro e w10 ⟨rfl, hb10⟩
        have HB10 := Lib.hid (bl_trans HB9.out hb10)
        have HX10 := Lib.hid (HX9.out.below hb10)
        clear hb10
        go_wp2_with fail
        refine (solves_calls _ _ _ _ LL Rl (xL LL Rl) (HA.out.below (bl_trans HB5.out HB10.out)) (HB.out.below (bl_trans HB5.out HB10.out)) HX10.out HS.out HU.out HLR.out (fun _ => by simp [xL]) (xL_few (HSQ.out HU.out))).mono ?_
        rintro e w11 ⟨b, rfl, hbS, hb11⟩
        have hbt : b = true := hbS.2 (xL_solves HU.out HLR.out HOK.out)
        subst hbt
        have HB11 := Lib.hid (bl_trans HB10.out hb11)
        clear hbS hb11
        go_wp2
        go_ret
        exact ⟨rfl, bl_trans HB5.out HB11.out⟩
      · exact absurd HOK.out h3
    · have hY := hO.fl
      rw [yL_eq] at hY
      have HY := Lib.hid hY
      have HU := Lib.hid hu
      have HLR := Lib.hid hlr
      have hnok : ¬ gjok (sysG LL Rl) LL.length (colsN LL) := fun h => hne (h i hi1 hi2)
      have HOK := Lib.hid hnok
      have HP := Lib.hid (yL_proves hu hlr hi1 hi2 hne)
      clear hO hu hlr hnok hY hi1 hne
      go_wp2_with fail
      refine (HRL.out _ (Below.refl _ _)).mono ?_
      rintro e w6 ⟨hb6, ⟨hno, rfl⟩ | ⟨h1, h2, h3, _⟩ | ⟨h1, h2, h3, v6, rfl⟩⟩
      · exact absurd ⟨HU.out, HLR.out⟩ hno
      · exact absurd h3 HOK.out
      · have HB6 := Lib.hid hb6
        clear hb6 h1 h2 h3
        go_wp2_with fail
        refine (HPR.out _ HB6.out).mono ?_
        rintro e w7 ⟨rfl, hb7⟩
        have HB7 := Lib.hid (bl_trans HB6.out hb7)
        clear hb7
        go_wp2_with fail
        refine (HRR.out _ HB7.out).mono ?_
        rintro e w8 ⟨rfl, hb8⟩
        have HB8 := Lib.hid (bl_trans HB7.out hb8)
        clear hb8
        go_wp2_with fail
        refine (half_calls _).mono ?_
        rintro e w9 ⟨rfl, hb9⟩
        have HB9 := Lib.hid (bl_trans HB8.out hb9)
        have HY9 := Lib.hid (HY.out.below HB9.out)
        clear hb9
        go_wp2_with fail
        refine (proves_calls _ _ _ _ LL Rl (yL LL Rl i) (HA.out.below (bl_trans HB5.out HB9.out)) (HB.out.below (bl_trans HB5.out HB9.out)) HY9.out HS.out HU.out HLR.out (yL_few (HSQ.out HU.out) hi2)).mono ?_
        rintro e w11 ⟨b, rfl, hbS, hb11⟩
        have hbt : b = true := hbS.2 HP.out
        subst hbt
        have HB11 := Lib.hid (bl_trans HB9.out hb11)
        clear hbS hb11
        go_wp2
        go_ret
        exact ⟨rfl, bl_trans HB5.out HB11.out⟩
  · rw [decide_eq_false hs]
    clear hs
    go_wp2
    go_ret
    exact ⟨rfl, hb1⟩
end Go.Proofs.Ytdmgceckmciifaa
