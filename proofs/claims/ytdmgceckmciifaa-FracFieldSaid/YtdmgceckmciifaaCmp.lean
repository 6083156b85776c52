/- Words: one, cmp. -/
import Derived.Test.YtdmgceckmciifaaRd
set_option linter.unusedVariables false
set_option linter.unusedSimpArgs false
namespace Go.Proofs.Ytdmgceckmciifaa
open Go.RowKit

theorem one_calls (w : World) (va : Value) (l : List Int) (ha : RdI .u32 w va l) :
    Calls Try.prog 68 #[va] w fun e w' => e = .returned (.bool (decide (l = [1]))) ∧ Below w.heap.size w w' := by
  obtain ⟨A, c, rfl, hl, hc, hr⟩ := ha
  by_cases h1 : l.length = 1
  · obtain ⟨x, rfl⟩ : ∃ x, l = [x] := List.length_eq_one_iff.1 h1
    obtain ⟨ad, rfl, hcell⟩ := hr (by simp)
    have h0 := hcell 0 (by simp)
    rw [add0] at h0
    rw [show wat [x] 0 = x from rfl] at h0
    clear hcell hr h1
    go_enter Try.func68, Try.ntmps68
    go_wp2
    go_ret
    exact ⟨by simp; rfl, Below.refl _ _⟩
  · have h2 : ((l.length : Int) == 1) = false := by simp; omega
    clear hr
    go_enter Try.func68, Try.ntmps68
    go_wp2
    go_ret
    have h3 : ¬ l = [1] := by rintro rfl; simp at h1
    exact ⟨by simp [h3], Below.refl _ _⟩

theorem dg_eq_one {n : Nat} : dg n = [1] ↔ n = 1 := ⟨fun h => dg_inj (h.trans dg_one.symm), fun h => by rw [h, dg_one]⟩
theorem one_nm (w : World) (va : Value) (n : Nat) (ha : Nm w va n) (b : Bool) (hb : decide (n = 1) = b) :
    Calls Try.prog 68 #[va] w fun e w' => e = .returned (.bool b) ∧ Below w.heap.size w w' := by
  refine (one_calls w va _ ha).mono ?_
  rintro e w' ⟨rfl, h⟩
  refine ⟨?_, h⟩
  rw [← hb]
  congr 2
  simp [dg_eq_one]
theorem cmp_calls (w : World) (va vb : Value) (a b : Nat) (ha : Nm w va a) (hb : Nm w vb b) :
    Calls Try.prog 108 #[va, vb] w fun e w' => e = .returned (.int .i64 (ncmp a b)) ∧ Below w.heap.size w w' := by
  obtain ⟨A, c, rfl, hl, hc, hr⟩ := ha
  obtain ⟨A2, c2, rfl, hl2, hc2, hr2⟩ := hb
  by_cases h1 : (dg a).length = (dg b).length
  · have h3 : ((dg a).length != (dg b).length) = false := by simp [h1]
    have h5 : (((dg a).length : Int) != ((dg b).length : Int)) = false := by simp [h1]
    go_enter Try.func108, Try.ntmps108
    go_wp2
    go_loopw [5] (fun i wr => ∃ x : Int, -1 ≤ x ∧ x < (dg b).length ∧ i = .int .i64 x ∧ nv ((dg a).drop (x + 1).toNat) = nv ((dg b).drop (x + 1).toNat) ∧ Below w.heap.size w wr)
      (fun i _ => (intOf i + 1).toNat)
    case atStart => exact ⟨_, by omega, by omega, rfl, by rw [nv_drop_all _ (by omega), nv_drop_all _ (by omega)], Below.refl _ _⟩
    case round =>
      obtain ⟨x, hx1, hx2, rfl, hx3, hb⟩ := hrel
      by_cases hx : 0 ≤ x
      · obtain ⟨j, rfl⟩ := Int.eq_ofNat_of_zero_le hx
        obtain ⟨ad, rfl, hcell⟩ := hr (by omega)
        obtain ⟨ad2, rfl, hcell2⟩ := hr2 (by omega)
        have e1 := cell_below hb (hcell j (by omega))
        have e2 := cell_below hb (hcell2 j (by omega))
        have l1 : (j : Int) < ((dg a).length : Int) := by omega
        have l2 : (j : Int) < ((dg b).length : Int) := by omega
        rw [show ((j : Int) + 1).toNat = j + 1 by omega] at hx3
        have HX := Lib.hid hx3
        have H1 := Lib.hid h1
        clear hcell hcell2 hr hr2 hx3 h1
        rcases Int.lt_trichotomy (wat (dg a) j) (wat (dg b) j) with h | h | h
        · have g1 : (wat (dg a) j != wat (dg b) j) = true := by simp; omega
          go_wp2
          go_quiet (fail)
          go_wp2
          go_quiet (fail)
          go_wp2
          go_ret
          exact ⟨by rw [ncmp_lt]; · rfl
                    rw [← nv_dg a, ← nv_dg b]
                    exact nv_lt_of (Wd_dg a) (Wd_dg b) HX.out H1.out (by omega) h, bl_trans hb (by rw [World.drewN_drewN]; exact bl_drewN _ _)⟩
        · have g1 : (wat (dg a) j != wat (dg b) j) = false := by simp [h]
          go_wp2
          go_quiet (fail)
          go_wp2
          go_roundw
          case rel =>
            refine ⟨_, by omega, by omega, rfl, ?_, ?_⟩
            · rw [show ((j : Int) - 1 + 1).toNat = j by omega, nv_drop_wat (by omega), nv_drop_wat (l := dg b) (by omega), HX.out, h]
            · exact bl_trans hb (bl_drewN _ _)
          case measure => simp [intOf]; try omega
        · have g1 : (wat (dg a) j != wat (dg b) j) = true := by simp; omega
          go_wp2
          go_quiet (fail)
          go_wp2
          go_quiet (fail)
          go_wp2
          go_ret
          exact ⟨by rw [ncmp_gt]; · rfl
                    rw [← nv_dg a, ← nv_dg b]
                    exact nv_lt_of (Wd_dg b) (Wd_dg a) HX.out.symm H1.out.symm (by omega) h, bl_trans hb (by rw [World.drewN_drewN]; exact bl_drewN _ _)⟩
      · obtain rfl : x = -1 := by omega
        go_wp2
        go_ret
        have e : nv (dg a) = nv (dg b) := by simpa using hx3
        rw [nv_dg, nv_dg] at e
        exact ⟨by rw [ncmp_eq e]; rfl, hb⟩
  · have h3 : ((dg a).length != (dg b).length) = true := by simp [h1]
    have h5 : (((dg a).length : Int) != ((dg b).length : Int)) = true := by simp; omega
    rcases Nat.lt_or_gt_of_ne h1 with h | h
    · go_enter Try.func108, Try.ntmps108
      go_wp2
      go_ret
      exact ⟨by rw [ncmp_lt (dg_lt_of_len h)]; rfl, Below.refl _ _⟩
    · have h' : ¬ (dg a).length < (dg b).length := by omega
      go_enter Try.func108, Try.ntmps108
      go_wp2
      go_ret
      exact ⟨by rw [ncmp_gt (dg_lt_of_len h)]; rfl, Below.refl _ _⟩
end Go.Proofs.Ytdmgceckmciifaa
