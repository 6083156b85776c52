/- frac.Print; half. -/
import Derived.Test.YtdmgceckmciifaaText
set_option linter.unusedVariables false
set_option linter.unusedSimpArgs false
namespace Go.Proofs.Ytdmgceckmciifaa
open Go.RowKit

/-- A fraction as it is written. -/
def showq (q : Rat) : List UInt8 := (if q.num < 0 then [45] else []) ++ (decs q.num.natAbs ++ (if q.den = 1 then [] else 47 :: decs q.den))
theorem decs_len_of {n k : Nat} (h : (dg n).length ≤ k) (hk : 1 ≤ k) : (decs n).length ≤ 32 * k := by
  unfold decs
  split
  · simp; omega
  · have h1 := dg_len.1 h
    rw [pow32] at h1
    exact (padd_small (32 * k) n (Nat.lt_of_lt_of_le h1 (Nat.pow_le_pow_left (by omega) _))).1
theorem decs_len {n : Nat} (h : (dg n).length ≤ 4096) : (decs n).length ≤ 131072 := decs_len_of h (by omega)
set_option maxRecDepth 100000 in
theorem print_calls (w : World) (va : Value) (na : Bool) (lna lda : List Int) (ha : FrIn w va na lna lda) (hsa : lna.length + lda.length ≤ 4096) :
    Calls Try.prog 49 #[va] w fun e w' => e = .returned (.string ⟨(showq (fixq na lna lda)).toArray⟩) ∧ Below w.heap.size w w' := by
  have sz : Szq 4096 (fixq na lna lda) := by
    by_cases h : RightP na lna lda
    · obtain ⟨_, e1, e2⟩ := fixq_parts h ha.wd.1 ha.wd.2
      exact ⟨by rw [e1]; omega, by rw [e2]; omega⟩
    · rw [fixq, if_neg h]; exact szq_zero 4096 (by omega)
  have hf := ha
  obtain ⟨A, c, A2, c2, rfl, _, _, _, _⟩ := ha.shape
  obtain ⟨q, hq⟩ : ∃ q, q = fixq na lna lda := ⟨_, rfl⟩
  have HQ := Lib.hid hq
  rw [← hq] at sz ⊢
  clear hq
  have hbl0 := below_alloc0 w (.cells #[.bool na, .slice A lna.length c, .slice A2 lda.length c2] 24)
  go_enter Try.func49, Try.ntmps49
  go_wp2_with fail
  refine (taken_calls _ _ na lna lda (hf.below hbl0) hsa).mono ?_
  rintro e w1 ⟨v, rfl, hva, hb1⟩
  rw [← HQ.out] at hva
  obtain ⟨B1, d1, B2, d2, rfl, n1, n2⟩ := hva.open
  obtain ⟨b, hb⟩ : ∃ b, b = decide (q.num < 0) := ⟨_, rfl⟩
  rw [← hb]
  have HB := Lib.hid hb
  clear hb hva hf
  have hal := below_alloc0 w1 (.cells #[.slice B1 (dg q.num.natAbs).length d1, .slice B2 (dg q.den).length d2, .bool b] 59)
  have K := Blk.new w1 59 #[.slice B1 (dg q.num.natAbs).length d1, .slice B2 (dg q.den).length d2, .bool b]
  have k0 := K.cell 0
  have n1' := n1.below hal
  have n2' := n2.below hal
  have hbw := bl_trans (bl_trans hbl0 hb1) hal
  clear n1 n2 hb1 hal hbl0
  go_wp2_with fail
  refine (text_calls _ _ q.num.natAbs n1' sz.1).mono ?_
  rintro e w2 ⟨rfl, hb2⟩
  have K2 := K.below hb2
  have n3 := n2'.below hb2
  have hbw2 := bl_trans hbw hb2
  clear k0 K n1' n2' hbw hb2
  have k1 := K2.cell 1
  have k2 := K2.cell 2
  have l1 := decs_len sz.1
  have l2 := decs_len sz.2
  cases b
  · by_cases o : q.den = 1
    · have O := Lib.hid o
      clear o
      go_wp2_with fail
      refine (one_nm _ _ _ n3 true (decide_eq_true O.out)).mono ?_
      rintro e w3 ⟨rfl, hb3⟩
      have HS := Lib.hid (show showq q = decs q.num.natAbs by unfold showq; rw [if_neg (of_decide_eq_false HB.out.symm), if_pos O.out]; simp)
      clear n3 k1 k2
      go_wp2
      go_ret
      exact ⟨by rw [HS.out]; rfl, bl_trans hbw2 hb3⟩
    · have O := Lib.hid o
      clear o
      go_wp2_with fail
      refine (one_nm _ _ _ n3 false (decide_eq_false O.out)).mono ?_
      rintro e w3 ⟨rfl, hb3⟩
      have HS := Lib.hid (show showq q = decs q.num.natAbs ++ 47 :: decs q.den by unfold showq; rw [if_neg (of_decide_eq_false HB.out.symm), if_neg O.out]; simp)
      have k1' := (K2.below hb3).cell 1
      clear k1 k2
      go_wp2_with fail
      refine (text_calls _ _ q.den (n3.below hb3) sz.2).mono ?_
      rintro e w4 ⟨rfl, hb4⟩
      clear n3 k1'
      go_wp2
      go_ret
      exact ⟨by rw [HS.out]; rfl, bl_trans (bl_trans hbw2 hb3) hb4⟩
  · by_cases o : q.den = 1
    · have O := Lib.hid o
      clear o
      go_wp2_with fail
      refine (one_nm _ _ _ n3 true (decide_eq_true O.out)).mono ?_
      rintro e w3 ⟨rfl, hb3⟩
      have HS := Lib.hid (show showq q = 45 :: decs q.num.natAbs by unfold showq; rw [if_pos (of_decide_eq_true HB.out.symm), if_pos O.out]; simp)
      clear n3 k1 k2
      go_wp2
      go_ret
      exact ⟨by rw [HS.out]; rfl, bl_trans hbw2 hb3⟩
    · have O := Lib.hid o
      clear o
      go_wp2_with fail
      refine (one_nm _ _ _ n3 false (decide_eq_false O.out)).mono ?_
      rintro e w3 ⟨rfl, hb3⟩
      have HS := Lib.hid (show showq q = 45 :: (decs q.num.natAbs ++ 47 :: decs q.den) by unfold showq; rw [if_pos (of_decide_eq_true HB.out.symm), if_neg O.out]; simp)
      have k1' := (K2.below hb3).cell 1
      clear k1 k2
      go_wp2_with fail
      refine (text_calls _ _ q.den (n3.below hb3) sz.2).mono ?_
      rintro e w4 ⟨rfl, hb4⟩
      clear n3 k1'
      go_wp2
      go_ret
      exact ⟨by rw [HS.out]; rfl, bl_trans (bl_trans hbw2 hb3) hb4⟩

theorem half_val : ((-2 : Int) : Rat) * ((-4 : Int) : Rat)⁻¹ = mkRat 1 2 := by decide +kernel
theorem show_half : showq (mkRat 1 2) = [49, 47, 50] := by decide +kernel
theorem half_calls (w : World) : Calls Try.prog 15 #[] w fun e w' => e = .returned (.bool true) ∧ Below w.heap.size w w' := by
  obtain ⟨q, hq⟩ : ∃ q, q = mkRat 1 2 := ⟨_, rfl⟩
  have HQ := Lib.hid hq
  have hsh : Short q := by rw [hq, ← half_val]; exact (szq_mul (int_len (n := -2) (by omega) (by omega)) (szq_inv (int_len (n := -4) (by omega) (by omega)) (by omega))).short (by omega)
  have hmk := fun w => frac_make_calls w (-2) (-4) (by omega) (by omega) (by omega) (by omega) (by omega)
  rw [half_val, ← hq] at hmk
  have HM := Lib.hid hmk
  clear hmk hq
  go_enter Try.func15, Try.ntmps15
  go_wp2_with fail
  refine (HM.out _).mono ?_
  rintro e w1 ⟨v, rfl, hv, hb1⟩
  have hv' : FrIn w1 v (decide (q.num < 0)) (dg q.num.natAbs) (dg q.den) := hv
  obtain ⟨A, c, A2, c2, rfl, _, _, _, _⟩ := FrIn.shape hv
  obtain ⟨b, hb⟩ : ∃ b, b = decide (q.num < 0) := ⟨_, rfl⟩
  have hfq : fixq b (dg q.num.natAbs) (dg q.den) = q := by rw [hb]; exact fixq_of q
  rw [← hb] at hv' ⊢
  have hal := below_alloc0 w1 (.cells #[.bool b, .slice A (dg q.num.natAbs).length c, .slice A2 (dg q.den).length c2] 24)
  have K := Blk.new w1 24 #[.bool b, .slice A (dg q.num.natAbs).length c, .slice A2 (dg q.den).length c2]
  have hv2 := FrIn.below hv' hal
  have HF := Lib.hid hfq
  clear hv hv' hb hfq
  go_wp2_with fail
  refine (print_calls _ _ b (dg q.num.natAbs) (dg q.den) hv2 hsh).mono ?_
  rintro e w2 ⟨rfl, hb2⟩
  rw [HF.out, HQ.out, show_half]
  clear hv2 K
  go_wp2
  go_ret
  exact ⟨rfl, bl_trans (bl_trans hb1 hal) hb2⟩
end Go.Proofs.Ytdmgceckmciifaa
