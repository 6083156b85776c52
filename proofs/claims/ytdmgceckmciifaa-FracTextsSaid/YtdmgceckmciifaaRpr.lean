/- Texts of fractions: the reference's Print. -/
import Derived.Test.YtdmgceckmciifaaDigs
set_option linter.unusedVariables false
set_option linter.unusedSimpArgs false
namespace Go.Proofs.Ytdmgceckmciifaa
open Go.RowKit

theorem den_cell {d : Nat} (h0 : d ≠ 0) (h : (dg d).length = 1) : wat (dg d) 0 = (d : Int) := by
  have : d < 4294967296 := by have := dg_len.1 (Nat.le_of_eq h); simpa using this
  rw [dg_small h0 this]; rfl
theorem cat3 (x y : List UInt8) : Ending.returned (.string (⟨x.toArray⟩ ++ ⟨#[47]⟩ ++ ⟨y.toArray⟩)) = .returned (.string ⟨(x ++ 47 :: y).toArray⟩) := by
  rw [show (⟨#[47]⟩ : ByteArray) = ⟨[(47 : UInt8)].toArray⟩ from rfl, cat2, cat2]
  simp
theorem cat4 (x y : List UInt8) : Ending.returned (.string (⟨#[45]⟩ ++ ⟨x.toArray⟩ ++ ⟨#[47]⟩ ++ ⟨y.toArray⟩)) = .returned (.string ⟨(45 :: (x ++ 47 :: y)).toArray⟩) := by
  rw [cat1, show (⟨#[47]⟩ : ByteArray) = ⟨[(47 : UInt8)].toArray⟩ from rfl, cat2, cat2]
  simp
set_option maxRecDepth 100000 in
set_option maxHeartbeats 4000000 in
theorem rprint_calls (w : World) (va : Value) (na : Bool) (lna lda : List Int) (ha : FrIn w va na lna lda) (hsa : lna.length + lda.length ≤ 4096) :
    Calls Try.prog 50 #[va] w fun e w' => e = .returned (.string ⟨(showq (fixq na lna lda)).toArray⟩) ∧ Below w.heap.size w w' := by
  have sz : Szq 4096 (fixq na lna lda) := by
    by_cases h : RightP na lna lda
    · obtain ⟨_, e1, e2⟩ := fixq_parts h ha.wd.1 ha.wd.2
      exact ⟨by rw [e1]; omega, by rw [e2]; omega⟩
    · rw [fixq, if_neg h]; exact szq_zero 4096 (by omega)
  have hf := ha
  obtain ⟨A, c, A2, c2, rfl, _, _, _, _⟩ := ha.shape
  obtain ⟨q, hq⟩ : ∃ q, q = fixq na lna lda := ⟨_, rfl⟩
  have HQ := Lib.hid hq
  rw [← hq] at sz ⊢
  clear hq ha
  have hbl0 := below_alloc0 w (.cells #[.bool na, .slice A lna.length c, .slice A2 lda.length c2] 24)
  have K := Blk.new w 24 #[.bool na, .slice A lna.length c, .slice A2 lda.length c2]
  have j0 := K.cell 0
  have j1 := K.cell 1
  have j2 := K.cell 2
  go_enter Try.func50, Try.ntmps50
  go_wp2_with fail
  refine (rfix_calls _ _ na lna lda (hf.below hbl0) hsa).mono ?_
  rintro e w1 ⟨v, rfl, hva, hb1⟩
  rw [← HQ.out] at hva
  obtain ⟨B1, d1, B2, d2, rfl, n1, n2, _, _⟩ := FrIn.shape hva
  obtain ⟨b, hb⟩ : ∃ b, b = decide (q.num < 0) := ⟨_, rfl⟩
  rw [← hb]
  have HB := Lib.hid hb
  have K1 := K.below hb1
  have m0 := K1.cell 0
  have m1 := K1.cell 1
  have m2 := K1.cell 2
  have mf := K1.free
  have N1 := Lib.hid (n1.three m0 m1 m2 (boolne _) (slne _ _ _) (slne _ _ _) (.bool b) (.slice B1 (dg q.num.natAbs).length d1) (.slice B2 (dg q.den).length d2))
  have N2 := Lib.hid (n2.three m0 m1 m2 (boolne _) (slne _ _ _) (slne _ _ _) (.bool b) (.slice B1 (dg q.num.natAbs).length d1) (.slice B2 (dg q.den).length d2))
  have KB := blk3 K1 (.bool b) (.slice B1 (dg q.num.natAbs).length d1) (.slice B2 (dg q.den).length d2)
  have W1 := Lib.hid (three_below (bl_trans hbl0 hb1) (Nat.le_refl _) (.bool b) (.slice B1 (dg q.num.natAbs).length d1) (.slice B2 (dg q.den).length d2))
  have k1 := KB.cell 1
  clear hb hva hf n1 n2 j0 j1 j2 hbl0 hb1 K K1
  go_wp2_with fail
  refine (rdigits_calls _ _ q.num.natAbs N1.out sz.1).mono ?_
  rintro e w2 ⟨rfl, hb2⟩
  have K2 := KB.below hb2
  have HD := Lib.hid (show Nm w2 (.slice B2 (dg q.den).length d2) q.den from N2.out.below hb2)
  have W2 := Lib.hid (bl_trans W1.out hb2)
  have hrd0 := HD.out
  obtain ⟨A3, c3, hsl, hlc, hcc, hrd⟩ := hrd0
  obtain ⟨rfl, rfl⟩ : B2 = A3 ∧ d2 = c3 := by simpa using hsl
  have k0 := K2.cell 0
  have k2 := K2.cell 2
  have l1 := decs_len sz.1
  have l2 := decs_len sz.2
  have HD0 := Lib.hid (show q.den ≠ 0 from q.den_nz)
  have hdp : 0 < (dg q.den).length := Nat.pos_of_ne_zero (fun h => HD0.out (dg_len_zero.1 h))
  clear k1 m0 m1 m2 mf KB N1 N2 W1 hb2 hsl
  have HO : (q.den = 1 ∧ (dg q.den).length = 1) ∨ (q.den ≠ 1 ∧ (dg q.den).length = 1) ∨ (q.den ≠ 1 ∧ 1 < (dg q.den).length) := by
    by_cases h : q.den = 1
    · exact Or.inl ⟨h, by rw [h, dg_one]; rfl⟩
    · by_cases h1 : (dg q.den).length = 1
      · exact Or.inr (Or.inl ⟨h, h1⟩)
      · exact Or.inr (Or.inr ⟨h, by omega⟩)
  cases b
  · rcases HO with ⟨o, hl1⟩ | ⟨o, hl1⟩ | ⟨o, hl1⟩
    · have O := Lib.hid o
      clear o
      have HS := Lib.hid (show showq q = decs q.num.natAbs by unfold showq; rw [if_neg (of_decide_eq_false HB.out.symm), if_pos O.out]; simp)
      have hl1 : (dg q.den).length = 1 := by have := HD0.out; omega
      obtain ⟨ad, rfl, hcell⟩ := hrd (by omega)
      have c0 := hcell 0 (by omega)
      rw [den_cell HD0.out hl1] at c0
      have c0' : w2.cell? ad = some (.int .u32 (q.den : Int)) := by simpa [Addr.add] using c0
      clear c0 hcell
      have HD1 := HD.out
      rw [hl1] at k2 HD1
      clear HD
      have HD := Lib.hid HD1
      clear HD1
      have gd : (((q.den : Nat) : Int) == 1) = true := by rw [O.out]; rfl
      clear HD0 HD
      go_wp2
      go_ret
      exact ⟨by rw [HS.out]; rfl, W2.out⟩
    · have O := Lib.hid o
      clear o
      have HS := Lib.hid (show showq q = decs q.num.natAbs ++ 47 :: decs q.den by unfold showq; rw [if_neg (of_decide_eq_false HB.out.symm), if_neg O.out]; simp)
      have hl1 : (dg q.den).length = 1 := by have := HD0.out; omega
      obtain ⟨ad, rfl, hcell⟩ := hrd (by omega)
      have c0 := hcell 0 (by omega)
      rw [den_cell HD0.out hl1] at c0
      have c0' : w2.cell? ad = some (.int .u32 (q.den : Int)) := by simpa [Addr.add] using c0
      clear c0 hcell
      have HD1 := HD.out
      rw [hl1] at k2 HD1
      clear HD
      have HD := Lib.hid HD1
      clear HD1
      have gd : (((q.den : Nat) : Int) == 1) = false := beq_eq_false_iff_ne.2 (fun h => O.out (by omega))
      clear HD0
      go_wp2_with fail
      refine (rdigits_calls _ _ q.den HD.out sz.2).mono ?_
      rintro e w4 ⟨rfl, hb4⟩
      clear k0 k2
      go_wp2
      go_ret
      exact ⟨by rw [HS.out]; exact cat3 _ _, bl_trans W2.out hb4⟩
    · have O := Lib.hid o
      clear o
      have HS := Lib.hid (show showq q = decs q.num.natAbs ++ 47 :: decs q.den by unfold showq; rw [if_neg (of_decide_eq_false HB.out.symm), if_neg O.out]; simp)
      have gl : (1 : Int) < ((dg q.den).length : Int) := by omega
      clear HD0
      go_wp2_with fail
      refine (rdigits_calls _ _ q.den HD.out sz.2).mono ?_
      rintro e w4 ⟨rfl, hb4⟩
      clear k0 k2
      go_wp2
      go_ret
      exact ⟨by rw [HS.out]; exact cat3 _ _, bl_trans W2.out hb4⟩
  · rcases HO with ⟨o, hl1⟩ | ⟨o, hl1⟩ | ⟨o, hl1⟩
    · have O := Lib.hid o
      clear o
      have HS := Lib.hid (show showq q = 45 :: decs q.num.natAbs by unfold showq; rw [if_pos (of_decide_eq_true HB.out.symm), if_pos O.out]; simp)
      have hl1 : (dg q.den).length = 1 := by have := HD0.out; omega
      obtain ⟨ad, rfl, hcell⟩ := hrd (by omega)
      have c0 := hcell 0 (by omega)
      rw [den_cell HD0.out hl1] at c0
      have c0' : w2.cell? ad = some (.int .u32 (q.den : Int)) := by simpa [Addr.add] using c0
      clear c0 hcell
      have HD1 := HD.out
      rw [hl1] at k2 HD1
      clear HD
      have HD := Lib.hid HD1
      clear HD1
      have gd : (((q.den : Nat) : Int) == 1) = true := by rw [O.out]; rfl
      clear HD0 HD
      go_wp2
      go_ret
      exact ⟨by rw [HS.out]; rfl, W2.out⟩
    · have O := Lib.hid o
      clear o
      have HS := Lib.hid (show showq q = 45 :: (decs q.num.natAbs ++ 47 :: decs q.den) by unfold showq; rw [if_pos (of_decide_eq_true HB.out.symm), if_neg O.out]; simp)
      have hl1 : (dg q.den).length = 1 := by have := HD0.out; omega
      obtain ⟨ad, rfl, hcell⟩ := hrd (by omega)
      have c0 := hcell 0 (by omega)
      rw [den_cell HD0.out hl1] at c0
      have c0' : w2.cell? ad = some (.int .u32 (q.den : Int)) := by simpa [Addr.add] using c0
      clear c0 hcell
      have HD1 := HD.out
      rw [hl1] at k2 HD1
      clear HD
      have HD := Lib.hid HD1
      clear HD1
      have gd : (((q.den : Nat) : Int) == 1) = false := beq_eq_false_iff_ne.2 (fun h => O.out (by omega))
      clear HD0
      go_wp2_with fail
      refine (rdigits_calls _ _ q.den HD.out sz.2).mono ?_
      rintro e w4 ⟨rfl, hb4⟩
      clear k0 k2
      go_wp2
      go_ret
      exact ⟨by rw [HS.out]; exact cat4 _ _, bl_trans W2.out hb4⟩
    · have O := Lib.hid o
      clear o
      have HS := Lib.hid (show showq q = 45 :: (decs q.num.natAbs ++ 47 :: decs q.den) by unfold showq; rw [if_pos (of_decide_eq_true HB.out.symm), if_neg O.out]; simp)
      have gl : (1 : Int) < ((dg q.den).length : Int) := by omega
      clear HD0
      go_wp2_with fail
      refine (rdigits_calls _ _ q.den HD.out sz.2).mono ?_
      rintro e w4 ⟨rfl, hb4⟩
      clear k0 k2
      go_wp2
      go_ret
      exact ⟨by rw [HS.out]; exact cat4 _ _, bl_trans W2.out hb4⟩
end Go.Proofs.Ytdmgceckmciifaa
