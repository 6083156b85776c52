/- The reference: parts, the short ways. -/
import Derived.Test.YtdmgceckmciifaaRef10
set_option linter.unusedVariables false
set_option linter.unusedSimpArgs false
namespace Go.Proofs.Ytdmgceckmciifaa
open Go.RowKit

/-- What parts leaves. -/
def PartsPost (a b : Nat) (w : World) (e : Ending) (w' : World) : Prop := ∃ q r, e = .returned (.agg #[q, r]) ∧ Nm w' q (a / b) ∧ Nm w' r (a % b) ∧ Below w.heap.size w w'
theorem blk2 {w : World} {g t : Nat} {a b : Value} (h : Blk w g t #[a, b]) (y0 y1 : Value) : Blk ((w.setCell ⟨g, 0, none⟩ y0).setCell ⟨g, 1, none⟩ y1) g t #[y0, y1] := by
  exact (h.set 0 y0).set 1 y1
theorem two_keep {w : World} {v : Value} {n g t : Nat} (h : Nm w v n) {x0 x1 : Value} (hb : Blk w g t #[x0, x1]) (n0 : ∀ n, x0 ≠ .int .u32 n) (n1 : ∀ n, x1 ≠ .int .u32 n) (y0 y1 : Value) : Nm ((w.setCell ⟨g, 0, none⟩ y0).setCell ⟨g, 1, none⟩ y1) v n :=
  Nm.set (x0 := x1) (Nm.set h (hb.cell 0) n0 y0) (by rw [World.cell?_setCell_other _ _ _ _ (by simp)]; exact hb.cell 1) n1 y1
set_option maxRecDepth 100000 in
set_option maxHeartbeats 4000000 in
theorem rparts_less (w : World) (va vb : Value) (a b : Nat) (ha : Nm w va a) (hb : Nm w vb b) (hlt : a < b) :
    Calls Try.prog 81 #[va, vb] w (PartsPost a b w) := by
  have hb0 := below_alloc0 w (.cells #[.slice none 0 0, .slice none 0 0] 74)
  have K := Blk.new w 74 #[.slice none 0 0, .slice none 0 0]
  obtain ⟨A, c, rfl⟩ := ha.shape
  obtain ⟨A2, c2, rfl⟩ := hb.shape
  go_enter Try.func81, Try.ntmps81
  go_wp2_with fail
  refine (rorder_calls _ _ _ _ _ (ha.below hb0) (hb.below hb0)).mono ?_
  rintro e w1 ⟨rfl, hb1⟩
  rw [ncmp_lt hlt]
  have HL := Lib.hid hlt
  have hlt2 := hlt
  clear hlt
  have K1 := K.below hb1
  have hbw := bl_trans hb0 hb1
  have ha1 := ha.below hbw
  have m0 := K1.cell 0
  have m1 := K1.cell 1
  have f1 := K1.free
  clear hlt2
  go_wp2
  exact bodyPost_ret (results_cell_row rfl _ _ w.heap.size 74 _ (0, 0) _ rfl (blk2 K1 _ _) Try.underlying74 rfl (by kernel_rfl)) rfl ⟨_, _, rfl, by rw [Nat.div_eq_of_lt HL.out]; exact Nm.nil _, by rw [Nat.mod_eq_of_lt HL.out]; exact two_keep ha1 K1 (slne _ _ _) (slne _ _ _) _ _, (hbw.setCell (Nat.le_refl _) _).setCell (Nat.le_refl _) _⟩
set_option maxRecDepth 100000 in
set_option maxHeartbeats 4000000 in
theorem rparts_one (w : World) (va vb : Value) (a b : Nat) (ha : Nm w va a) (hb : Nm w vb b) (hle : b ≤ a) (hb0 : 0 < b) (sb : (dg b).length = 1) (sm : (dg a).length ≤ 1073741824) :
    Calls Try.prog 81 #[va, vb] w (PartsPost a b w) := by
  have hb32 : b < 4294967296 := by have := dg_len.1 (Nat.le_of_eq sb); simpa using this
  have hdb : dg b = [(b : Int)] := dg_small (by omega) hb32
  have hn := ncmp_nonneg hle
  have hbl0 := below_alloc0 w (.cells #[.slice none 0 0, .slice none 0 0] 74)
  have K := Blk.new w 74 #[.slice none 0 0, .slice none 0 0]
  obtain ⟨A, c, rfl⟩ := ha.shape
  have hb' := hb
  obtain ⟨A2, c2, rfl, hl, hc, hr⟩ := hb'
  rw [hdb] at hl hr ⊢
  obtain ⟨ad, rfl, hcell⟩ := hr (by simp)
  have c0 := hcell 0 (by simp)
  rw [add0, show wat [(b : Int)] 0 = (b : Int) from rfl] at c0
  have HM := Lib.hid (Nat.mod_lt a hb0)
  rw [hdb] at hb
  clear hr hcell hl sb hle hdb
  go_enter Try.func81, Try.ntmps81
  go_wp2_with fail
  refine (rorder_calls _ _ _ _ _ (ha.below hbl0) (hb.below hbl0)).mono ?_
  rintro e w1 ⟨rfl, hb1⟩
  have K1 := K.below hb1
  have hbw := bl_trans hbl0 hb1
  have c1 := cell_below hbw c0
  go_wp2_with fail
  refine (rhalves_calls _ _ a (b : Int) b rfl (ha.below hbw) hb0 hb32 sm).mono ?_
  rintro e w2 ⟨q, rfl, hq, hb2⟩
  have hbw2 := bl_trans hbw hb2
  have K2 := K1.below hb2
  obtain ⟨A3, c3, rfl⟩ := hq.shape
  obtain ⟨m, hm⟩ : ∃ m : Nat, m = a % b := ⟨_, rfl⟩
  rw [← hm] at HM ⊢
  have HMM := Lib.hid hm
  have hm32 : m < 4294967296 := Nat.lt_trans HM.out hb32
  clear hm
  go_wp2_with fail
  have ho := Ow.made w2 [(m : Int)]
  have hrd := ho.rd 1 1 (by simp) (by omega) (by omega)
  have hal := below_alloc0 w2 (.cells #[.int .u32 m] 38)
  refine (rtrim _ _ [(m : Int)] hrd (by rw [Wd_cons]; exact ⟨by omega, Wd_nil⟩)).mono ?_
  rintro e w3 ⟨v3, rfl, hv3, hb3⟩
  have hb13 := bl_trans hal hb3
  have K3 := K2.below hb13
  have m0 := K3.cell 0
  have m1 := K3.cell 1
  have f1 := K3.free
  have hq3 := hq.below hb13
  have hbw3 := bl_trans hbw2 hb13
  obtain ⟨A4, c4, rfl⟩ := hv3.shape
  rw [show nv [(m : Int)] = m by simp [nv]] at hv3
  clear ho hrd hal hb1 hb2 hb3 hb13 K K1 K2 hbw hbw2 c0 c1 hbl0 hq
  go_wp2
  exact bodyPost_ret (results_cell_row rfl _ _ w.heap.size 74 _ (0, 0) _ rfl (blk2 K3 _ _) Try.underlying74 rfl (by kernel_rfl)) rfl ⟨_, _, rfl, two_keep hq3 K3 (slne _ _ _) (slne _ _ _) _ _, by rw [← HMM.out]; exact two_keep hv3 K3 (slne _ _ _) (slne _ _ _) _ _, (hbw3.setCell (Nat.le_refl _) _).setCell (Nat.le_refl _) _⟩
end Go.Proofs.Ytdmgceckmciifaa
