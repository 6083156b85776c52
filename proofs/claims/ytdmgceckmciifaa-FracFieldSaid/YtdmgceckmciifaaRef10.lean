/- The reference: plain part of parts. -/
import Derived.Test.YtdmgceckmciifaaRef9
set_option linter.unusedVariables false
set_option linter.unusedSimpArgs false
namespace Go.Proofs.Ytdmgceckmciifaa
open Go.RowKit

theorem top_bit {x : Int} {n : Nat} (h0 : 0 ≤ x) (hsm : x.toNat * 2 ^ n < 4294967296) : (bits .and .u32 (x * 2 ^ n % 4294967296) 2147483648 == 0) = decide (x.toNat * 2 ^ n < 2147483648) := by
  obtain ⟨m, rfl⟩ := Int.eq_ofNat_of_zero_le h0
  rw [Int.toNat_natCast] at hsm ⊢
  have e : (m : Int) * 2 ^ n % 4294967296 = ((m * 2 ^ n : Nat) : Int) := by
    rw [pow_cast, ← Int.natCast_mul]
    omega
  rw [e]
  obtain ⟨y, hy⟩ : ∃ y, y = m * 2 ^ n := ⟨_, rfl⟩
  rw [← hy] at hsm ⊢
  have e2 := u32_and_nat y 2147483648 hsm (by omega)
  rw [show ((2147483648 : Nat) : Int) = 2147483648 from rfl] at e2
  rw [e2]
  have e3 := nat_bit 31 y
  rw [show 2 ^ 31 = 2147483648 from rfl] at e3
  rw [e3]
  by_cases h : y < 2147483648
  · rw [Nat.div_eq_of_lt h]; simp [h]
  · have : y / 2147483648 = 1 := by omega
    rw [this]; simp [h]
theorem top_word {V : List Int} {n : Nat} (hw : Wd V) (hn : 2 ≤ n) (hl : n ≤ V.length) (lo : 2147483648 * 4294967296 ^ (n - 1) ≤ nv (V.take n)) : 2147483648 ≤ wat V (n - 1) := by
  obtain ⟨m, rfl⟩ : ∃ m, n = m + 1 := ⟨n - 1, by omega⟩
  rw [Nat.add_sub_cancel] at lo ⊢
  rw [nv_take_wat (by omega)] at lo
  have t := nv_lt (Wd_take hw m)
  rw [List.length_take, Nat.min_eq_left (by omega)] at t
  have r := wat_range hw m
  apply Int.not_lt.1
  intro hlt
  have h7 : (wat V m).toNat + 1 ≤ 2147483648 := by omega
  have h8 := Nat.mul_le_mul_left (4294967296 ^ m) h7
  rw [Nat.mul_add, Nat.mul_one] at h8
  rw [Nat.mul_comm] at lo
  omega
theorem and_small {x : Int} (h0 : 0 ≤ x) (h1 : x < 4294967296) : bits .and .u64 x 4294967295 = x := by
  rw [and_mask x h0 (by omega), Int.emod_eq_of_lt h0 h1]
/-- Behind the taking away. -/
structure SubF (v u0 u : List Int) (n : Nat) (g x : Int) : Prop where
  len : u.length = n + 1
  wd : Wd u
  out : (x = 0 ∧ g.toNat = nv u0 / nv (v.take n) ∧ nv u = nv u0 % nv (v.take n)) ∨ (x = 1 ∧ g.toNat = nv u0 / nv (v.take n) + 1 ∧ nv u + g.toNat * nv (v.take n) = nv u0 + 4294967296 ^ (n + 1))
theorem SubM.right' {v u0 u : List Int} {n : Nat} {q c b : Int} (h : SubM v u0 u n n q c b) (hl0 : u0.length = n + 1) (hv0 : 0 < nv (v.take n)) (hg : Guessed (nv u0) (nv (v.take n)) q) (hle : c + b ≤ wat u n) :
    SubF v u0 (u.set n (wat u n - (c + b))) n q 0 := by
  obtain ⟨h1, h2, h3, h4⟩ := h.right hl0 hv0 hg.ge hle
  exact ⟨h2, h3, .inl ⟨rfl, h1, h4⟩⟩
theorem SubM.wrong' {v u0 u : List Int} {n : Nat} {q c b : Int} (h : SubM v u0 u n n q c b) (hl0 : u0.length = n + 1) (hw0 : Wd u0) (hv0 : 0 < nv (v.take n)) (hg : Guessed (nv u0) (nv (v.take n)) q) (hlt : wat u n < c + b) :
    SubF v u0 (u.set n (wat u n + 4294967296 - (c + b))) n q 1 := by
  obtain ⟨h1, h2, h3, h4⟩ := h.wrong hl0 hw0 hv0 hg.le hlt
  exact ⟨h2, h3, .inr ⟨rfl, h1, h4⟩⟩
/-- Behind one word of the quotient. -/
structure DigF (u0 u : List Int) (D n : Nat) (g : Int) : Prop where
  len : u.length = n + 1
  wd : Wd u
  val : nv u = nv u0 % D
  g0 : 0 ≤ g
  q : g = ((nv u0 / D : Nat) : Int)
theorem SubF.fine {v u0 u : List Int} {n : Nat} {g : Int} (h : SubF v u0 u n g 0) (h0 : 0 ≤ g) : DigF u0 u (nv (v.take n)) n g := by
  obtain ⟨h1, h2, h3⟩ := h
  rcases h3 with ⟨_, h3, h4⟩ | ⟨h3, _⟩
  · exact ⟨h1, h2, h4, h0, by rw [← h3]; omega⟩
  · omega
theorem SubF.pos {v u0 u : List Int} {n : Nat} {g : Int} (h : SubF v u0 u n g 1) : 1 ≤ g := by
  obtain ⟨h1, h2, h3⟩ := h
  rcases h3 with ⟨h3, _⟩ | ⟨_, h3, _⟩
  · omega
  · generalize nv u0 / nv (v.take n) = q at h3
    omega
theorem SubF.more {v u0 u u' : List Int} {n : Nat} {g z : Int} (h : SubF v u0 u n g 1) (hv : Wd v) (hvl : n ≤ v.length) (hv0 : 0 < nv (v.take n)) (h2 : AddM v u u' n n z) :
    DigF u0 (u'.set n ((wat u' n + z) % 4294967296)) (nv (v.take n)) n (g - 1) := by
  have hp := h.pos
  obtain ⟨h1, _, h3⟩ := h
  rcases h3 with ⟨h3, _⟩ | ⟨_, h3, h4⟩
  · omega
  · have hlt := nv_lt (Wd_take hv n)
    rw [List.length_take, Nat.min_eq_left hvl] at hlt
    rw [h3] at h4
    obtain ⟨a, b, c⟩ := h2.done h1 hv0 hlt h4
    refine ⟨a, b, c, by omega, ?_⟩
    generalize nv u0 / nv (v.take n) = q at h3 ⊢
    omega
/-- What parts holds while it divides. -/
def PHold (t : Nat) (w : World) (gu gv gq j : Nat) (P u S V Q : List Int) (wr : World) : Prop :=
  Win wr gu j P u S ∧ Ow wr gv V ∧ Ow wr gq Q ∧ Blk wr w.heap.size t #[.slice none 0 0, .slice none 0 0] ∧ Below w.heap.size w wr
theorem PHold.drewN {t : Nat} {w : World} {gu gv gq j : Nat} {P u S V Q : List Int} {wr : World} (h : PHold t w gu gv gq j P u S V Q wr) (n : Nat) : PHold t w gu gv gq j P u S V Q (wr.drewN n) := by
  obtain ⟨h1, h2, h3, h4, h5⟩ := h
  exact ⟨h1.drewN n, h2.drewN n, h3.drewN n, h4.below (bl_drewN _ _), bl_trans h5 (bl_drewN _ _)⟩
theorem PHold.set {t : Nat} {w : World} {gu gv gq j : Nat} {P u S V Q : List Int} {wr : World} (h : PHold t w gu gv gq j P u S V Q wr) (h1 : gv ≠ gu) (h2 : gq ≠ gu) (h3 : w.heap.size < gu) {i : Nat} (hi : i < u.length) (x : Int) :
    PHold t w gu gv gq j P (u.set i x) S V Q (wr.setCell ⟨gu, j + i, none⟩ (.int .u32 x)) := by
  obtain ⟨a1, a2, a3, a4, a5⟩ := h
  exact ⟨a1.set hi x, a2.other _ h1 _, a3.other _ h2 _, (heap_setCell_other wr ⟨gu, j + i, none⟩ w.heap.size _ (Nat.ne_of_lt h3)).trans a4, a5.setCell (Nat.le_of_lt h3) _⟩
/-- The row that is divided, at a place. -/
theorem hWin_of {w : World} {gu : Nat} {R : List Int} {j n : Nat} (h : Ow w gu R) (hl : j + n + 1 ≤ R.length) : Win w gu j (R.take j) ((R.drop j).take (n + 1)) (R.drop (j + n + 1)) := by
  have hRe : R.take j ++ ((R.drop j).take (n + 1) ++ R.drop (j + n + 1)) = R := by
    rw [show j + n + 1 = j + (n + 1) by omega, ← List.drop_drop, List.take_append_drop, List.take_append_drop]
  exact ⟨by rw [hRe]; exact h, by rw [List.length_take]; omega⟩

theorem PHold.put {t : Nat} {w : World} {gu gv gq j : Nat} {P u S V Q : List Int} {wr : World} (h : PHold t w gu gv gq j P u S V Q wr) (h1 : gv ≠ gq) (h2 : gu ≠ gq) (h3 : w.heap.size < gq) (i : Nat) (x : Int) :
    Ow (wr.setCell ⟨gq, i, none⟩ (.int .u32 x)) gu (P ++ (u ++ S)) ∧ Ow (wr.setCell ⟨gq, i, none⟩ (.int .u32 x)) gv V ∧ Ow (wr.setCell ⟨gq, i, none⟩ (.int .u32 x)) gq (Q.set i x) ∧
    Blk (wr.setCell ⟨gq, i, none⟩ (.int .u32 x)) w.heap.size t #[.slice none 0 0, .slice none 0 0] ∧ Below w.heap.size w (wr.setCell ⟨gq, i, none⟩ (.int .u32 x)) := by
  obtain ⟨a1, a2, a3, a4, a5⟩ := h
  exact ⟨a1.1.other _ h2 _, a2.other _ h1 _, a3.set _ _, (heap_setCell_other wr ⟨gq, i, none⟩ w.heap.size _ (Nat.ne_of_lt h3)).trans a4, a5.setCell (Nat.le_of_lt h3) _⟩
end Go.Proofs.Ytdmgceckmciifaa
