/- How long the numbers of fractions grow. -/
import Derived.Test.YtdmgceckmciifaaTold
set_option linter.unusedVariables false
set_option linter.unusedSimpArgs false
namespace Go.Proofs.Ytdmgceckmciifaa
open Go.RowKit

theorem szq_mk {x : Int} {d k : Nat} (hd : 0 < d) (hx : (dg x.natAbs).length ≤ k) (hk : (dg d).length ≤ k) : Szq k (mkRat x d) := by
  constructor
  · refine Nat.le_trans (dg_len_mono ?_) hx
    rw [Rat.num_mkRat, if_neg (by omega)]
    exact Int.natAbs_ediv_le_natAbs _ _
  · refine Nat.le_trans (dg_len_mono ?_) hk
    rw [Rat.den_mkRat, if_neg (by omega)]
    exact Nat.div_le_self _ _
theorem szq_mul {q r : Rat} {k l : Nat} (hq : Szq k q) (hr : Szq l r) : Szq (k + l) (q * r) := by
  rw [Rat.mul_def']
  exact szq_mk (Nat.mul_pos q.den_pos r.den_pos) (by rw [Int.natAbs_mul]; exact dg_mul_le hq.1 hr.1) (dg_mul_le hq.2 hr.2)
theorem szq_add {q r : Rat} {k l : Nat} (hq : Szq k q) (hr : Szq l r) : Szq (k + l + 1) (q + r) := by
  rw [Rat.add_def']
  refine szq_mk (Nat.mul_pos q.den_pos r.den_pos) ?_ (Nat.le_trans (dg_mul_le hq.2 hr.2) (by omega))
  refine Nat.le_trans (dg_len_mono (Int.natAbs_add_le _ _)) (dg_add_le ?_ ?_)
  · rw [Int.natAbs_mul, Int.natAbs_natCast]; exact dg_mul_le hq.1 hr.2
  · rw [Int.natAbs_mul, Int.natAbs_natCast]; exact Nat.le_trans (dg_mul_le hr.1 hq.2) (by omega)
theorem szq_neg {q : Rat} {k : Nat} (h : Szq k q) : Szq k (-q) := ⟨by rw [Rat.neg_num, Int.natAbs_neg]; exact h.1, by rw [Rat.neg_den]; exact h.2⟩
theorem szq_sub {q r : Rat} {k l : Nat} (hq : Szq k q) (hr : Szq l r) : Szq (k + l + 1) (q - r) := by
  rw [Rat.sub_eq_add_neg]; exact szq_add hq (szq_neg hr)
theorem szq_zero (k : Nat) (h : 1 ≤ k) : Szq k 0 := ⟨by simp [dg_zero], by simp [dg_one]; exact h⟩
theorem szq_one (k : Nat) (h : 1 ≤ k) : Szq k 1 := ⟨by simp [dg_one]; exact h, by simp [dg_one]; exact h⟩
theorem szq_inv {q : Rat} {k : Nat} (h : Szq k q) (hk : 1 ≤ k) : Szq k q⁻¹ := by
  by_cases h0 : q.num = 0
  · rw [Rat.num_eq_zero.1 h0, Rat.inv_zero]; exact szq_zero k hk
  · constructor
    · rw [Rat.num_inv, Int.natAbs_mul, Int.natAbs_natCast, Int.natAbs_sign_of_ne_zero h0, Nat.one_mul]; exact h.2
    · rw [Rat.den_inv, if_neg h0]; exact h.1
/-- It is told in full. -/
def Short (q : Rat) : Prop := (dg q.num.natAbs).length + (dg q.den).length ≤ 4096
theorem Szq.short {q : Rat} {k : Nat} (h : Szq k q) (hk : k ≤ 2048) : Short q := by
  have h1 := h.1
  have h2 := h.2
  unfold Short
  omega
theorem szq_fix {neg : Bool} {ln ld : List Int} {k : Nat} (w1 : Wd ln) (w2 : Wd ld) (h1 : ln.length ≤ k) (h2 : ld.length ≤ k) (hk : 1 ≤ k) : Szq k (fixq neg ln ld) := by
  by_cases h : RightP neg ln ld
  · obtain ⟨_, e1, e2⟩ := fixq_parts h w1 w2
    exact ⟨by rw [e1]; exact h1, by rw [e2]; exact h2⟩
  · rw [fixq, if_neg h]; exact szq_zero k hk
theorem Short.szq {q : Rat} (h : Short q) : Szq 4096 q := by
  unfold Short at h
  exact ⟨by omega, by omega⟩
theorem Szq.big {q : Rat} {k : Nat} (h : Szq k q) (hk : k ≤ 500000000) : Szq 500000000 q := h.mono hk
end Go.Proofs.Ytdmgceckmciifaa
