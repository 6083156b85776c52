/- The functions of frac: Floor. -/
import Derived.Test.YtajckdheecgceaaRat
set_option linter.unusedVariables false
set_option linter.unusedSimpArgs false
namespace Go.Proofs.Ytajckdheecgceaa
open Go.RowKit

/-- The greatest whole number that is not above. -/
def rfloor (q : Rat) : Int := q.num / (q.den : Int)
theorem floor_pos {q : Rat} (h : ¬ q.num < 0) : rfloor q = ((q.num.natAbs / q.den : Nat) : Int) := by
  rw [rfloor, Int.natCast_ediv, Int.natAbs_of_nonneg (by omega)]
theorem floor_neg {q : Rat} (h : q.num < 0) (hr : q.num.natAbs % q.den = 0) : rfloor q = -((q.num.natAbs / q.den : Nat) : Int) ∧ 0 < q.num.natAbs / q.den := by
  have hd := q.den_pos
  obtain ⟨n, hn⟩ : ∃ n, n = q.num.natAbs := ⟨_, rfl⟩
  obtain ⟨d, hd'⟩ : ∃ d, d = q.den := ⟨_, rfl⟩
  have e : q.num = -(n : Int) := by omega
  rw [← hn, ← hd'] at hr ⊢
  rw [← hd'] at hd
  rw [rfloor, e, ← hd']
  clear hn hd'
  obtain ⟨k, hk⟩ := Nat.dvd_of_mod_eq_zero hr
  subst hk
  have hk0 : 0 < k := by
    rcases Nat.eq_zero_or_pos k with rfl | hk0
    · omega
    · exact hk0
  rw [Nat.mul_div_cancel_left _ hd]
  refine ⟨?_, hk0⟩
  rw [Int.natCast_mul, ← Int.mul_neg, Int.mul_ediv_cancel_left _ (by omega)]
theorem floor_neg2 {q : Rat} (h : q.num < 0) (hr : 0 < q.num.natAbs % q.den) : rfloor q = -((q.num.natAbs / q.den + 1 : Nat) : Int) := by
  have hd := q.den_pos
  obtain ⟨n, hn⟩ : ∃ n, n = q.num.natAbs := ⟨_, rfl⟩
  obtain ⟨d, hd'⟩ : ∃ d, d = q.den := ⟨_, rfl⟩
  have e : q.num = -(n : Int) := by omega
  rw [← hn, ← hd'] at hr ⊢
  rw [← hd'] at hd
  rw [rfloor, e, ← hd']
  clear hn hd'
  have h1 := Nat.div_add_mod n d
  have h2 := Nat.mod_lt n hd
  obtain ⟨x, hx⟩ : ∃ x, x = n / d := ⟨_, rfl⟩
  obtain ⟨y, hy⟩ : ∃ y, y = n % d := ⟨_, rfl⟩
  rw [← hx, ← hy] at h1
  rw [← hy] at h2 hr
  rw [← hx]
  have e2 : -(n : Int) = ((d : Int) - y) + (d : Int) * -((x + 1 : Nat) : Int) := by
    rw [← h1]; push_cast; rw [Int.mul_neg, Int.mul_add]; omega
  rw [e2, Int.add_mul_ediv_left _ _ (by omega), Int.ediv_eq_zero_of_lt (by omega) (by omega), Int.zero_add]
theorem RtV.one_lit (W : World) : Nm (W.alloc (.cells #[.int .u32 1] 101)) (.slice (some ⟨W.heap.size, 0, none⟩) 1 1) 1 := Nm.lit1 _ _ (heap_alloc_new W _)
theorem RtV.whole {W : World} {A : Option Addr} {m c : Nat} (z : Int) (hz : z.natAbs = m) (b : Bool) (hb : b = decide (z < 0)) (hv : Nm W (.slice A (dg m).length c) m) (r : Rat) (hr : r = (z : Rat)) :
    RtV (W.alloc (.cells #[.int .u32 1] 101)) (.agg #[.slice A (dg m).length c, .slice (some ⟨W.heap.size, 0, none⟩) 1 1, .bool b]) r := by
  subst hr hz
  exact RtV.int (hv.below (below_alloc0 _ _)) (RtV.one_lit W) b hb
end Go.Proofs.Ytajckdheecgceaa
