/- frac.Print; half. -/
import Derived.Test.YtajckdheecgceaaText
set_option linter.unusedVariables false
set_option linter.unusedSimpArgs false
namespace Go.Proofs.Ytajckdheecgceaa
open Go.RowKit

/-- A fraction as it is written. -/
def showq (q : Rat) : List UInt8 := (if q.num < 0 then [45] else []) ++ (decs q.num.natAbs ++ (if q.den = 1 then [] else 47 :: decs q.den))
theorem decs_len_of {n k : Nat} (h : (dg n).length ≤ k) (hk : 1 ≤ k) : (decs n).length ≤ 32 * k := by
  unfold decs
  split
  · simp; omega
  · have h1 := dg_len.1 h
    rw [pow32] at h1
    exact (padd_small (32 * k) n (Nat.lt_of_lt_of_le h1 (Nat.pow_le_pow_left (by omega) _))).1
theorem decs_len {n : Nat} (h : (dg n).length ≤ 4096) : (decs n).length ≤ 131072 := decs_len_of h (by omega)
theorem half_val : ((-2 : Int) : Rat) * ((-4 : Int) : Rat)⁻¹ = mkRat 1 2 := by decide +kernel
theorem show_half : showq (mkRat 1 2) = [49, 47, 50] := by decide +kernel
end Go.Proofs.Ytajckdheecgceaa
