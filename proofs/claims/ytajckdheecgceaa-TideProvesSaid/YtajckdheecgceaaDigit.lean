/- Words: digit, one word of a quotient. -/
import Derived.Test.YtajckdheecgceaaShift
import Derived.Test.YtajckdheecgceaaMul
import Derived.Deep.CutBlock
import Derived.Deep.DeepCutAuto
set_option linter.unusedVariables false
set_option linter.unusedSimpArgs false
namespace Go.Proofs.Ytajckdheecgceaa
open Go.RowKit

/-- Block g is a row; from place j on it holds u. -/
def Win (w : World) (g j : Nat) (P u S : List Int) : Prop := Ow w g (P ++ (u ++ S)) ∧ P.length = j
theorem Win.cell {w : World} {g j : Nat} {P u S : List Int} (h : Win w g j P u S) {i : Nat} (hi : i < u.length) : w.cell? ⟨g, j + i, none⟩ = some (.int .u32 (wat u i)) := by
  obtain ⟨h, rfl⟩ := h
  rw [h.cell (by simp; omega)]
  simp [wat, List.getD_eq_getElem?_getD, List.getElem?_append_right, List.getElem?_append_left hi]
theorem Win.free {w : World} {g j : Nat} {P u S : List Int} (h : Win w g j P u S) (i : Nat) : w.frozen? ⟨g, i, none⟩ = false := h.1.free i
theorem Win.set {w : World} {g j : Nat} {P u S : List Int} (h : Win w g j P u S) {i : Nat} (hi : i < u.length) (x : Int) : Win (w.setCell ⟨g, j + i, none⟩ (.int .u32 x)) g j P (u.set i x) S := by
  obtain ⟨h, rfl⟩ := h
  refine ⟨?_, rfl⟩
  have := h.set (P.length + i) x
  rw [List.set_append_right _ _ (by omega), show P.length + i - P.length = i by omega, List.set_append_left _ _ hi] at this
  exact this
theorem Win.drewN {w : World} {g j : Nat} {P u S : List Int} (h : Win w g j P u S) (n : Nat) : Win (w.drewN n) g j P u S := ⟨h.1.below (bl_drewN _ _), h.2⟩
theorem Ow.drewN {w : World} {g : Nat} {l : List Int} (h : Ow w g l) (n : Nat) : Ow (w.drewN n) g l := h.below (bl_drewN _ _)

/-- The multiple of v that is taken away, word by word. -/
structure SubM (v u0 u : List Int) (n k : Nat) (q c b : Int) : Prop where
  len : u.length = n + 1
  wd : Wd u
  c0 : 0 ≤ c
  c1 : c < 4294967296
  b0 : 0 ≤ b
  b1 : b ≤ 1
  same : ∀ j, k ≤ j → wat u j = wat u0 j
  sum : nv (u.take k) + q.toNat * nv (v.take k) = nv (u0.take k) + 4294967296 ^ k * (c + b).toNat
theorem SubM.start {v u : List Int} {n : Nat} {q : Int} (hl : u.length = n + 1) (hw : Wd u) : SubM v u u n 0 q 0 0 :=
  ⟨hl, hw, by omega, by omega, by omega, by omega, fun _ _ => rfl, by simp [nv]⟩
theorem SubM.step {v u0 u : List Int} {n k : Nat} {q c b : Int} (h : SubM v u0 u n k q c b) (hv : Wd v) (h0 : Wd u0) (hl0 : u0.length = n + 1) (hk : k < n) (hkv : k < v.length) (hq : 0 ≤ q ∧ q < 4294967296)
    {p y s : Int} (hp : p = c + q * wat v k) (hy : 0 ≤ y ∧ y ≤ 1) (hs0 : 0 ≤ s ∧ s < 4294967296) (hs : s = wat u k + 4294967296 * y - (p % 4294967296 + b)) :
    SubM v u0 (u.set k s) n (k + 1) q (p / 4294967296) y := by
  obtain ⟨h1, h2, h3, h4, h5, h6, h7, h8⟩ := h
  have r1 := wat_range hv k
  have r2 := wat_range h2 k
  have m := mul_bound hq.1 hq.2 r1.1 r1.2
  refine ⟨by simpa using h1, Wd_set h2 _ _ hs0, by omega, by omega, hy.1, hy.2, fun j hj => by rw [set_get_ne (by omega)]; exact h7 j (by omega), ?_⟩
  rw [nv_set_take (by omega), nv_take_wat hkv, nv_take_wat (l := u0) (by omega), ← h7 k (Nat.le_refl k), Nat.pow_succ]
  have e1 : s.toNat + (q.toNat * (wat v k).toNat + (c + b).toNat) = (wat u k).toNat + 4294967296 * (p / 4294967296 + y).toNat := by
    rw [← Int.toNat_mul hq.1 r1.1]
    omega
  have e2 := congrArg (fun z => 4294967296 ^ k * z) e1
  simp only [Nat.mul_add, ← Nat.mul_assoc] at e2
  have e3 : q.toNat * (4294967296 ^ k * (wat v k).toNat) = 4294967296 ^ k * q.toNat * (wat v k).toNat := by
    simp only [Nat.mul_assoc, Nat.mul_comm, Nat.mul_left_comm]
  rw [Nat.mul_add, e3]
  omega
/-- v is put back, word by word. -/
structure AddM (v u0 u : List Int) (n k : Nat) (c : Int) : Prop where
  len : u.length = n + 1
  wd : Wd u
  c0 : 0 ≤ c
  c1 : c ≤ 1
  same : ∀ j, k ≤ j → wat u j = wat u0 j
  sum : nv (u.take k) + 4294967296 ^ k * c.toNat = nv (u0.take k) + nv (v.take k)
theorem AddM.start {v u : List Int} {n : Nat} (hl : u.length = n + 1) (hw : Wd u) : AddM v u u n 0 0 :=
  ⟨hl, hw, by omega, by omega, fun _ _ => rfl, by simp [nv]⟩
theorem AddM.step {v u0 u : List Int} {n k : Nat} {c : Int} (h : AddM v u0 u n k c) (hv : Wd v) (hl0 : u0.length = n + 1) (hk : k < n) (hkv : k < v.length) {p : Int} (hp : p = c + (wat u k + wat v k)) :
    AddM v u0 (u.set k (p % 4294967296)) n (k + 1) (p / 4294967296) := by
  obtain ⟨h1, h2, h3, h4, h7, h8⟩ := h
  have r1 := wat_range hv k
  have r2 := wat_range h2 k
  refine ⟨by simpa using h1, Wd_set h2 _ _ (by omega), by omega, by omega, fun j hj => by rw [set_get_ne (by omega)]; exact h7 j (by omega), ?_⟩
  rw [nv_set_take (by omega), nv_take_wat hkv, nv_take_wat (l := u0) (by omega), ← h7 k (Nat.le_refl k), Nat.pow_succ]
  have e1 : (p % 4294967296).toNat + 4294967296 * (p / 4294967296).toNat = c.toNat + ((wat u k).toNat + (wat v k).toNat) := by omega
  have e2 := congrArg (fun z => 4294967296 ^ k * z) e1
  simp only [Nat.mul_add, ← Nat.mul_assoc] at e2
  omega
theorem nv_last {u : List Int} {n : Nat} (h : u.length = n + 1) : nv u = nv (u.take n) + 4294967296 ^ n * (wat u n).toNat := by
  rw [← nv_take_wat (by omega), nv_take_all _ (by omega)]
/-- The guess was right. -/
theorem SubM.right {v u0 u : List Int} {n : Nat} {q c b : Int} (h : SubM v u0 u n n q c b) (hl0 : u0.length = n + 1) (hv0 : 0 < nv (v.take n)) (hg : nv u0 / nv (v.take n) ≤ q.toNat) (hle : c + b ≤ wat u n) :
    q.toNat = nv u0 / nv (v.take n) ∧ (u.set n (wat u n - (c + b))).length = n + 1 ∧ Wd (u.set n (wat u n - (c + b))) ∧ nv (u.set n (wat u n - (c + b))) = nv u0 % nv (v.take n) := by
  obtain ⟨h1, h2, h3, h4, h5, h6, h7, h8⟩ := h
  have r2 := wat_range h2 n
  have e1 := nv_last hl0
  rw [← h7 n (Nat.le_refl n)] at e1
  have e2 : nv (u.set n (wat u n - (c + b))) = nv (u.take n) + 4294967296 ^ n * (wat u n - (c + b)).toNat := by
    rw [nv_last (n := n) (by simpa using h1), set_get_self (by omega), List.take_set_of_le (Nat.le_refl n)]
  have e3 : (wat u n - (c + b)).toNat + (c + b).toNat = (wat u n).toNat := by omega
  have e4 := congrArg (fun z => 4294967296 ^ n * z) e3
  simp only [Nat.mul_add] at e4
  have e5 : nv (u.set n (wat u n - (c + b))) + q.toNat * nv (v.take n) = nv u0 := by omega
  have hq : q.toNat ≤ nv u0 / nv (v.take n) := by
    rw [Nat.le_div_iff_mul_le hv0]; omega
  have hq2 : q.toNat = nv u0 / nv (v.take n) := by omega
  refine ⟨hq2, by simpa using h1, Wd_set h2 _ _ (by omega), ?_⟩
  have e6 := Nat.div_add_mod (nv u0) (nv (v.take n))
  rw [← hq2, Nat.mul_comm] at e6
  omega
/-- The guess was too great by one. -/
theorem SubM.wrong {v u0 u : List Int} {n : Nat} {q c b : Int} (h : SubM v u0 u n n q c b) (hl0 : u0.length = n + 1) (hw0 : Wd u0) (hv0 : 0 < nv (v.take n)) (hg : q.toNat ≤ nv u0 / nv (v.take n) + 1) (hlt : wat u n < c + b) :
    q.toNat = nv u0 / nv (v.take n) + 1 ∧ (u.set n (wat u n + 4294967296 - (c + b))).length = n + 1 ∧ Wd (u.set n (wat u n + 4294967296 - (c + b))) ∧
    nv (u.set n (wat u n + 4294967296 - (c + b))) + q.toNat * nv (v.take n) = nv u0 + 4294967296 ^ (n + 1) := by
  obtain ⟨h1, h2, h3, h4, h5, h6, h7, h8⟩ := h
  have r2 := wat_range h2 n
  have e1 := nv_last hl0
  rw [← h7 n (Nat.le_refl n)] at e1
  have e2 : nv (u.set n (wat u n + 4294967296 - (c + b))) = nv (u.take n) + 4294967296 ^ n * (wat u n + 4294967296 - (c + b)).toNat := by
    rw [nv_last (n := n) (by simpa using h1), set_get_self (by omega), List.take_set_of_le (Nat.le_refl n)]
  have e3 : (wat u n + 4294967296 - (c + b)).toNat + (c + b).toNat = (wat u n).toNat + 4294967296 := by omega
  have e4 := congrArg (fun z => 4294967296 ^ n * z) e3
  simp only [Nat.mul_add] at e4
  have e5 : nv (u.set n (wat u n + 4294967296 - (c + b))) + q.toNat * nv (v.take n) = nv u0 + 4294967296 ^ (n + 1) := by
    rw [Nat.pow_succ]; omega
  refine ⟨?_, by simpa using h1, Wd_set h2 _ _ (by omega), e5⟩
  have hlt2 := nv_lt (Wd_take h2 n)
  rw [List.length_take, Nat.min_eq_left (by omega)] at hlt2
  have e6 : 4294967296 ^ n * (wat u n).toNat + 4294967296 ^ n ≤ 4294967296 ^ n * (c + b).toNat := by
    rw [← Nat.mul_succ]
    exact Nat.mul_le_mul_left _ (by omega)
  have hgt : nv u0 < q.toNat * nv (v.take n) := by omega
  have hq : nv u0 / nv (v.take n) < q.toNat := by
    rw [Nat.div_lt_iff_lt_mul hv0]; exact hgt
  omega
/-- Behind the putting back. -/
theorem AddM.done {v u0 u : List Int} {n : Nat} {c : Int} {N : Nat} (h : AddM v u0 u n n c) (hl0 : u0.length = n + 1) (hv0 : 0 < nv (v.take n)) (hv1 : nv (v.take n) < 4294967296 ^ n)
    (hu : nv u0 + (N / nv (v.take n) + 1) * nv (v.take n) = N + 4294967296 ^ (n + 1)) :
    (u.set n ((wat u n + c) % 4294967296)).length = n + 1 ∧ Wd (u.set n ((wat u n + c) % 4294967296)) ∧ nv (u.set n ((wat u n + c) % 4294967296)) = N % nv (v.take n) := by
  obtain ⟨h1, h2, h3, h4, h7, h8⟩ := h
  have r2 := wat_range h2 n
  have e1 := nv_last hl0
  rw [← h7 n (Nat.le_refl n)] at e1
  refine ⟨by simpa using h1, Wd_set h2 _ _ (by omega), ?_⟩
  rw [nv_last (n := n) (by simpa using h1), set_get_self (by omega), List.take_set_of_le (Nat.le_refl n)]
  have e6 := Nat.div_add_mod N (nv (v.take n))
  have e7 := Nat.mod_lt N hv0
  rw [Nat.add_mul, Nat.one_mul, Nat.mul_comm (N / _)] at hu
  have ht : nv (u.take n) + 4294967296 ^ n * ((wat u n).toNat + c.toNat) = N % nv (v.take n) + 4294967296 ^ (n + 1) := by
    rw [Nat.mul_add]; omega
  have hb : 4294967296 ≤ (wat u n).toNat + c.toNat := by
    apply Nat.le_of_not_lt
    intro hlt
    have hlt2 := nv_lt (Wd_take h2 n)
    rw [List.length_take, Nat.min_eq_left (by omega)] at hlt2
    have := Nat.mul_le_mul_left (4294967296 ^ n) (show (wat u n).toNat + c.toNat + 1 ≤ 4294967296 by omega)
    rw [Nat.mul_add _ _ 1, Nat.mul_one, ← Nat.pow_succ] at this
    omega
  have e8 : ((wat u n + c) % 4294967296).toNat = 0 := by omega
  have e9 : (wat u n).toNat + c.toNat = 4294967296 := by omega
  rw [e9, ← Nat.pow_succ] at ht
  rw [e8]
  omega

end Go.Proofs.Ytajckdheecgceaa
