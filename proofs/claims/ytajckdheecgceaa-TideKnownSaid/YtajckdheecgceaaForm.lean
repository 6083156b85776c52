/- Systems of equations: rows that are handed in, and whether they are of one length. -/
import Derived.Test.YtajckdheecgceaaLst8
set_option linter.unusedVariables false
set_option linter.unusedSimpArgs false
namespace Go.Proofs.Ytajckdheecgceaa
open Go.RowKit

/-- Rows of fractions that are handed in. -/
def FLL (w : World) (v : Value) (LL : List (List (Bool × List Int × List Int))) : Prop := ∃ A c, v = .slice A LL.length c ∧ LL.length ≤ c ∧ c ≤ 9223372036854775807 ∧ (0 < LL.length → ∃ ad, A = some ad ∧ ∀ i L, LL[i]? = some L → ∃ u, w.cell? (ad.add i) = some u ∧ FL w u L)
theorem FLL.below {w w1 : World} {v : Value} {LL : List (List (Bool × List Int × List Int))} (h : FLL w v LL) (hb : Below w.heap.size w w1) : FLL w1 v LL := by
  obtain ⟨A, c, hv, h1, h2, h3⟩ := h
  refine ⟨A, c, hv, h1, h2, fun h0 => ?_⟩
  obtain ⟨ad, ha, hc⟩ := h3 h0
  refine ⟨ad, ha, fun i L hL => ?_⟩
  obtain ⟨u, k0, hf⟩ := hc i L hL
  exact ⟨u, cell_below hb k0, hf.below hb⟩
theorem FLL.at {w : World} {v : Value} {LL : List (List (Bool × List Int × List Int))} (h : FLL w v LL) {i : Nat} {L : List (Bool × List Int × List Int)} (hL : LL[i]? = some L) : ∃ ad c A1 c1, v = .slice (some ad) LL.length c ∧ LL.length ≤ c ∧ c ≤ 9223372036854775807 ∧ w.cell? (ad.add i) = some (.slice A1 L.length c1) ∧ L.length ≤ c1 ∧ c1 ≤ 9223372036854775807 ∧ FL w (.slice A1 L.length c1) L := by
  obtain ⟨A, c, rfl, h1, h2, h3⟩ := h
  have hlt := (List.getElem?_eq_some_iff.1 hL).1
  obtain ⟨ad, rfl, hc⟩ := h3 (by omega)
  obtain ⟨u, k0, hf⟩ := hc i L hL
  have hf0 := hf
  obtain ⟨A1, c1, rfl, k1, k2, _⟩ := hf0
  exact ⟨ad, c, A1, c1, rfl, h1, h2, k0, k1, k2, hf⟩
theorem FLL.shape {w : World} {v : Value} {LL : List (List (Bool × List Int × List Int))} (h : FLL w v LL) : ∃ A c, v = .slice A LL.length c := by
  obtain ⟨A, c, hv, _⟩ := h
  exact ⟨A, c, hv⟩
theorem FLL.bounds {w : World} {A : Option Addr} {l c : Nat} {LL : List (List (Bool × List Int × List Int))} (h : FLL w (.slice A l c) LL) : LL.length ≤ c ∧ c ≤ 9223372036854775807 := by
  obtain ⟨A', c', hv, h1, h2, _⟩ := h
  obtain ⟨_, _, rfl⟩ : A = A' ∧ l = LL.length ∧ c = c' := by simpa using hv
  exact ⟨h1, h2⟩
/-- How many columns there are. -/
def colsN (LL : List (List (Bool × List Int × List Int))) : Nat := (LL.getD 0 []).length
/-- All rows are of one length. -/
def unif (LL : List (List (Bool × List Int × List Int))) : Prop := ∀ L ∈ LL, L.length = colsN LL
instance (LL : List (List (Bool × List Int × List Int))) : Decidable (unif LL) := by unfold unif; infer_instance
theorem take_snocL {α : Type} {LL : List α} {k : Nat} {L : α} (h : LL[k]? = some L) : LL.take (k + 1) = LL.take k ++ [L] := by
  rw [List.take_add_one, h]; rfl
theorem unif_take {LL : List (List (Bool × List Int × List Int))} {k n : Nat} {L : List (Bool × List Int × List Int)} (h : LL[k]? = some L) (h1 : ∀ M ∈ LL.take k, M.length = n) (h2 : L.length = n) : ∀ M ∈ LL.take (k + 1), M.length = n := by
  intro M hM
  rw [take_snocL h] at hM
  rcases List.mem_append.1 hM with hM | hM
  · exact h1 M hM
  · rw [List.mem_singleton.1 hM]; exact h2
/-- What is told of rows' form; r: how many numbers are on the right (below 0: not asked). -/
def formE (LL : List (List (Bool × List Int × List Int))) (r : Int) : Int := if unif LL ∧ (0 ≤ r → r = LL.length) then 0 else 12
theorem formE_ok {LL : List (List (Bool × List Int × List Int))} {r : Int} (h : unif LL ∧ (0 ≤ r → r = LL.length)) : formE LL r = 0 := if_pos h
theorem formE_no {LL : List (List (Bool × List Int × List Int))} {r : Int} (h : ¬ (unif LL ∧ (0 ≤ r → r = LL.length))) : formE LL r = 12 := if_neg h
end Go.Proofs.Ytajckdheecgceaa
