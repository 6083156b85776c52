/- Lists of fractions: the law's walk, and what lists that are handed in read as. -/
import Derived.Test.YtajckdheecgceaaLst
import Derived.Test.YtajckdheecgceaaHalf
import Derived.Test.YtajckdheecgceaaArg
import Derived.Test.YtajckdheecgceaaFew
import Derived.Deep.Slices
import Derived.Deep.Strs
set_option linter.unusedVariables false
set_option linter.unusedSimpArgs false
namespace Go.Proofs.Ytajckdheecgceaa
open Go.ChangeShapes Go.WideShapes Go.ChangeAt Go.RowKit Go.Joins

instance (k : Nat) (L : List (Bool × List Int × List Int)) : Decidable (FewD k L) := by unfold FewD; infer_instance
theorem FewD.mono {L : List (Bool × List Int × List Int)} {k m : Nat} (h : FewD k L) (hk : k ≤ m) : FewD m L := fun d hd => ⟨Nat.le_trans (h d hd).1 hk, Nat.le_trans (h d hd).2 hk⟩
set_option maxRecDepth 100000 in
/-- A list of fractions that is handed in. -/
theorem fl_of_arg {H : Type} {enc : TypeId × Value → H} {W : World} {v : Value} {d : DataW H} {p : List MemPlace}
    (hv : Value.okWide Try.prog W .any 0 31 v) (h : DataW.Trod enc Try.prog W 0 (fun _ => true) true 31 v d p) : ∃ L, FL W v L := by
  obtain ⟨a, l, c, rfl⟩ := okWide_slice Try.underlying31 hv
  obtain ⟨fuel, hf⟩ := h
  rcases Deep.open_slice Try.underlying31 hf with ⟨hcs, _⟩ | ⟨ad, len, cap, m, n, D, Pl, hcs, _, hl, hm, hmm, _, hx⟩
  · obtain ⟨rfl, rfl, rfl⟩ : a = none ∧ l = 0 ∧ c = 0 := by simpa [Value.cells] using hcs
    exact ⟨[], none, 0, rfl, by simp, by omega, fun h => absurd h (by simp)⟩
  · obtain ⟨rfl, rfl, rfl⟩ : a = some ad ∧ l = len ∧ c = cap := by simpa [Value.cells] using hcs
    have hc3 : Program.cellsOf Try.prog 38 = 3 := by kernel_rfl
    have el : ∀ i, i < l → ∃ x : Bool × List Int × List Int, ∃ v1 v2, W.cell? (ad.add (i * 3)) = some (.bool x.1) ∧ W.cell? ⟨(ad.add (i * 3)).block, (ad.add (i * 3)).off + 1, none⟩ = some v1 ∧ W.cell? ⟨(ad.add (i * 3)).block, (ad.add (i * 3)).off + 2, none⟩ = some v2 ∧ FrIn W (.agg #[.bool x.1, v1, v2]) x.1 x.2.1 x.2.2 := by
      intro i hi
      obtain ⟨cs', h1, h2⟩ := hx i (by simp [hmm]; omega)
      rw [hc3] at h1
      obtain ⟨_, hlen, hat⟩ := World.cells?_some h1
      obtain ⟨y0, y1, y2, n', _, _, k0, k1, k2⟩ := Deep.trod_struct3 Try.underlying38 h2
      have b1 : Program.cellsOf Try.prog 4 = 1 := by kernel_rfl
      have b2 : Program.cellsOf Try.prog 36 = 1 := by kernel_rfl
      match cs', hlen with
      | [c0, c1, c2], _ =>
        have k0' : DataW.trod enc Try.prog W 0 (fun _ => true) true n' 4 [c0] = some y0 := by simpa [b1] using k0
        have k1' : DataW.trod enc Try.prog W 0 (fun _ => true) true n' 36 [c1] = some y1 := by simpa [b2] using k1
        have k2' : DataW.trod enc Try.prog W 0 (fun _ => true) true n' 36 [c2] = some y2 := by simpa [b2] using k2
        obtain ⟨b, hb, _⟩ := DataW.trod_bool Try.underlying4 k0'
        obtain rfl : c0 = .bool b := by simpa using hb
        obtain ⟨ln, r1, w1⟩ := row_of_arg k1'
        obtain ⟨ld, r2, w2⟩ := row_of_arg k2'
        refine ⟨(b, ln, ld), c1, c2, ?_, ?_, ?_, c1, c2, rfl, r1, r2, w1, w2⟩
        · have := hat 0 (by omega); simpa [Addr.add] using this
        · have := hat 1 (by omega); simpa [Addr.add] using this
        · have := hat 2 (by omega); simpa [Addr.add] using this
    obtain ⟨f, hfx⟩ := Deep.choose_lt el
    refine ⟨(List.range l).map f, some ad, c, by simp, by simpa using hl, by unfold maxLen at hm; omega, fun _ => ⟨ad, rfl, fun i d hd => ?_⟩⟩
    obtain ⟨hi, rfl⟩ : i < l ∧ f i = d := by
      rw [List.getElem?_map] at hd
      rcases Nat.lt_or_ge i l with h | h
      · rw [List.getElem?_range h] at hd
        exact ⟨h, by simpa using hd⟩
      · rw [List.getElem?_eq_none (by simpa using h)] at hd
        cases hd
    exact hfx i hi
end Go.Proofs.Ytajckdheecgceaa
