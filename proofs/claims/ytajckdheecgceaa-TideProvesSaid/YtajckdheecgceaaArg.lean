/- What a fraction that is handed in reads as. -/
import Derived.Test.YtajckdheecgceaaRight
import Derived.ChangeOld
import Derived.Lib.SmallJoins
import Derived.ProofKit
set_option linter.unusedVariables false
set_option linter.unusedSimpArgs false
namespace Go.Proofs.Ytajckdheecgceaa
open Go.ChangeShapes Go.WideShapes Go.ChangeAt Go.RowKit Go.Joins

theorem RdI.nil (k : IntKind) (w : World) : RdI k w (.slice none 0 0) [] := ⟨none, 0, rfl, by simp, by omega, fun h => absurd h (by simp)⟩
/-- A row of words that is handed in. -/
theorem row_of_arg {H : Type} {enc : TypeId × Value → H} {W : World} {fuel : Nat} {v : Value} {x : DataW H × List MemPlace}
    (h : DataW.trod enc Try.prog W 0 (fun _ => true) true fuel 36 [v] = some x) : ∃ l, RdI .u32 W v l ∧ Wd l := by
  rcases open_ints Try.underlying36 Try.underlying101 (by kernel_rfl) h with ⟨hcs, _⟩ | ⟨a, l, c, zs, hcs, _, hl, hm, hz, _, hcell, hwz⟩
  · obtain rfl : v = .slice none 0 0 := by simpa using hcs
    exact ⟨[], RdI.nil _ _, Wd_nil⟩
  · obtain rfl : v = .slice (some a) l c := by simpa using hcs
    have hz' : zs.length = c := by simpa using hz
    have hl' : (zs.take l).length = l := by rw [List.length_take]; omega
    refine ⟨zs.take l, ⟨some a, c, by rw [hl'], by omega, by unfold maxLen at hm; omega, fun _ => ⟨a, rfl, fun j hj => ?_⟩⟩, fun n hn => ?_⟩
    · rw [hcell j (by omega)]
      simp only [wat, List.getD_eq_getElem?_getD]
      rw [List.getElem?_take_of_lt (by omega)]
    · have := hwz n (List.mem_of_mem_take hn)
      simp [Lit.wf, IntKind.min, IntKind.max, IntKind.signed, IntKind.bits] at this
      omega
set_option maxRecDepth 100000 in
/-- A fraction that is handed in. -/
theorem frin_of_arg {H : Type} {enc : TypeId × Value → H} {W : World} {v : Value} {d : DataW H} {p : List MemPlace}
    (hv : Value.okWide Try.prog W .any 0 38 v) (h : DataW.Trod enc Try.prog W 0 (fun _ => true) true 38 v d p) : ∃ neg ln ld, FrIn W v neg ln ld := by
  obtain ⟨c0, c1, c2, y0, y1, y2, m, rfl, rfl, rfl, hy0, hy1, hy2⟩ := open_agg3 Try.underlying38 (by kernel_rfl) (by kernel_rfl) hv h
  obtain ⟨b, hb, _⟩ := DataW.trod_bool Try.underlying4 hy0
  obtain rfl : c0 = .bool b := by simpa using hb
  obtain ⟨ln, h1, w1⟩ := row_of_arg hy1
  obtain ⟨ld, h2, w2⟩ := row_of_arg hy2
  exact ⟨b, ln, ld, c1, c2, rfl, h1, h2, w1, w2⟩

end Go.Proofs.Ytajckdheecgceaa
