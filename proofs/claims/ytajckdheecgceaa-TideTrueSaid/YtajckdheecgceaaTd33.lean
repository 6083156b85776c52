/- Tides: what an agent says, of a law's argument. -/
import Derived.Test.YtajckdheecgceaaTd27
set_option linter.unusedVariables false
set_option linter.unusedSimpArgs false
namespace Go.Proofs.Ytajckdheecgceaa
open Go.ChangeShapes Go.WideShapes Go.ChangeAt Go.RowKit Go.Joins

set_option maxRecDepth 100000 in
/-- A visit that is handed in, in five cells. -/
theorem visit_of_trod {H : Type} {enc : TypeId × Value → H} {W : World} {fuel : Nat} {c0 c1 c2 c3 c4 : Value} {x : DataW H × List MemPlace}
    (h : DataW.trod enc Try.prog W 0 (fun _ => true) true fuel 40 [c0, c1, c2, c3, c4] = some x) : ∃ (dv : VD) (V1 V2 : Option Addr) (n1 n2 : Nat), c0 = .int .i64 dv.1 ∧ c1 = .int .i64 dv.2.1 ∧ c2 = .bool dv.2.2.1 ∧ c3 = .slice V1 dv.2.2.2.1.length n1 ∧ c4 = .slice V2 dv.2.2.2.2.length n2 ∧
      FrIn W (.agg #[.bool dv.2.2.1, .slice V1 dv.2.2.2.1.length n1, .slice V2 dv.2.2.2.2.length n2]) dv.2.2.1 dv.2.2.2.1 dv.2.2.2.2 ∧ ∀ B, (∀ n ∈ x.1.weights Try.prog 40, n ≤ B) → dv.2.2.2.1.length ≤ B ∧ dv.2.2.2.2.length ≤ B := by
  obtain ⟨y0, y1, y2, n', hy, _, k0, k1, k2⟩ := Deep.trod_struct3 Try.underlying40 h
  have b0 : Program.cellsOf Try.prog 3 = 1 := by kernel_rfl
  have b3 : Program.cellsOf Try.prog 38 = 3 := by kernel_rfl
  have b1 : Program.cellsOf Try.prog 4 = 1 := by kernel_rfl
  have b2 : Program.cellsOf Try.prog 36 = 1 := by kernel_rfl
  have k0' : DataW.trod enc Try.prog W 0 (fun _ => true) true n' 3 [c0] = some y0 := by simpa [b0] using k0
  have k1' : DataW.trod enc Try.prog W 0 (fun _ => true) true n' 3 [c1] = some y1 := by simpa [b0] using k1
  have k2' : DataW.trod enc Try.prog W 0 (fun _ => true) true n' 38 [c2, c3, c4] = some y2 := by simpa [b0, b3] using k2
  obtain ⟨z0, z1, z2, n2, hz, _, f0, f1, f2⟩ := Deep.trod_struct3 Try.underlying38 k2'
  have f0' : DataW.trod enc Try.prog W 0 (fun _ => true) true n2 4 [c2] = some z0 := by simpa [b1] using f0
  have f1' : DataW.trod enc Try.prog W 0 (fun _ => true) true n2 36 [c3] = some z1 := by simpa [b2] using f1
  have f2' : DataW.trod enc Try.prog W 0 (fun _ => true) true n2 36 [c4] = some z2 := by simpa [b2] using f2
  obtain ⟨p, rfl, _, _⟩ := int_of_trod k0'
  obtain ⟨q, rfl, _, _⟩ := int_of_trod k1'
  obtain ⟨b, hb, _⟩ := DataW.trod_bool Try.underlying4 f0'
  obtain rfl : c2 = .bool b := by simpa using hb
  obtain ⟨ln, r1, w1, g1⟩ := row_of_argB f1'
  obtain ⟨ld, r2, w2, g2⟩ := row_of_argB f2'
  obtain ⟨A1, a1, rfl, _⟩ := id r1
  obtain ⟨A2, a2, rfl, _⟩ := id r2
  have hx : x.1 = .agg [y0.1, y1.1, y2.1] := congrArg Prod.fst hy
  have hz2 : y2.1 = .agg [z0.1, z1.1, z2.1] := congrArg Prod.fst hz
  refine ⟨(p, q, b, ln, ld), A1, A2, a1, a2, rfl, rfl, rfl, rfl, rfl, ⟨_, _, rfl, r1, r2, w1, w2⟩, fun B hB => ⟨g1 B (fun n hn => hB n ?_), g2 B (fun n hn => hB n ?_)⟩⟩
  · rw [hx, hz2]; simp [DataW.weights, DataW.weightsEach, Try.underlying40, Try.underlying38, hn]
  · rw [hx, hz2]; simp [DataW.weights, DataW.weightsEach, Try.underlying40, Try.underlying38, hn]
set_option maxRecDepth 100000 in
/-- What an agent says. -/
theorem told_of_arg {H : Type} {enc : TypeId × Value → H} {W : World} {v : Value} {d : DataW H} {p : List MemPlace}
    (hv : Value.okWide Try.prog W .any 0 45 v) (h : DataW.Trod enc Try.prog W 0 (fun _ => true) true 45 v d p) : ∃ (ag : Int) (dv : VD) (V1 V2 : Option Addr) (n1 n2 : Nat), v = .agg #[.int .i64 ag, .int .i64 dv.1, .int .i64 dv.2.1, .bool dv.2.2.1, .slice V1 dv.2.2.2.1.length n1, .slice V2 dv.2.2.2.2.length n2] ∧
      FrIn W (.agg #[.bool dv.2.2.1, .slice V1 dv.2.2.2.1.length n1, .slice V2 dv.2.2.2.2.length n2]) dv.2.2.1 dv.2.2.2.1 dv.2.2.2.2 ∧ ∀ B, (∀ n ∈ d.weights Try.prog 45, n ≤ B) → dv.2.2.2.1.length ≤ B ∧ dv.2.2.2.2.length ≤ B := by
  obtain ⟨cs, rfl, hsz⟩ := okWide_struct Try.underlying45 hv
  have h6 : Program.cellsOf Try.prog 45 = 6 := by kernel_rfl
  have b0 : Program.cellsOf Try.prog 3 = 1 := by kernel_rfl
  have b5 : Program.cellsOf Try.prog 40 = 5 := by kernel_rfl
  rw [h6] at hsz
  obtain ⟨l⟩ := cs
  match l, hsz with
  | [c0, c1, c2, c3, c4, c5], _ =>
    obtain ⟨fuel, hf⟩ := h
    obtain ⟨y0, y1, n', hy, _, k0, k1⟩ := trod_struct2 Try.underlying45 hf
    have k0' : DataW.trod enc Try.prog W 0 (fun _ => true) true n' 3 [c0] = some y0 := by simpa [Value.cells, b0] using k0
    have k1' : DataW.trod enc Try.prog W 0 (fun _ => true) true n' 40 [c1, c2, c3, c4, c5] = some y1 := by simpa [Value.cells, b5] using k1
    obtain ⟨ag, rfl, _, _⟩ := int_of_trod k0'
    obtain ⟨dv, V1, V2, n1, n2, rfl, rfl, rfl, rfl, rfl, hfr, hB⟩ := visit_of_trod k1'
    have hd : d = .agg [y0.1, y1.1] := congrArg Prod.fst hy
    refine ⟨ag, dv, V1, V2, n1, n2, rfl, hfr, fun B hb => hB B (fun n hn => hb n ?_)⟩
    rw [hd]
    simp [DataW.weights, DataW.weightsEach, Try.underlying45, hn]
end Go.Proofs.Ytajckdheecgceaa
