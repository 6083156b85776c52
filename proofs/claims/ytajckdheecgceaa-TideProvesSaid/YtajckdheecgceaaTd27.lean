/- Tides: visits that are handed in, of a law's argument. -/
import Derived.Test.YtajckdheecgceaaRows
import Derived.Test.YtajckdheecgceaaArg
import Derived.Test.YtajckdheecgceaaTd1
import Derived.Deep.Slices
import Derived.Deep.Strs
import Derived.Laws.IdiomStrings
import Derived.OrdersHeld
import Derived.SizedLaws
import Derived.StillTailTactics
set_option linter.unusedVariables false
set_option linter.unusedSimpArgs false
namespace Go.Proofs.Ytajckdheecgceaa
open Go.ChangeShapes Go.WideShapes Go.ChangeAt Go.RowKit Go.Joins

set_option maxRecDepth 10000 in
theorem int_of_trod {H : Type} {enc : TypeId × Value → H} {W : World} {fuel : Nat} {v : Value} {x : DataW H × List MemPlace}
    (h : DataW.trod enc Try.prog W 0 (fun _ => true) true fuel 3 [v] = some x) : ∃ n : Int, v = .int .i64 n ∧ -9223372036854775808 ≤ n ∧ n ≤ 9223372036854775807 := by
  obtain ⟨n, hv, _, hw⟩ := DataW.trod_int Try.underlying3 h
  obtain rfl : v = .int .i64 n := by simpa using hv
  refine ⟨n, rfl, ?_⟩
  simp [Lit.wf, IntKind.min, IntKind.max, IntKind.signed, IntKind.bits] at hw
  exact hw
theorem weightsAll_mem {H : Type} {P : Program} {e : TypeId} {d : DataW H} {n : Nat} : ∀ {ds : List (DataW H)}, d ∈ ds → n ∈ d.weights P e → n ∈ DataW.weightsAll P e ds
  | x :: r, hd, hn => by
    simp only [DataW.weightsAll, List.mem_append]
    rcases List.mem_cons.1 hd with rfl | h
    · exact .inl hn
    · exact .inr (weightsAll_mem h hn)
/-- A row of words that is handed in, and its weight. -/
theorem row_of_argB {H : Type} {enc : TypeId × Value → H} {W : World} {fuel : Nat} {v : Value} {x : DataW H × List MemPlace}
    (h : DataW.trod enc Try.prog W 0 (fun _ => true) true fuel 36 [v] = some x) : ∃ l, RdI .u32 W v l ∧ Wd l ∧ ∀ B, (∀ n ∈ x.1.weights Try.prog 36, n ≤ B) → l.length ≤ B := by
  rcases open_ints Try.underlying36 Try.underlying101 (by kernel_rfl) h with ⟨hcs, _⟩ | ⟨a, l, c, zs, hcs, _, hl, hm, hz, hx, hcell, hwz⟩
  · obtain rfl : v = .slice none 0 0 := by simpa using hcs
    exact ⟨[], RdI.nil _ _, Wd_nil, fun _ _ => Nat.zero_le _⟩
  · obtain rfl : v = .slice (some a) l c := by simpa using hcs
    have hz' : zs.length = c := by simpa using hz
    have hl' : (zs.take l).length = l := by rw [List.length_take]; omega
    refine ⟨zs.take l, ⟨some a, c, by rw [hl'], by omega, by unfold maxLen at hm; omega, fun _ => ⟨a, rfl, fun j hj => ?_⟩⟩, fun n hn => ?_, fun B hB => ?_⟩
    · rw [hcell j (by omega)]
      simp only [wat, List.getD_eq_getElem?_getD]
      rw [List.getElem?_take_of_lt (by omega)]
    · have := hwz n (List.mem_of_mem_take hn)
      simp [Lit.wf, IntKind.min, IntKind.max, IntKind.signed, IntKind.bits] at this
      omega
    · have h4 : Program.bytesOf Try.prog 101 = 4 := by kernel_rfl
      have := hB (((lits (H := H) .u32 (zs.take l)).length + (lits (H := H) .u32 (zs.drop l)).length) * Program.bytesOf Try.prog 101) (by rw [hx]; simp [DataW.weights, Try.underlying36])
      rw [h4] at this
      simp only [lits, List.length_map] at this
      omega
set_option maxRecDepth 100000 in
theorem vl_of_trod {H : Type} {enc : TypeId × Value → H} {W : World} {fuel : Nat} {v : Value} {x : DataW H × List MemPlace}
    (hf : DataW.trod enc Try.prog W 0 (fun _ => true) true fuel 22 [v] = some x) : ∃ L, VL W v L ∧ ∀ B, (∀ n ∈ x.1.weights Try.prog 22, n ≤ B) → FewV B L := by
  rcases Deep.open_slice Try.underlying22 hf with ⟨hcs, _⟩ | ⟨ad, l, c, m, n, D, Pl, hcs, _, hl, hm, hmm, hxx, hx⟩
  · obtain rfl : v = .slice none 0 0 := by simpa using hcs
    exact ⟨[], ⟨none, 0, rfl, by simp, by omega, fun h => absurd h (by simp)⟩, fun B _ d hd => by simp at hd⟩
  · obtain rfl : v = .slice (some ad) l c := by simpa using hcs
    have hc5 : Program.cellsOf Try.prog 40 = 5 := by kernel_rfl
    have el : ∀ i, i < l → ∃ d : VD, (∃ A1 c1 A2 c2, W.cell? (ad.add (i * 5)) = some (.int .i64 d.1) ∧ W.cell? ⟨(ad.add (i * 5)).block, (ad.add (i * 5)).off + 1, none⟩ = some (.int .i64 d.2.1) ∧ W.cell? ⟨(ad.add (i * 5)).block, (ad.add (i * 5)).off + 2, none⟩ = some (.bool d.2.2.1) ∧ W.cell? ⟨(ad.add (i * 5)).block, (ad.add (i * 5)).off + 3, none⟩ = some (.slice A1 d.2.2.2.1.length c1) ∧ W.cell? ⟨(ad.add (i * 5)).block, (ad.add (i * 5)).off + 4, none⟩ = some (.slice A2 d.2.2.2.2.length c2) ∧
        FrIn W (.agg #[.bool d.2.2.1, .slice A1 d.2.2.2.1.length c1, .slice A2 d.2.2.2.2.length c2]) d.2.2.1 d.2.2.2.1 d.2.2.2.2) ∧ ∀ B, (∀ n ∈ (D i).weights Try.prog 40, n ≤ B) → d.2.2.2.1.length ≤ B ∧ d.2.2.2.2.length ≤ B := by
      intro i hi
      obtain ⟨cs', h1, h2⟩ := hx i (by simp [hmm]; omega)
      rw [hc5] at h1
      obtain ⟨_, hlen, hat⟩ := World.cells?_some h1
      obtain ⟨y0, y1, y2, n', hy, _, k0, k1, k2⟩ := Deep.trod_struct3 Try.underlying40 h2
      have b0 : Program.cellsOf Try.prog 3 = 1 := by kernel_rfl
      have b3 : Program.cellsOf Try.prog 38 = 3 := by kernel_rfl
      have b1 : Program.cellsOf Try.prog 4 = 1 := by kernel_rfl
      have b2 : Program.cellsOf Try.prog 36 = 1 := by kernel_rfl
      match cs', hlen with
      | [c0, c1, c2, c3, c4], _ =>
        have k0' : DataW.trod enc Try.prog W 0 (fun _ => true) true n' 3 [c0] = some y0 := by simpa [b0] using k0
        have k1' : DataW.trod enc Try.prog W 0 (fun _ => true) true n' 3 [c1] = some y1 := by simpa [b0] using k1
        have k2' : DataW.trod enc Try.prog W 0 (fun _ => true) true n' 38 [c2, c3, c4] = some y2 := by simpa [b0, b3] using k2
        obtain ⟨z0, z1, z2, n2, hz, _, f0, f1, f2⟩ := Deep.trod_struct3 Try.underlying38 k2'
        have f0' : DataW.trod enc Try.prog W 0 (fun _ => true) true n2 4 [c2] = some z0 := by simpa [b1] using f0
        have f1' : DataW.trod enc Try.prog W 0 (fun _ => true) true n2 36 [c3] = some z1 := by simpa [b2] using f1
        have f2' : DataW.trod enc Try.prog W 0 (fun _ => true) true n2 36 [c4] = some z2 := by simpa [b2] using f2
        obtain ⟨p, rfl, _, _⟩ := int_of_trod k0'
        obtain ⟨q, rfl, _, _⟩ := int_of_trod k1'
        obtain ⟨b, hb, _⟩ := DataW.trod_bool Try.underlying4 f0'
        obtain rfl : c2 = .bool b := by simpa using hb
        obtain ⟨ln, r1, w1, g1⟩ := row_of_argB f1'
        obtain ⟨ld, r2, w2, g2⟩ := row_of_argB f2'
        obtain ⟨A1, a1, rfl, _⟩ := id r1
        obtain ⟨A2, a2, rfl, _⟩ := id r2
        have hD : D i = .agg [y0.1, y1.1, y2.1] := congrArg Prod.fst hy
        have hz2 : y2.1 = .agg [z0.1, z1.1, z2.1] := congrArg Prod.fst hz
        refine ⟨(p, q, b, ln, ld), ⟨A1, a1, A2, a2, ?_, ?_, ?_, ?_, ?_, _, _, rfl, r1, r2, w1, w2⟩, fun B hB => ⟨g1 B (fun n hn => hB n ?_), g2 B (fun n hn => hB n ?_)⟩⟩
        · have := hat 0 (by omega); simpa [Addr.add] using this
        · have := hat 1 (by omega); simpa [Addr.add] using this
        · have := hat 2 (by omega); simpa [Addr.add] using this
        · have := hat 3 (by omega); simpa [Addr.add] using this
        · have := hat 4 (by omega); simpa [Addr.add] using this
        · rw [hD, hz2]; simp [DataW.weights, DataW.weightsEach, Try.underlying40, Try.underlying38, hn]
        · rw [hD, hz2]; simp [DataW.weights, DataW.weightsEach, Try.underlying40, Try.underlying38, hn]
    obtain ⟨f, hfx⟩ := Deep.choose_lt el
    have hat : ∀ (i : Nat) (d : VD), ((List.range l).map f)[i]? = some d → i < l ∧ f i = d := fun i d hd => by
      rw [List.getElem?_map] at hd
      rcases Nat.lt_or_ge i l with h | h
      · rw [List.getElem?_range h] at hd
        exact ⟨h, by simpa using hd⟩
      · rw [List.getElem?_eq_none (by simpa using h)] at hd
        cases hd
    refine ⟨(List.range l).map f, ⟨some ad, c, by simp, by simpa using hl, by unfold maxLen at hm; omega, fun _ => ⟨ad, rfl, fun i d hd => ?_⟩⟩, fun B hB d hd => ?_⟩
    · obtain ⟨hi, rfl⟩ := hat i d hd
      exact (hfx i hi).1
    · obtain ⟨i, hi⟩ := List.mem_iff_getElem?.1 hd
      obtain ⟨hil, rfl⟩ := hat i d hi
      refine (hfx i hil).2 B (fun n hn => hB n ?_)
      rw [hxx]
      simp only [DataW.weights, Try.underlying22, List.mem_cons, List.mem_append]
      exact .inr (.inl (weightsAll_mem (List.mem_map.2 ⟨i, List.mem_range.2 hil, rfl⟩) hn))
set_option maxRecDepth 100000 in
/-- A tide that is handed in. -/
theorem tide_of_arg {H : Type} {enc : TypeId × Value → H} {W : World} {v : Value} {d : DataW H} {p : List MemPlace}
    (hv : Value.okWide Try.prog W .any 0 24 v) (h : DataW.Trod enc Try.prog W 0 (fun _ => true) true 24 v d p) : ∃ (days each : Int) (va : Value) (L : List VD), v = .agg #[.int .i64 days, .int .i64 each, va] ∧ VL W va L ∧ ∀ B, (∀ n ∈ d.weights Try.prog 24, n ≤ B) → FewV B L := by
  obtain ⟨c0, c1, c2, y0, y1, y2, m, rfl, rfl, rfl, hy0, hy1, hy2⟩ := open_agg3 Try.underlying24 (by kernel_rfl) (by kernel_rfl) hv h
  obtain ⟨n0, rfl, _⟩ := int_of_trod hy0
  obtain ⟨n1, rfl, _⟩ := int_of_trod hy1
  obtain ⟨L, hL, hB⟩ := vl_of_trod hy2
  refine ⟨n0, n1, c2, L, rfl, hL, fun B h => hB B (fun n hn => h n ?_)⟩
  simp [DataW.weights, DataW.weightsEach, Try.underlying24, hn]
theorem tide_own : ownKnob Try.prog.godebug = none := by kernel_rfl
theorem tide_laid : laidOutB Try.prog = true := by kernel_rfl
end Go.Proofs.Ytajckdheecgceaa
