/- Tides: what Wide tells; numbers and fractions that are handed in. -/
import Derived.Test.YtajckdheecgceaaTd28
set_option linter.unusedVariables false
set_option linter.unusedSimpArgs false
namespace Go.Proofs.Ytajckdheecgceaa
open Go.RowKit

/-- What Wide tells of numbers and 6 words. -/
def WideP (P : List (Bool × List Int × List Int)) (w : World) (e : Ending) (w' : World) : Prop := ∃ b : Bool, e = .returned (.bool b) ∧ (b = false → FewD 6 P) ∧ Below w.heap.size w w'
set_option maxRecDepth 100000 in
set_option maxHeartbeats 4000000 in
theorem wide_calls (w : World) (va : Value) (P : List (Bool × List Int × List Int)) (h : FL w va P) (hf : FewD 4611686018427387903 P) :
    Calls Try.prog 32 #[va, .int .i64 6] w (WideP P w) := by
  have HV := Lib.hid h
  have HF := Lib.hid hf
  obtain ⟨A, c, rfl⟩ := h.shape
  have hcc : P.length ≤ 9223372036854775807 := by obtain ⟨_, _, _, k1, k2, _⟩ := h; omega
  clear h hf
  go_enter Try.func32, Try.ntmps32
  go_wp2
  go_loopw [5] (fun i wr => ∃ k : Nat, k ≤ P.length ∧ i = .int .i64 (k : Int) ∧ Below w.heap.size w wr ∧ FewD 6 (P.take k)) (fun i _ => P.length - (intOf i).toNat)
  case atStart => exact ⟨0, by omega, rfl, Below.refl _ _, fun d hd => by simp at hd⟩
  case round =>
    obtain ⟨k, hk, rfl, hb, hfew⟩ := hrel
    have HB := Lib.hid hb
    have HFEW := Lib.hid hfew
    by_cases hx : k < P.length
    · obtain ⟨x, hx1⟩ : ∃ x, P[k]? = some x := ⟨_, List.getElem?_eq_getElem hx⟩
      obtain ⟨ad, c', A1, a1, A2, a2, hsl, _, _, e0, e1, e2, hfx⟩ := (HV.out.below hb).at hx1
      obtain ⟨rfl, rfl⟩ : A = some ad ∧ c = c' := by simpa using hsl
      have few := HF.out x (List.mem_of_getElem? hx1)
      have q1 : (k : Int) < (P.length : Int) := by omega
      have HTK := Lib.hid (show P.take (k + 1) = P.take k ++ [x] by rw [List.take_add_one, hx1]; rfl)
      clear hb hfew hx1 hfx hsl
      go_wp2_with fail
      refine (big_calls _ _ _ _ _ _ _ _ few.1 few.2).mono ?_
      rintro e w5 ⟨rfl, hb5⟩
      have HB5 := Lib.hid (bl_trans HB.out hb5)
      by_cases h6 : x.2.1.length + x.2.2.length ≤ 6
      · have g3 : decide ((6 : Int) < ((x.2.1.length + x.2.2.length : Nat) : Int)) = false := decide_eq_false (by omega)
        have g4 : decide ((6 : Int) < (x.2.1.length : Int) + (x.2.2.length : Int)) = false := decide_eq_false (by omega)
        have g5 : ¬ 6 < x.2.1.length + x.2.2.length := by omega
        have HN := Lib.hid (show FewD 6 (P.take (k + 1)) from fun d hd => by
          rw [HTK.out] at hd
          rcases List.mem_append.1 hd with h | h
          · exact HFEW.out d h
          · rw [List.mem_singleton.1 h]; omega)
        clear hb5 e0 e1 e2
        go_wp2
        exact ⟨⟨k + 1, by omega, by go_num, HB5.out, HN.out⟩, by simp [intOf]; omega⟩
      · have g3 : decide ((6 : Int) < ((x.2.1.length + x.2.2.length : Nat) : Int)) = true := decide_eq_true (by omega)
        have g4 : decide ((6 : Int) < (x.2.1.length : Int) + (x.2.2.length : Int)) = true := decide_eq_true (by omega)
        have g5 : 6 < x.2.1.length + x.2.2.length := by omega
        clear hb5 e0 e1 e2
        go_wp2
        go_ret
        exact ⟨true, rfl, fun h => by simp at h, HB5.out⟩
    · obtain rfl : k = P.length := by omega
      rw [List.take_length] at hfew
      have HFEW2 := Lib.hid hfew
      have q1 : ¬ (P.length : Int) < (P.length : Int) := by omega
      clear hb hfew
      go_wp2
      go_ret
      exact ⟨false, rfl, fun _ => HFEW2.out, HB.out⟩
open Go.ChangeShapes Go.WideShapes Go.ChangeAt Go.RowKit Go.Joins

set_option maxRecDepth 10000 in
theorem wf_i64 (n : Int) (h : (Lit.int .i64 n).wf = true) : -9223372036854775808 ≤ n ∧ n ≤ 9223372036854775807 := by
  simp [Lit.wf, IntKind.min, IntKind.max, IntKind.signed, IntKind.bits] at h
  exact h
set_option maxRecDepth 100000 in
theorem int_of_arg {H : Type} {enc : TypeId × Value → H} {W : World} {v : Value} {d : DataW H} {p : List MemPlace} (hv : Value.okWide Try.prog W .any 0 3 v)
    (h : DataW.Trod enc Try.prog W 0 (fun _ => true) true 3 v d p) : ∃ n : Int, v = .int .i64 n ∧ -9223372036854775808 ≤ n ∧ n ≤ 9223372036854775807 := by
  obtain ⟨n, rfl, _, _, hw⟩ := open_int Try.underlying3 hv h
  have h2 := wf_i64 n hw
  exact ⟨n, rfl, h2.1, h2.2⟩
set_option maxRecDepth 100000 in
/-- Fractions that are handed in, and their weights. -/
theorem fl_of_trodB {H : Type} {enc : TypeId × Value → H} {W : World} {fuel : Nat} {v : Value} {x : DataW H × List MemPlace}
    (hf : DataW.trod enc Try.prog W 0 (fun _ => true) true fuel 31 [v] = some x) : ∃ L, FL W v L ∧ ∀ B, (∀ n ∈ x.1.weights Try.prog 31, n ≤ B) → FewD B L := by
  rcases Deep.open_slice Try.underlying31 hf with ⟨hcs, _⟩ | ⟨ad, l, c, m, n, D, Pl, hcs, _, hl, hm, hmm, hxx, hx⟩
  · obtain rfl : v = .slice none 0 0 := by simpa using hcs
    exact ⟨[], ⟨none, 0, rfl, by simp, by omega, fun h => absurd h (by simp)⟩, fun B _ d hd => by simp at hd⟩
  · obtain rfl : v = .slice (some ad) l c := by simpa using hcs
    have hc3 : Program.cellsOf Try.prog 38 = 3 := by kernel_rfl
    have el : ∀ i, i < l → ∃ d : Bool × List Int × List Int, (∃ v1 v2, W.cell? (ad.add (i * 3)) = some (.bool d.1) ∧ W.cell? ⟨(ad.add (i * 3)).block, (ad.add (i * 3)).off + 1, none⟩ = some v1 ∧ W.cell? ⟨(ad.add (i * 3)).block, (ad.add (i * 3)).off + 2, none⟩ = some v2 ∧ FrIn W (.agg #[.bool d.1, v1, v2]) d.1 d.2.1 d.2.2) ∧ ∀ B, (∀ n ∈ (D i).weights Try.prog 38, n ≤ B) → d.2.1.length ≤ B ∧ d.2.2.length ≤ B := by
      intro i hi
      obtain ⟨cs', h1, h2⟩ := hx i (by simp [hmm]; omega)
      rw [hc3] at h1
      obtain ⟨_, hlen, hat⟩ := World.cells?_some h1
      have b1 : Program.cellsOf Try.prog 4 = 1 := by kernel_rfl
      have b2 : Program.cellsOf Try.prog 36 = 1 := by kernel_rfl
      match cs', hlen with
      | [c2, c3, c4], _ =>
        obtain ⟨z0, z1, z2, n2, hz, _, f0, f1, f2⟩ := Deep.trod_struct3 Try.underlying38 h2
        have f0' : DataW.trod enc Try.prog W 0 (fun _ => true) true n2 4 [c2] = some z0 := by simpa [b1] using f0
        have f1' : DataW.trod enc Try.prog W 0 (fun _ => true) true n2 36 [c3] = some z1 := by simpa [b2] using f1
        have f2' : DataW.trod enc Try.prog W 0 (fun _ => true) true n2 36 [c4] = some z2 := by simpa [b2] using f2
        obtain ⟨b, hb, _⟩ := DataW.trod_bool Try.underlying4 f0'
        obtain rfl : c2 = .bool b := by simpa using hb
        obtain ⟨ln, r1, w1, g1⟩ := row_of_argB f1'
        obtain ⟨ld, r2, w2, g2⟩ := row_of_argB f2'
        have hD : D i = .agg [z0.1, z1.1, z2.1] := congrArg Prod.fst hz
        refine ⟨(b, ln, ld), ⟨c3, c4, ?_, ?_, ?_, _, _, rfl, r1, r2, w1, w2⟩, fun B hB => ⟨g1 B (fun n hn => hB n ?_), g2 B (fun n hn => hB n ?_)⟩⟩
        · have := hat 0 (by omega); simpa [Addr.add] using this
        · have := hat 1 (by omega); simpa [Addr.add] using this
        · have := hat 2 (by omega); simpa [Addr.add] using this
        · rw [hD]; simp [DataW.weights, DataW.weightsEach, Try.underlying38, hn]
        · rw [hD]; simp [DataW.weights, DataW.weightsEach, Try.underlying38, hn]
    obtain ⟨f, hfx⟩ := Deep.choose_lt el
    have hat : ∀ (i : Nat) (d : Bool × List Int × List Int), ((List.range l).map f)[i]? = some d → i < l ∧ f i = d := fun i d hd => by
      rw [List.getElem?_map] at hd
      rcases Nat.lt_or_ge i l with h | h
      · rw [List.getElem?_range h] at hd
        exact ⟨h, by simpa using hd⟩
      · rw [List.getElem?_eq_none (by simpa using h)] at hd
        cases hd
    refine ⟨(List.range l).map f, ⟨some ad, c, by simp, by simpa using hl, by unfold maxLen at hm; omega, fun _ => ⟨ad, rfl, fun i d hd => ?_⟩⟩, fun B hB d hd => ?_⟩
    · obtain ⟨hi, rfl⟩ := hat i d hd
      exact (hfx i hi).1
    · obtain ⟨i, hi⟩ := List.mem_iff_getElem?.1 hd
      obtain ⟨hil, rfl⟩ := hat i d hi
      refine (hfx i hil).2 B (fun n hn => hB n ?_)
      rw [hxx]
      simp only [DataW.weights, Try.underlying31, List.mem_cons, List.mem_append]
      exact .inr (.inl (weightsAll_mem (List.mem_map.2 ⟨i, List.mem_range.2 hil, rfl⟩) hn))
set_option maxRecDepth 100000 in
/-- Numbers that are handed in. -/
theorem il_of_trod {H : Type} {enc : TypeId × Value → H} {W : World} {fuel : Nat} {v : Value} {x : DataW H × List MemPlace}
    (h : DataW.trod enc Try.prog W 0 (fun _ => true) true fuel 28 [v] = some x) : ∃ l, IL W v l := by
  rcases open_ints Try.underlying28 Try.underlying3 (by kernel_rfl) h with ⟨hcs, _⟩ | ⟨a, l, c, zs, hcs, _, hl, hm, hz, hx, hcell, hwz⟩
  · obtain rfl : v = .slice none 0 0 := by simpa using hcs
    exact ⟨[], none, 0, rfl, by simp, by omega, fun h => absurd h (by simp)⟩
  · obtain rfl : v = .slice (some a) l c := by simpa using hcs
    have hz' : zs.length = c := by simpa using hz
    have hl' : (zs.take l).length = l := by rw [List.length_take]; omega
    refine ⟨zs.take l, some a, c, by rw [hl'], by omega, by unfold maxLen at hm; omega, fun _ => ⟨a, rfl, fun i y hy => ?_⟩⟩
    have hi := (List.getElem?_eq_some_iff.1 hy).1
    rw [List.getElem?_take_of_lt (by omega)] at hy
    rw [hcell i (by omega), List.getD_eq_getElem?_getD, hy]
    rfl
end Go.Proofs.Ytajckdheecgceaa
