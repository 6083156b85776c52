/- Lists of one's own that are appended to: fractions, ratios, rows. -/
import Derived.Test.YtajckdheecgceaaMem
import Derived.ChangeOld
import Derived.Deep.Slices
import Derived.Deep.Strs
import Derived.Laws.IdiomStrings
import Derived.Lib.SmallJoins
import Derived.OrdersHeld
import Derived.ProofKit
set_option linter.unusedVariables false
set_option linter.unusedSimpArgs false
namespace Go.Proofs.Ytajckdheecgceaa
open Go.RowKit

/-- append, as one step of a walk. -/
theorem wp_append_run {P : Program} (w : World) {o : Oper} {a : Act} {K : Act → World → Prop} {Q : Exit → Act → World → Prop} (s x : Operand) (t : TypeId) (v u : Value)
    (ho : o.op = .call { callee := .builtin .append, args := #[s, x], argTypes := #[t, t] }) (hs : a.eval s = v) (hx : a.eval x = u)
    (h : ∃ v' w', (Builtin.append_ #[t, t] o.type #[v, u]).run P w = .ok v' w' ∧ K (a.put o.dst v') w') : o.wp P a w K Q := by
  obtain ⟨v', w', hr, hk⟩ := h
  unfold Oper.wp execOp
  simp only [ho, resolve, invoke, builtin, Sem.run_bind, Sem.run_pure, Result.andThen_ok, List.map_toArray, List.map_cons, List.map_nil, hs, hx, hr]
  exact hk
theorem three_none {x0 x1 x2 : Value} (h0 : ∀ n, x0 ≠ Value.int .u32 n) (h1 : ∀ n, x1 ≠ Value.int .u32 n) (h2 : ∀ n, x2 ≠ Value.int .u32 n) : ∀ (j : Nat) (x : Value), (#[x0, x1, x2] : Array Value)[j]? = some x → ∀ n, x ≠ Value.int .u32 n := by
  intro j x hx n
  have h3 : j = 0 ∨ j = 1 ∨ j = 2 ∨ 3 ≤ j := by omega
  rcases h3 with rfl | rfl | rfl | h
  · rw [← Option.some.inj hx]; exact h0 n
  · rw [← Option.some.inj hx]; exact h1 n
  · rw [← Option.some.inj hx]; exact h2 n
  · rw [Array.getElem?_eq_none (by simpa using h)] at hx; cases hx
theorem three_cells3 {w : World} {g t : Nat} {x0 x1 x2 : Value} (K : Blk w g t #[x0, x1, x2]) : ∀ (j : Nat) (u : Value), [x0, x1, x2][j]? = some u → w.cell? ((⟨g, 0, none⟩ : Addr).add j) = some u := by
  intro j u hu
  rw [add_row]
  have h3 : j = 0 ∨ j = 1 ∨ j = 2 ∨ 3 ≤ j := by omega
  rcases h3 with rfl | rfl | rfl | h
  · rw [← hu]; exact K.cell 0
  · rw [← hu]; exact K.cell 1
  · rw [← hu]; exact K.cell 2
  · rw [List.getElem?_eq_none (by simpa using h)] at hu; cases hu
/-- A list of fractions of one's own. -/
def OF (w : World) (B : Nat) (v : Value) (L : List (Bool × List Int × List Int)) : Prop := ∃ xs, w.ownsRow B 38 3 v L.length xs ∧ NoW w v ∧ CopyRow w L xs
theorem OF.nil (w : World) (B : Nat) : OF w B (.slice none 0 0) [] := ⟨[], World.ownsRow_nil _ _ _ _, NoW.nil _, ⟨by simp, fun u hu => by simp at hu, fun i d hd => by simp at hd⟩⟩
theorem OF.fr {S : Nat → Prop} {w w1 : World} (k : Fr S w w1) {B : Nat} {v : Value} {L : List (Bool × List Int × List Int)} (h : OF w B v L) (hs : ∀ g, v.ownBlock = some g → ¬ S g) : OF w1 B v L := by
  obtain ⟨xs, h1, h2, h3⟩ := h
  exact ⟨xs, k.own h1 hs, k.now h2 hs, h3.keep k.keep⟩
theorem OF.below {w w1 : World} {B : Nat} {v : Value} {L : List (Bool × List Int × List Int)} (h : OF w B v L) (hb : Below w.heap.size w w1) : OF w1 B v L := h.fr (Fr.of_below (S := fun _ => False) hb) (fun _ _ h => h)
theorem OF.fl {w : World} {B : Nat} {v : Value} {L : List (Bool × List Int × List Int)} (h : OF w B v L) : FL w v L := by
  obtain ⟨xs, h1, h2, h3⟩ := h
  exact fl_owned h1 h3 rfl
theorem OF.block {w : World} {B : Nat} {v : Value} {L : List (Bool × List Int × List Int)} (h : OF w B v L) {g : Nat} (hg : v.ownBlock = some g) : B ≤ g := by
  obtain ⟨xs, h1, h2, h3⟩ := h
  rcases h1.2 with ⟨rfl, _⟩ | ⟨g', cap, cur, rfl, hb, _⟩
  · cases hg
  · obtain rfl : g' = g := by simpa [Value.ownBlock] using hg
    exact hb
theorem OF.shape {w : World} {B : Nat} {v : Value} {L : List (Bool × List Int × List Int)} (h : OF w B v L) : ∃ A c, v = .slice A L.length c ∧ L.length ≤ c ∧ c ≤ 9223372036854775807 := by
  obtain ⟨xs, h1, h2, h3⟩ := h
  rcases h1.2 with ⟨rfl, h0⟩ | ⟨g', cap, cur, rfl, hb, _, h4, h5, _⟩
  · exact ⟨none, 0, by rw [h0], by omega, by omega⟩
  · exact ⟨_, cap, rfl, h4, by simp only [maxLen] at h5; omega⟩
theorem OF.push {W : World} {B : Nat} {v : Value} {L : List (Bool × List Int × List Int)} (h : OF W B v L) (hB : B ≤ W.heap.size) {g : Nat} {d : Bool × List Int × List Int} {A1 A2 : Option Addr} {c1 c2 : Nat} (K : Blk W g 38 #[.bool d.1, .slice A1 d.2.1.length c1, .slice A2 d.2.2.length c2])
    (hf : FrIn W (.agg #[.bool d.1, .slice A1 d.2.1.length c1, .slice A2 d.2.2.length c2]) d.1 d.2.1 d.2.2) (hl : L.length ≤ 1000000) :
    ∃ v' w', (Builtin.append_ #[31, 31] 31 #[v, .slice (some ⟨g, 0, none⟩) 1 1]).run Try.prog W = .ok v' w' ∧ OF w' B v' (L ++ [d]) ∧ Fr (fun x => v.ownBlock = some x) W w' ∧ (∀ x, v'.ownBlock = some x → x < w'.heap.size ∧ (v.ownBlock = some x ∨ W.heap.size ≤ x)) := by
  obtain ⟨xs, h1, h2, h3⟩ := h
  obtain ⟨i0, hi, hz0, hz1, hz2⟩ := info_parts info_frac
  obtain ⟨v', w', hrun, ho, hfr, hn, hob⟩ := run_append_fr (P := Try.prog) W B 31 31 38 i0 _ 3 56 Try.underlying31 hi hz0 hz1 hz2 rfl (by decide) (three_none (boolne _) (slne _ _ _) (slne _ _ _))
    v L.length xs h1 h2 ⟨g, 0, none⟩ 1 [.bool d.1, .slice A1 d.2.1.length c1, .slice A2 d.2.2.length c2] rfl (three_cells3 K)
    (by intro u hu; simp only [List.mem_cons, List.not_mem_nil, or_false] at hu; rcases hu with rfl | rfl | rfl <;> rfl)
    (by intro u hu n; simp only [List.mem_cons, List.not_mem_nil, or_false] at hu; rcases hu with rfl | rfl | rfl <;> intro hh <;> cases hh)
    h3.2.1 (by unfold maxLen; omega) (by omega) hB
  refine ⟨v', w', hrun, ⟨_, by rw [List.length_append]; exact ho, hn, (h3.keep hfr.keep).snoc (hfr.keep.fr hf)⟩, hfr, hob⟩
/-- How an exact fraction stands in a list. -/
def dq (q : Rat) : Bool × List Int × List Int := (decide (q.num < 0), dg q.num.natAbs, dg q.den)
theorem fqd_dq (q : Rat) : fqd (dq q) = q := fixq_of q
/-- A list of ratios of one's own. -/
def OL (w : World) (B : Nat) (v : Value) (qs : List Rat) : Prop := ∃ xs, w.ownsRow B 113 3 v qs.length xs ∧ NoW w v ∧ (∀ u ∈ xs, ∀ n, u ≠ Value.int .u32 n) ∧
  ∀ (i : Nat) (q : Rat), qs[i]? = some q → ∃ v1 v2, xs[i * 3]? = some v1 ∧ xs[i * 3 + 1]? = some v2 ∧ xs[i * 3 + 2]? = some (.bool (decide (q.num < 0))) ∧ Nm w v1 q.num.natAbs ∧ Nm w v2 q.den
theorem OL.fr {S : Nat → Prop} {w w1 : World} (k : Fr S w w1) {B : Nat} {v : Value} {qs : List Rat} (h : OL w B v qs) (hs : ∀ g, v.ownBlock = some g → ¬ S g) : OL w1 B v qs := by
  obtain ⟨xs, h1, h2, h3, h4⟩ := h
  refine ⟨xs, k.own h1 hs, k.now h2 hs, h3, fun i q hq => ?_⟩
  obtain ⟨v1, v2, e0, e1, e2, m1, m2⟩ := h4 i q hq
  exact ⟨v1, v2, e0, e1, e2, k.keep.nm m1, k.keep.nm m2⟩
theorem OL.below {w w1 : World} {B : Nat} {v : Value} {qs : List Rat} (h : OL w B v qs) (hb : Below w.heap.size w w1) : OL w1 B v qs := h.fr (Fr.of_below (S := fun _ => False) hb) (fun _ _ h => h)
theorem OL.shape {w : World} {B : Nat} {v : Value} {qs : List Rat} (h : OL w B v qs) : ∃ A c, v = .slice A qs.length c ∧ qs.length ≤ c ∧ c ≤ 9223372036854775807 := by
  obtain ⟨xs, h1, h2, h3⟩ := h
  rcases h1.2 with ⟨rfl, h0⟩ | ⟨g', cap, cur, rfl, hb, _, h4, h5, _⟩
  · exact ⟨none, 0, by rw [h0], by omega, by omega⟩
  · exact ⟨_, cap, rfl, h4, by simp only [maxLen] at h5; omega⟩
theorem OL.of_rl {w : World} {B g : Nat} {qs : List Rat} (h : RL w g qs.length qs) (hB : B ≤ g) (hl : qs.length ≤ 1000000) : OL w B (.slice (some ⟨g, 0, none⟩) qs.length qs.length) qs := by
  obtain ⟨cs, h1, h2, h3, h4⟩ := h
  refine ⟨cs.toList, ⟨by simp [h2]; omega, .inr ⟨g, _, cs, rfl, hB, h1, Nat.le_refl _, by unfold maxLen; omega, by omega, ?_⟩⟩, ?_, ?_, fun i q hq => ?_⟩
  · exact List.take_of_length_le (by simp [h2]; omega)
  · intro g' hg'
    obtain rfl : g = g' := by simpa [Value.ownBlock] using hg'
    exact ⟨cs, _, h1, h3⟩
  · intro u hu n
    obtain ⟨j, hj⟩ := List.mem_iff_getElem?.1 hu
    exact h3 j u (by simpa using hj) n
  · obtain ⟨v1, v2, k0, k1, k2, m1, m2⟩ := h4 i q hq
    exact ⟨v1, v2, by simpa using k0, by simpa using k1, by simpa using k2, m1, m2⟩
theorem OL.push {W : World} {B : Nat} {v : Value} {qs : List Rat} (h : OL W B v qs) (hB : B ≤ W.heap.size) {g : Nat} {q : Rat} {A1 A2 : Option Addr} {c1 c2 : Nat} (K : Blk W g 113 #[.slice A1 (dg q.num.natAbs).length c1, .slice A2 (dg q.den).length c2, .bool (decide (q.num < 0))])
    (hq : RtV W (.agg #[.slice A1 (dg q.num.natAbs).length c1, .slice A2 (dg q.den).length c2, .bool (decide (q.num < 0))]) q) (hl : qs.length ≤ 1000000) :
    ∃ v' w', (Builtin.append_ #[124, 124] 124 #[v, .slice (some ⟨g, 0, none⟩) 1 1]).run Try.prog W = .ok v' w' ∧ OL w' B v' (qs ++ [q]) ∧ Fr (fun x => v.ownBlock = some x) W w' ∧ (∀ x, v'.ownBlock = some x → x < w'.heap.size ∧ (v.ownBlock = some x ∨ W.heap.size ≤ x)) := by
  obtain ⟨xs, h1, h2, h3, h4⟩ := h
  obtain ⟨i0, hi, hz0, hz1, hz2⟩ := info_parts info_ratio
  obtain ⟨v', w', hrun, ho, hfr, hn, hob⟩ := run_append_fr (P := Try.prog) W B 124 124 113 i0 _ 3 56 Try.underlying124 hi hz0 hz1 hz2 rfl (by decide) (three_none (slne _ _ _) (slne _ _ _) (boolne _))
    v qs.length xs h1 h2 ⟨g, 0, none⟩ 1 [.slice A1 (dg q.num.natAbs).length c1, .slice A2 (dg q.den).length c2, .bool (decide (q.num < 0))] rfl (three_cells3 K)
    (by intro u hu; simp only [List.mem_cons, List.not_mem_nil, or_false] at hu; rcases hu with rfl | rfl | rfl <;> rfl)
    (by intro u hu n; simp only [List.mem_cons, List.not_mem_nil, or_false] at hu; rcases hu with rfl | rfl | rfl <;> intro hh <;> cases hh)
    h3 (by unfold maxLen; omega) (by omega) hB
  obtain ⟨v1, v2, hv, m1, m2⟩ := hq
  obtain ⟨rfl, rfl⟩ : Value.slice A1 (dg q.num.natAbs).length c1 = v1 ∧ Value.slice A2 (dg q.den).length c2 = v2 := by simpa using hv
  have hxl : xs.length = qs.length * 3 := h1.1
  refine ⟨v', w', hrun, ⟨_, by rw [List.length_append]; exact ho, hn, ?_, fun i r hr => ?_⟩, hfr, hob⟩
  · intro u hu
    rcases List.mem_append.1 hu with h | h
    · exact h3 u h
    · simp only [List.mem_cons, List.not_mem_nil, or_false] at h
      rcases h with rfl | rfl | rfl <;> intro n hh <;> cases hh
  · rcases Nat.lt_or_ge i qs.length with hi | hi
    · rw [List.getElem?_append_left hi] at hr
      obtain ⟨u1, u2, k0, k1, k2, n1, n2⟩ := h4 i r hr
      refine ⟨u1, u2, ?_, ?_, ?_, hfr.keep.nm n1, hfr.keep.nm n2⟩
      · rw [List.getElem?_append_left (by omega)]; exact k0
      · rw [List.getElem?_append_left (by omega)]; exact k1
      · rw [List.getElem?_append_left (by omega)]; exact k2
    · obtain rfl : i = qs.length := by
        have := (List.getElem?_eq_some_iff.1 hr).1
        simp at this
        omega
      obtain rfl : q = r := by simpa using hr
      refine ⟨_, _, ?_, ?_, ?_, hfr.keep.nm m1, hfr.keep.nm m2⟩
      · rw [List.getElem?_append_right (by omega), hxl, Nat.sub_self]; rfl
      · rw [List.getElem?_append_right (by omega), hxl, show qs.length * 3 + 1 - qs.length * 3 = 1 by omega]; rfl
      · rw [List.getElem?_append_right (by omega), hxl, show qs.length * 3 + 2 - qs.length * 3 = 2 by omega]; rfl
theorem OL.rf {w : World} {B g c : Nat} {qs : List Rat} {n : Nat} (h : OL w B (.slice (some ⟨g, 0, none⟩) n c) qs) (h0 : 0 < qs.length) : n = qs.length ∧ B ≤ g ∧ RF w g c qs.length (fun j => qs.getD j 0) := by
  obtain ⟨xs, h1, h2, h3, h4⟩ := h
  rcases h1.2 with ⟨e, e0⟩ | ⟨g', cap, cur, hv, hb, hg, hn, hm, hcs, ht⟩
  · omega
  · obtain ⟨rfl, rfl, rfl⟩ : g = g' ∧ n = qs.length ∧ c = cap := by simpa using hv
    obtain ⟨cur2, e, k1, k2⟩ := h2 g rfl
    obtain ⟨rfl, rfl⟩ : cur = cur2 ∧ 113 = e := by rw [hg] at k1; simpa using k1
    have tk : ∀ l, l < qs.length * 3 → cur[l]? = xs[l]? := fun l hl => by
      rw [← ht, List.getElem?_take_of_lt hl]; simp
    refine ⟨rfl, hb, cur, hg, by omega, hn, by simp only [maxLen] at hm; omega, k2, fun j hj => ?_⟩
    obtain ⟨v1, v2, e0, e1, e2, m1, m2⟩ := h4 j _ (List.getElem?_eq_getElem hj)
    have eq : qs.getD j 0 = qs[j] := by rw [List.getD_eq_getElem?_getD, List.getElem?_eq_getElem hj]; rfl
    rw [← eq] at e2 m1 m2
    exact ⟨v1, v2, by rw [tk _ (by omega)]; exact e0, by rw [tk _ (by omega)]; exact e1, by rw [tk _ (by omega)]; exact e2, m1, m2⟩

end Go.Proofs.Ytajckdheecgceaa
