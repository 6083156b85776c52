/- Systems of equations: the program's rows of ratios. -/
import Derived.Test.YtdmgceckmciifaaTabl
import Derived.Test.YtdmgceckmciifaaRed2
import Derived.Test.YtdmgceckmciifaaTab2
set_option linter.unusedVariables false
set_option linter.unusedSimpArgs false
namespace Go.Proofs.Ytdmgceckmciifaa
open Go.RowKit

theorem OL.typ2 {w : World} {B : Nat} {v : Value} {L : List Rat} (h : OL w B v L) {g : Nat} (hg : v.ownBlock = some g) : ∃ cs, w.heap[g]? = some (.cells cs 59 (0, 0)) := by
  obtain ⟨xs, h1, h2, h3⟩ := h
  rcases h1.2 with ⟨rfl, _⟩ | ⟨g', cap, cur, rfl, hb, hc, _⟩
  · cases hg
  · obtain rfl : g' = g := by simpa [Value.ownBlock] using hg
    exact ⟨cur, hc⟩
theorem OL.lt {w : World} {B : Nat} {v : Value} {L : List Rat} (h : OL w B v L) {g : Nat} (hg : v.ownBlock = some g) : g < w.heap.size := by
  obtain ⟨cs, hc⟩ := h.typ2 hg
  exact (Array.getElem?_eq_some_iff.1 hc).1
theorem OL.block {w : World} {B : Nat} {v : Value} {L : List Rat} (h : OL w B v L) {g : Nat} (hg : v.ownBlock = some g) : B ≤ g := by
  obtain ⟨xs, h1, h2, h3⟩ := h
  rcases h1.2 with ⟨rfl, _⟩ | ⟨g', cap, cur, rfl, hb, _⟩
  · cases hg
  · obtain rfl : g' = g := by simpa [Value.ownBlock] using hg
    exact hb
theorem OL.mono {w : World} {B B' : Nat} {v : Value} {L : List Rat} (h : OL w B v L) (hB : B' ≤ B) : OL w B' v L := by
  obtain ⟨xs, h1, h2⟩ := h
  refine ⟨xs, ⟨h1.1, ?_⟩, h2⟩
  rcases h1.2 with h | ⟨g', cap, cur, e, hb, k⟩
  · exact .inl h
  · exact .inr ⟨g', cap, cur, e, Nat.le_trans hB hb, k⟩
theorem info_rrow : (Try.prog.info? 79).map (fun i => (i.zero, i.size, i.bytes)) = some (some (.slice none 0 0), 1, 24) := by kernel_rfl
/-- The program's rows: each lies in a block of its own, below D. -/
def PR (w : World) (B D : Nat) (v : Value) (LL : List (List Rat)) : Prop := ∃ xs, w.ownsRow B 79 1 v LL.length xs ∧ NoW w v ∧ (∀ u ∈ xs, ∀ n, u ≠ Value.int .u32 n) ∧ (∀ (i : Nat) (L : List Rat), LL[i]? = some L → ∃ u, xs[i]? = some u ∧ OL w B u L) ∧
  (∀ (i : Nat) (u : Value), xs[i]? = some u → ∀ g, u.ownBlock = some g → g < D) ∧ (∀ (i j : Nat) (u u' : Value) (g : Nat), xs[i]? = some u → xs[j]? = some u' → u.ownBlock = some g → u'.ownBlock = some g → i = j)
theorem PR.nil (w : World) (B D : Nat) : PR w B D (.slice none 0 0) [] := ⟨[], World.ownsRow_nil _ _ _ _, NoW.nil _, fun u hu => by simp at hu, fun i d hd => by simp at hd, fun i u hu => by simp at hu, fun i j u u' g hu => by simp at hu⟩
theorem PR.below {w w1 : World} {B D : Nat} {v : Value} {LL : List (List Rat)} (h : PR w B D v LL) (hb : Below w.heap.size w w1) : PR w1 B D v LL := by
  obtain ⟨xs, h1, h2, h3, h4, h5⟩ := h
  have k := Fr.of_below (S := fun _ => False) hb
  refine ⟨xs, k.own h1 (fun _ _ h => h), k.now h2 (fun _ _ h => h), h3, fun i L hL => ?_, h5⟩
  obtain ⟨u, e0, e1⟩ := h4 i L hL
  exact ⟨u, e0, e1.below hb⟩
theorem PR.block {w : World} {B D : Nat} {v : Value} {LL : List (List Rat)} (h : PR w B D v LL) {g : Nat} (hg : v.ownBlock = some g) : B ≤ g := by
  obtain ⟨xs, h1, _⟩ := h
  rcases h1.2 with ⟨rfl, _⟩ | ⟨g', cap, cur, rfl, hb, _⟩
  · cases hg
  · obtain rfl : g' = g := by simpa [Value.ownBlock] using hg
    exact hb
theorem PR.shape {w : World} {B D : Nat} {v : Value} {LL : List (List Rat)} (h : PR w B D v LL) : ∃ A c, v = .slice A LL.length c ∧ LL.length ≤ c ∧ c ≤ 9223372036854775807 := by
  obtain ⟨xs, h1, _⟩ := h
  exact own_shp h1
/-- A change of blocks that are neither the table's nor ratios'. -/
theorem PR.set {w : World} {B D gs o : Nat} {v x : Value} {LL : List (List Rat)} (h : PR w B D v LL) {cs : Array Value} (hg : w.heap[gs]? = some (.cells cs 97 (0, 0))) (hc : w.cell? ⟨gs, o, none⟩ = some x) (hn : ∀ n, x ≠ .int .u32 n) (y : Value) : PR (w.setCell ⟨gs, o, none⟩ y) B D v LL := by
  obtain ⟨xs, h1, h2, h3, h4, h5⟩ := h
  have k := Fr.set hc hn y
  have hv : ∀ g, v.ownBlock = some g → ¬ g = gs := by
    rintro g hv rfl
    rcases h1.2 with ⟨rfl, _⟩ | ⟨g', cap, cur, rfl, hb, hc', _⟩
    · cases hv
    · obtain rfl : g' = g := by simpa [Value.ownBlock] using hv
      rw [hg] at hc'
      have := Option.some.inj hc'
      injection this with _ e3
      revert e3; decide
  refine ⟨xs, k.own h1 hv, k.now h2 hv, h3, fun i L hL => ?_, h5⟩
  obtain ⟨u, e0, e1⟩ := h4 i L hL
  refine ⟨u, e0, e1.fr k ?_⟩
  rintro g hu rfl
  obtain ⟨ds, hd⟩ := e1.typ2 hu
  rw [hg] at hd
  have := Option.some.inj hd
  injection this with _ e3
  revert e3; decide
/-- One more row. -/
theorem PR.push {W : World} {B D : Nat} {v : Value} {LL : List (List Rat)} (h : PR W B D v LL) (hB : B ≤ D) (hD : D ≤ W.heap.size) {g : Nat} {u : Value} {L : List Rat} (K : Blk W g 79 #[u]) (hu : OL W D u L) (hl : LL.length ≤ 1000000) :
    ∃ v' w', (Builtin.append_ #[94, 94] 94 #[v, .slice (some ⟨g, 0, none⟩) 1 1]).run Try.prog W = .ok v' w' ∧ PR w' B w'.heap.size v' (LL ++ [L]) ∧ Fr (fun x => v.ownBlock = some x) W w' := by
  obtain ⟨xs, h1, h2, h3, h4, h5, h6⟩ := h
  obtain ⟨i0, hi, hz0, hz1, hz2⟩ := info_parts info_rrow
  obtain ⟨A, c, hsh, _⟩ := hu.shape
  obtain ⟨v', w', hrun, ho, hfr, hn, hob⟩ := run_append_fr (P := Try.prog) W B 94 94 79 i0 _ 1 24 Try.underlying94 hi hz0 hz1 hz2 rfl (by decide)
    (by intro j x hx n hh; subst hh
        have : j = 0 ∨ 1 ≤ j := by omega
        rcases this with rfl | h
        · cases hx
        · have hnone : (#[Value.slice none 0 0] : Array Value)[j]? = none := Array.getElem?_eq_none (by simpa using h)
          exact absurd (hnone.symm.trans hx) (by simp))
    v LL.length xs h1 h2 ⟨g, 0, none⟩ 1 [u] rfl
    (by intro j x hx
        have h3 : j = 0 ∨ 1 ≤ j := by omega
        rcases h3 with rfl | h
        · rw [← hx, add0]; exact K.cell 0
        · rw [List.getElem?_eq_none (by simpa using h)] at hx; cases hx)
    (by intro x hx; simp only [List.mem_cons, List.not_mem_nil, or_false] at hx; rw [hx, hsh]; rfl)
    (by intro x hx n; simp only [List.mem_cons, List.not_mem_nil, or_false] at hx; rw [hx, hsh]; exact slne _ _ _ n)
    h3 (by unfold maxLen; omega) (by omega) (Nat.le_trans hB hD)
  have typ : ∀ {x : Value} {M : List Rat}, OL W B x M → OL w' B x M := fun hx => hx.fr hfr (fun y hy e => by
    obtain ⟨ds, k1⟩ := hx.typ2 hy
    rcases h1.2 with ⟨e1, _⟩ | ⟨g', cap, cur, e1, _, k2, _⟩
    · rw [e1] at e; cases e
    · rw [e1] at e
      obtain rfl : g' = y := by simpa [Value.ownBlock] using e
      rw [k1] at k2
      have := Option.some.inj k2
      injection this with _ e3
      revert e3; decide)
  have hxl : xs.length = LL.length := by have := h1.1; omega
  have hs := hfr.size
  refine ⟨v', w', hrun, ⟨_, by rw [List.length_append]; exact ho, hn, ?_, fun i M hM => ?_, fun i x hx b hb => ?_, fun i j x x' b hx hx' hb hb' => ?_⟩, hfr⟩
  · intro x hx
    rcases List.mem_append.1 hx with h | h
    · exact h3 x h
    · simp only [List.mem_cons, List.not_mem_nil, or_false] at h
      rw [h, hsh]; exact slne _ _ _
  · rcases Nat.lt_or_ge i LL.length with hi | hi
    · rw [List.getElem?_append_left hi] at hM
      obtain ⟨x, e0, e1⟩ := h4 i M hM
      exact ⟨x, by rw [List.getElem?_append_left (by omega)]; exact e0, typ e1⟩
    · obtain rfl : i = LL.length := by
        have := (List.getElem?_eq_some_iff.1 hM).1
        simp at this
        omega
      obtain rfl : L = M := by simpa using hM
      exact ⟨u, by rw [List.getElem?_append_right (by omega), hxl, Nat.sub_self]; rfl, typ (hu.mono hB)⟩
  · rcases Nat.lt_or_ge i xs.length with hi | hi
    · rw [List.getElem?_append_left hi] at hx
      have := h5 i x hx b hb
      omega
    · obtain rfl : i = xs.length := by
        have := (List.getElem?_eq_some_iff.1 hx).1
        simp at this
        omega
      obtain rfl : u = x := by simpa using hx
      have := hu.lt hb
      omega
  · have key : ∀ (k : Nat) (z : Value), (xs ++ [u])[k]? = some z → z.ownBlock = some b → (k < xs.length ∧ xs[k]? = some z ∧ b < D) ∨ (k = xs.length ∧ D ≤ b) := by
      intro k z hz hzb
      rcases Nat.lt_or_ge k xs.length with hk | hk
      · rw [List.getElem?_append_left hk] at hz
        exact .inl ⟨hk, hz, h5 k z hz b hzb⟩
      · obtain rfl : k = xs.length := by
          have := (List.getElem?_eq_some_iff.1 hz).1
          simp at this
          omega
        obtain rfl : u = z := by simpa using hz
        exact .inr ⟨rfl, hu.block hzb⟩
    rcases key i x hx hb with ⟨a1, a2, a3⟩ | ⟨a1, a2⟩ <;> rcases key j x' hx' hb' with ⟨b1, b2, b3⟩ | ⟨b1, b2⟩
    · exact h6 i j x x' b a2 b2 hb hb'
    · omega
    · omega
    · omega

theorem PR.blk {w w' : World} {B D gs : Nat} {v : Value} {LL : List (List Rat)} (h : PR w B D v LL) {cs : Array Value} (hg : Blk w gs 97 cs) (k : Fr (fun x => v.ownBlock = some x) w w') : Blk w' gs 97 cs := by
  refine k.blk hg ?_
  intro hv
  obtain ⟨xs, h1, _⟩ := h
  rcases h1.2 with ⟨rfl, _⟩ | ⟨g', cap, cur, rfl, hb, hc', _⟩
  · cases hv
  · obtain rfl : g' = gs := by simpa [Value.ownBlock] using hv
    have := Option.some.inj (hg.symm.trans hc')
    injection this with _ e3
    revert e3; decide
theorem OL.at_block {w : World} {B : Nat} {u : Value} {L : List Rat} (h : OL w B u L) (h0 : 0 < L.length) : ∃ g c, u = .slice (some ⟨g, 0, none⟩) L.length c := by
  obtain ⟨xs, h1, _⟩ := h
  rcases h1.2 with ⟨rfl, e0⟩ | ⟨g, cap, cur, rfl, _⟩
  · omega
  · exact ⟨g, cap, rfl⟩
/-- The rows as a table. -/
def matL (LL : List (List Rat)) (i j : Nat) : Rat := (LL.getD i []).getD j 0
theorem PR.hr {w wr : World} {B D gs C n : Nat} {v : Value} {LL : List (List Rat)} (h : PR wr B D v LL) (K : Blk wr gs 97 #[v, .int .i64 (n : Int), .slice none 0 0]) (hR : 0 < LL.length) (hC : 0 < C) (hL : ∀ L ∈ LL, L.length = C) (hfr : Fr (fun g => B ≤ g) w wr) (hB : B ≤ w.heap.size) (hgs : B ≤ gs) :
    ∃ gr cap b cp, v = .slice (some ⟨gr, 0, none⟩) LL.length cap ∧ LL.length ≤ cap ∧ cap ≤ 9223372036854775807 ∧ HR w B gs gr cap LL.length C n b cp (matL LL) (.slice none 0 0) [] wr := by
  obtain ⟨xs, h1, h2, h3, h4, h5, h6⟩ := h
  rcases h1.2 with ⟨e, e0⟩ | ⟨gr, cap, cur, rfl, hb, hg, hn, hm, hcs, ht⟩
  · omega
  · have hm' : cap ≤ 9223372036854775807 := by simp only [maxLen] at hm; omega
    have row : ∀ i, i < LL.length → ∃ g c, xs[i]? = some (.slice (some ⟨g, 0, none⟩) C c) ∧ B ≤ g ∧ RF wr g c C (matL LL i) := by
      intro i hi
      obtain ⟨L, hLi⟩ : ∃ L, LL[i]? = some L := ⟨_, List.getElem?_eq_getElem hi⟩
      have hl := hL L (List.mem_of_getElem? hLi)
      obtain ⟨u, k0, k1⟩ := h4 i L hLi
      obtain ⟨g, c, rfl⟩ := k1.at_block (by omega)
      obtain ⟨_, hbg, hrf⟩ := k1.rf (by omega)
      rw [hl] at k0 hrf
      refine ⟨g, c, k0, hbg, hrf.congr fun j hj => ?_⟩
      unfold matL
      rw [List.getD_eq_getElem?_getD (l := LL), hLi]
      rfl
    obtain ⟨b, hb'⟩ : ∃ b : Nat → Nat, ∀ i, i < LL.length → ∃ c, xs[i]? = some (.slice (some ⟨b i, 0, none⟩) C c) ∧ B ≤ b i ∧ RF wr (b i) c C (matL LL i) := by
      refine ⟨fun i => if hi : i < LL.length then (row i hi).choose else 0, fun i hi => ?_⟩
      simp only [hi, dif_pos]
      exact (row i hi).choose_spec
    obtain ⟨cp, hcp⟩ : ∃ cp : Nat → Nat, ∀ i, i < LL.length → xs[i]? = some (.slice (some ⟨b i, 0, none⟩) C (cp i)) ∧ B ≤ b i ∧ RF wr (b i) (cp i) C (matL LL i) := by
      refine ⟨fun i => if hi : i < LL.length then (hb' i hi).choose else 0, fun i hi => ?_⟩
      simp only [hi, dif_pos]
      exact (hb' i hi).choose_spec
    have hxl : xs.length = LL.length := by have := h1.1; omega
    obtain ⟨cur2, e2, k1, k2⟩ := h2 gr rfl
    have hcc : cur2 = cur := by rw [hg] at k1; injection k1 with k1; injection k1 with k1 _; exact k1.symm
    subst hcc
    have ne : ∀ i, i < LL.length → b i ≠ gr := by
      intro i hi e
      obtain ⟨ds, d1, _⟩ := (hcp i hi).2.2
      rw [e, hg] at d1
      have := Option.some.inj d1
      injection this with _ e3
      revert e3; decide
    have nes : ∀ i, i < LL.length → gs ≠ b i := by
      intro i hi e
      obtain ⟨ds, d1, _⟩ := (hcp i hi).2.2
      rw [← e] at d1
      have := Option.some.inj (K.symm.trans d1)
      injection this with _ e3
      revert e3; decide
    have neg : gs ≠ gr := by
      intro e
      rw [← e] at hg
      have := Option.some.inj (K.symm.trans hg)
      injection this with _ e3
      revert e3; decide
    refine ⟨gr, cap, b, cp, rfl, hn, hm', ⟨K, ⟨⟨cur2, hg, by omega, hn, k2, fun i hi => ?_⟩, fun i hi => (hcp i hi).2.2, ne, fun i j hi hj e => ?_⟩, World.ownsRow_nil _ _ _ _, NoW.nil _, hfr, hB, hgs, hb, fun i hi => (hcp i hi).2.1, neg, nes, fun g hg => by cases hg⟩⟩
    · have : cur2[i]? = xs[i]? := by rw [← ht, List.getElem?_take_of_lt (by omega)]; simp
      rw [this, (hcp i hi).1]
    · exact h6 i j _ _ (b i) (hcp i hi).1 (hcp j hj).1 rfl (by rw [e]; rfl)
set_option maxRecDepth 100000 in
set_option maxHeartbeats 4000000 in
/-- No columns: nothing is done. -/
theorem reduce0_calls (w : World) (gs : Nat) (v : Value) (R c : Nat) (A : Option Addr) (hv : v = .slice A R c) (h0 : Blk w gs 97 #[v, .int .i64 0, .slice none 0 0]) (hR : R ≤ 4096) :
    Calls Try.prog 96 #[.pointer (some ⟨gs, 0, none⟩)] w fun e w' => e = .returned (.tuple #[]) ∧ Below w.heap.size w w' := by
  subst hv
  have k0 := h0.cell 0
  have k1 := h0.cell 1
  have k2 := h0.cell 2
  go_enter Try.func96, Try.ntmps96
  go_wp2
  go_loopw [2] (fun cv wr => cv = .int .i64 0 ∧ wr = w) (fun _ _ => 0)
  case atStart => exact ⟨rfl, rfl⟩
  case round =>
    obtain ⟨rfl, rfl⟩ := hrel
    have q1 : decide ((0 : Int) < 0) = false := rfl
    have f0 := h0.free
    go_wp2_with fail
    go_quiet (fail)
    go_wp2
    go_end0
    exact ⟨rfl, bl_drewN _ _⟩

/-- Fractions in a block of their own. -/
def FB (w : World) (g c n : Nat) (f : Nat → Bool × List Int × List Int) : Prop := ∃ cs : Array Value, w.heap[g]? = some (.cells cs 24 (0, 0)) ∧ cs.size = 3 * c ∧ n ≤ c ∧ c ≤ 9223372036854775807 ∧ NoU cs ∧
  ∀ j, j < n → ∃ v1 v2, cs[j * 3]? = some (.bool (f j).1) ∧ cs[j * 3 + 1]? = some v1 ∧ cs[j * 3 + 2]? = some v2 ∧ FrIn w (.agg #[.bool (f j).1, v1, v2]) (f j).1 (f j).2.1 (f j).2.2
theorem FB.lt {w : World} {g c n : Nat} {f : Nat → Bool × List Int × List Int} (h : FB w g c n f) : g < w.heap.size := by
  obtain ⟨cs, h1, _⟩ := h
  exact (Array.getElem?_eq_some_iff.1 h1).1
theorem FB.fr {S : Nat → Prop} {w w1 : World} (k : Fr S w w1) {g c n : Nat} {f : Nat → Bool × List Int × List Int} (h : FB w g c n f) (hg : ¬ S g) : FB w1 g c n f := by
  obtain ⟨cs, h1, h2, h3, h3', h4, h5⟩ := h
  refine ⟨cs, (k.block g (Array.getElem?_eq_some_iff.1 h1).1 hg).trans h1, h2, h3, h3', h4, fun j hj => ?_⟩
  obtain ⟨v1, v2, k0, k1, k2, m1⟩ := h5 j hj
  exact ⟨v1, v2, k0, k1, k2, k.keep.fr m1⟩
theorem FB.below {w w1 : World} {g c n : Nat} {f : Nat → Bool × List Int × List Int} (h : FB w g c n f) (hb : Below w.heap.size w w1) : FB w1 g c n f := FB.fr (Fr.of_below (S := fun _ => False) hb) h (fun h => h)
theorem FB.free {w : World} {g c n : Nat} {f : Nat → Bool × List Int × List Int} (h : FB w g c n f) (j : Nat) : w.frozen? ⟨g, j, none⟩ = false := by
  obtain ⟨cs, h1, _⟩ := h
  exact frozen_of_row w g j cs _ h1
theorem FB.there {w : World} {g c n : Nat} {f : Nat → Bool × List Int × List Int} (h : FB w g c n f) {j : Nat} (hj : j < 3 * n) : ∃ x, w.cell? ⟨g, j, none⟩ = some x ∧ ∀ n, x ≠ .int .u32 n := by
  obtain ⟨cs, h1, h2, h3, _, h4, _⟩ := h
  exact ⟨cs[j]'(by omega), by rw [cell_of_row w g j cs _ _ h1, Array.getElem?_eq_getElem (by omega)], h4 j _ (Array.getElem?_eq_getElem (by omega))⟩
theorem FB.congr {w : World} {g c n : Nat} {f f' : Nat → Bool × List Int × List Int} (h : FB w g c n f) (e : ∀ j, j < n → f j = f' j) : FB w g c n f' := by
  obtain ⟨cs, h1, h2, h3, h3', h4, h5⟩ := h
  exact ⟨cs, h1, h2, h3, h3', h4, fun j hj => by rw [← e j hj]; exact h5 j hj⟩
theorem FB.bounds {w : World} {g c n : Nat} {f : Nat → Bool × List Int × List Int} (h : FB w g c n f) : n ≤ c ∧ c ≤ 9223372036854775807 := by
  obtain ⟨cs, h1, h2, h3, h3', _⟩ := h
  exact ⟨h3, h3'⟩
theorem FB.set {w : World} {g c n : Nat} {f : Nat → Bool × List Int × List Int} (h : FB w g c n f) {j : Nat} (hj : j < n) {d : Bool × List Int × List Int} {A A2 : Option Addr} {e e2 : Nat} (hx : FrIn w (.agg #[.bool d.1, .slice A d.2.1.length e, .slice A2 d.2.2.length e2]) d.1 d.2.1 d.2.2) :
    FB (put3 w g j (.bool d.1) (.slice A d.2.1.length e) (.slice A2 d.2.2.length e2)) g c n (upd f j d) ∧ Fr (fun y => y = g) w (put3 w g j (.bool d.1) (.slice A d.2.1.length e) (.slice A2 d.2.2.length e2)) := by
  obtain ⟨x0, c0, n0⟩ := h.there (j := j * 3) (by omega)
  obtain ⟨x1, c1, n1⟩ := h.there (j := j * 3 + 1) (by omega)
  obtain ⟨x2, c2, n2⟩ := h.there (j := j * 3 + 2) (by omega)
  have hfr := put3_fr c0 c1 c2 n0 n1 n2 (.bool d.1) (.slice A d.2.1.length e) (.slice A2 d.2.2.length e2)
  refine ⟨?_, hfr⟩
  obtain ⟨cs, h1, h2, h3, h3', h4, h5⟩ := h
  have s1 := heap_setCell_same w g (j * 3) cs 24 (.bool d.1) h1
  have s2 := heap_setCell_same _ g (j * 3 + 1) _ 24 (.slice A d.2.1.length e) s1
  have s3 := heap_setCell_same _ g (j * 3 + 2) _ 24 (.slice A2 d.2.2.length e2) s2
  refine ⟨_, s3, by simpa using h2, h3, h3', ((h4.set _ (boolne _)).set _ (slne _ _ _)).set _ (slne _ _ _), fun i hi => ?_⟩
  by_cases q : i = j
  · subst q
    rw [upd_at]
    refine ⟨.slice A d.2.1.length e, .slice A2 d.2.2.length e2, ?_, ?_, ?_, hfr.keep.fr hx⟩
    · rw [Array.getElem?_setIfInBounds_ne (by omega), Array.getElem?_setIfInBounds_ne (by omega), Array.getElem?_setIfInBounds_self_of_lt (by omega)]
    · rw [Array.getElem?_setIfInBounds_ne (by omega), Array.getElem?_setIfInBounds_self_of_lt (by simp; omega)]
    · rw [Array.getElem?_setIfInBounds_self_of_lt (by simp; omega)]
  · rw [upd_ne q]
    obtain ⟨u1, u2, k0, k1, k2, l1⟩ := h5 i hi
    refine ⟨u1, u2, ?_, ?_, ?_, hfr.keep.fr l1⟩
    · rw [Array.getElem?_setIfInBounds_ne (by omega), Array.getElem?_setIfInBounds_ne (by omega), Array.getElem?_setIfInBounds_ne (by omega)]; exact k0
    · rw [Array.getElem?_setIfInBounds_ne (by omega), Array.getElem?_setIfInBounds_ne (by omega), Array.getElem?_setIfInBounds_ne (by omega)]; exact k1
    · rw [Array.getElem?_setIfInBounds_ne (by omega), Array.getElem?_setIfInBounds_ne (by omega), Array.getElem?_setIfInBounds_ne (by omega)]; exact k2
theorem FB.fl {w : World} {g c n : Nat} {f : Nat → Bool × List Int × List Int} (h : FB w g c n f) : FL w (.slice (some ⟨g, 0, none⟩) n c) ((List.range n).map f) := by
  obtain ⟨cs, h1, h2, h3, h3', h4, h5⟩ := h
  refine ⟨some ⟨g, 0, none⟩, c, by simp, by simpa using h3, h3', fun _ => ⟨_, rfl, fun i d hd => ?_⟩⟩
  have hi : i < n := by have := (List.getElem?_eq_some_iff.1 hd).1; simpa using this
  obtain rfl : f i = d := by simpa [hi] using hd
  obtain ⟨v1, v2, k0, k1, k2, l1⟩ := h5 i hi
  rw [add_row]
  exact ⟨v1, v2, by rw [cell_of_row w g _ cs _ _ h1, k0], by rw [cell_of_row w g _ cs _ _ h1, k1], by rw [cell_of_row w g _ cs _ _ h1, k2], l1⟩
theorem mk_fracs (n : Nat) (h : n ≤ 4096) (w : World) : (Instr.makeSlice 32 (.int .i64 (n : Int)) (.int .i64 (n : Int))).run Try.prog w = .ok (.slice (some ⟨w.heap.size, 0, none⟩) n n) (w.alloc (.cells (madeCells #[.bool false, .slice none 0 0, .slice none 0 0] (n * 3)) 24)) := by
  obtain ⟨i0, hi, hz0, hz1, hz2⟩ := info_parts info_frac
  have hr := run_make (P := Try.prog) w 32 24 i0 _ Try.underlying32 hi hz0 .i64 .i64 (n : Int) (n : Int) (by omega) (by omega) (by rw [hz2]; omega) (by omega)
  simp only [Int.toNat_natCast, hz1] at hr
  exact hr
theorem FrIn.none (w : World) : FrIn w (.agg #[.bool false, .slice none 0 0, .slice none 0 0]) false [] [] := ⟨_, _, rfl, RdI.nil _ _, RdI.nil _ _, Wd_nil, Wd_nil⟩
theorem FB.new (w : World) (n : Nat) (hn : n ≤ 4096) : FB (w.alloc (.cells (madeCells #[.bool false, .slice none 0 0, .slice none 0 0] (n * 3)) 24)) w.heap.size n n (fun _ => (false, [], [])) := by
  have hm : ∀ j, j < n * 3 → (madeCells #[Value.bool false, .slice none 0 0, .slice none 0 0] (n * 3))[j]? = some ((#[Value.bool false, .slice none 0 0, .slice none 0 0] : Array Value)[j % 3]!) := by
    intro j hj
    simp only [madeCells, Array.getElem?_map, Array.getElem?_range]
    rw [if_pos hj]
    rfl
  refine ⟨_, heap_alloc_new w _, by rw [size_madeCells]; omega, Nat.le_refl _, by omega, fun j x hx => ?_, fun j hj => ⟨.slice none 0 0, .slice none 0 0, ?_, ?_, ?_, FrIn.none _⟩⟩
  · have hj : j < n * 3 := by
      have := (Array.getElem?_eq_some_iff.1 hx).1
      rw [size_madeCells] at this
      exact this
    rw [hm j hj] at hx
    obtain rfl := Option.some.inj hx
    have h3 : j % 3 = 0 ∨ j % 3 = 1 ∨ j % 3 = 2 := by omega
    intro n
    rcases h3 with h | h | h <;> rw [h] <;> intro hh <;> cases hh
  · rw [hm _ (by omega), show j * 3 % 3 = 0 by omega]; rfl
  · rw [hm _ (by omega), show (j * 3 + 1) % 3 = 1 by omega]; rfl
  · rw [hm _ (by omega), show (j * 3 + 2) % 3 = 2 by omega]; rfl
theorem OF.fb {w : World} {B g c : Nat} {L : List (Bool × List Int × List Int)} {n : Nat} (h : OF w B (.slice (some ⟨g, 0, none⟩) n c) L) (h0 : 0 < L.length) : n = L.length ∧ B ≤ g ∧ FB w g c L.length (fun j => L.getD j (false, [], [])) := by
  obtain ⟨xs, h1, h2, h3, h3', h4⟩ := h
  rcases h1.2 with ⟨e, e0⟩ | ⟨g', cap, cur, hv, hb, hg, hn, hm, hcs, ht⟩
  · omega
  · obtain ⟨rfl, rfl, rfl⟩ : g = g' ∧ n = L.length ∧ c = cap := by simpa using hv
    obtain ⟨cur2, e, k1, k2⟩ := h2 g rfl
    obtain ⟨rfl, rfl⟩ : cur = cur2 ∧ 24 = e := by rw [hg] at k1; simpa using k1
    have tk : ∀ l, l < L.length * 3 → cur[l]? = xs[l]? := fun l hl => by
      rw [← ht, List.getElem?_take_of_lt hl]; simp
    refine ⟨rfl, hb, cur, hg, by omega, hn, by simp only [maxLen] at hm; omega, k2, fun j hj => ?_⟩
    obtain ⟨v1, v2, e0, e1, e2, m1⟩ := h4 j _ (List.getElem?_eq_getElem hj)
    have eq : L.getD j (false, [], []) = L[j] := by rw [List.getD_eq_getElem?_getD, List.getElem?_eq_getElem hj]; rfl
    rw [← eq] at e0 m1
    exact ⟨v1, v2, by rw [tk _ (by omega)]; exact e0, by rw [tk _ (by omega)]; exact e1, by rw [tk _ (by omega)]; exact e2, m1⟩
/-- One more ratio behind a list of one's own. -/
theorem push_rat {W0 W : World} {v : Value} {acc : List Rat} {q : Rat} {A1 A2 : Option Addr} {c1 c2 : Nat} (hO : OL W W0.heap.size v acc) (hb : Below W0.heap.size W0 W) (hq : RtV W (.agg #[.slice A1 (dg q.num.natAbs).length c1, .slice A2 (dg q.den).length c2, .bool (decide (q.num < 0))]) q) (hl : acc.length ≤ 1000000) :
    ∃ v' w', (Builtin.append_ #[79, 79] 79 #[v, .slice (some ⟨W.heap.size, 0, none⟩) 1 1]).run Try.prog (W.alloc (.cells #[.slice A1 (dg q.num.natAbs).length c1, .slice A2 (dg q.den).length c2, .bool (decide (q.num < 0))] 59)) = .ok v' w' ∧
      OL w' W0.heap.size v' (acc ++ [q]) ∧ Below W0.heap.size W0 w' := by
  have al := below_alloc0 W (.cells #[.slice A1 (dg q.num.natAbs).length c1, .slice A2 (dg q.den).length c2, .bool (decide (q.num < 0))] 59)
  have KB := Blk.new W 59 #[.slice A1 (dg q.num.natAbs).length c1, .slice A2 (dg q.den).length c2, .bool (decide (q.num < 0))]
  have hs := Nat.le_trans hb.size al.size
  obtain ⟨v', w', hrun, hO', hfr, _⟩ := OL.push (hO.below al) hs KB (hq.below al) hl
  exact ⟨v', w', hrun, hO', Below.trans (bl_trans hb al) (hfr.below hs (fun g hg => hO.block hg))⟩
/-- What the elimination leaves, of any number of rows. -/
def LD (w wr : World) (gs R C n : Nat) (M : Nat → Nat → Rat) (st : List Nat) : Prop := ∃ Ar cap As cs, Blk wr gs 97 #[.slice Ar R cap, .int .i64 (n : Int), .slice As st.length cs] ∧ R ≤ cap ∧ cap ≤ 9223372036854775807 ∧ st.length ≤ cs ∧ cs ≤ 9223372036854775807 ∧
  (∀ (i s : Nat), st[i]? = some s → ∃ ad, As = some ad ∧ wr.cell? (ad.add i) = some (.int .i64 (s : Int))) ∧
  (∀ i, i < R → ∃ gr b c, Ar = some ⟨gr, 0, none⟩ ∧ wr.cell? ⟨gr, i, none⟩ = some (.slice (some ⟨b, 0, none⟩) C c) ∧ C ≤ c ∧ c ≤ 9223372036854775807 ∧ RF wr b c C (M i)) ∧ Below w.heap.size w wr
theorem HR.ld {w w1 wr : World} {gs gr cap R C n : Nat} {b cp : Nat → Nat} {M : Nat → Nat → Rat} {stv : Value} {st : List Nat} (h : HR w1 w.heap.size gs gr cap R C n b cp M stv st wr) (hb : Below w.heap.size w w1) (hc : cap ≤ 9223372036854775807) : LD w wr gs R C n M st := by
  obtain ⟨As, cs, rfl, hcs, hcs2⟩ := own_shp h.own
  have hR : R ≤ cap := by obtain ⟨cs, _, h2, h3, _⟩ := h.sys.tb; exact h3
  refine ⟨_, cap, As, cs, h.blk, hR, hc, hcs, hcs2, fun i s hs => ?_, fun i hi => ⟨gr, b i, cp i, rfl, h.sys.tb.cell hi, ?_, ?_, h.sys.rows i hi⟩, Below.trans hb (h.fr.below hb.size (fun g hg => hg))⟩
  · have hi := (List.getElem?_eq_some_iff.1 hs).1
    have ho := h.own
    rcases ho.2 with ⟨e, e0⟩ | ⟨g, cap', cur, e, hb, hg, hn, hm, hq, ht⟩
    · omega
    · obtain ⟨rfl, rfl⟩ : As = some ⟨g, 0, none⟩ ∧ cs = cap' := by simpa using e
      refine ⟨_, rfl, ho.cells (g := g) rfl _ _ ?_⟩
      rw [List.getElem?_map, hs]; rfl
  · obtain ⟨cs, _, _, h3, _⟩ := h.sys.rows i hi; exact h3
  · obtain ⟨cs, _, _, _, h3, _⟩ := h.sys.rows i hi; exact h3
theorem LD.below {w wr w2 : World} {gs R C n : Nat} {M : Nat → Nat → Rat} {st : List Nat} (h : LD w wr gs R C n M st) (hb : Below wr.heap.size wr w2) : LD w w2 gs R C n M st := by
  obtain ⟨Ar, cap, As, cs, h1, h2, h3, h4, h5, h6, h7, h8⟩ := h
  refine ⟨Ar, cap, As, cs, h1.below hb, h2, h3, h4, h5, fun i s hs => ?_, fun i hi => ?_, bl_trans h8 hb⟩
  · obtain ⟨ad, e, hc⟩ := h6 i s hs
    exact ⟨ad, e, cell_below hb hc⟩
  · obtain ⟨gr, b, c, e, hc, k1, k2, k3⟩ := h7 i hi
    exact ⟨gr, b, c, e, cell_below hb hc, k1, k2, k3.below hb⟩
/-- The elimination of the program's rows. -/
theorem reduce_pr (w wr : World) (gs C n : Nat) (A : Option Addr) (cap : Nat) (TL : List (List Rat)) (h : PR wr w.heap.size wr.heap.size (.slice A TL.length cap) TL) (K : Blk wr gs 97 #[.slice A TL.length cap, .int .i64 (n : Int), .slice none 0 0]) (hR : TL.length ≤ 72) (hC : C ≤ 4096) (hn : n ≤ C) (hC0 : 0 < TL.length → 0 < C) (hn0 : TL.length = 0 → n = 0) (hL : ∀ L ∈ TL, L.length = C) (hb : Below w.heap.size w wr) (hgs : w.heap.size ≤ gs)
    (hz : ∀ col i j, col ≤ n → i < TL.length → j < C → Szq 1000 ((gj (matL TL) TL.length col).M i j)) :
    Calls Try.prog 96 #[.pointer (some ⟨gs, 0, none⟩)] wr fun e w' => e = .returned (.tuple #[]) ∧ LD w w' gs TL.length C n (gj (matL TL) TL.length n).M (gj (matL TL) TL.length n).st := by
  by_cases h0 : TL.length = 0
  · obtain rfl := hn0 h0
    have : TL = [] := List.eq_nil_of_length_eq_zero h0
    subst this
    refine (reduce0_calls wr gs _ _ _ _ rfl K (by simp)).mono ?_
    rintro e w7 ⟨rfl, hb7⟩
    obtain ⟨A2, c2, hv, h1, h2⟩ := h.shape
    obtain ⟨rfl, rfl⟩ : A = A2 ∧ cap = c2 := by simpa using hv
    exact ⟨rfl, A, cap, none, 0, K.below hb7, h1, h2, Nat.le_refl _, by omega, fun i s hs => by simp [gj] at hs, fun i hi => by simp at hi, bl_trans hb hb7⟩
  · obtain ⟨gr, cap', b, cp, hv, hcap, hcap2, hR2⟩ := h.hr K (by omega) (hC0 (by omega)) hL (Fr.refl _ _) hb.size hgs
    obtain ⟨rfl, rfl⟩ : A = some ⟨gr, 0, none⟩ ∧ cap = cap' := by simpa using hv
    refine (reduce_calls _ _ _ _ _ _ _ _ _ _ _ hR2 (by omega) hn hC hcap2 hz).mono ?_
    rintro e w7 ⟨rfl, stv, b', cp', h7⟩
    exact ⟨rfl, h7.ld hb hcap2⟩
end Go.Proofs.Ytdmgceckmciifaa
