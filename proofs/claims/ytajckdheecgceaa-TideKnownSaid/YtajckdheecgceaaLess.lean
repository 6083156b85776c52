/- Systems of equations: a multiple of one row is taken from another one (the program's). -/
import Derived.Test.YtajckdheecgceaaMem
set_option linter.unusedVariables false
set_option linter.unusedSimpArgs false
namespace Go.Proofs.Ytajckdheecgceaa
open Go.RowKit

/-- The row behind it. -/
def lessR (M : Nat → Nat → Rat) (i k col : Nat) : Nat → Rat := fun j => if j < col then M i j else M i j + -(M i col * M k j)
/-- .. so far. -/
def lessK (M : Nat → Nat → Rat) (i k col n : Nat) : Nat → Rat := fun j => if n ≤ j then M i j else lessR M i k col j
theorem lessK_start (M : Nat → Nat → Rat) (i k col j : Nat) : M i j = lessK M i k col col j := by
  unfold lessK lessR
  split
  · rfl
  · rw [if_pos (by omega)]
theorem lessK_set {M : Nat → Nat → Rat} {i k col n : Nat} (hn : col ≤ n) (j : Nat) : upd (lessK M i k col n) n (M i n + -(M i col * M k n)) j = lessK M i k col (n + 1) j := by
  unfold lessK
  by_cases e : j = n
  · subst e; rw [upd_at, if_neg (by omega), lessR, if_neg (by omega)]
  · rw [upd_ne e]
    by_cases h : n ≤ j
    · rw [if_pos h, if_pos (by omega)]
    · rw [if_neg h, if_neg (by omega)]
theorem lessK_skip {M : Nat → Nat → Rat} {i k col n : Nat} (hn : col ≤ n) (h0 : M k n = 0) (j : Nat) : lessK M i k col n j = lessK M i k col (n + 1) j := by
  rw [← lessK_set hn]
  by_cases e : j = n
  · subst e; rw [upd_at, h0, lessK, if_pos (by omega)]; grind
  · rw [upd_ne e]
theorem lessK_end {M : Nat → Nat → Rat} {i k col C : Nat} (j : Nat) (hj : j < C) : lessK M i k col C j = lessR M i k col j := by
  unfold lessK; rw [if_neg (by omega)]
theorem sign_zero {q : Rat} : (q.num.sign == 0) = decide (q = 0) := by
  by_cases h : q = 0
  · rw [h]; rfl
  · rw [decide_eq_false h]
    exact beq_eq_false_iff_ne.2 (fun e => h (Rat.num_eq_zero.1 (Int.sign_eq_zero_iff_zero.1 e)))
theorem upd_self {α : Type} (f : Nat → α) (i : Nat) : upd f i (f i) = f := by
  funext j
  by_cases e : j = i
  · rw [e, upd_at]
  · rw [upd_ne e]
/-- A copy of a row of ratios. -/
theorem copy_ratios (w : World) (b c g C : Nat) (q : Nat → Rat) (h : RF w b c C q) (hC : C ≤ 4096) (ty : TypeId) (hg : Blk w g 113 (madeCells #[.slice none 0 0, .slice none 0 0, .bool false] (C * 3))) :
    ∃ w', (Builtin.copy_ #[124, 124] ty #[.slice (some ⟨g, 0, none⟩) C C, .slice (some ⟨b, 0, none⟩) C c]).run Try.prog w = .ok (.int .i64 (C : Int)) w' ∧ RF w' g C C q ∧ Fr (fun x => x = g) w w' := by
  have hh := h
  obtain ⟨cs, h1, h2, h3, h3', h4, h5⟩ := h
  have hsz : (madeCells #[.slice none 0 0, .slice none 0 0, .bool false] (C * 3)).size = C * 3 := size_madeCells _ _
  have hnu : NoU (madeCells #[.slice none 0 0, .slice none 0 0, .bool false] (C * 3)) := by
    obtain ⟨ds, k1, k2, k3, _⟩ := RL.new w C
    have := heap_alloc_new w (.cells (madeCells #[.slice none 0 0, .slice none 0 0, .bool false] (C * 3)) 113)
    rw [this] at k1
    obtain rfl : madeCells #[.slice none 0 0, .slice none 0 0, .bool false] (C * 3) = ds := by simpa using k1
    exact k3
  obtain ⟨xs, hxs⟩ : ∃ xs : List Value, xs = cs.toList.take (C * 3) := ⟨_, rfl⟩
  have hxl : xs.length = C * 3 := by rw [hxs, List.length_take, Array.length_toList]; omega
  have hxg : ∀ j v, xs[j]? = some v → cs[j]? = some v ∧ j < C * 3 := by
    intro j v hv
    have hj := (List.getElem?_eq_some_iff.1 hv).1
    rw [hxs, List.getElem?_take_of_lt (by omega)] at hv
    exact ⟨by simpa using hv, by omega⟩
  have hone : ∀ v ∈ xs, v.oneCell' = true := by
    intro v hv
    obtain ⟨j, hj⟩ := List.mem_iff_getElem?.1 hv
    obtain ⟨k0, k1⟩ := hxg j _ hj
    obtain ⟨i, r, hi, hr⟩ : ∃ i r, j = i * 3 + r ∧ r < 3 := ⟨j / 3, j % 3, by omega, by omega⟩
    obtain ⟨v1, v2, e0, e1, e2, m1, m2⟩ := h5 i (by omega)
    obtain ⟨A, c1, rfl⟩ := m1.shape
    obtain ⟨A2, c2, rfl⟩ := m2.shape
    have hr3 : r = 0 ∨ r = 1 ∨ r = 2 := by omega
    rcases hr3 with rfl | rfl | rfl
    · rw [hi, Nat.add_zero, e0] at k0; rw [← Option.some.inj k0]; rfl
    · rw [hi, e1] at k0; rw [← Option.some.inj k0]; rfl
    · rw [hi, e2] at k0; rw [← Option.some.inj k0]; rfl
  have hmin : Nat.min C C = C := Nat.min_self C
  have hrun := run_copy_structs (P := Try.prog) w 124 124 ty 113 g 0 C C ⟨b, 0, none⟩ C c 3 _ 113 xs Try.underlying124 (by kernel_rfl) hg (by rw [hmin]; exact hxl)
    (fun j v hv => by rw [add_row, cell_of_row w b _ cs _ _ h1]; exact (hxg j v hv).1) (by rw [hsz]; omega) hone
  rw [hmin] at hrun
  have hset := setRow_heap w g _ ((madeCells #[Value.slice none 0 0, .slice none 0 0, .bool false] (C * 3)).toList.take 0 ++ xs ++ (madeCells #[Value.slice none 0 0, .slice none 0 0, .bool false] (C * 3)).toList.drop (0 + xs.length)).toArray 113 (0, 0) hg
  have hcells : ((madeCells #[Value.slice none 0 0, .slice none 0 0, .bool false] (C * 3)).toList.take 0 ++ xs ++ (madeCells #[Value.slice none 0 0, .slice none 0 0, .bool false] (C * 3)).toList.drop (0 + xs.length)).toArray = xs.toArray := by
    rw [List.take_zero, List.nil_append, Nat.zero_add, hxl, List.drop_of_length_le (by rw [Array.length_toList, hsz]; exact Nat.le_refl _), List.append_nil]
  rw [hcells] at hset hrun
  have hkeep : KeepW w (w.setRow g xs.toArray) := by
    intro v l hr
    obtain ⟨A, c', hv, hl, hc, hr⟩ := hr
    refine ⟨A, c', hv, hl, hc, fun h0 => ?_⟩
    obtain ⟨ad, ha, hcell⟩ := hr h0
    refine ⟨ad, ha, fun j hj => ?_⟩
    have hc0 := hcell j hj
    by_cases hb : (ad.add j).block = g
    · exfalso
      have : ∃ k : Nat, (madeCells #[Value.slice none 0 0, .slice none 0 0, .bool false] (C * 3))[k]? = some (Value.int .u32 (wat l j)) := by
        unfold World.cell? at hc0
        rw [hb, show w.heap[g]? = _ from hg] at hc0
        simp only at hc0
        split at hc0
        · cases hc0
        · exact ⟨_, hc0⟩
      obtain ⟨k, hk⟩ := this
      exact hnu k _ hk _ rfl
    · rw [World.cell?_of_block (w := w) (setRow_other w g _ _ hb)]
      exact hc0
  refine ⟨_, hrun, ⟨xs.toArray, hset, by simp; omega, Nat.le_refl _, by omega, fun j x hx => ?_, fun j hj => ?_⟩, ⟨rfl, rfl, rfl, by simp [World.setRow], fun k _ hk => setRow_other w g k _ hk, hkeep⟩⟩
  · exact h4 j x (hxg j x (by simpa using hx)).1
  · obtain ⟨v1, v2, e0, e1, e2, m1, m2⟩ := h5 j hj
    have tk : ∀ l, l < C * 3 → xs.toArray[l]? = cs[l]? := fun l hl => by
      rw [List.getElem?_toArray, hxs, List.getElem?_take_of_lt hl]; simp
    exact ⟨v1, v2, by rw [tk _ (by omega)]; exact e0, by rw [tk _ (by omega)]; exact e1, by rw [tk _ (by omega)]; exact e2, hkeep.nm m1, hkeep.nm m2⟩
theorem ce11 {w w1 : World} (hb : Below w.heap.size w w1) {a0 a1 a2 a3 a4 a5 a6 a7 a8 a9 a10 : Addr} {x0 x1 x2 x3 x4 x5 x6 x7 x8 x9 x10 : Value}
    (h : w.cell? a0 = some x0 ∧ w.cell? a1 = some x1 ∧ w.cell? a2 = some x2 ∧ w.cell? a3 = some x3 ∧ w.cell? a4 = some x4 ∧ w.cell? a5 = some x5 ∧ w.cell? a6 = some x6 ∧ w.cell? a7 = some x7 ∧ w.cell? a8 = some x8 ∧ w.cell? a9 = some x9 ∧ w.cell? a10 = some x10) :
    w1.cell? a0 = some x0 ∧ w1.cell? a1 = some x1 ∧ w1.cell? a2 = some x2 ∧ w1.cell? a3 = some x3 ∧ w1.cell? a4 = some x4 ∧ w1.cell? a5 = some x5 ∧ w1.cell? a6 = some x6 ∧ w1.cell? a7 = some x7 ∧ w1.cell? a8 = some x8 ∧ w1.cell? a9 = some x9 ∧ w1.cell? a10 = some x10 := by
  obtain ⟨h0, h1, h2, h3, h4, h5, h6, h7, h8, h9, h10⟩ := h
  exact ⟨cell_below hb h0, cell_below hb h1, cell_below hb h2, cell_below hb h3, cell_below hb h4, cell_below hb h5, cell_below hb h6, cell_below hb h7, cell_below hb h8, cell_below hb h9, cell_below hb h10⟩
end Go.Proofs.Ytajckdheecgceaa
