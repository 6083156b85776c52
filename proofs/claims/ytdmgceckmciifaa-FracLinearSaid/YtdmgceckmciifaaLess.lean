/- Systems of equations: a multiple of one row is taken from another one (the program's). -/
import Derived.Test.YtdmgceckmciifaaMem
set_option linter.unusedVariables false
set_option linter.unusedSimpArgs false
namespace Go.Proofs.Ytdmgceckmciifaa
open Go.RowKit

/-- The row behind it. -/
def lessR (M : Nat → Nat → Rat) (i k col : Nat) : Nat → Rat := fun j => if j < col then M i j else M i j + -(M i col * M k j)
/-- .. so far. -/
def lessK (M : Nat → Nat → Rat) (i k col n : Nat) : Nat → Rat := fun j => if n ≤ j then M i j else lessR M i k col j
theorem lessK_start (M : Nat → Nat → Rat) (i k col j : Nat) : M i j = lessK M i k col col j := by
  unfold lessK lessR
  split
  · rfl
  · rw [if_pos (by omega)]
theorem lessK_set {M : Nat → Nat → Rat} {i k col n : Nat} (hn : col ≤ n) (j : Nat) : upd (lessK M i k col n) n (M i n + -(M i col * M k n)) j = lessK M i k col (n + 1) j := by
  unfold lessK
  by_cases e : j = n
  · subst e; rw [upd_at, if_neg (by omega), lessR, if_neg (by omega)]
  · rw [upd_ne e]
    by_cases h : n ≤ j
    · rw [if_pos h, if_pos (by omega)]
    · rw [if_neg h, if_neg (by omega)]
theorem lessK_skip {M : Nat → Nat → Rat} {i k col n : Nat} (hn : col ≤ n) (h0 : M k n = 0) (j : Nat) : lessK M i k col n j = lessK M i k col (n + 1) j := by
  rw [← lessK_set hn]
  by_cases e : j = n
  · subst e; rw [upd_at, h0, lessK, if_pos (by omega)]; grind
  · rw [upd_ne e]
theorem lessK_end {M : Nat → Nat → Rat} {i k col C : Nat} (j : Nat) (hj : j < C) : lessK M i k col C j = lessR M i k col j := by
  unfold lessK; rw [if_neg (by omega)]
theorem sign_zero {q : Rat} : (q.num.sign == 0) = decide (q = 0) := by
  by_cases h : q = 0
  · rw [h]; rfl
  · rw [decide_eq_false h]
    exact beq_eq_false_iff_ne.2 (fun e => h (Rat.num_eq_zero.1 (Int.sign_eq_zero_iff_zero.1 e)))
theorem upd_self {α : Type} (f : Nat → α) (i : Nat) : upd f i (f i) = f := by
  funext j
  by_cases e : j = i
  · rw [e, upd_at]
  · rw [upd_ne e]
/-- A copy of a row of ratios. -/
theorem copy_ratios (w : World) (b c g C : Nat) (q : Nat → Rat) (h : RF w b c C q) (hC : C ≤ 4096) (ty : TypeId) (hg : Blk w g 59 (madeCells #[.slice none 0 0, .slice none 0 0, .bool false] (C * 3))) :
    ∃ w', (Builtin.copy_ #[79, 79] ty #[.slice (some ⟨g, 0, none⟩) C C, .slice (some ⟨b, 0, none⟩) C c]).run Try.prog w = .ok (.int .i64 (C : Int)) w' ∧ RF w' g C C q ∧ Fr (fun x => x = g) w w' := by
  have hh := h
  obtain ⟨cs, h1, h2, h3, h3', h4, h5⟩ := h
  have hsz : (madeCells #[.slice none 0 0, .slice none 0 0, .bool false] (C * 3)).size = C * 3 := size_madeCells _ _
  have hnu : NoU (madeCells #[.slice none 0 0, .slice none 0 0, .bool false] (C * 3)) := by
    obtain ⟨ds, k1, k2, k3, _⟩ := RL.new w C
    have := heap_alloc_new w (.cells (madeCells #[.slice none 0 0, .slice none 0 0, .bool false] (C * 3)) 59)
    rw [this] at k1
    obtain rfl : madeCells #[.slice none 0 0, .slice none 0 0, .bool false] (C * 3) = ds := by simpa using k1
    exact k3
  obtain ⟨xs, hxs⟩ : ∃ xs : List Value, xs = cs.toList.take (C * 3) := ⟨_, rfl⟩
  have hxl : xs.length = C * 3 := by rw [hxs, List.length_take, Array.length_toList]; omega
  have hxg : ∀ j v, xs[j]? = some v → cs[j]? = some v ∧ j < C * 3 := by
    intro j v hv
    have hj := (List.getElem?_eq_some_iff.1 hv).1
    rw [hxs, List.getElem?_take_of_lt (by omega)] at hv
    exact ⟨by simpa using hv, by omega⟩
  have hone : ∀ v ∈ xs, v.oneCell' = true := by
    intro v hv
    obtain ⟨j, hj⟩ := List.mem_iff_getElem?.1 hv
    obtain ⟨k0, k1⟩ := hxg j _ hj
    obtain ⟨i, r, hi, hr⟩ : ∃ i r, j = i * 3 + r ∧ r < 3 := ⟨j / 3, j % 3, by omega, by omega⟩
    obtain ⟨v1, v2, e0, e1, e2, m1, m2⟩ := h5 i (by omega)
    obtain ⟨A, c1, rfl⟩ := m1.shape
    obtain ⟨A2, c2, rfl⟩ := m2.shape
    have hr3 : r = 0 ∨ r = 1 ∨ r = 2 := by omega
    rcases hr3 with rfl | rfl | rfl
    · rw [hi, Nat.add_zero, e0] at k0; rw [← Option.some.inj k0]; rfl
    · rw [hi, e1] at k0; rw [← Option.some.inj k0]; rfl
    · rw [hi, e2] at k0; rw [← Option.some.inj k0]; rfl
  have hmin : Nat.min C C = C := Nat.min_self C
  have hrun := run_copy_structs (P := Try.prog) w 79 79 ty 59 g 0 C C ⟨b, 0, none⟩ C c 3 _ 59 xs Try.underlying79 (by kernel_rfl) hg (by rw [hmin]; exact hxl)
    (fun j v hv => by rw [add_row, cell_of_row w b _ cs _ _ h1]; exact (hxg j v hv).1) (by rw [hsz]; omega) hone
  rw [hmin] at hrun
  have hset := setRow_heap w g _ ((madeCells #[Value.slice none 0 0, .slice none 0 0, .bool false] (C * 3)).toList.take 0 ++ xs ++ (madeCells #[Value.slice none 0 0, .slice none 0 0, .bool false] (C * 3)).toList.drop (0 + xs.length)).toArray 59 (0, 0) hg
  have hcells : ((madeCells #[Value.slice none 0 0, .slice none 0 0, .bool false] (C * 3)).toList.take 0 ++ xs ++ (madeCells #[Value.slice none 0 0, .slice none 0 0, .bool false] (C * 3)).toList.drop (0 + xs.length)).toArray = xs.toArray := by
    rw [List.take_zero, List.nil_append, Nat.zero_add, hxl, List.drop_of_length_le (by rw [Array.length_toList, hsz]; exact Nat.le_refl _), List.append_nil]
  rw [hcells] at hset hrun
  have hkeep : KeepW w (w.setRow g xs.toArray) := by
    intro v l hr
    obtain ⟨A, c', hv, hl, hc, hr⟩ := hr
    refine ⟨A, c', hv, hl, hc, fun h0 => ?_⟩
    obtain ⟨ad, ha, hcell⟩ := hr h0
    refine ⟨ad, ha, fun j hj => ?_⟩
    have hc0 := hcell j hj
    by_cases hb : (ad.add j).block = g
    · exfalso
      have : ∃ k : Nat, (madeCells #[Value.slice none 0 0, .slice none 0 0, .bool false] (C * 3))[k]? = some (Value.int .u32 (wat l j)) := by
        unfold World.cell? at hc0
        rw [hb, show w.heap[g]? = _ from hg] at hc0
        simp only at hc0
        split at hc0
        · cases hc0
        · exact ⟨_, hc0⟩
      obtain ⟨k, hk⟩ := this
      exact hnu k _ hk _ rfl
    · rw [World.cell?_of_block (w := w) (setRow_other w g _ _ hb)]
      exact hc0
  refine ⟨_, hrun, ⟨xs.toArray, hset, by simp; omega, Nat.le_refl _, by omega, fun j x hx => ?_, fun j hj => ?_⟩, ⟨rfl, rfl, rfl, by simp [World.setRow], fun k _ hk => setRow_other w g k _ hk, hkeep⟩⟩
  · exact h4 j x (hxg j x (by simpa using hx)).1
  · obtain ⟨v1, v2, e0, e1, e2, m1, m2⟩ := h5 j hj
    have tk : ∀ l, l < C * 3 → xs.toArray[l]? = cs[l]? := fun l hl => by
      rw [List.getElem?_toArray, hxs, List.getElem?_take_of_lt hl]; simp
    exact ⟨v1, v2, by rw [tk _ (by omega)]; exact e0, by rw [tk _ (by omega)]; exact e1, by rw [tk _ (by omega)]; exact e2, hkeep.nm m1, hkeep.nm m2⟩
/-- What the loop of less holds on to. -/
def HLess (w : World) (gs : Nat) (gr cap R C : Nat) (b cp : Nat → Nat) (M : Nat → Nat → Rat) (cols : Int) (stv : Value) (gb : Nat) (x : Rat) (gn : Nat) (q : Nat → Rat) (w' : World) : Prop :=
  Below w.heap.size w w' ∧ Blk w' gs 97 #[.slice (some ⟨gr, 0, none⟩) R cap, .int .i64 cols, stv] ∧ Sys w' gr cap R C b cp M ∧ RBox w' gb x ∧ RF w' gn C C q ∧ w.heap.size ≤ gb ∧ w.heap.size ≤ gn ∧ gb ≠ gn ∧ gs < w.heap.size ∧ gr < w.heap.size ∧ ∀ i, i < R → b i < w.heap.size
theorem HLess.next {w : World} {gs gr cap R C : Nat} {b cp : Nat → Nat} {M : Nat → Nat → Rat} {cols : Int} {stv : Value} {gb : Nat} {x : Rat} {gn : Nat} {q : Nat → Rat} {w1 w2 : World} (k : Below w1.heap.size w1 w2) (h : HLess w gs gr cap R C b cp M cols stv gb x gn q w1) : HLess w gs gr cap R C b cp M cols stv gb x gn q w2 := by
  obtain ⟨h1, h2, h3, h4, h5, h6⟩ := h
  exact ⟨bl_trans h1 k, h2.below k, h3.below k, h4.below k, h5.below k, h6⟩
theorem HLess.congr {w : World} {gs gr cap R C : Nat} {b cp : Nat → Nat} {M : Nat → Nat → Rat} {cols : Int} {stv : Value} {gb : Nat} {x : Rat} {gn : Nat} {q q' : Nat → Rat} {w1 : World} (h : HLess w gs gr cap R C b cp M cols stv gb x gn q w1) (e : ∀ j, j < C → q j = q' j) : HLess w gs gr cap R C b cp M cols stv gb x gn q' w1 := by
  obtain ⟨h1, h2, h3, h4, h5, h6⟩ := h
  exact ⟨h1, h2, h3, h4, h5.congr e, h6⟩
theorem HLess.put {w : World} {gs gr cap R C : Nat} {b cp : Nat → Nat} {M : Nat → Nat → Rat} {cols : Int} {stv : Value} {gb : Nat} {x : Rat} {gn : Nat} {q : Nat → Rat} {w1 : World} (h : HLess w gs gr cap R C b cp M cols stv gb x gn q w1) {j : Nat} (hj : j < C) {y : Rat} {A A2 : Option Addr} {d d2 : Nat} (hy : RtV w1 (.agg #[.slice A (dg y.num.natAbs).length d, .slice A2 (dg y.den).length d2, .bool (decide (y.num < 0))]) y) :
    HLess w gs gr cap R C b cp M cols stv gb x gn (upd q j y) (((w1.setCell ⟨gn, j * 3, none⟩ (.slice A (dg y.num.natAbs).length d)).setCell ⟨gn, j * 3 + 1, none⟩ (.slice A2 (dg y.den).length d2)).setCell ⟨gn, j * 3 + 2, none⟩ (.bool (decide (y.num < 0)))) := by
  obtain ⟨h1, h2, h3, h4, h5, h6, h7, h8, h9, h10, h11⟩ := h
  obtain ⟨k1, k2⟩ := h5.set hj hy
  refine ⟨((h1.setCell h7 _).setCell h7 _).setCell h7 _, k2.blk h2 (by show ¬ _ = _; omega), h3.fr k2 (by show ¬ _ = _; omega) (fun i hi => by show ¬ _ = _; have := h11 i hi; omega), ?_, k1, h6, h7, h8, h9, h10, h11⟩
  obtain ⟨D1, d1, D2, d2', l1, l2⟩ := h4
  exact ⟨D1, d1, D2, d2', k2.blk l1 (by show ¬ _ = _; omega), k2.keep.rt l2⟩
theorem ce11 {w w1 : World} (hb : Below w.heap.size w w1) {a0 a1 a2 a3 a4 a5 a6 a7 a8 a9 a10 : Addr} {x0 x1 x2 x3 x4 x5 x6 x7 x8 x9 x10 : Value}
    (h : w.cell? a0 = some x0 ∧ w.cell? a1 = some x1 ∧ w.cell? a2 = some x2 ∧ w.cell? a3 = some x3 ∧ w.cell? a4 = some x4 ∧ w.cell? a5 = some x5 ∧ w.cell? a6 = some x6 ∧ w.cell? a7 = some x7 ∧ w.cell? a8 = some x8 ∧ w.cell? a9 = some x9 ∧ w.cell? a10 = some x10) :
    w1.cell? a0 = some x0 ∧ w1.cell? a1 = some x1 ∧ w1.cell? a2 = some x2 ∧ w1.cell? a3 = some x3 ∧ w1.cell? a4 = some x4 ∧ w1.cell? a5 = some x5 ∧ w1.cell? a6 = some x6 ∧ w1.cell? a7 = some x7 ∧ w1.cell? a8 = some x8 ∧ w1.cell? a9 = some x9 ∧ w1.cell? a10 = some x10 := by
  obtain ⟨h0, h1, h2, h3, h4, h5, h6, h7, h8, h9, h10⟩ := h
  exact ⟨cell_below hb h0, cell_below hb h1, cell_below hb h2, cell_below hb h3, cell_below hb h4, cell_below hb h5, cell_below hb h6, cell_below hb h7, cell_below hb h8, cell_below hb h9, cell_below hb h10⟩
set_option maxRecDepth 100000 in
set_option maxHeartbeats 4000000 in
theorem less_calls (w : World) (gs gr cap R C : Nat) (b cp : Nat → Nat) (M : Nat → Nat → Rat) (cols : Int) (stv : Value) (i k col : Nat) (hK : Blk w gs 97 #[.slice (some ⟨gr, 0, none⟩) R cap, .int .i64 cols, stv])
    (hS : Sys w gr cap R C b cp M) (hi : i < R) (hk : k < R) (hcol : col < C) (hcap : cap ≤ 9223372036854775807) (hC : C ≤ 4096) (hz : ∀ i j, i < R → j < C → Szq 100000 (M i j)) (hne : gs ≠ gr) :
    Calls Try.prog 123 #[.pointer (some ⟨gs, 0, none⟩), .int .i64 (i : Int), .int .i64 (k : Int), .int .i64 (col : Int)] w fun e w' => e = .returned (.tuple #[]) ∧
      ∃ b' c', Sys w' gr cap R C (upd b i b') (upd cp i c') (upd M i (lessR M i k col)) ∧ Fr (fun g => g = gr) w w' ∧ (b' = b i ∨ w.heap.size ≤ b') := by
  have hRc : R ≤ cap := by obtain ⟨cs, _, h2, h3, _⟩ := hS.tb; exact h3
  have HS := Lib.hid hS
  have HK := Lib.hid hK
  have k0 := hK.cell 0
  have ri := hS.tb.cell hi
  obtain ⟨E1, x1, E2, x2, e0, e1, e2, hrt⟩ := (hS.rows i hi).cell hcol
  obtain ⟨x, hx⟩ : ∃ x, x = M i col := ⟨_, rfl⟩
  have zx := hz i col hi hcol
  rw [← hx] at e0 e1 e2 hrt zx
  have HX := Lib.hid hx
  have al := below_alloc0 w (.cells #[.slice E1 (dg x.num.natAbs).length x1, .slice E2 (dg x.den).length x2, .bool (decide (x.num < 0))] 59)
  have RB := Lib.hid (show RBox (w.alloc (.cells #[.slice E1 (dg x.num.natAbs).length x1, .slice E2 (dg x.den).length x2, .bool (decide (x.num < 0))] 59)) w.heap.size x from ⟨_, _, _, _, Blk.new w _ _, hrt.below al⟩)
  have HR := Lib.hid (hrt.below al)
  have hcc : C ≤ cp i ∧ cp i ≤ 9223372036854775807 := by obtain ⟨cs, _, _, h3, h4, _⟩ := hS.rows i hi; exact ⟨h3, h4⟩
  have HZ := Lib.hid hz
  have q1 : (i : Int) < (R : Int) := by omega
  have q2 : (col : Int) < (C : Int) := by omega
  have q3 : (k : Int) < (R : Int) := by omega
  obtain ⟨bi, hbi⟩ : ∃ bi, bi = b i := ⟨_, rfl⟩
  have HBI := Lib.hid hbi
  rw [← hbi] at ri e0 e1 e2
  clear hS hK hrt hx hz hbi
  go_enter Try.func123, Try.ntmps123
  go_wp2_with fail
  refine (sign_calls _ _ x HR.out).mono ?_
  rintro e w1 ⟨rfl, hb1⟩
  have hb2 := bl_trans al hb1
  have HS1 := Lib.hid (HS.out.below hb2)
  have HK1 := Lib.hid (HK.out.below hb2)
  by_cases h0 : x = 0
  · have g : (x.num.sign == 0) = true := by rw [sign_zero]; exact decide_eq_true h0
    have HX0 := Lib.hid (HX.out.symm.trans h0)
    have HF := Lib.hid hb2
    clear h0 hb1 hb2 al
    go_wp2
    (try simp only [Exit.inBlock, Exit.then])
    refine bodyPost_ret (results_none rfl _ _ _) rfl ?_
    refine ⟨rfl, b i, cp i, ?_, Fr.of_below HF.out, Or.inl rfl⟩
    rw [upd_self, upd_self]
    refine HS1.out.congr fun i' j hi' hj => ?_
    by_cases e : i' = i
    · subst e
      rw [upd_at, lessR, HX0.out]
      split
      · rfl
      · grind
    · rw [upd_ne e]
  · have g : (x.num.sign == 0) = false := by rw [sign_zero]; exact decide_eq_false h0
    have hmk := mk_ratios C hC
    have a0 := HK1.out.cell 0
    have a1 := HS1.out.tb.cell hi
    have al2 := below_alloc0 w1 (.cells (madeCells #[.slice none 0 0, .slice none 0 0, .bool false] (C * 3)) 59)
    obtain ⟨W2, hW2⟩ : ∃ W, W = w1.alloc (.cells (madeCells #[.slice none 0 0, .slice none 0 0, .bool false] (C * 3)) 59) := ⟨_, rfl⟩
    have KN : Blk W2 w1.heap.size 59 (madeCells #[.slice none 0 0, .slice none 0 0, .bool false] (C * 3)) := by rw [hW2]; exact Blk.new _ _ _
    have RB1 := RB.out.below hb1
    have hszb : w.heap.size < w1.heap.size := RB1.lt
    rw [← hW2] at al2
    have HS2 := HS1.out.below al2
    have HK2 := HK1.out.below al2
    have RB2 := RB1.below al2
    have hb3 := bl_trans hb2 al2
    have a2 := HK2.cell 0
    have a3 := HS2.tb.cell hi
    obtain ⟨W3, hrun, hrf, hfr⟩ := copy_ratios W2 bi (cp i) w1.heap.size C (M i) (by rw [HBI.out]; exact HS2.rows i hi) hC 3 KN
    have hgb : ∀ g, g < w1.heap.size → W3.heap[g]? = W2.heap[g]? := fun g hg => hfr.block g (Nat.lt_of_lt_of_le hg al2.size) (by show ¬ g = _; omega)
    rw [← HBI.out] at a1 a3
    rw [hW2] at a2 a3 hrun
    have hne1 : gs ≠ w1.heap.size := by have := HK1.out.lt; omega
    have hne2 : gr ≠ w1.heap.size := by have := HS1.out.tb.lt; omega
    have hne3 : ∀ i, i < R → b i ≠ w1.heap.size := fun i hi => by have := (HS1.out.rows i hi).lt; omega
    have hbl3 : Below w.heap.size w W3 := Below.trans hb3 (hfr.below (by have := hb3.size; omega) (fun g hg => by
      have hg' : g = w1.heap.size := hg
      omega))
    have RB3 : RBox W3 w.heap.size x := by
      obtain ⟨D1, d1, D2, d2, k1, k2⟩ := RB2
      exact ⟨D1, d1, D2, d2, hfr.blk k1 (by show ¬ _ = _; omega), hfr.keep.rt k2⟩
    have H3 := Lib.hid (show HLess w gs gr cap R C b cp M cols stv w.heap.size x w1.heap.size (lessK M i k col col) W3 from
      ⟨hbl3, hfr.blk HK2 hne1, HS2.fr hfr hne2 hne3, RB3, hrf.congr (fun j _ => lessK_start M i k col j), Nat.le_refl _, by omega, by omega, HK.out.lt, HS.out.tb.lt, fun i hi => (HS.out.rows i hi).lt⟩)
    clear h0 hb1 hb2 hb3 k0 ri e0 e1 e2 al al2 hbl3 RB3 RB1 RB2 HS2 HK2 KN hfr hrf hgb HR RB hW2
    obtain ⟨gb, hgb⟩ : ∃ g, g = w.heap.size := ⟨_, rfl⟩
    obtain ⟨gn, hgn⟩ : ∃ g, g = w1.heap.size := ⟨_, rfl⟩
    have HGB := Lib.hid hgb
    have HGN := Lib.hid hgn
    go_wp2
    rw [← hgn, ← hgb]
    rw [← hgn] at H3
    clear a0 a1 a2 a3 hrun hmk hgb hgn
    go_loopw [10] (fun n wr => ∃ kk : Nat, col ≤ kk ∧ kk ≤ C ∧ n = .int .i64 (kk : Int) ∧ HLess w gs gr cap R C b cp M cols stv gb x gn (lessK M i k col kk) wr)
      (fun n _ => C - (intOf n).toNat)
    case atStart => exact ⟨col, Nat.le_refl _, by omega, rfl, by rw [HGB.out]; exact H3.out⟩
    case round =>
      clear H3
      obtain ⟨kk, hk1, hk2, rfl, hH⟩ := hrel
      by_cases hx : kk < C
      · have q4 : (kk : Int) < (C : Int) := by omega
        have hH0 := hH
        obtain ⟨hb1, hKs, hSy, hBx, hRn, hg1, hg2, hg3, hg4, hg5, hg6⟩ := hH0
        obtain ⟨bk, hbk⟩ : ∃ bk, bk = b k := ⟨_, rfl⟩
        obtain ⟨y, hy⟩ : ∃ y, y = M k kk := ⟨_, rfl⟩
        obtain ⟨z, hz⟩ : ∃ z, z = lessK M i k col kk kk := ⟨_, rfl⟩
        have zy := HZ.out k kk hk hx
        have zz : Szq 100000 z := by rw [hz, lessK, if_pos (Nat.le_refl _)]; exact HZ.out i kk hi hx
        have hzM : z = M i kk := by rw [hz, lessK, if_pos (Nat.le_refl _)]
        have hck : C ≤ cp k ∧ cp k ≤ 9223372036854775807 := by obtain ⟨cs, _, _, h3, h4, _⟩ := hSy.rows k hk; exact ⟨h3, h4⟩
        have c0 := hKs.cell 0
        have c1 := hSy.tb.cell hk
        obtain ⟨F1, f1, F2, f2, c2, c3, c4, hrty⟩ := (hSy.rows k hk).cell hx
        obtain ⟨G1, g1, G2, g2, c5, c6, c7, hrtz⟩ := hRn.cell hx
        obtain ⟨D1, d1, D2, d2, KB, hrtx⟩ := hBx
        have c8 := KB.cell 0
        have c9 := KB.cell 1
        have c10 := KB.cell 2
        rw [← hbk] at c1 c2 c3 c4
        rw [← hy] at c2 c3 c4 hrty zy
        rw [← hz] at c5 c6 c7 hrtz
        have CE := Lib.hid (And.intro c0 (And.intro c1 (And.intro c2 (And.intro c3 (And.intro c4 (And.intro c5 (And.intro c6 (And.intro c7 (And.intro c8 (And.intro c9 c10))))))))))
        have TX := Lib.hid hrtx
        have TY := Lib.hid hrty
        have TZ := Lib.hid hrtz
        have HH := Lib.hid hH
        have HY := Lib.hid hy
        have HZM := Lib.hid hzM
        clear hH hb1 hKs hSy hRn KB hrtx hrty hrtz hy hz hzM hbk c5 c6 c7 c8 c9 c10
        go_wp2_with fail
        refine (sign_calls _ _ y TY.out).mono ?_
        rintro e w4 ⟨rfl, hb4⟩
        have CE4 := Lib.hid (ce11 hb4 CE.out)
        have HH4 := Lib.hid (HLess.next hb4 HH.out)
        have TX4 := Lib.hid (TX.out.below hb4)
        have TY4 := Lib.hid (TY.out.below hb4)
        have TZ4 := Lib.hid (TZ.out.below hb4)
        clear c0 c1 c2 c3 c4 CE HH TX TY TZ hb4
        by_cases hy0 : y = 0
        · have gy : (y.num.sign == 0) = true := by rw [sign_zero]; exact decide_eq_true hy0
          have HY0 := Lib.hid (HY.out.symm.trans hy0)
          clear hy0
          go_wp2
          exact ⟨⟨kk + 1, by omega, by omega, by go_num, HH4.out.congr fun j _ => lessK_skip hk1 HY0.out j⟩, by simp [intOf]; omega⟩
        · have gy : (y.num.sign == 0) = false := by rw [sign_zero]; exact decide_eq_false hy0
          have CE5 := Lib.hid (ce11 (bl_drew w4) CE4.out)
          obtain ⟨m0, m1, m2, m3, m4, m5, m6, m7, m8, m9, m10⟩ := CE5.out
          have HH5 := Lib.hid (HLess.next (bl_drew w4) HH4.out)
          have TX5 := Lib.hid (TX4.out.below (bl_drew w4))
          have TY5 := Lib.hid (TY4.out.below (bl_drew w4))
          have TZ5 := Lib.hid (TZ4.out.below (bl_drew w4))
          have HQ := Lib.hid (show upd (lessK M i k col kk) kk (z + -(x * y)) = lessK M i k col (kk + 1) by
            funext j
            rw [HX.out, HY.out, HZM.out]
            exact lessK_set hk1 j)
          clear hy0 CE4 HH4 TX4 TY4 TZ4
          go_wp2_with fail
          go_region_law (first
            | (go_simp; go_at_call 63; (with_reducible refine (times_calls _ _ _ x y TX5.out TY5.out (zx.mono (by omega)) (zy.mono (by omega))).mono ?_); (rintro e w5 ⟨v5, rfl, hv5, hb5⟩); (obtain ⟨n0, n1, n2, n3, n4, n5, n6, n7, n8, n9, n10⟩ := ce11 hb5 CE5.out))
            | (go_simp; go_at_call 76; (with_reducible refine (minus_calls _ _ (x * y) hv5).mono ?_); (rintro e w6 ⟨v6, rfl, hv6, hb6⟩); (obtain ⟨p0, p1, p2, p3, p4, p5, p6, p7, p8, p9, p10⟩ := ce11 (bl_trans hb5 hb6) CE5.out); (have TZ6 := TZ5.out.below (bl_trans hb5 hb6)))
            | (go_simp; go_at_call 74; (with_reducible refine (plus_calls _ _ _ z (-(x * y)) TZ6 hv6 (zz.mono (by omega)) ((szq_neg (szq_mul zx zy)).mono (by omega))).mono ?_); (rintro e w7 ⟨v7, rfl, hv7, hb7⟩); (obtain ⟨P1, p1', P2, p2', rfl, _, _⟩ := hv7.open); (have HH7 := HLess.next (bl_trans (bl_trans hb5 hb6) hb7) HH5.out); (have mf := HH7.2.2.2.2.1.free); (obtain ⟨r0, r1, r2, r3, r4, r5, r6, r7, r8, r9, r10⟩ := ce11 (bl_trans (bl_trans hb5 hb6) hb7) CE5.out))
            )
          all_goals
            have HN := Lib.hid (HLess.put HH7 hx hv7)
            go_wp2
            exact ⟨⟨kk + 1, by omega, by omega, by go_num, by rw [← HQ.out]; exact HN.out⟩, by simp [intOf]; omega⟩
      · obtain rfl : kk = C := by omega
        obtain ⟨hb1, hKs, hSy, hBx, hRn, hg1, hg2, hg3, hg4, hg5, hg6⟩ := hH
        have c0 := hKs.cell 0
        have c1 := hSy.tb.cell hi
        have c2 := hSy.tb.free
        obtain ⟨z1, z2⟩ := hSy.row hi (hRn.congr (fun j hj => lessK_end j hj)) (by omega) (fun j hj _ => by have := hg6 j hj; omega)
        have Z1 := Lib.hid z1
        have Z2 := Lib.hid ((Fr.of_below hb1).trans z2)
        clear hb1 hKs hSy hBx hRn z1 z2
        go_wp2
        go_end0
        exact ⟨rfl, gn, _, Z1.out, Z2.out, Or.inr hg2⟩
end Go.Proofs.Ytdmgceckmciifaa
