/- Lists of fractions: what is handed in, what all makes of it. -/
import Derived.Test.YtdmgceckmciifaaRef22
set_option linter.unusedVariables false
set_option linter.unusedSimpArgs false
namespace Go.Proofs.Ytdmgceckmciifaa
open Go.RowKit

/-- A list of fractions that is handed in: of each its sign and its words. -/
def FL (w : World) (v : Value) (L : List (Bool × List Int × List Int)) : Prop := ∃ A c, v = .slice A L.length c ∧ L.length ≤ c ∧ c ≤ 9223372036854775807 ∧ (0 < L.length → ∃ ad, A = some ad ∧ ∀ i d, L[i]? = some d →
  ∃ v1 v2, w.cell? (ad.add (i * 3)) = some (.bool d.1) ∧ w.cell? ⟨(ad.add (i * 3)).block, (ad.add (i * 3)).off + 1, none⟩ = some v1 ∧ w.cell? ⟨(ad.add (i * 3)).block, (ad.add (i * 3)).off + 2, none⟩ = some v2 ∧ FrIn w (.agg #[.bool d.1, v1, v2]) d.1 d.2.1 d.2.2)
theorem FL.below {w w1 : World} {v : Value} {L : List (Bool × List Int × List Int)} (h : FL w v L) (hb : Below w.heap.size w w1) : FL w1 v L := by
  obtain ⟨A, c, hv, h1, h2, h3⟩ := h
  refine ⟨A, c, hv, h1, h2, fun h0 => ?_⟩
  obtain ⟨ad, ha, hc⟩ := h3 h0
  refine ⟨ad, ha, fun i d hd => ?_⟩
  obtain ⟨v1, v2, k0, k1, k2, hf⟩ := hc i d hd
  exact ⟨v1, v2, cell_below hb k0, cell_below hb k1, cell_below hb k2, hf.below hb⟩
theorem FL.shape {w : World} {v : Value} {L : List (Bool × List Int × List Int)} (h : FL w v L) : ∃ A c, v = .slice A L.length c := by
  obtain ⟨A, c, hv, _⟩ := h
  exact ⟨A, c, hv⟩
/-- What an element counts as. -/
def fqd (d : Bool × List Int × List Int) : Rat := fixq d.1 d.2.1 d.2.2
/-- All are of few words. -/
def FewD (k : Nat) (L : List (Bool × List Int × List Int)) : Prop := ∀ d ∈ L, d.2.1.length ≤ k ∧ d.2.2.length ≤ k
/-- A row of ratios in a block of its own: cells that hold no words. -/
def RL (w : World) (g : Nat) (n : Nat) (qs : List Rat) : Prop := ∃ cs : Array Value, w.heap[g]? = some (.cells cs 59 (0, 0)) ∧ cs.size = 3 * n ∧ (∀ (j : Nat) (x : Value), cs[j]? = some x → ∀ n, x ≠ Value.int .u32 n) ∧
  ∀ (i : Nat) (q : Rat), qs[i]? = some q → ∃ v1 v2, cs[i * 3]? = some v1 ∧ cs[i * 3 + 1]? = some v2 ∧ cs[i * 3 + 2]? = some (.bool (decide (q.num < 0))) ∧ Nm w v1 q.num.natAbs ∧ Nm w v2 q.den
theorem RL.below {w w1 : World} {g n : Nat} {qs : List Rat} (h : RL w g n qs) (hb : Below w.heap.size w w1) : RL w1 g n qs := by
  obtain ⟨cs, h1, h2, h3, h4⟩ := h
  refine ⟨cs, (hb.block g (Array.getElem?_eq_some_iff.1 h1).1).trans h1, h2, h3, fun i q hq => ?_⟩
  obtain ⟨v1, v2, k0, k1, k2, m1, m2⟩ := h4 i q hq
  exact ⟨v1, v2, k0, k1, k2, m1.below hb, m2.below hb⟩
theorem RL.cell {w : World} {g n : Nat} {qs : List Rat} (h : RL w g n qs) {i : Nat} {q : Rat} (hq : qs[i]? = some q) : ∃ A c A2 c2, w.cell? ⟨g, i * 3, none⟩ = some (.slice A (dg q.num.natAbs).length c) ∧ w.cell? ⟨g, i * 3 + 1, none⟩ = some (.slice A2 (dg q.den).length c2) ∧ w.cell? ⟨g, i * 3 + 2, none⟩ = some (.bool (decide (q.num < 0))) ∧ RtV w (.agg #[.slice A (dg q.num.natAbs).length c, .slice A2 (dg q.den).length c2, .bool (decide (q.num < 0))]) q := by
  obtain ⟨cs, h1, h2, h3, h4⟩ := h
  obtain ⟨v1, v2, k0, k1, k2, m1, m2⟩ := h4 i q hq
  obtain ⟨A, c, rfl⟩ := m1.shape
  obtain ⟨A2, c2, rfl⟩ := m2.shape
  exact ⟨A, c, A2, c2, by rw [cell_of_row w g _ cs _ _ h1, k0], by rw [cell_of_row w g _ cs _ _ h1, k1], by rw [cell_of_row w g _ cs _ _ h1, k2], _, _, rfl, m1, m2⟩
theorem RL.free {w : World} {g n : Nat} {qs : List Rat} (h : RL w g n qs) (j : Nat) : w.frozen? ⟨g, j, none⟩ = false := by
  obtain ⟨cs, h1, _⟩ := h
  exact frozen_of_row w g j cs _ h1
theorem RL.lt {w : World} {g n : Nat} {qs : List Rat} (h : RL w g n qs) : g < w.heap.size := by
  obtain ⟨cs, h1, _⟩ := h
  exact (Array.getElem?_eq_some_iff.1 h1).1
/-- A place that is there. -/
theorem RL.there {w : World} {g n : Nat} {qs : List Rat} (h : RL w g n qs) {j : Nat} (hj : j < 3 * n) : ∃ x, w.cell? ⟨g, j, none⟩ = some x := by
  obtain ⟨cs, h1, h2, _⟩ := h
  exact ⟨_, by rw [cell_of_row w g j cs _ _ h1]; exact Array.getElem?_eq_getElem (by omega)⟩
/-- One more ratio is stored. -/
theorem RL.set {w : World} {g n : Nat} {qs : List Rat} (h : RL w g n qs) (hn : qs.length < n) {q : Rat} {A A2 : Option Addr} {c c2 : Nat} (hq : RtV w (.agg #[.slice A (dg q.num.natAbs).length c, .slice A2 (dg q.den).length c2, .bool (decide (q.num < 0))]) q) :
    RL (((w.setCell ⟨g, qs.length * 3, none⟩ (.slice A (dg q.num.natAbs).length c)).setCell ⟨g, qs.length * 3 + 1, none⟩ (.slice A2 (dg q.den).length c2)).setCell ⟨g, qs.length * 3 + 2, none⟩ (.bool (decide (q.num < 0)))) g n (qs ++ [q]) := by
  obtain ⟨cs, h1, h2, h3, h4⟩ := h
  obtain ⟨v1, v2, hv, m1, m2⟩ := hq
  obtain ⟨rfl, rfl⟩ : Value.slice A (dg q.num.natAbs).length c = v1 ∧ Value.slice A2 (dg q.den).length c2 = v2 := by simpa using hv
  have s1 := heap_setCell_same w g (qs.length * 3) cs 59 (.slice A (dg q.num.natAbs).length c) h1
  have s2 := heap_setCell_same _ g (qs.length * 3 + 1) _ 59 (.slice A2 (dg q.den).length c2) s1
  have s3 := heap_setCell_same _ g (qs.length * 3 + 2) _ 59 (.bool (decide (q.num < 0))) s2
  have keep : ∀ {v : Value} {m : Nat}, Nm w v m → Nm (((w.setCell ⟨g, qs.length * 3, none⟩ (.slice A (dg q.num.natAbs).length c)).setCell ⟨g, qs.length * 3 + 1, none⟩ (.slice A2 (dg q.den).length c2)).setCell ⟨g, qs.length * 3 + 2, none⟩ (.bool (decide (q.num < 0)))) v m := fun {v m} k => by
    have t0 : w.cell? ⟨g, qs.length * 3, none⟩ = some cs[qs.length * 3] := by rw [cell_of_row w g _ cs _ _ h1]; exact Array.getElem?_eq_getElem (by omega)
    have k1 := Nm.set k t0 (h3 _ _ (Array.getElem?_eq_getElem (by omega))) (.slice A (dg q.num.natAbs).length c)
    have t1 : (w.setCell ⟨g, qs.length * 3, none⟩ (.slice A (dg q.num.natAbs).length c)).cell? ⟨g, qs.length * 3 + 1, none⟩ = some cs[qs.length * 3 + 1] := by
      rw [World.cell?_setCell_other _ _ _ _ (by simp), cell_of_row w g _ cs _ _ h1]; exact Array.getElem?_eq_getElem (by omega)
    have k2 := Nm.set k1 t1 (h3 _ _ (Array.getElem?_eq_getElem (by omega))) (.slice A2 (dg q.den).length c2)
    have t2 : ((w.setCell ⟨g, qs.length * 3, none⟩ (.slice A (dg q.num.natAbs).length c)).setCell ⟨g, qs.length * 3 + 1, none⟩ (.slice A2 (dg q.den).length c2)).cell? ⟨g, qs.length * 3 + 2, none⟩ = some cs[qs.length * 3 + 2] := by
      rw [World.cell?_setCell_other _ _ _ _ (by simp), World.cell?_setCell_other _ _ _ _ (by simp), cell_of_row w g _ cs _ _ h1]; exact Array.getElem?_eq_getElem (by omega)
    exact Nm.set k2 t2 (h3 _ _ (Array.getElem?_eq_getElem (by omega))) _
  refine ⟨_, s3, by simpa using h2, fun j x hx => ?_, fun i r hr => ?_⟩
  · simp only [Array.getElem?_setIfInBounds] at hx
    split at hx
    · split at hx
      · obtain rfl := Option.some.inj hx; intro n hh; cases hh
      · cases hx
    · split at hx
      · split at hx
        · obtain rfl := Option.some.inj hx; intro n hh; cases hh
        · cases hx
      · split at hx
        · split at hx
          · obtain rfl := Option.some.inj hx; intro n hh; cases hh
          · cases hx
        · exact h3 j x hx
  · rcases Nat.lt_or_ge i qs.length with hi | hi
    · rw [List.getElem?_append_left hi] at hr
      obtain ⟨u1, u2, k0, k1, k2, n1, n2⟩ := h4 i r hr
      refine ⟨u1, u2, ?_, ?_, ?_, keep n1, keep n2⟩
      · rw [Array.getElem?_setIfInBounds_ne (by omega), Array.getElem?_setIfInBounds_ne (by omega), Array.getElem?_setIfInBounds_ne (by omega)]; exact k0
      · rw [Array.getElem?_setIfInBounds_ne (by omega), Array.getElem?_setIfInBounds_ne (by omega), Array.getElem?_setIfInBounds_ne (by omega)]; exact k1
      · rw [Array.getElem?_setIfInBounds_ne (by omega), Array.getElem?_setIfInBounds_ne (by omega), Array.getElem?_setIfInBounds_ne (by omega)]; exact k2
    · obtain rfl : i = qs.length := by
        have := (List.getElem?_eq_some_iff.1 hr).1
        simp at this
        omega
      obtain rfl : q = r := by simpa using hr
      refine ⟨_, _, ?_, ?_, ?_, keep m1, keep m2⟩
      · rw [Array.getElem?_setIfInBounds_ne (by omega), Array.getElem?_setIfInBounds_ne (by omega), Array.getElem?_setIfInBounds_self_of_lt (by omega)]
      · rw [Array.getElem?_setIfInBounds_ne (by omega), Array.getElem?_setIfInBounds_self_of_lt (by simp; omega)]
      · rw [Array.getElem?_setIfInBounds_self_of_lt (by simp; omega)]
theorem info_ratio : (Try.prog.info? 59).map (fun i => (i.zero, i.size, i.bytes)) = some (some (.agg #[.slice none 0 0, .slice none 0 0, .bool false]), 3, 56) := by kernel_rfl
/-- A new row of ratios. -/
theorem mk_ratios (n : Nat) (h : n ≤ 4096) (w : World) : (Instr.makeSlice 79 (.int .i64 (n : Int)) (.int .i64 (n : Int))).run Try.prog w = .ok (.slice (some ⟨w.heap.size, 0, none⟩) n n) (w.alloc (.cells (madeCells #[.slice none 0 0, .slice none 0 0, .bool false] (n * 3)) 59)) := by
  obtain ⟨i0, hi, hz0, hz1, hz2⟩ := info_parts info_ratio
  have hr := run_make (P := Try.prog) w 79 59 i0 _ Try.underlying79 hi hz0 .i64 .i64 (n : Int) (n : Int) (by omega) (by omega) (by rw [hz2]; omega) (by omega)
  simp only [Int.toNat_natCast, hz1] at hr
  exact hr
theorem RL.new (w : World) (n : Nat) : RL (w.alloc (.cells (madeCells #[.slice none 0 0, .slice none 0 0, .bool false] (n * 3)) 59)) w.heap.size n [] := by
  refine ⟨_, heap_alloc_new w _, by rw [size_madeCells]; omega, fun j x hx => ?_, fun i q hq => by simp at hq⟩
  simp only [madeCells, Array.getElem?_map, Array.getElem?_range] at hx
  split at hx
  · simp only [Option.map_some, Option.some.injEq] at hx
    subst hx
    have h3 : j % 3 = 0 ∨ j % 3 = 1 ∨ j % 3 = 2 := by omega
    intro n
    show (#[Value.slice none 0 0, .slice none 0 0, .bool false] : Array Value)[j % 3]! ≠ _
    rcases h3 with h | h | h <;> rw [h] <;> intro hh <;> cases hh
  · cases hx
theorem take_map_snoc {L : List (Bool × List Int × List Int)} {k : Nat} {d : Bool × List Int × List Int} (h : L[k]? = some d) : (L.take k).map fqd ++ [fixq d.1 d.2.1 d.2.2] = (L.take (k + 1)).map fqd := by
  rw [List.take_add_one, h, List.map_append]; rfl
set_option maxRecDepth 100000 in
theorem all_calls (w : World) (va : Value) (L : List (Bool × List Int × List Int)) (ha : FL w va L) (hL : L.length ≤ 4096) (hf : FewD 2048 L) :
    Calls Try.prog 87 #[va] w fun e w' => ∃ g, e = .returned (.slice (some ⟨g, 0, none⟩) L.length L.length) ∧ w.heap.size ≤ g ∧ RL w' g L.length (L.map fqd) ∧ Below w.heap.size w w' := by
  obtain ⟨A, c, rfl, hl, hc, hr⟩ := ha
  have hmk := mk_ratios L.length hL
  go_enter Try.func87, Try.ntmps87
  go_wp2
  go_loopw [11] (fun i wr => ∃ k : Nat, k ≤ L.length ∧ i = .int .i64 (k : Int) ∧ RL wr w.heap.size L.length ((L.take k).map fqd) ∧ Below w.heap.size w wr)
    (fun i _ => L.length - (intOf i).toNat)
  case atStart => exact ⟨0, by omega, rfl, RL.new _ _, (Below.refl _ _).alloc (Nat.le_refl _) _⟩
  case round =>
    clear hmk
    obtain ⟨k, hk, rfl, hRL, hbl⟩ := hrel
    have HR := Lib.hid hRL
    have HB := Lib.hid hbl
    by_cases hx : k < L.length
    · obtain ⟨ad, rfl, hcell⟩ := hr (by omega)
      obtain ⟨d, hd⟩ : ∃ d, L[k]? = some d := ⟨_, List.getElem?_eq_getElem hx⟩
      obtain ⟨v1, v2, e0, e1, e2, hfr⟩ := hcell k d hd
      have few := hf d (List.mem_of_getElem? hd)
      obtain ⟨A1, c1, A2, c2, hsh, _⟩ := FrIn.shape hfr
      obtain ⟨rfl, rfl⟩ : v1 = .slice A1 d.2.1.length c1 ∧ v2 = .slice A2 d.2.2.length c2 := by simpa using hsh
      replace e0 := cell_below hbl e0
      replace e1 := cell_below hbl e1
      replace e2 := cell_below hbl e2
      have HD := Lib.hid hd
      have al := below_alloc0 wr (.cells #[.bool d.1, .slice A1 d.2.1.length c1, .slice A2 d.2.2.length c2] 24)
      have K := Blk.new wr 24 #[.bool d.1, .slice A1 d.2.1.length c1, .slice A2 d.2.2.length c2]
      have k0 := K.cell 0
      have k1 := K.cell 1
      have k2 := K.cell 2
      clear hcell hr hRL hbl hd hsh
      go_wp2_with fail
      refine (taken_calls _ _ d.1 d.2.1 d.2.2 ((hfr.below HB.out).below al) (by omega)).mono ?_
      rintro e w2 ⟨v, rfl, hvt, hb2⟩
      obtain ⟨B1, b1, B2, b2, rfl, n1, n2⟩ := hvt.open
      have HR2 := Lib.hid ((HR.out.below al).below hb2)
      have HB2 := Lib.hid (bl_trans (bl_trans HB.out al) hb2)
      have HVT := Lib.hid hvt
      obtain ⟨x0, t0⟩ := HR2.out.there (j := k * 3) (by omega)
      obtain ⟨x1, t1⟩ := HR2.out.there (j := k * 3 + 1) (by omega)
      obtain ⟨x2, t2⟩ := HR2.out.there (j := k * 3 + 2) (by omega)
      have f := HR2.out.free
      clear k0 k1 k2 K al hvt n1 n2 e0 e1 e2 hb2
      go_wp2
      have hlen : ((L.take k).map fqd).length = k := by simp; omega
      have hset := RL.set HR2.out (by rw [hlen]; exact hx) (q := fixq d.1 d.2.1 d.2.2) HVT.out
      rw [hlen, take_map_snoc HD.out] at hset
      exact ⟨⟨k + 1, by omega, by go_num, hset, ((HB2.out.setCell (Nat.le_refl _) _).setCell (Nat.le_refl _) _).setCell (Nat.le_refl _) _⟩, by simp [intOf]; omega⟩
    · obtain rfl : k = L.length := by omega
      have hR2 := HR.out
      rw [List.take_length] at hR2
      have HR2 := Lib.hid hR2
      clear hr hRL hbl hR2
      go_wp2
      go_ret
      exact ⟨_, rfl, Nat.le_refl _, HR2.out, HB.out⟩
theorem Nm.three {w : World} {v : Value} {n B : Nat} (h : Nm w v n) {x0 x1 x2 : Value} (h0 : w.cell? ⟨B, 0, none⟩ = some x0) (h1 : w.cell? ⟨B, 1, none⟩ = some x1) (h2 : w.cell? ⟨B, 2, none⟩ = some x2)
    (n0 : ∀ n, x0 ≠ .int .u32 n) (n1 : ∀ n, x1 ≠ .int .u32 n) (n2 : ∀ n, x2 ≠ .int .u32 n) (y0 y1 y2 : Value) : Nm (((w.setCell ⟨B, 0, none⟩ y0).setCell ⟨B, 1, none⟩ y1).setCell ⟨B, 2, none⟩ y2) v n := three_keep h h0 h1 h2 n0 n1 n2 y0 y1 y2
/-- Three stores into another struct. -/
theorem RL.three {w : World} {g n B : Nat} {qs : List Rat} (h : RL w g n qs) (hg : g ≠ B) {x0 x1 x2 : Value} (h0 : w.cell? ⟨B, 0, none⟩ = some x0) (h1 : w.cell? ⟨B, 1, none⟩ = some x1) (h2 : w.cell? ⟨B, 2, none⟩ = some x2)
    (n0 : ∀ n, x0 ≠ .int .u32 n) (n1 : ∀ n, x1 ≠ .int .u32 n) (n2 : ∀ n, x2 ≠ .int .u32 n) (y0 y1 y2 : Value) : RL (((w.setCell ⟨B, 0, none⟩ y0).setCell ⟨B, 1, none⟩ y1).setCell ⟨B, 2, none⟩ y2) g n qs := by
  obtain ⟨cs, k1, k2, k3, k4⟩ := h
  refine ⟨cs, (((heap_setCell_other _ ⟨B, 2, none⟩ g y2 hg).trans (heap_setCell_other _ ⟨B, 1, none⟩ g y1 hg)).trans (heap_setCell_other _ ⟨B, 0, none⟩ g y0 hg)).trans k1, k2, k3, fun i q hq => ?_⟩
  obtain ⟨v1, v2, t0, t1, t2, m1, m2⟩ := k4 i q hq
  exact ⟨v1, v2, t0, t1, t2, m1.three h0 h1 h2 n0 n1 n2 _ _ _, m2.three h0 h1 h2 n0 n1 n2 _ _ _⟩
/-- A ratio in a box of its own. -/
def RBox (w : World) (g : Nat) (q : Rat) : Prop := ∃ A c A2 c2, Blk w g 59 #[.slice A (dg q.num.natAbs).length c, .slice A2 (dg q.den).length c2, .bool (decide (q.num < 0))] ∧ RtV w (.agg #[.slice A (dg q.num.natAbs).length c, .slice A2 (dg q.den).length c2, .bool (decide (q.num < 0))]) q
theorem RBox.below {w w1 : World} {g : Nat} {q : Rat} (h : RBox w g q) (hb : Below w.heap.size w w1) : RBox w1 g q := by
  obtain ⟨A, c, A2, c2, h1, h2⟩ := h
  exact ⟨A, c, A2, c2, h1.below hb, h2.below hb⟩
theorem RBox.lt {w : World} {g : Nat} {q : Rat} (h : RBox w g q) : g < w.heap.size := by
  obtain ⟨A, c, A2, c2, h1, h2⟩ := h
  exact h1.lt
theorem RBox.set {w : World} {g : Nat} {q : Rat} {x0 x1 x2 : Value} (h : Blk w g 59 #[x0, x1, x2]) (n0 : ∀ n, x0 ≠ .int .u32 n) (n1 : ∀ n, x1 ≠ .int .u32 n) (n2 : ∀ n, x2 ≠ .int .u32 n) {A A2 : Option Addr} {c c2 : Nat}
    (hq : RtV w (.agg #[.slice A (dg q.num.natAbs).length c, .slice A2 (dg q.den).length c2, .bool (decide (q.num < 0))]) q) :
    RBox (((w.setCell ⟨g, 0, none⟩ (.slice A (dg q.num.natAbs).length c)).setCell ⟨g, 1, none⟩ (.slice A2 (dg q.den).length c2)).setCell ⟨g, 2, none⟩ (.bool (decide (q.num < 0)))) g q := by
  obtain ⟨v1, v2, hv, m1, m2⟩ := hq
  exact ⟨A, c, A2, c2, blk3 h _ _ _, v1, v2, hv, m1.three (h.cell 0) (h.cell 1) (h.cell 2) n0 n1 n2 _ _ _, m2.three (h.cell 0) (h.cell 1) (h.cell 2) n0 n1 n2 _ _ _⟩
/-- The first k of a list, summed up. -/
def psum (qs : List Rat) (k : Nat) : Rat := (qs.take k).foldl (· + ·) 0
theorem psum_zero (qs : List Rat) : psum qs 0 = 0 := rfl
theorem psum_succ {qs : List Rat} {k : Nat} {q : Rat} (h : qs[k]? = some q) : psum qs (k + 1) = psum qs k + q := by
  unfold psum
  rw [List.take_add_one, h, List.foldl_append]
  rfl
theorem psum_szq {qs : List Rat} {m : Nat} (h : ∀ q ∈ qs, Szq m q) : ∀ k, Szq ((m + 1) * k + 1) (psum qs k) := by
  intro k
  induction k with
  | zero => rw [psum_zero]; exact szq_zero _ (by omega)
  | succ k ih =>
    by_cases hk : k < qs.length
    · have hq : qs[k]? = some qs[k] := List.getElem?_eq_getElem hk
      rw [psum_succ hq]
      refine (szq_add ih (h _ (List.getElem_mem hk))).mono ?_
      rw [Nat.mul_add]; omega
    · unfold psum
      rw [List.take_of_length_le (by omega)]
      unfold psum at ih
      rw [List.take_of_length_le (by omega)] at ih
      refine ih.mono ?_
      rw [Nat.mul_add]; omega
theorem few_szq {L : List (Bool × List Int × List Int)} {m : Nat} (hm : 1 ≤ m) (h : FewD m L) (hw : ∀ d ∈ L, Wd d.2.1 ∧ Wd d.2.2) : ∀ q ∈ L.map fqd, Szq m q := by
  intro q hq
  obtain ⟨d, hd, rfl⟩ := List.mem_map.1 hq
  exact szq_fix (hw d hd).1 (hw d hd).2 (h d hd).1 (h d hd).2 hm
theorem FL.wd {w : World} {v : Value} {L : List (Bool × List Int × List Int)} (h : FL w v L) : ∀ d ∈ L, Wd d.2.1 ∧ Wd d.2.2 := by
  intro d hd
  obtain ⟨A, c, _, _, _, h3⟩ := h
  obtain ⟨i, hi, rfl⟩ := List.mem_iff_getElem.1 hd
  obtain ⟨ad, _, hc⟩ := h3 (by omega)
  obtain ⟨v1, v2, _, _, _, hf⟩ := hc i _ (List.getElem?_eq_getElem hi)
  exact hf.wd
set_option maxRecDepth 100000 in
theorem sum_calls (w : World) (va : Value) (L : List (Bool × List Int × List Int)) (ha : FL w va L) (hL : L.length ≤ 64) (hf : FewD 16 L) :
    Calls Try.prog 41 #[va] w (FrPost (psum (L.map fqd) L.length) w) := by
  have hz := psum_szq (few_szq (by omega) hf ha.wd)
  have hsh : Short (psum (L.map fqd) L.length) := (hz L.length).short (by omega)
  have hzq := few_szq (by omega) hf ha.wd
  have HZ := Lib.hid hz
  have HZQ := Lib.hid hzq
  have HSH := Lib.hid hsh
  have hf2 : FewD 2048 L := fun d hd => ⟨Nat.le_trans (hf d hd).1 (by omega), Nat.le_trans (hf d hd).2 (by omega)⟩
  have HF := Lib.hid hf2
  obtain ⟨A, c, rfl⟩ := ha.shape
  have hbl0 := below_alloc0 w (.cells #[.bool false, .slice none 0 0, .slice none 0 0] 24)
  have K := Blk.new w 24 #[.bool false, .slice none 0 0, .slice none 0 0]
  clear hz hzq hsh hf hf2
  go_enter Try.func41, Try.ntmps41
  go_wp2_with fail
  refine (whole_calls _ 0 (by omega) (by omega)).mono ?_
  rintro e w1 ⟨v, rfl, hv0, hb1⟩
  obtain ⟨s0, hs0⟩ : ∃ s : Rat, s = psum (L.map fqd) 0 := ⟨_, rfl⟩
  have HS0 := Lib.hid hs0
  have hv1 : RtV w1 v s0 := by rw [hs0]; exact hv0
  obtain ⟨B1, b1, B2, b2, rfl, _, _⟩ := hv1.open
  have al := below_alloc0 w1 (.cells #[.slice B1 (dg s0.num.natAbs).length b1, .slice B2 (dg s0.den).length b2, .bool (decide (s0.num < 0))] 59)
  have RB := Lib.hid (show RBox (w1.alloc (.cells #[.slice B1 (dg s0.num.natAbs).length b1, .slice B2 (dg s0.den).length b2, .bool (decide (s0.num < 0))] 59)) w1.heap.size s0 from ⟨_, _, _, _, Blk.new w1 _ _, hv1.below al⟩)
  have hbw := bl_trans (bl_trans hbl0 hb1) al
  have K1 := Lib.hid ((K.below hb1).below al)
  have hlt1 : w.heap.size < w1.heap.size := (K.below hb1).lt
  clear hs0 hv0 hv1 K hbl0 hb1 al
  go_wp2_with fail
  refine (all_calls _ _ L (ha.below hbw) (by omega) HF.out).mono ?_
  rintro e w2 ⟨gR, rfl, hgR, hRL, hb2⟩
  have hgs : w1.heap.size < gR := by
    have := RB.out.lt
    omega
  have RB2 := Lib.hid (RB.out.below hb2)
  have RL2 := Lib.hid hRL
  have K2 := Lib.hid (K1.out.below hb2)
  have hbw2 := bl_trans hbw hb2
  obtain ⟨gS, hgS⟩ : ∃ g, g = w1.heap.size := ⟨_, rfl⟩
  rw [← hgS] at RB2 hgs hlt1
  clear RB K1 hbw hb2 hRL hgR
  go_wp2
  rw [← hgS]
  clear hgS
  go_loopw [10] (fun i wr => ∃ k : Nat, k ≤ L.length ∧ i = .int .i64 (k : Int) ∧ RBox wr gS (psum (L.map fqd) k) ∧ RL wr gR L.length (L.map fqd) ∧ Blk wr w.heap.size 24 #[.bool false, .slice none 0 0, .slice none 0 0] ∧ Below w.heap.size w wr)
    (fun i _ => L.length - (intOf i).toNat)
  case atStart => exact ⟨0, by omega, rfl, by rw [← HS0.out]; exact RB2.out, RL2.out, K2.out, hbw2⟩
  case round =>
    clear RB2 RL2 K2 hbw2 HS0
    obtain ⟨k, hk, rfl, hRB, hRL, hK, hbl⟩ := hrel
    obtain ⟨D1, d1, D2, d2, KS, hsr⟩ := hRB
    have HRL := Lib.hid hRL
    have HK := Lib.hid hK
    have HBL := Lib.hid hbl
    by_cases hx : k < L.length
    · obtain ⟨q, hq⟩ : ∃ q, (L.map fqd)[k]? = some q := ⟨_, List.getElem?_eq_getElem (by simpa using hx)⟩
      obtain ⟨E1, x1, E2, x2, e0, e1, e2, hrt⟩ := hRL.cell hq
      have hps := psum_succ hq
      have hq16 := HZQ.out q (List.mem_of_getElem? hq)
      obtain ⟨p0, hp0⟩ : ∃ p, p = psum (L.map fqd) k := ⟨_, rfl⟩
      have hp16 := HZ.out k
      rw [← hp0] at KS hsr hps hp16
      have HPS := Lib.hid hps.symm
      have al := below_alloc0 wr (.cells #[.slice E1 (dg q.num.natAbs).length x1, .slice E2 (dg q.den).length x2, .bool (decide (q.num < 0))] 59)
      have K5 := Blk.new wr 59 #[.slice E1 (dg q.num.natAbs).length x1, .slice E2 (dg q.den).length x2, .bool (decide (q.num < 0))]
      have KS2 := KS.below al
      have t0 := K5.cell 0
      have t1 := K5.cell 1
      have t2 := K5.cell 2
      have u0 := KS2.cell 0
      have u1 := KS2.cell 1
      have u2 := KS2.cell 2
      have hsr2 := Lib.hid (hsr.below al)
      have hrt2 := Lib.hid (hrt.below al)
      have hgS2 : gS < wr.heap.size := KS.lt
      clear hq hps hp0 hK hbl hRL hsr hrt KS K5
      go_wp2_with fail
      refine (plus_calls _ _ _ p0 q hsr2.out hrt2.out (hp16.mono (by have := Nat.mul_le_mul_left 17 (show k ≤ 64 by omega); omega)) (hq16.mono (by omega))).mono ?_
      rintro e w3 ⟨v3, rfl, hv3, hb3⟩
      rw [HPS.out] at hv3
      obtain ⟨C1, y1, C2, y2, rfl, _, _⟩ := hv3.open
      have KS3 := KS2.below hb3
      have u0' := KS3.cell 0
      have u1' := KS3.cell 1
      have u2' := KS3.cell 2
      have uf := KS3.free
      have HV3 := Lib.hid hv3
      have HRL3 := Lib.hid ((HRL.out.below al).below hb3)
      have HK3 := Lib.hid ((HK.out.below al).below hb3)
      have HB3 := Lib.hid (bl_trans (bl_trans HBL.out al) hb3)
      clear t0 t1 t2 u0 u1 u2 e0 e1 e2 KS2 hsr2 hrt2 hv3 hb3 al
      go_wp2
      refine ⟨⟨k + 1, by omega, by go_num, RBox.set KS3 (slne _ _ _) (slne _ _ _) (boolne _) HV3.out, HRL3.out.three (by omega) u0' u1' u2' (slne _ _ _) (slne _ _ _) (boolne _) _ _ _, ((HK3.out.other _ _ (by simp; omega)).other _ _ (by simp; omega)).other _ _ (by simp; omega), three_below HB3.out (by omega) _ _ _⟩, by simp [intOf]; omega⟩
    · obtain rfl : k = L.length := by omega
      have k0 := KS.cell 0
      have k1 := KS.cell 1
      have k2 := KS.cell 2
      obtain ⟨p0, hp0⟩ : ∃ p, p = psum (L.map fqd) L.length := ⟨_, rfl⟩
      rw [← hp0] at KS hsr k0 k1 k2 HSH
      have HSR := Lib.hid hsr
      have HP0 := Lib.hid hp0
      clear hK hbl hRL hsr hp0 HZ
      go_wp2_with fail
      refine (told_calls _ _ p0 HSR.out HSH.out).mono ?_
      rintro e w3 ⟨v3, rfl, hfr, hb3⟩
      obtain ⟨C1, y1, C2, y2, rfl, r1, r2, r3, r4⟩ := FrIn.shape hfr
      have K3 := HK.out.below hb3
      have m0 := K3.cell 0
      have m1 := K3.cell 1
      have m2 := K3.cell 2
      have f1 := K3.free
      have hbw := bl_trans HBL.out hb3
      clear k0 k1 k2 KS hfr hb3
      go_wp2
      exact bodyPost_ret (results_cell_row rfl _ _ w.heap.size 24 _ (0, 0) _ rfl (blk3 K3 _ _ _) Try.underlying24 rfl (by kernel_rfl)) rfl ⟨_, rfl, by rw [← HP0.out]; exact ⟨_, _, rfl, r1.three m0 m1 m2 (boolne _) (slne _ _ _) (slne _ _ _) _ _ _, r2.three m0 m1 m2 (boolne _) (slne _ _ _) (slne _ _ _) _ _ _, r3, r4⟩, three_below hbw (Nat.le_refl _) _ _ _⟩

/-- A row of one's own whose cells hold no words, the spare ones neither. -/
def NoW (w : World) (v : Value) : Prop := ∀ g, v.ownBlock = some g → ∃ cur e, w.heap[g]? = some (.cells cur e (0, 0)) ∧ ∀ (j : Nat) (x : Value), cur[j]? = some x → ∀ n, x ≠ Value.int .u32 n
theorem NoW.nil (w : World) : NoW w (.slice none 0 0) := fun g h => by cases h
theorem NoW.below {w w1 : World} {v : Value} (h : NoW w v) (hb : Below w.heap.size w w1) : NoW w1 v := by
  intro g hg
  obtain ⟨cur, e, h1, h2⟩ := h g hg
  exact ⟨cur, e, (hb.block g (Array.getElem?_eq_some_iff.1 h1).1).trans h1, h2⟩
/-- What reads as words reads so still. -/
def KeepW (w w' : World) : Prop := ∀ (v : Value) (l : List Int), RdI .u32 w v l → RdI .u32 w' v l
theorem KeepW.of_below {w w' : World} (h : Below w.heap.size w w') : KeepW w w' := fun v l k => k.below h
theorem KeepW.fr {w w' : World} (h : KeepW w w') {v : Value} {neg : Bool} {ln ld : List Int} (k : FrIn w v neg ln ld) : FrIn w' v neg ln ld := by
  obtain ⟨v1, v2, hv, h1, h2, h3, h4⟩ := k
  exact ⟨v1, v2, hv, h _ _ h1, h _ _ h2, h3, h4⟩
/-- append of structs that hold no words, to a row of one's own. -/
theorem run_append_structs {P : Program} (w : World) (base : Nat) (t ty e : TypeId) (i : TypeInfo) (z : Value) (size bytes : Nat) (ht : P.underlying t = some (.slice e)) (hi : P.info? e = some i) (hz : i.zero = some z)
    (hsize : i.size = size) (hby : i.bytes = bytes) (hzs : z.cells.size = size) (hsz : 0 < size) (hzn : ∀ (j : Nat) (x : Value), z.cells[j]? = some x → ∀ n, x ≠ Value.int .u32 n)
    (v : Value) (n : Nat) (xs : List Value) (hown : w.ownsRow base e size v n xs) (hno : NoW w v)
    (a : Addr) (c : Nat) (news : List Value) (hl : news.length = size) (hnews : ∀ j u, news[j]? = some u → w.cell? (a.add j) = some u) (h1 : ∀ u ∈ news, u.oneCell' = true) (h1n : ∀ u ∈ news, ∀ n, u ≠ Value.int .u32 n) (hxn : ∀ u ∈ xs, ∀ n, u ≠ Value.int .u32 n)
    (h63 : n + 1 ≤ maxLen) (hbytes : (n + 1) * bytes ≤ 140737488355328) (hbase : base ≤ w.heap.size) :
    ∃ v' w', (Builtin.append_ #[t, t] ty #[v, .slice (some a) 1 c]).run P w = .ok v' w' ∧ w'.ownsRow base e size v' (n + 1) (xs ++ news) ∧ Below base w w' ∧ NoW w' v' ∧ KeepW w w' := by
  have hlen : (xs ++ news).length = (n + 1) * size := by rw [List.length_append, hown.1, hl, Nat.add_mul, Nat.one_mul]
  have hm : n + 1 ≤ 9223372036854775807 := by simp only [maxLen] at h63; omega
  have hall : ∀ u ∈ xs ++ news, ∀ n, u ≠ Value.int .u32 n := fun u hu => by
    rcases List.mem_append.1 hu with h | h
    · exact hxn u h
    · exact h1n u h
  have grown : ∀ old : Nat, old < n + 1 →
      (w.drew.alloc (.cells (xs.toArray ++ news.toArray ++ Builtin.zeroCells z.cells (grownCap w (n + 1) old e - (n + 1))) e)).ownsRow base e size (.slice (some ⟨w.heap.size, 0, none⟩) (n + 1) (grownCap w (n + 1) old e)) (n + 1) (xs ++ news) ∧
      Below base w (w.drew.alloc (.cells (xs.toArray ++ news.toArray ++ Builtin.zeroCells z.cells (grownCap w (n + 1) old e - (n + 1))) e)) ∧
      NoW (w.drew.alloc (.cells (xs.toArray ++ news.toArray ++ Builtin.zeroCells z.cells (grownCap w (n + 1) old e - (n + 1))) e)) (.slice (some ⟨w.heap.size, 0, none⟩) (n + 1) (grownCap w (n + 1) old e)) ∧
      KeepW w (w.drew.alloc (.cells (xs.toArray ++ news.toArray ++ Builtin.zeroCells z.cells (grownCap w (n + 1) old e - (n + 1))) e)) := by
    intro old ho
    have hge := grownCap_ge w (n + 1) old e
    have hcm := grownCap_le_maxLen w (n + 1) old e h63
    have hbl : Below w.heap.size w (w.drew.alloc (.cells (xs.toArray ++ news.toArray ++ Builtin.zeroCells z.cells (grownCap w (n + 1) old e - (n + 1))) e)) := bl_trans (bl_drew w) (below_alloc0 _ _)
    have hnew := heap_alloc_new w.drew (.cells (xs.toArray ++ news.toArray ++ Builtin.zeroCells z.cells (grownCap w (n + 1) old e - (n + 1))) e)
    refine ⟨⟨hlen, .inr ⟨w.heap.size, _, _, rfl, hbase, hnew, hge, hcm, ?_, ?_⟩⟩, hbl.mono hbase, ?_, KeepW.of_below hbl⟩
    · simp only [Array.size_append, List.size_toArray, size_zeroCells, hzs, hown.1, hl]
      rw [← Nat.succ_mul, ← Nat.add_mul]
      congr 1
      omega
    · simp only [Array.toList_append, List.append_assoc]
      rw [← List.append_assoc, ← hlen]
      exact List.take_left
    · intro g hg
      obtain rfl : w.heap.size = g := by simpa [Value.ownBlock] using hg
      refine ⟨_, _, hnew, fun j x hx => ?_⟩
      have hx' := Array.mem_of_getElem? hx
      rw [Array.mem_append, Array.mem_append] at hx'
      rcases hx' with (h | h) | h
      · exact hxn x (by simpa using h)
      · exact h1n x (by simpa using h)
      · obtain ⟨k, hk⟩ := Array.mem_iff_getElem?.1 h
        simp only [Builtin.zeroCells, Array.getElem?_map, Array.getElem?_range] at hk
        split at hk
        · simp only [Option.map_some, Option.some.injEq] at hk
          have hlt : k % z.cells.size < z.cells.size := Nat.mod_lt _ (by omega)
          refine hzn (k % z.cells.size) x ?_
          rw [← hk, getElem!_pos z.cells (k % z.cells.size) hlt, Array.getElem?_eq_getElem hlt]
        · cases hk
  have hl1 : news.length = 1 * i.size := by rw [hl, hsize, Nat.one_mul]
  rcases hown.2 with ⟨rfl, rfl⟩ | ⟨g, cap, cur, rfl, hbg, hg, hnc, hcm, hcs, htake⟩
  · have hx : xs = [] := List.eq_nil_of_length_eq_zero (by simpa using hown.1)
    subst hx
    have hr := run_append_nil (P := P) w t ty e i z ht hi hz a 1 c news hl1 hnews (by omega) (by omega) (by rw [hby]; omega)
    have hgr := grown 0 (by omega)
    simp only [Nat.zero_add, List.nil_append, Array.empty_append] at hgr ⊢
    exact ⟨_, _, hr, hgr.1, hgr.2.1, hgr.2.2.1, hgr.2.2.2⟩
  · by_cases hroom : n + 1 ≤ cap
    · have hfit : n * i.size + news.length ≤ cur.size := by
        rw [hl, hcs, hsize, ← Nat.succ_mul]; exact Nat.mul_le_mul_right _ hroom
      have hr := run_append_room (P := P) w t ty e i ht hi g n cap cur hg a 1 c news hl1 hnews h1 hroom hfit
      rw [hsize] at hr hfit
      obtain ⟨cur', e', hg', hcn⟩ := hno g rfl
      obtain ⟨rfl, rfl⟩ : cur = cur' ∧ e = e' := by
        rw [hg] at hg'
        simpa using hg'
      have hset := setRow_heap w g cur (cur.toList.take (n * size) ++ news ++ cur.toList.drop (n * size + news.length)).toArray e _ hg
      refine ⟨_, _, hr, ⟨hlen, .inr ⟨g, cap, _, rfl, hbg, hset, hroom, hcm, ?_, ?_⟩⟩, ⟨rfl, rfl, rfl, by simp, fun k hk => setRow_other w g k _ (by omega)⟩, ?_, ?_⟩
      · simp only [List.size_toArray, List.length_append, List.length_take, List.length_drop, Array.length_toList]
        omega
      · show List.take _ (_ ++ news ++ _) = _
        rw [htake, ← hlen]
        exact List.take_left
      · intro g2 hg2
        obtain rfl : g = g2 := by simpa [Value.ownBlock] using hg2
        refine ⟨_, _, hset, fun j x hx => ?_⟩
        have hx' := Array.mem_of_getElem? hx
        simp only [List.mem_toArray, List.mem_append] at hx'
        rcases hx' with (h | h) | h
        · obtain ⟨k, hk⟩ := List.mem_iff_getElem?.1 (List.mem_of_mem_take h)
          exact hcn k x (by simpa using hk)
        · exact h1n x h
        · obtain ⟨k, hk⟩ := List.mem_iff_getElem?.1 (List.mem_of_mem_drop h)
          exact hcn k x (by simpa using hk)
      · intro v l hr
        obtain ⟨A, c', hv, hl, hc, hr⟩ := hr
        refine ⟨A, c', hv, hl, hc, fun h0 => ?_⟩
        obtain ⟨ad, ha, hcell⟩ := hr h0
        refine ⟨ad, ha, fun j hj => ?_⟩
        have hc0 := hcell j hj
        by_cases hb : (ad.add j).block = g
        · exfalso
          have : ∃ k : Nat, cur[k]? = some (Value.int .u32 (wat l j)) := by
            unfold World.cell? at hc0
            rw [hb, hg] at hc0
            simp only at hc0
            split at hc0
            · cases hc0
            · exact ⟨_, hc0⟩
          obtain ⟨k, hk⟩ := this
          exact hcn k _ hk _ rfl
        · rw [World.cell?_of_block (w := w) (setRow_other w g _ _ hb)]
          exact hc0
    · have holds : ∀ j u, xs[j]? = some u → w.cell? ((⟨g, 0, none⟩ : Addr).add j) = some u := hown.cells (g := g) rfl
      have hr := run_append_grow (P := P) w t ty e i z ht hi hz ⟨g, 0, none⟩ n cap xs (by rw [hsize]; exact hown.1) holds a 1 c news hl1 hnews (by omega) (by omega) (growslice_fits (by omega) (by rw [hby]; exact hbytes))
      have hgr := grown cap (by omega)
      exact ⟨_, _, hr, hgr.1, hgr.2.1, hgr.2.2.1, hgr.2.2.2⟩
theorem own_bl {w w1 : World} {base e size n : Nat} {v : Value} {xs : List Value} (h : w.ownsRow base e size v n xs) (hb : Below w.heap.size w w1) : w1.ownsRow base e size v n xs := by
  refine ⟨h.1, ?_⟩
  rcases h.2 with h2 | ⟨g, cap, cur, h1, h2, h3, h4⟩
  · exact .inl h2
  · exact .inr ⟨g, cap, cur, h1, h2, (hb.block g (Array.getElem?_eq_some_iff.1 h3).1).trans h3, h4⟩
/-- The same, as a step of a walk. -/
theorem wpList_append_run {P : Program} (w : World) {ops : Array Oper} {rest : List Oper} {o : Oper} {a : Act} {Q : Exit → Act → World → Prop} (hgd : o.guard = none) (s x : Operand) (t : TypeId)
    (ho : o.op = .call { callee := .builtin .append, args := #[s, x], argTypes := #[t, t] }) (v u : Value) (hs : a.eval s = v) (hx : a.eval x = u)
    (h : ∃ v' w', (Builtin.append_ #[t, t] o.type #[v, u]).run P w = .ok v' w' ∧ wpList P ops Q rest (a.put o.dst v') w') : wpList P ops Q (o :: rest) a w := by
  obtain ⟨v', w', hr, hk⟩ := h
  refine wpList_plain hgd fun _ hK => ?_
  unfold Oper.wp execOp
  simp only [ho, resolve, invoke, builtin, Sem.run_bind, Sem.run_pure, Result.andThen_ok, List.map_toArray, List.map_cons, List.map_nil, hs, hx, hr]
  exact hK _ _ hk
theorem info_frac : (Try.prog.info? 24).map (fun i => (i.zero, i.size, i.bytes)) = some (some (.agg #[.bool false, .slice none 0 0, .slice none 0 0]), 3, 56) := by kernel_rfl
/-- The cells of copies. -/
def CopyRow (w : World) (L : List (Bool × List Int × List Int)) (xs : List Value) : Prop := xs.length = L.length * 3 ∧ (∀ u ∈ xs, ∀ n, u ≠ Value.int .u32 n) ∧ ∀ (i : Nat) (d : Bool × List Int × List Int), L[i]? = some d →
  ∃ v1 v2, xs[i * 3]? = some (.bool d.1) ∧ xs[i * 3 + 1]? = some v1 ∧ xs[i * 3 + 2]? = some v2 ∧ FrIn w (.agg #[.bool d.1, v1, v2]) d.1 d.2.1 d.2.2
theorem CopyRow.keep {w w' : World} {L : List (Bool × List Int × List Int)} {xs : List Value} (h : CopyRow w L xs) (hk : KeepW w w') : CopyRow w' L xs := by
  obtain ⟨h1, h2, h3⟩ := h
  refine ⟨h1, h2, fun i d hd => ?_⟩
  obtain ⟨v1, v2, k0, k1, k2, hf⟩ := h3 i d hd
  exact ⟨v1, v2, k0, k1, k2, hk.fr hf⟩
theorem CopyRow.snoc {w : World} {L : List (Bool × List Int × List Int)} {xs : List Value} {d : Bool × List Int × List Int} {A1 A2 : Option Addr} {c1 c2 : Nat} (h : CopyRow w L xs) (hf : FrIn w (.agg #[.bool d.1, .slice A1 d.2.1.length c1, .slice A2 d.2.2.length c2]) d.1 d.2.1 d.2.2) :
    CopyRow w (L ++ [d]) (xs ++ [.bool d.1, .slice A1 d.2.1.length c1, .slice A2 d.2.2.length c2]) := by
  obtain ⟨h1, h2, h3⟩ := h
  refine ⟨by simp [h1]; omega, fun u hu => ?_, fun i e he => ?_⟩
  · rcases List.mem_append.1 hu with h | h
    · exact h2 u h
    · simp only [List.mem_cons, List.not_mem_nil, or_false] at h
      rcases h with rfl | rfl | rfl <;> intro n hh <;> cases hh
  · rcases Nat.lt_or_ge i L.length with hi | hi
    · rw [List.getElem?_append_left hi] at he
      obtain ⟨v1, v2, k0, k1, k2, hf⟩ := h3 i e he
      refine ⟨v1, v2, ?_, ?_, ?_, hf⟩
      · rw [List.getElem?_append_left (by omega)]; exact k0
      · rw [List.getElem?_append_left (by omega)]; exact k1
      · rw [List.getElem?_append_left (by omega)]; exact k2
    · obtain rfl : i = L.length := by
        have := (List.getElem?_eq_some_iff.1 he).1
        simp at this
        omega
      obtain rfl : d = e := by simpa using he
      refine ⟨_, _, ?_, ?_, ?_, hf⟩
      · rw [List.getElem?_append_right (by omega), h1, Nat.sub_self]; rfl
      · rw [List.getElem?_append_right (by omega), h1, show L.length * 3 + 1 - L.length * 3 = 1 by omega]; rfl
      · rw [List.getElem?_append_right (by omega), h1, show L.length * 3 + 2 - L.length * 3 = 2 by omega]; rfl
theorem take_snocD {L : List (Bool × List Int × List Int)} {k : Nat} {d : Bool × List Int × List Int} (h : L[k]? = some d) : L.take k ++ [d] = L.take (k + 1) := by
  rw [List.take_add_one, h]; rfl
theorem fl_owned {w : World} {base n : Nat} {v : Value} {xs : List Value} {L : List (Bool × List Int × List Int)} (h : w.ownsRow base 24 3 v n xs) (hc : CopyRow w L xs) (hn : n = L.length) : FL w v L := by
  subst hn
  have hh := h
  rcases h.2 with ⟨rfl, h0⟩ | ⟨g, cap, cur, rfl, hb, hg, hn, hm, hcs, ht⟩
  · exact ⟨none, 0, by rw [h0], by omega, by omega, fun h => by omega⟩
  · refine ⟨_, cap, rfl, hn, by simp only [maxLen] at hm; omega, fun _ => ⟨_, rfl, fun i d hd => ?_⟩⟩
    obtain ⟨v1, v2, k0, k1, k2, hf⟩ := hc.2.2 i d hd
    have ha : ∀ j, (⟨g, 0, none⟩ : Addr).add j = ⟨g, j, none⟩ := fun j => by simp only [Addr.add]; split <;> simp_all
    have c0 := hh.cells (g := g) rfl _ _ k0
    have c1 := hh.cells (g := g) rfl _ _ k1
    have c2 := hh.cells (g := g) rfl _ _ k2
    rw [ha] at c0 c1 c2 ⊢
    exact ⟨v1, v2, c0, c1, c2, hf⟩
set_option maxRecDepth 100000 in
theorem copyfracs_calls (w : World) (va : Value) (L : List (Bool × List Int × List Int)) (ha : FL w va L) (hL : L.length ≤ 4096) (hf : FewD 4096 L) :
    Calls Try.prog 40 #[va] w fun e w' => ∃ v, e = .returned v ∧ FL w' v L ∧ Below w.heap.size w w' := by
  obtain ⟨A, c, rfl, hl, hc, hr⟩ := ha
  obtain ⟨i0, hi, hz0, hz1, hz2⟩ := info_parts info_frac
  go_enter Try.func40, Try.ntmps40
  go_wp2
  go_loopw [3, 4] (fun v i wr => ∃ (k : Nat) (xs : List Value), k ≤ L.length ∧ i = .int .i64 (k : Int) ∧ wr.ownsRow w.heap.size 24 3 v k xs ∧ NoW wr v ∧ CopyRow wr (L.take k) xs ∧ Below w.heap.size w wr)
    (fun _ i _ => L.length - (intOf i).toNat)
  case atStart => exact ⟨0, [], by omega, rfl, World.ownsRow_nil _ _ _ _, NoW.nil _, ⟨by simp, fun u hu => by simp at hu, fun i d hd => by simp at hd⟩, Below.refl _ _⟩
  case round =>
    obtain ⟨k, xs, hk, rfl, hown, hno, hcr, hbl⟩ := hrel
    have HO := Lib.hid hown
    have HN := Lib.hid hno
    have HC := Lib.hid hcr
    have HB := Lib.hid hbl
    by_cases hx : k < L.length
    · obtain ⟨ad, rfl, hcell⟩ := hr (by omega)
      obtain ⟨d, hd⟩ : ∃ d, L[k]? = some d := ⟨_, List.getElem?_eq_getElem hx⟩
      obtain ⟨v1, v2, e0, e1, e2, hfr⟩ := hcell k d hd
      have few := hf d (List.mem_of_getElem? hd)
      obtain ⟨A1, c1, A2, c2, hsh, _⟩ := FrIn.shape hfr
      obtain ⟨rfl, rfl⟩ : v1 = .slice A1 d.2.1.length c1 ∧ v2 = .slice A2 d.2.2.length c2 := by simpa using hsh
      replace e0 := cell_below hbl e0
      replace e1 := cell_below hbl e1
      replace e2 := cell_below hbl e2
      have HD := Lib.hid hd
      have hsz := hbl.size
      clear hcell hr hown hno hcr hbl hd hsh
      go_wp2_with fail
      refine (copyfrac_calls _ _ d.1 d.2.1 d.2.2 (hfr.below HB.out) few.1 few.2).mono ?_
      rintro e w2 ⟨v, rfl, hcp, hb2⟩
      obtain ⟨A3, c3, A4, c4, rfl, _⟩ := hcp.shape
      have al := below_alloc0 w2 (.cells #[.bool d.1, .slice A3 d.2.1.length c3, .slice A4 d.2.2.length c4] 24)
      have K := Blk.new w2 24 #[.bool d.1, .slice A3 d.2.1.length c3, .slice A4 d.2.2.length c4]
      have hb3 := bl_trans hb2 al
      have happ := run_append_structs (P := Try.prog) _ w.heap.size 32 32 24 i0 _ 3 56 Try.underlying32 hi hz0 hz1 hz2 rfl (by decide)
        (by intro j x hx n hh; subst hh; have : j = 0 ∨ j = 1 ∨ j = 2 ∨ 3 ≤ j := by omega
            rcases this with rfl | rfl | rfl | h
            · cases hx
            · cases hx
            · cases hx
            · have hnone : (#[Value.bool false, .slice none 0 0, .slice none 0 0] : Array Value)[j]? = none := Array.getElem?_eq_none (by simpa using h)
              exact absurd (hnone.symm.trans hx) (by simp))
        _ k xs (own_bl HO.out hb3) (HN.out.below hb3) ⟨w2.heap.size, 0, none⟩ 1 [.bool d.1, .slice A3 d.2.1.length c3, .slice A4 d.2.2.length c4] rfl
        (by intro j u hu
            have h3 : j = 0 ∨ j = 1 ∨ j = 2 ∨ 3 ≤ j := by omega
            rcases h3 with rfl | rfl | rfl | h
            · rw [← hu]; exact K.cell 0
            · rw [← hu]; exact K.cell 1
            · rw [← hu]; exact K.cell 2
            · rw [List.getElem?_eq_none (by simpa using h)] at hu; cases hu)
        (by intro u hu; simp only [List.mem_cons, List.not_mem_nil, or_false] at hu; rcases hu with rfl | rfl | rfl <;> rfl)
        (by intro u hu n; simp only [List.mem_cons, List.not_mem_nil, or_false] at hu; rcases hu with rfl | rfl | rfl <;> intro hh <;> cases hh)
        HC.out.2.1 (by unfold maxLen; omega) (by omega) (Nat.le_trans hsz hb3.size)
      obtain ⟨v', w', hrun, ho', hb', hn', hk'⟩ := happ
      have HRUN := Lib.hid hrun
      have ho2 := Lib.hid ho'
      have hn2 := Lib.hid hn'
      have hb4 := Lib.hid (Below.trans (bl_trans HB.out hb3) hb')
      have hcr' := ((HC.out.keep (KeepW.of_below hb3)).keep hk').snoc (hk'.fr (hcp.below al))
      rw [take_snocD HD.out] at hcr'
      have HC2 := Lib.hid hcr'
      clear hrun ho' hb' hn' hk' hcr' hcp al K hb2 hb3 e0 e1 e2
      go_wp2_with (first
        | (at_builtin; refine wpList_append_run _ rfl _ _ 32 rfl _ _ rfl rfl ⟨v', w', HRUN.out, ?_⟩)
        | go_in)
      exact ⟨⟨k + 1, _, by omega, by go_num, ho2.out, hn2.out, HC2.out, hb4.out⟩, by simp [intOf]; omega⟩
    · obtain rfl : k = L.length := by omega
      have hc2 := HC.out
      rw [List.take_length] at hc2
      have HF := Lib.hid (fl_owned HO.out hc2 rfl)
      clear hr hown hno hcr hbl hc2
      go_wp2
      go_ret
      exact ⟨_, rfl, HF.out, HB.out⟩

/-- A fraction in a box of its own. -/
def FBox (w : World) (g : Nat) (q : Rat) : Prop := ∃ A c A2 c2, Blk w g 24 #[.bool (decide (q.num < 0)), .slice A (dg q.num.natAbs).length c, .slice A2 (dg q.den).length c2] ∧ FrV w (.agg #[.bool (decide (q.num < 0)), .slice A (dg q.num.natAbs).length c, .slice A2 (dg q.den).length c2]) q
theorem FBox.below {w w1 : World} {g : Nat} {q : Rat} (h : FBox w g q) (hb : Below w.heap.size w w1) : FBox w1 g q := by
  obtain ⟨A, c, A2, c2, h1, h2⟩ := h
  exact ⟨A, c, A2, c2, h1.below hb, FrV.below h2 hb⟩
theorem FBox.lt {w : World} {g : Nat} {q : Rat} (h : FBox w g q) : g < w.heap.size := by
  obtain ⟨A, c, A2, c2, h1, h2⟩ := h
  exact h1.lt
theorem FBox.set {w : World} {g : Nat} {q : Rat} {x0 x1 x2 : Value} (h : Blk w g 24 #[x0, x1, x2]) (n0 : ∀ n, x0 ≠ .int .u32 n) (n1 : ∀ n, x1 ≠ .int .u32 n) (n2 : ∀ n, x2 ≠ .int .u32 n) {A A2 : Option Addr} {c c2 : Nat}
    (hq : FrV w (.agg #[.bool (decide (q.num < 0)), .slice A (dg q.num.natAbs).length c, .slice A2 (dg q.den).length c2]) q) :
    FBox (((w.setCell ⟨g, 0, none⟩ (.bool (decide (q.num < 0)))).setCell ⟨g, 1, none⟩ (.slice A (dg q.num.natAbs).length c)).setCell ⟨g, 2, none⟩ (.slice A2 (dg q.den).length c2)) g q := by
  obtain ⟨v1, v2, hv, m1, m2, m3, m4⟩ := hq
  exact ⟨A, c, A2, c2, blk3 h _ _ _, v1, v2, hv, m1.three (h.cell 0) (h.cell 1) (h.cell 2) n0 n1 n2 _ _ _, m2.three (h.cell 0) (h.cell 1) (h.cell 2) n0 n1 n2 _ _ _, m3, m4⟩
theorem raddq (w : World) (va vb : Value) (a b : Rat) (ha : FrQ w va a) (hb : FrQ w vb b) (hs : Short (a + b)) : Calls Try.prog 31 #[va, vb] w (FrPost (a + b) w) := by
  obtain ⟨n, l, d, h, h2, rfl⟩ := ha
  obtain ⟨n', l', d', h', h2', rfl⟩ := hb
  exact radd_calls w va vb n n' l d l' d' h h' h2 h2' hs
theorem rmulq (w : World) (va vb : Value) (a b : Rat) (ha : FrQ w va a) (hb : FrQ w vb b) (hs : Short (a * b)) : Calls Try.prog 33 #[va, vb] w (FrPost (a * b) w) := by
  obtain ⟨n, l, d, h, h2, rfl⟩ := ha
  obtain ⟨n', l', d', h', h2', rfl⟩ := hb
  exact rmul_calls w va vb n n' l d l' d' h h' h2 h2' hs
theorem rcmpq (w : World) (va vb : Value) (a b : Rat) (ha : FrQ w va a) (hb : FrQ w vb b) : Calls Try.prog 37 #[va, vb] w fun e w' => e = .returned (.int .i64 (rcmp a b)) ∧ Below w.heap.size w w' := by
  obtain ⟨n, l, d, h, h2, rfl⟩ := ha
  obtain ⟨n', l', d', h', h2', rfl⟩ := hb
  exact rcmp_calls w va vb n n' l d l' d' h h' h2 h2'
/-- An element of a list that is handed in. -/
theorem FL.at {w : World} {v : Value} {L : List (Bool × List Int × List Int)} (h : FL w v L) {k : Nat} {d : Bool × List Int × List Int} (hd : L[k]? = some d) : ∃ ad c A1 c1 A2 c2, v = .slice (some ad) L.length c ∧ L.length ≤ c ∧ c ≤ 9223372036854775807 ∧ w.cell? (ad.add (k * 3)) = some (.bool d.1) ∧ w.cell? ⟨(ad.add (k * 3)).block, (ad.add (k * 3)).off + 1, none⟩ = some (.slice A1 d.2.1.length c1) ∧
    w.cell? ⟨(ad.add (k * 3)).block, (ad.add (k * 3)).off + 2, none⟩ = some (.slice A2 d.2.2.length c2) ∧ FrIn w (.agg #[.bool d.1, .slice A1 d.2.1.length c1, .slice A2 d.2.2.length c2]) d.1 d.2.1 d.2.2 := by
  obtain ⟨A, c, rfl, hl, hc, hr⟩ := h
  have hlt := (List.getElem?_eq_some_iff.1 hd).1
  obtain ⟨ad, rfl, hcell⟩ := hr (by omega)
  obtain ⟨v1, v2, e0, e1, e2, hfr⟩ := hcell k d hd
  obtain ⟨A1, c1, A2, c2, hsh, _⟩ := FrIn.shape hfr
  obtain ⟨rfl, rfl⟩ : v1 = .slice A1 d.2.1.length c1 ∧ v2 = .slice A2 d.2.2.length c2 := by simpa using hsh
  exact ⟨ad, c, A1, c1, A2, c2, rfl, hl, hc, e0, e1, e2, hfr⟩
set_option maxRecDepth 100000 in
theorem rsuml_calls (w : World) (va : Value) (L : List (Bool × List Int × List Int)) (ha : FL w va L) (hL : L.length ≤ 64) (hf : FewD 16 L) :
    Calls Try.prog 42 #[va] w (FrPost (psum (L.map fqd) L.length) w) := by
  have HZ := Lib.hid (psum_szq (few_szq (by omega) hf ha.wd))
  have HSHO := Lib.hid (fun k (h : k ≤ L.length) => (HZ.out k).short (by have := Nat.mul_le_mul_left 17 (show k ≤ 64 by omega); omega))
  have HA := Lib.hid ha
  have HFW := Lib.hid hf
  obtain ⟨A, c, rfl⟩ := ha.shape
  have hcap := ha
  obtain ⟨_, _, hv, hl, hc, _⟩ := hcap
  obtain ⟨rfl, rfl⟩ : A = _ ∧ c = _ := by simpa using hv
  have hbl0 := below_alloc0 w (.cells #[.bool false, .slice none 0 0, .slice none 0 0] 24)
  have K := Blk.new w 24 #[.bool false, .slice none 0 0, .slice none 0 0]
  clear ha hv hf
  go_enter Try.func42, Try.ntmps42
  go_wp2_with fail
  refine (rzero_calls _).mono ?_
  rintro e w1 ⟨v, rfl, hv0, hb1⟩
  obtain ⟨s0, hs0⟩ : ∃ s : Rat, s = psum (L.map fqd) 0 := ⟨_, rfl⟩
  have HS0 := Lib.hid hs0
  have hv1 : FrV w1 v s0 := by rw [hs0]; exact hv0
  obtain ⟨B1, b1, B2, b2, rfl, _, _, _, _⟩ := FrIn.shape hv1
  have al := below_alloc0 w1 (.cells #[.bool (decide (s0.num < 0)), .slice B1 (dg s0.num.natAbs).length b1, .slice B2 (dg s0.den).length b2] 24)
  have RB := Lib.hid (show FBox (w1.alloc (.cells #[.bool (decide (s0.num < 0)), .slice B1 (dg s0.num.natAbs).length b1, .slice B2 (dg s0.den).length b2] 24)) w1.heap.size s0 from ⟨_, _, _, _, Blk.new w1 _ _, FrV.below hv1 al⟩)
  have hbw := bl_trans (bl_trans hbl0 hb1) al
  have K1 := Lib.hid ((K.below hb1).below al)
  have hlt1 : w.heap.size < w1.heap.size := (K.below hb1).lt
  obtain ⟨gS, hgS⟩ : ∃ g, g = w1.heap.size := ⟨_, rfl⟩
  rw [← hgS] at RB hlt1
  clear hs0 hv0 hv1 K hbl0 hb1 al
  go_wp2
  rw [← hgS]
  clear hgS
  go_loopw [4] (fun i wr => ∃ k : Nat, k ≤ L.length ∧ i = .int .i64 (k : Int) ∧ FBox wr gS (psum (L.map fqd) k) ∧ Blk wr w.heap.size 24 #[.bool false, .slice none 0 0, .slice none 0 0] ∧ Below w.heap.size w wr)
    (fun i _ => L.length - (intOf i).toNat)
  case atStart => exact ⟨0, by omega, rfl, by rw [← HS0.out]; exact RB.out, K1.out, hbw⟩
  case round =>
    clear RB K1 hbw HS0
    obtain ⟨k, hk, rfl, hRB, hK, hbl⟩ := hrel
    obtain ⟨D1, d1, D2, d2, KS, hsr⟩ := hRB
    have HK := Lib.hid hK
    have HBL := Lib.hid hbl
    by_cases hx : k < L.length
    · obtain ⟨d, hd⟩ : ∃ d, L[k]? = some d := ⟨_, List.getElem?_eq_getElem hx⟩
      have few := HFW.out d (List.mem_of_getElem? hd)
      obtain ⟨ad, c', A1, c1, A2, c2, hsl, _, _, e0, e1, e2, hfr⟩ := HA.out.at hd
      obtain ⟨rfl, rfl⟩ : A = some ad ∧ c = c' := by simpa using hsl
      replace e0 := cell_below hbl e0
      replace e1 := cell_below hbl e1
      replace e2 := cell_below hbl e2
      have hps := psum_succ (qs := L.map fqd) (k := k) (q := fqd d) (by rw [List.getElem?_map, hd]; rfl)
      have sh1 := HSHO.out (k + 1) hx
      have sh0 := HSHO.out k hk
      rw [hps] at sh1
      obtain ⟨p0, hp0⟩ : ∃ p, p = psum (L.map fqd) k := ⟨_, rfl⟩
      rw [← hp0] at KS hsr hps sh1 sh0
      have HPS := Lib.hid hps.symm
      have hq := Lib.hid (show FrQ wr (.agg #[.bool d.1, .slice A1 d.2.1.length c1, .slice A2 d.2.2.length c2]) (fqd d) from ⟨d.1, d.2.1, d.2.2, hfr.below hbl, by omega, rfl⟩)
      have hp := Lib.hid (FrV.q hsr sh0)
      have KD := KS.below (bl_drew wr)
      have u0 := KD.cell 0
      have u1 := KD.cell 1
      have u2 := KD.cell 2
      have e0' := cell_below (bl_drew wr) e0
      have e1' := cell_below (bl_drew wr) e1
      have e2' := cell_below (bl_drew wr) e2
      have hgS2 : gS < wr.heap.size := KS.lt
      have q1 : (k : Int) < (L.length : Int) := by omega
      have HK' := Lib.hid (HK.out.below (bl_drew wr))
      have HB' := Lib.hid (bl_trans hbl (bl_drew wr))
      clear hd hps hp0 hK hbl hsr hfr e0 e1 e2 hsl
      have hq' := Lib.hid (FrQ.below hq.out (bl_drew wr))
      have hp' := Lib.hid (FrQ.below hp.out (bl_drew wr))
      go_wp2_with fail
      go_region_law (first
        | (go_simp; go_at_call 31; (with_reducible refine (raddq _ _ _ p0 (fqd d) hp'.out hq'.out sh1).mono ?_); (rintro e w3 ⟨v3, rfl, hv3, hb3⟩); (rw [HPS.out] at hv3); (obtain ⟨C1, y1, C2, y2, rfl, _, _, _, _⟩ := FrIn.shape hv3); (have KS3 := KD.below hb3); (have m0 := KS3.cell 0); (have m1 := KS3.cell 1); (have m2 := KS3.cell 2); (have mf := KS3.free))
        )
      all_goals
        go_wp2
        refine ⟨⟨k + 1, by omega, by go_num, FBox.set KS3 (boolne _) (slne _ _ _) (slne _ _ _) hv3, (((HK'.out.below hb3).other _ _ (by simp; omega)).other _ _ (by simp; omega)).other _ _ (by simp; omega), three_below (bl_trans HB'.out hb3) (by omega) _ _ _⟩, by simp [intOf]; omega⟩
    · obtain rfl : k = L.length := by omega
      have k0 := KS.cell 0
      have k1 := KS.cell 1
      have k2 := KS.cell 2
      obtain ⟨p0, hp0⟩ : ∃ p, p = psum (L.map fqd) L.length := ⟨_, rfl⟩
      rw [← hp0] at KS hsr k0 k1 k2
      have m0 := hK.cell 0
      have m1 := hK.cell 1
      have m2 := hK.cell 2
      have f1 := hK.free
      have HP0 := Lib.hid hp0
      have HSR := Lib.hid hsr
      clear hp0 hsr
      go_wp2
      obtain ⟨v1, v2, hv, r1, r2, r3, r4⟩ := HSR.out
      exact bodyPost_ret (results_cell_row rfl _ _ w.heap.size 24 _ (0, 0) _ rfl (blk3 HK.out _ _ _) Try.underlying24 rfl (by kernel_rfl)) rfl ⟨_, rfl, by rw [← HP0.out]; exact ⟨v1, v2, hv, r1.three m0 m1 m2 (boolne _) (slne _ _ _) (slne _ _ _) _ _ _, r2.three m0 m1 m2 (boolne _) (slne _ _ _) (slne _ _ _) _ _ _, r3, r4⟩, three_below HBL.out (Nat.le_refl _) _ _ _⟩

/-- The products of two lists, up to the shorter one's end. -/
def dots (L M : List (Bool × List Int × List Int)) : List Rat := List.zipWith (fun x y => fqd x * fqd y) L M
theorem dots_at {L M : List (Bool × List Int × List Int)} {k : Nat} {x y : Bool × List Int × List Int} (hx : L[k]? = some x) (hy : M[k]? = some y) : (dots L M)[k]? = some (fqd x * fqd y) := by
  simp [dots, List.getElem?_zipWith, hx, hy]
theorem dots_len (L M : List (Bool × List Int × List Int)) : (dots L M).length = min L.length M.length := by simp [dots]
theorem dots_szq {L M : List (Bool × List Int × List Int)} {m : Nat} (hm : 1 ≤ m) (h : FewD m L) (h2 : FewD m M) (hw : ∀ d ∈ L, Wd d.2.1 ∧ Wd d.2.2) (hw2 : ∀ d ∈ M, Wd d.2.1 ∧ Wd d.2.2) : ∀ q ∈ dots L M, Szq (m + m) q := by
  intro q hq
  obtain ⟨k, hk, rfl⟩ := List.mem_iff_getElem.1 hq
  rw [dots_len] at hk
  have e := dots_at (L := L) (M := M) (k := k) (List.getElem?_eq_getElem (by omega)) (List.getElem?_eq_getElem (by omega))
  rw [List.getElem?_eq_getElem (by rw [dots_len]; exact hk)] at e
  rw [Option.some.inj e]
  have hx := few_szq hm h hw
  have hy := few_szq hm h2 hw2
  exact szq_mul (hx _ (List.mem_map.2 ⟨_, List.getElem_mem _, rfl⟩)) (hy _ (List.mem_map.2 ⟨_, List.getElem_mem _, rfl⟩))
theorem FL.take {w : World} {A : Option Addr} {l c : Nat} {L : List (Bool × List Int × List Int)} (h : FL w (.slice A l c) L) {n : Nat} (hn : n ≤ L.length) : FL w (.slice A n n) (L.take n) := by
  obtain ⟨A', c', hv, h1, h2, h3⟩ := h
  obtain ⟨rfl, rfl, rfl⟩ : A = A' ∧ l = L.length ∧ c = c' := by simpa using hv
  have hl : (L.take n).length = n := by simp; omega
  refine ⟨A, n, by rw [hl], by omega, by omega, fun h0 => ?_⟩
  obtain ⟨ad, ha, hc⟩ := h3 (by omega)
  refine ⟨ad, ha, fun i d hd => hc i d ?_⟩
  have hi := (List.getElem?_eq_some_iff.1 hd).1
  rw [List.getElem?_take_of_lt (by omega)] at hd
  exact hd
/-- The cell for the result. -/
def HoldR (w : World) (t : Nat) (w' : World) : Prop := Below w.heap.size w w' ∧ Blk w' w.heap.size t #[.bool false, .slice none 0 0, .slice none 0 0]
theorem HoldR.cells {w w' : World} {t : Nat} (h : HoldR w t w') : HoldR w t w' ∧ w'.cell? ⟨w.heap.size, 0, none⟩ = some (.bool false) := ⟨h, h.2.cell 0⟩
theorem HoldR.next {w w1 w2 : World} {t : Nat} (k : Below w1.heap.size w1 w2) (h : HoldR w t w1) : HoldR w t w2 := ⟨bl_trans h.1 k, h.2.below k⟩
theorem HoldR.bl {w w1 : World} {t : Nat} (h : HoldR w t w1) : Below w.heap.size w w1 := h.1
set_option maxRecDepth 100000 in
set_option maxHeartbeats 4000000 in
theorem dot_calls (w : World) (va vb : Value) (L M : List (Bool × List Int × List Int)) (ha : FL w va L) (hb : FL w vb M) (hL : L.length ≤ 64) (hM : M.length ≤ 64) (hf : FewD 8 L) (hf2 : FewD 8 M) :
    Calls Try.prog 43 #[va, vb] w (FrPost (psum (dots L M) (min L.length M.length)) w) := by
  obtain ⟨n, hn⟩ : ∃ n, n = min L.length M.length := ⟨_, rfl⟩
  rw [← hn]
  have hn1 : n ≤ L.length := by omega
  have hn2 : n ≤ M.length := by omega
  have HZQ := Lib.hid (dots_szq (by omega) hf hf2 ha.wd hb.wd)
  have SZL := Lib.hid (few_szq (by omega) hf ha.wd)
  have SZM := Lib.hid (few_szq (by omega) hf2 hb.wd)
  have HZ := Lib.hid (psum_szq HZQ.out)
  have HSH := Lib.hid ((HZ.out n).short (by have := Nat.mul_le_mul_left 17 (show n ≤ 64 by omega); omega))
  have HF1 := Lib.hid (show FewD 2048 (L.take n) from fun d hd => ⟨Nat.le_trans (hf d (List.mem_of_mem_take hd)).1 (by omega), Nat.le_trans (hf d (List.mem_of_mem_take hd)).2 (by omega)⟩)
  have HF2 := Lib.hid (show FewD 2048 (M.take n) from fun d hd => ⟨Nat.le_trans (hf2 d (List.mem_of_mem_take hd)).1 (by omega), Nat.le_trans (hf2 d (List.mem_of_mem_take hd)).2 (by omega)⟩)
  have hcL := ha
  have hcM := hb
  obtain ⟨A, c, rfl, cl1, cl2, _⟩ := hcL
  obtain ⟨A2, c2, rfl, cm1, cm2, _⟩ := hcM
  have la : FL w (.slice A n n) (L.take n) := ha.take hn1
  have lb : FL w (.slice A2 n n) (M.take n) := hb.take hn2
  have hl1 : (L.take n).length = n := by simp; omega
  have hl2 : (M.take n).length = n := by simp; omega
  have HA := Lib.hid la
  have HB := Lib.hid lb
  have H : HoldR w 24 (w.alloc (.cells #[.bool false, .slice none 0 0, .slice none 0 0] 24)) := ⟨below_alloc0 _ _, Blk.new w _ _⟩
  have hmin : min (L.length : Int) (M.length : Int) = (n : Int) := by omega
  have HN := Lib.hid hn
  clear ha hb hf hf2 la lb hn
  go_enter Try.func43, Try.ntmps43
  go_upto_region 1 with fail
  go_cut [5] (fun s5 wx => s5 = .int .i64 (n : Int) ∧ HoldR w 24 wx)
  case first =>
    clear hmin
    go_wp2
    all_goals
      go_meet
      case rel => exact ⟨by rw [HN.out]; go_num, H⟩
  case rest =>
    clear H hmin
    obtain ⟨rfl, H⟩ := hcut
    have q1 : (n : Int) ≤ (c : Int) := by omega
    have q2 : (n : Int) ≤ (c2 : Int) := by omega
    go_wp2_with fail
    have hs := (HoldR.next (bl_drew _) H).cells
    go_region_held3 (fun w' => HoldR w 24 w' ∧ w'.cell? ⟨w.heap.size, 0, none⟩ = some (.bool false))
      ((first | exact hs | exact (HoldR.next hbN (And.left (by assumption))).cells))
      (first
        | (go_at_call 87; (with_reducible refine (all_calls _ _ (L.take n) ?_ (by omega) HF1.out).mono ?_); (exact HA.out.below (HoldR.bl (And.left (by assumption)))); (rintro e w' ⟨g1, rfl, hg1, hr1, hbN⟩))
        | (go_at_call 87; (with_reducible refine (all_calls _ _ (M.take n) ?_ (by omega) HF2.out).mono ?_); (exact HB.out.below (HoldR.bl (And.left (by assumption)))); (rintro e w' ⟨g2, rfl, hg2, hr2, hbN⟩); (have H1 := HoldR.next hbN (And.left (by assumption))); (have hr1' := hr1.below hbN)))
    rw [hl1] at hr1'
    rw [hl2] at hr2
    have hg1l := hr1'.lt
    have hg2l := hr2.lt
    have hres := H1.2.lt
    have R1 := Lib.hid hr1'
    have R2 := Lib.hid hr2
    have HH := Lib.hid H1
    obtain ⟨wa, hwa⟩ : ∃ x, x = w' := ⟨_, rfl⟩
    clear hs H hr1 hr2 hr1' H1 hwa wa hg1 hg2 hbN
    go_wp2_with fail
    refine (whole_calls _ 0 (by omega) (by omega)).mono ?_
    rintro e w3 ⟨v, rfl, hv0, hb3⟩
    obtain ⟨s0, hs0⟩ : ∃ s : Rat, s = psum (dots L M) 0 := ⟨_, rfl⟩
    have HS0 := Lib.hid hs0
    have hv1 : RtV w3 v s0 := by rw [hs0]; exact hv0
    obtain ⟨B1, b1, B2, b2, rfl, _, _⟩ := hv1.open
    have al := below_alloc0 w3 (.cells #[.slice B1 (dg s0.num.natAbs).length b1, .slice B2 (dg s0.den).length b2, .bool (decide (s0.num < 0))] 59)
    have RB := Lib.hid (show RBox (w3.alloc (.cells #[.slice B1 (dg s0.num.natAbs).length b1, .slice B2 (dg s0.den).length b2, .bool (decide (s0.num < 0))] 59)) w3.heap.size s0 from ⟨_, _, _, _, Blk.new w3 _ _, hv1.below al⟩)
    have hsz3 := hb3.size
    have R1' := Lib.hid ((R1.out.below hb3).below al)
    have R2' := Lib.hid ((R2.out.below hb3).below al)
    have HH' := Lib.hid (HoldR.next al (HoldR.next hb3 HH.out))
    obtain ⟨gS, hgS⟩ : ∃ g, g = w3.heap.size := ⟨_, rfl⟩
    rw [← hgS] at RB
    have d1 : g1 ≠ gS := by omega
    have d2 : g2 ≠ gS := by omega
    have d3 : w.heap.size < gS := by omega
    clear hs0 hv0 hv1 hb3 al R1 R2 HH hg1l hg2l hres hsz3
    go_wp2
    rw [← hgS]
    clear hgS
    go_loopw [28] (fun i wr => ∃ k : Nat, k ≤ n ∧ i = .int .i64 (k : Int) ∧ RBox wr gS (psum (dots L M) k) ∧ RL wr g1 n ((L.take n).map fqd) ∧ RL wr g2 n ((M.take n).map fqd) ∧ HoldR w 24 wr)
      (fun i _ => n - (intOf i).toNat)
    case atStart => exact ⟨0, by omega, rfl, by rw [← HS0.out]; exact RB.out, R1'.out, R2'.out, HH'.out⟩
    case round =>
      clear RB R1' R2' HH' HS0
      obtain ⟨k, hk, rfl, hRB, hR1, hR2, hH⟩ := hrel
      obtain ⟨D1, d1', D2, d2', KS, hsr⟩ := hRB
      by_cases hx : k < n
      · obtain ⟨x, hx1⟩ : ∃ x, L[k]? = some x := ⟨_, List.getElem?_eq_getElem (by omega)⟩
        obtain ⟨y, hy1⟩ : ∃ y, M[k]? = some y := ⟨_, List.getElem?_eq_getElem (by omega)⟩
        have hps := psum_succ (dots_at hx1 hy1)
        have hpk := HZ.out k
        obtain ⟨E1, x1, E2, x2, e0, e1, e2, hrt1⟩ := hR1.cell (i := k) (q := fqd x) (by rw [List.getElem?_map, List.getElem?_take_of_lt hx, hx1]; rfl)
        obtain ⟨E3, x3, E4, x4, e3, e4, e5, hrt2⟩ := hR2.cell (i := k) (q := fqd y) (by rw [List.getElem?_map, List.getElem?_take_of_lt hx, hy1]; rfl)
        obtain ⟨qx, hqx⟩ : ∃ q, q = fqd x := ⟨_, rfl⟩
        obtain ⟨qy, hqy⟩ : ∃ q, q = fqd y := ⟨_, rfl⟩
        have zx : Szq 500000000 qx := by rw [hqx]; exact (SZL.out _ (List.mem_map.2 ⟨x, List.mem_of_getElem? hx1, rfl⟩)).mono (by omega)
        have zy : Szq 500000000 qy := by rw [hqy]; exact (SZM.out _ (List.mem_map.2 ⟨y, List.mem_of_getElem? hy1, rfl⟩)).mono (by omega)
        have zxy := HZQ.out _ (List.mem_of_getElem? (dots_at hx1 hy1))
        rw [← hqx, ← hqy] at hps zxy
        rw [← hqx] at e0 e1 e2 hrt1
        rw [← hqy] at e3 e4 e5 hrt2
        obtain ⟨p0, hp0⟩ : ∃ p, p = psum (dots L M) k := ⟨_, rfl⟩
        rw [← hp0] at KS hsr hps hpk
        have HPS := Lib.hid hps.symm
        have KD := KS.below (bl_drew wr)
        have u0 := KD.cell 0
        have u1 := KD.cell 1
        have u2 := KD.cell 2
        replace e0 := cell_below (bl_drew wr) e0
        replace e1 := cell_below (bl_drew wr) e1
        replace e2 := cell_below (bl_drew wr) e2
        replace e3 := cell_below (bl_drew wr) e3
        replace e4 := cell_below (bl_drew wr) e4
        replace e5 := cell_below (bl_drew wr) e5
        have T1 := Lib.hid (hrt1.below (bl_drew wr))
        have T2 := Lib.hid (hrt2.below (bl_drew wr))
        have TS := Lib.hid (hsr.below (bl_drew wr))
        have HR1 := Lib.hid (hR1.below (bl_drew wr))
        have HR2 := Lib.hid (hR2.below (bl_drew wr))
        have HHd := Lib.hid (HoldR.next (bl_drew wr) hH)
        have q3 : (k : Int) < (n : Int) := by omega
        clear hx1 hy1 hqx hqy hps hp0 hR1 hR2 hH hrt1 hrt2 hsr KS
        go_wp2_with fail
        go_region_law (first
          | (go_simp; go_at_call 63; (with_reducible refine (times_calls _ _ _ qx qy T1.out T2.out zx zy).mono ?_); (rintro e w4 ⟨v4, rfl, hv4, hb4⟩); (have TS4 := TS.out.below hb4); (have KS4 := KD.below hb4); (have z0 := KS4.cell 0); (have z1 := KS4.cell 1); (have z2 := KS4.cell 2))
          | (go_simp; go_at_call 74; (with_reducible refine (plus_calls _ _ _ p0 (qx * qy) TS4 hv4 (hpk.mono (by have := Nat.mul_le_mul_left 17 (show k ≤ 64 by omega); omega)) (zxy.mono (by omega))).mono ?_); (rintro e w5 ⟨v5, rfl, hv5, hb5⟩); (rw [HPS.out] at hv5); (obtain ⟨C1, y1, C2, y2, rfl, _, _⟩ := hv5.open); (have KS5 := (KD.below hb4).below hb5); (have m0 := KS5.cell 0); (have m1 := KS5.cell 1); (have m2 := KS5.cell 2); (have mf := KS5.free))
          )
        all_goals
          have hb45 := bl_trans hb4 hb5
          go_wp2
          refine ⟨⟨k + 1, by omega, by go_num, RBox.set KS5 (slne _ _ _) (slne _ _ _) (boolne _) hv5, (HR1.out.below hb45).three d1 m0 m1 m2 (slne _ _ _) (slne _ _ _) (boolne _) _ _ _, (HR2.out.below hb45).three d2 m0 m1 m2 (slne _ _ _) (slne _ _ _) (boolne _) _ _ _, three_below (HoldR.next hb45 HHd.out).1 (by omega) _ _ _, (((HoldR.next hb45 HHd.out).2.other _ _ (by simp; omega)).other _ _ (by simp; omega)).other _ _ (by simp; omega)⟩, by simp [intOf]; omega⟩
      · obtain rfl : k = n := by omega
        have k0 := KS.cell 0
        have k1 := KS.cell 1
        have k2 := KS.cell 2
        obtain ⟨p0, hp0⟩ : ∃ p, p = psum (dots L M) k := ⟨_, rfl⟩
        rw [← hp0] at KS hsr k0 k1 k2 HSH
        have HSR := Lib.hid hsr
        have HP0 := Lib.hid hp0
        have HK := Lib.hid hH
        clear hR1 hR2 hsr hp0 HZ hH
        go_wp2_with fail
        refine (told_calls _ _ p0 HSR.out HSH.out).mono ?_
        rintro e w5 ⟨v3, rfl, hfr, hb5⟩
        obtain ⟨C1, y1, C2, y2, rfl, r1, r2, r3, r4⟩ := FrIn.shape hfr
        have K3 := HoldR.next hb5 HK.out
        have m0 := K3.2.cell 0
        have m1 := K3.2.cell 1
        have m2 := K3.2.cell 2
        have f1 := K3.2.free
        clear k0 k1 k2 KS hfr hb5
        go_wp2
        exact bodyPost_ret (results_cell_row rfl _ _ w.heap.size 24 _ (0, 0) _ rfl (blk3 K3.2 _ _ _) Try.underlying24 rfl (by kernel_rfl)) rfl ⟨_, rfl, by rw [← HP0.out]; exact ⟨_, _, rfl, r1.three m0 m1 m2 (boolne _) (slne _ _ _) (slne _ _ _) _ _ _, r2.three m0 m1 m2 (boolne _) (slne _ _ _) (slne _ _ _) _ _ _, r3, r4⟩, three_below K3.1 (Nat.le_refl _) _ _ _⟩

/-- No words above: 0. -/
theorem fqd_nil {d : Bool × List Int × List Int} (h : d.2.1.length = 0) : fqd d = 0 := by
  have h2 : d.2.1 = [] := List.length_eq_zero_iff.1 h
  unfold fqd fixq
  rw [h2]
  split
  · cases d.1 <;> simp [sgn, nv, Rat.mkRat_eq_div, Rat.div_def]
  · rfl
set_option maxRecDepth 100000 in
set_option maxHeartbeats 4000000 in
theorem rdot_calls (w : World) (va vb : Value) (L M : List (Bool × List Int × List Int)) (ha : FL w va L) (hb : FL w vb M) (hL : L.length ≤ 64) (hM : M.length ≤ 64) (hf : FewD 8 L) (hf2 : FewD 8 M) :
    Calls Try.prog 44 #[va, vb] w (FrPost (psum (dots L M) (min L.length M.length)) w) := by
  obtain ⟨n, hn⟩ : ∃ n, n = min L.length M.length := ⟨_, rfl⟩
  rw [← hn]
  have hn1 : n ≤ L.length := by omega
  have hn2 : n ≤ M.length := by omega
  have HZQ := Lib.hid (dots_szq (by omega) hf hf2 ha.wd hb.wd)
  have HZ := Lib.hid (psum_szq HZQ.out)
  have HSHO := Lib.hid (fun k (h : k ≤ 64) => (HZ.out k).short (by have := Nat.mul_le_mul_left 17 h; omega))
  have HSHM := Lib.hid (fun (q : Rat) (h : q ∈ dots L M) => (HZQ.out q h).short (by omega))
  have HA := Lib.hid ha
  have HB := Lib.hid hb
  have HFW := Lib.hid hf
  have HFW2 := Lib.hid hf2
  have hcL := ha
  have hcM := hb
  obtain ⟨A, c, rfl, cl1, cl2, _⟩ := hcL
  obtain ⟨A2, c2, rfl, cm1, cm2, _⟩ := hcM
  have hbl0 := below_alloc0 w (.cells #[.bool false, .slice none 0 0, .slice none 0 0] 24)
  have K := Blk.new w 24 #[.bool false, .slice none 0 0, .slice none 0 0]
  have HN := Lib.hid hn
  clear ha hb hf hf2 hn
  go_enter Try.func44, Try.ntmps44
  go_wp2_with fail
  refine (rzero_calls _).mono ?_
  rintro e w1 ⟨v, rfl, hv0, hb1⟩
  obtain ⟨s0, hs0⟩ : ∃ s : Rat, s = psum (dots L M) 0 := ⟨_, rfl⟩
  have HS0 := Lib.hid hs0
  have hv1 : FrV w1 v s0 := by rw [hs0]; exact hv0
  obtain ⟨B1, b1, B2, b2, rfl, _, _, _, _⟩ := FrIn.shape hv1
  have al := below_alloc0 w1 (.cells #[.bool (decide (s0.num < 0)), .slice B1 (dg s0.num.natAbs).length b1, .slice B2 (dg s0.den).length b2] 24)
  have RB := Lib.hid (show FBox (w1.alloc (.cells #[.bool (decide (s0.num < 0)), .slice B1 (dg s0.num.natAbs).length b1, .slice B2 (dg s0.den).length b2] 24)) w1.heap.size s0 from ⟨_, _, _, _, Blk.new w1 _ _, FrV.below hv1 al⟩)
  have hbw := bl_trans (bl_trans hbl0 hb1) al
  have K1 := Lib.hid ((K.below hb1).below al)
  have hlt1 : w.heap.size < w1.heap.size := (K.below hb1).lt
  obtain ⟨gS, hgS⟩ : ∃ g, g = w1.heap.size := ⟨_, rfl⟩
  rw [← hgS] at RB hlt1
  clear hs0 hv0 hv1 K hbl0 hb1 al
  go_wp2
  rw [← hgS]
  clear hgS
  go_loopw [6] (fun i wr => ∃ k : Nat, k ≤ n ∧ i = .int .i64 (k : Int) ∧ FBox wr gS (psum (dots L M) k) ∧ Blk wr w.heap.size 24 #[.bool false, .slice none 0 0, .slice none 0 0] ∧ Below w.heap.size w wr)
    (fun i _ => n - (intOf i).toNat)
  case atStart => exact ⟨0, by omega, rfl, by rw [← HS0.out]; exact RB.out, K1.out, hbw⟩
  case round =>
    clear RB K1 hbw HS0
    obtain ⟨k, hk, rfl, hRB, hK, hbl⟩ := hrel
    obtain ⟨D1, d1, D2, d2, KS, hsr⟩ := hRB
    have HK := Lib.hid hK
    have HBL := Lib.hid hbl
    by_cases hx : k < n
    · obtain ⟨x, hx1⟩ : ∃ x, L[k]? = some x := ⟨_, List.getElem?_eq_getElem (by omega)⟩
      obtain ⟨y, hy1⟩ : ∃ y, M[k]? = some y := ⟨_, List.getElem?_eq_getElem (by omega)⟩
      have fewx := HFW.out x (List.mem_of_getElem? hx1)
      have fewy := HFW2.out y (List.mem_of_getElem? hy1)
      obtain ⟨ad, c', A1, a1, A2', a2, hsl, _, _, e0, e1, e2, hfr⟩ := HA.out.at hx1
      obtain ⟨rfl, rfl⟩ : A = some ad ∧ c = c' := by simpa using hsl
      obtain ⟨ad2, c2', A3, a3, A4, a4, hsl2, _, _, e3, e4, e5, hfr2⟩ := HB.out.at hy1
      obtain ⟨rfl, rfl⟩ : A2 = some ad2 ∧ c2 = c2' := by simpa using hsl2
      replace e0 := cell_below hbl e0
      replace e1 := cell_below hbl e1
      replace e2 := cell_below hbl e2
      replace e3 := cell_below hbl e3
      replace e4 := cell_below hbl e4
      replace e5 := cell_below hbl e5
      have hps := psum_succ (dots_at hx1 hy1)
      have sh1 := HSHO.out (k + 1) (by omega)
      have sh0 := HSHO.out k (by omega)
      have shm := HSHM.out _ (List.mem_of_getElem? (dots_at hx1 hy1))
      rw [hps] at sh1
      obtain ⟨p0, hp0⟩ : ∃ p, p = psum (dots L M) k := ⟨_, rfl⟩
      rw [← hp0] at KS hsr hps sh1 sh0
      have HPS := Lib.hid hps.symm
      have hqx := Lib.hid (show FrQ wr (.agg #[.bool x.1, .slice A1 x.2.1.length a1, .slice A2' x.2.2.length a2]) (fqd x) from ⟨x.1, x.2.1, x.2.2, hfr.below hbl, by omega, rfl⟩)
      have hqy := Lib.hid (show FrQ wr (.agg #[.bool y.1, .slice A3 y.2.1.length a3, .slice A4 y.2.2.length a4]) (fqd y) from ⟨y.1, y.2.1, y.2.2, hfr2.below hbl, by omega, rfl⟩)
      have hp := Lib.hid (FrV.q hsr sh0)
      have q1 : (k : Int) < (L.length : Int) := by omega
      have q2 : (k : Int) < (M.length : Int) := by omega
      have hgS2 : gS < wr.heap.size := KS.lt
      by_cases hnx : 0 < x.2.1.length
      · by_cases hny : 0 < y.2.1.length
        · have g1 : decide ((x.2.1.length : Int) > 0) = true := decide_eq_true (by omega)
          have g2 : decide ((y.2.1.length : Int) > 0) = true := decide_eq_true (by omega)
          have KD := KS.below (bl_drew wr)
          have u0 := KD.cell 0
          have u1 := KD.cell 1
          have u2 := KD.cell 2
          have e0' := cell_below (bl_drew wr) e0
          have e1' := cell_below (bl_drew wr) e1
          have e2' := cell_below (bl_drew wr) e2
          have e3' := cell_below (bl_drew wr) e3
          have e4' := cell_below (bl_drew wr) e4
          have e5' := cell_below (bl_drew wr) e5
          have HK' := Lib.hid (HK.out.below (bl_drew wr))
          have HB' := Lib.hid (bl_trans hbl (bl_drew wr))
          have hqx' := Lib.hid (FrQ.below hqx.out (bl_drew wr))
          have hqy' := Lib.hid (FrQ.below hqy.out (bl_drew wr))
          have hp' := Lib.hid (FrQ.below hp.out (bl_drew wr))
          clear hx1 hy1 hps hp0 hK hbl hsr hfr hfr2 hsl hsl2
          go_wp2_with fail
          go_region_law (first
            | (go_simp; go_at_call 33; (with_reducible refine (rmulq _ _ _ (fqd x) (fqd y) hqx'.out hqy'.out shm).mono ?_); (rintro e w4 ⟨v4, rfl, hv4, hb4⟩); (have hv4' := FrV.q hv4 shm); (have hp4 := FrQ.below hp'.out hb4); (have KS4 := KD.below hb4); (have z0 := KS4.cell 0); (have z1 := KS4.cell 1); (have z2 := KS4.cell 2))
            | (go_simp; go_at_call 31; (with_reducible refine (raddq _ _ _ p0 (fqd x * fqd y) hp4 hv4' sh1).mono ?_); (rintro e w5 ⟨v5, rfl, hv5, hb5⟩); (rw [HPS.out] at hv5); (obtain ⟨C1, y1, C2, y2, rfl, _, _, _, _⟩ := FrIn.shape hv5); (have KS5 := (KD.below hb4).below hb5); (have m0 := KS5.cell 0); (have m1 := KS5.cell 1); (have m2 := KS5.cell 2); (have mf := KS5.free))
            )
          all_goals
            have hb45 := bl_trans hb4 hb5
            go_wp2
            refine ⟨⟨k + 1, by omega, by go_num, FBox.set KS5 (boolne _) (slne _ _ _) (slne _ _ _) hv5, (((HK'.out.below hb45).other _ _ (by simp; omega)).other _ _ (by simp; omega)).other _ _ (by simp; omega), three_below (bl_trans HB'.out hb45) (by omega) _ _ _⟩, by simp [intOf]; omega⟩
        · have g1 : decide ((x.2.1.length : Int) > 0) = true := decide_eq_true (by omega)
          have g2 : decide ((y.2.1.length : Int) > 0) = false := decide_eq_false (by omega)
          have h0 : psum (dots L M) (k + 1) = p0 := by rw [HPS.out.symm, fqd_nil (d := y) (by omega), Rat.mul_zero, Rat.add_zero]
          have H0 := Lib.hid h0
          have HSR := Lib.hid (show FBox wr gS p0 from ⟨_, _, _, _, KS, hsr⟩)
          clear hx1 hy1 hps hp0 hK hbl hsr hfr hfr2 hsl hsl2 h0
          go_wp2
          exact ⟨⟨k + 1, by omega, by go_num, by rw [H0.out]; exact HSR.out, HK.out, HBL.out⟩, by simp [intOf]; omega⟩
      · have g1 : decide ((x.2.1.length : Int) > 0) = false := decide_eq_false (by omega)
        have h0 : psum (dots L M) (k + 1) = p0 := by rw [HPS.out.symm, fqd_nil (d := x) (by omega), Rat.zero_mul, Rat.add_zero]
        have H0 := Lib.hid h0
        have HSR := Lib.hid (show FBox wr gS p0 from ⟨_, _, _, _, KS, hsr⟩)
        clear hx1 hy1 hps hp0 hK hbl hsr hfr hfr2 hsl hsl2 h0
        go_wp2
        exact ⟨⟨k + 1, by omega, by go_num, by rw [H0.out]; exact HSR.out, HK.out, HBL.out⟩, by simp [intOf]; omega⟩
    · obtain rfl : k = n := by omega
      have k0 := KS.cell 0
      have k1 := KS.cell 1
      have k2 := KS.cell 2
      obtain ⟨p0, hp0⟩ : ∃ p, p = psum (dots L M) k := ⟨_, rfl⟩
      rw [← hp0] at KS hsr k0 k1 k2
      have m0 := hK.cell 0
      have m1 := hK.cell 1
      have m2 := hK.cell 2
      have f1 := hK.free
      have HP0 := Lib.hid hp0
      have HSR := Lib.hid hsr
      clear hp0 hsr
      by_cases hkl : k < L.length
      · have g1 : decide ((k : Int) < (L.length : Int)) = true := by simp; omega
        have g2 : ¬ k < M.length := by have := HN.out; omega
        go_wp2
        obtain ⟨v1, v2, hv, r1, r2, r3, r4⟩ := HSR.out
        exact bodyPost_ret (results_cell_row rfl _ _ w.heap.size 24 _ (0, 0) _ rfl (blk3 HK.out _ _ _) Try.underlying24 rfl (by kernel_rfl)) rfl ⟨_, rfl, by rw [← HP0.out]; exact ⟨v1, v2, hv, r1.three m0 m1 m2 (boolne _) (slne _ _ _) (slne _ _ _) _ _ _, r2.three m0 m1 m2 (boolne _) (slne _ _ _) (slne _ _ _) _ _ _, r3, r4⟩, three_below HBL.out (Nat.le_refl _) _ _ _⟩
      · have g1 : decide ((k : Int) < (L.length : Int)) = false := by simp; omega
        go_wp2
        obtain ⟨v1, v2, hv, r1, r2, r3, r4⟩ := HSR.out
        exact bodyPost_ret (results_cell_row rfl _ _ w.heap.size 24 _ (0, 0) _ rfl (blk3 HK.out _ _ _) Try.underlying24 rfl (by kernel_rfl)) rfl ⟨_, rfl, by rw [← HP0.out]; exact ⟨v1, v2, hv, r1.three m0 m1 m2 (boolne _) (slne _ _ _) (slne _ _ _) _ _ _, r2.three m0 m1 m2 (boolne _) (slne _ _ _) (slne _ _ _) _ _ _, r3, r4⟩, three_below HBL.out (Nat.le_refl _) _ _ _⟩

/-- The first place whose number comes ahead of all others by a sign of their order, of the first k; -1 for none. -/
def pk (s : Int) (qs : List Rat) : Nat → Int
  | 0 => -1
  | k + 1 => if pk s qs k < 0 ∨ rcmp (qs.getD k 0) (qs.getD (pk s qs k).toNat 0) = s then (k : Int) else pk s qs k
theorem pk_lt (s : Int) (qs : List Rat) (k : Nat) : pk s qs k < (k : Int) ∧ (0 < k → 0 ≤ pk s qs k) ∧ -1 ≤ pk s qs k := by
  induction k with
  | zero => simp [pk]
  | succ k ih => simp only [pk]; split <;> omega
theorem pk_one (s : Int) (qs : List Rat) : pk s qs 1 = 0 := by simp [pk]
theorem pk_at (s : Int) (qs : List Rat) (k : Nat) (hk : 0 < k) : ∃ j : Nat, pk s qs k = (j : Int) ∧ j < k := by
  have h := pk_lt s qs k
  exact ⟨(pk s qs k).toNat, by omega, by omega⟩
theorem pk_yes {s : Int} {qs : List Rat} {k j : Nat} {a b : Rat} (hj : pk s qs k = (j : Int)) (ha : qs[k]? = some a) (hb : qs[j]? = some b) (h : rcmp a b = s) : pk s qs (k + 1) = (k : Int) := by
  simp only [pk, hj, List.getD_eq_getElem?_getD, ha, hb, Int.toNat_natCast, Option.getD_some, h, or_true, if_true]
theorem pk_no {s : Int} {qs : List Rat} {k j : Nat} {a b : Rat} (hj : pk s qs k = (j : Int)) (ha : qs[k]? = some a) (hb : qs[j]? = some b) (h : ¬ rcmp a b = s) : pk s qs (k + 1) = (j : Int) := by
  have h0 : ¬ ((j : Int) < 0) := by omega
  simp only [pk, hj, List.getD_eq_getElem?_getD, ha, hb, Int.toNat_natCast, Option.getD_some, h, h0, or_self, if_false]
/-- What a comparison of two ratios of the row holds on to. -/
def HoldP (w : World) (g n : Nat) (qs : List Rat) (v1 v2 : Value) (q r : Rat) (w' : World) : Prop := Below w.heap.size w w' ∧ RL w' g n qs ∧ RtV w' v1 q ∧ RtV w' v2 r
theorem HoldP.next {w w1 w2 : World} {g n : Nat} {qs : List Rat} {v1 v2 : Value} {q r : Rat} (hb : Below w1.heap.size w1 w2) (h : HoldP w g n qs v1 v2 q r w1) : HoldP w g n qs v1 v2 q r w2 := ⟨bl_trans h.1 hb, h.2.1.below hb, h.2.2.1.below hb, h.2.2.2.below hb⟩
theorem HoldP.t1 {w w1 : World} {g n : Nat} {qs : List Rat} {v1 v2 : Value} {q r : Rat} (h : HoldP w g n qs v1 v2 q r w1) : RtV w1 v1 q := h.2.2.1
theorem HoldP.t2 {w w1 : World} {g n : Nat} {qs : List Rat} {v1 v2 : Value} {q r : Rat} (h : HoldP w g n qs v1 v2 q r w1) : RtV w1 v2 r := h.2.2.2
theorem holdp_next {w w1 w2 : World} {g n i j : Nat} {qs : List Rat} {v1 v2 : Value} {q r : Rat} {x0 x1 x2 x3 x4 x5 : Value} (hb : Below w1.heap.size w1 w2) (h : HoldP w g n qs v1 v2 q r w1 ∧ (w1.cell? ⟨g, i * 3, none⟩ = some x0 ∧ w1.cell? ⟨g, i * 3 + 1, none⟩ = some x1 ∧ w1.cell? ⟨g, i * 3 + 2, none⟩ = some x2) ∧ (w1.cell? ⟨g, j * 3, none⟩ = some x3 ∧ w1.cell? ⟨g, j * 3 + 1, none⟩ = some x4 ∧ w1.cell? ⟨g, j * 3 + 2, none⟩ = some x5)) : HoldP w g n qs v1 v2 q r w2 ∧ (w2.cell? ⟨g, i * 3, none⟩ = some x0 ∧ w2.cell? ⟨g, i * 3 + 1, none⟩ = some x1 ∧ w2.cell? ⟨g, i * 3 + 2, none⟩ = some x2) ∧ (w2.cell? ⟨g, j * 3, none⟩ = some x3 ∧ w2.cell? ⟨g, j * 3 + 1, none⟩ = some x4 ∧ w2.cell? ⟨g, j * 3 + 2, none⟩ = some x5) := by
  obtain ⟨h0, ⟨e0, e1, e2⟩, ⟨e3, e4, e5⟩⟩ := h
  exact ⟨h0.next hb, ⟨cell_below hb e0, cell_below hb e1, cell_below hb e2⟩, ⟨cell_below hb e3, cell_below hb e4, cell_below hb e5⟩⟩
set_option maxRecDepth 100000 in
set_option maxHeartbeats 4000000 in
theorem pick_calls (w : World) (va : Value) (L : List (Bool × List Int × List Int)) (s : Int) (ha : FL w va L) (hL : L.length ≤ 64) (hf : FewD 16 L) :
    Calls Try.prog 88 #[va, .int .i64 s] w fun e w' => e = .returned (.int .i64 (pk s (L.map fqd) L.length)) ∧ Below w.heap.size w w' := by
  have HZQ := Lib.hid (few_szq (by omega) hf ha.wd)
  have hf2 : FewD 2048 L := fun d hd => ⟨Nat.le_trans (hf d hd).1 (by omega), Nat.le_trans (hf d hd).2 (by omega)⟩
  have HF := Lib.hid hf2
  obtain ⟨A, c, rfl⟩ := ha.shape
  clear hf hf2
  go_enter Try.func88, Try.ntmps88
  go_wp2_with fail
  refine (all_calls _ _ L ha (by omega) HF.out).mono ?_
  rintro e w2 ⟨gR, rfl, hgR, hRL, hb2⟩
  have R0 := Lib.hid hRL
  have B0 := Lib.hid hb2
  clear ha hRL hb2 hgR
  go_wp2
  go_loopw [12, 5] (fun i t wr => ∃ k : Nat, k ≤ L.length ∧ i = .int .i64 (k : Int) ∧ t = .int .i64 (pk s (L.map fqd) k) ∧ RL wr gR L.length (L.map fqd) ∧ Below w.heap.size w wr)
    (fun i _ _ => L.length - (intOf i).toNat)
  case atStart => exact ⟨0, by omega, rfl, rfl, R0.out, B0.out⟩
  case round =>
    clear R0 B0
    obtain ⟨k, hk, rfl, rfl, hRL, hbl⟩ := hrel
    by_cases hx : k < L.length
    · obtain ⟨q, hq⟩ : ∃ q, (L.map fqd)[k]? = some q := ⟨_, List.getElem?_eq_getElem (by simpa using hx)⟩
      have q1 : (k : Int) < (L.length : Int) := by omega
      rcases Nat.eq_zero_or_pos k with h0 | h0
      · subst h0
        have HK := Lib.hid hRL
        have HB := Lib.hid hbl
        clear hRL hbl
        have hp : pk s (L.map fqd) 0 = -1 := rfl
        rw [hp]
        go_wp2_with fail
        go_quiet (fail)
        go_wp2
        exact ⟨⟨1, by omega, by go_num, by rw [pk_one]; rfl, HK.out.below (bl_drewN _ _), bl_trans HB.out (bl_drewN _ _)⟩, by simp [intOf]; omega⟩
      · obtain ⟨j, hj, hjk⟩ := pk_at s (L.map fqd) k h0
        obtain ⟨r, hr⟩ : ∃ r, (L.map fqd)[j]? = some r := ⟨_, List.getElem?_eq_getElem (by simp; omega)⟩
        have PY := Lib.hid (pk_yes hj hq hr)
        have PN := Lib.hid (pk_no hj hq hr)
        obtain ⟨E1, x1, E2, x2, e0, e1, e2, hrt⟩ := hRL.cell hq
        obtain ⟨E3, x3, E4, x4, e3, e4, e5, hrt2⟩ := hRL.cell hr
        have zq := HZQ.out q (List.mem_of_getElem? hq)
        have zr := HZQ.out r (List.mem_of_getElem? hr)
        have hs := holdp_next (bl_drew wr) ⟨(⟨hbl, hRL, hrt, hrt2⟩ : HoldP w gR L.length (L.map fqd) _ _ q r wr), ⟨e0, e1, e2⟩, ⟨e3, e4, e5⟩⟩
        rw [hj]
        have q2 : (j : Int) < (L.length : Int) := by omega
        have q3 : ¬ (j : Int) < 0 := by omega
        clear hq hr hj hRL hbl hrt hrt2 e0 e1 e2 e3 e4 e5
        by_cases hc : rcmp q r = s
        · have hc2 : (rcmp q r == s) = true := beq_iff_eq.2 hc
          go_wp2_with fail
          go_region_held3 (fun w' => HoldP w gR L.length (L.map fqd) (.agg #[.slice E1 (dg q.num.natAbs).length x1, .slice E2 (dg q.den).length x2, .bool (decide (q.num < 0))]) (.agg #[.slice E3 (dg r.num.natAbs).length x3, .slice E4 (dg r.den).length x4, .bool (decide (r.num < 0))]) q r w' ∧ (w'.cell? ⟨gR, k * 3, none⟩ = some (.slice E1 (dg q.num.natAbs).length x1) ∧ w'.cell? ⟨gR, k * 3 + 1, none⟩ = some (.slice E2 (dg q.den).length x2) ∧ w'.cell? ⟨gR, k * 3 + 2, none⟩ = some (.bool (decide (q.num < 0)))) ∧ (w'.cell? ⟨gR, j * 3, none⟩ = some (.slice E3 (dg r.num.natAbs).length x3) ∧ w'.cell? ⟨gR, j * 3 + 1, none⟩ = some (.slice E4 (dg r.den).length x4) ∧ w'.cell? ⟨gR, j * 3 + 2, none⟩ = some (.bool (decide (r.num < 0)))))
            ((first | exact hs | exact holdp_next hbN (by assumption)))
            (first
              | (go_at_call 73; (with_reducible refine (order_calls _ _ _ q r ?_ ?_ (zq.mono (by omega)) (zr.mono (by omega))).mono ?_); (exact HoldP.t1 (And.left (by assumption))); (exact HoldP.t2 (And.left (by assumption))); (rintro e w' ⟨rfl, hbN⟩); (have H1 := HoldP.next hbN (And.left (by assumption)))))
          go_wp2
          exact ⟨⟨k + 1, by omega, by go_num, by rw [PY.out hc], H1.2.1, H1.1⟩, by simp [intOf]; omega⟩
        · have hc2 : (rcmp q r == s) = false := beq_eq_false_iff_ne.2 hc
          go_wp2_with fail
          go_region_held3 (fun w' => HoldP w gR L.length (L.map fqd) (.agg #[.slice E1 (dg q.num.natAbs).length x1, .slice E2 (dg q.den).length x2, .bool (decide (q.num < 0))]) (.agg #[.slice E3 (dg r.num.natAbs).length x3, .slice E4 (dg r.den).length x4, .bool (decide (r.num < 0))]) q r w' ∧ (w'.cell? ⟨gR, k * 3, none⟩ = some (.slice E1 (dg q.num.natAbs).length x1) ∧ w'.cell? ⟨gR, k * 3 + 1, none⟩ = some (.slice E2 (dg q.den).length x2) ∧ w'.cell? ⟨gR, k * 3 + 2, none⟩ = some (.bool (decide (q.num < 0)))) ∧ (w'.cell? ⟨gR, j * 3, none⟩ = some (.slice E3 (dg r.num.natAbs).length x3) ∧ w'.cell? ⟨gR, j * 3 + 1, none⟩ = some (.slice E4 (dg r.den).length x4) ∧ w'.cell? ⟨gR, j * 3 + 2, none⟩ = some (.bool (decide (r.num < 0)))))
            ((first | exact hs | exact holdp_next hbN (by assumption)))
            (first
              | (go_at_call 73; (with_reducible refine (order_calls _ _ _ q r ?_ ?_ (zq.mono (by omega)) (zr.mono (by omega))).mono ?_); (exact HoldP.t1 (And.left (by assumption))); (exact HoldP.t2 (And.left (by assumption))); (rintro e w' ⟨rfl, hbN⟩); (have H1 := HoldP.next hbN (And.left (by assumption)))))
          go_wp2
          exact ⟨⟨k + 1, by omega, by go_num, by rw [PN.out hc], H1.2.1, H1.1⟩, by simp [intOf]; omega⟩
    · obtain rfl : k = L.length := by omega
      have HB := Lib.hid hbl
      clear hRL hbl
      go_wp2
      go_ret
      exact ⟨rfl, HB.out⟩
theorem least_calls (w : World) (va : Value) (L : List (Bool × List Int × List Int)) (ha : FL w va L) (hL : L.length ≤ 64) (hf : FewD 16 L) :
    Calls Try.prog 45 #[va] w fun e w' => e = .returned (.int .i64 (pk (-1) (L.map fqd) L.length)) ∧ Below w.heap.size w w' := by
  go_enter Try.func45, Try.ntmps45
  obtain ⟨A, c, rfl⟩ := ha.shape
  go_wp2_with fail
  refine (pick_calls _ _ L (-1) ha hL hf).mono ?_
  rintro e w2 ⟨rfl, hb2⟩
  have HB := Lib.hid hb2
  clear ha hb2
  go_wp2
  go_ret
  exact ⟨rfl, HB.out⟩
theorem most_calls (w : World) (va : Value) (L : List (Bool × List Int × List Int)) (ha : FL w va L) (hL : L.length ≤ 64) (hf : FewD 16 L) :
    Calls Try.prog 47 #[va] w fun e w' => e = .returned (.int .i64 (pk 1 (L.map fqd) L.length)) ∧ Below w.heap.size w w' := by
  go_enter Try.func47, Try.ntmps47
  obtain ⟨A, c, rfl⟩ := ha.shape
  go_wp2_with fail
  refine (pick_calls _ _ L 1 ha hL hf).mono ?_
  rintro e w2 ⟨rfl, hb2⟩
  have HB := Lib.hid hb2
  clear ha hb2
  go_wp2
  go_ret
  exact ⟨rfl, HB.out⟩

/-- What a comparison of two fractions of the list holds on to. -/
def HoldFF (w : World) (v1 v2 : Value) (q r : Rat) (w' : World) : Prop := Below w.heap.size w w' ∧ FrQ w' v1 q ∧ FrQ w' v2 r
theorem HoldFF.next {w w1 w2 : World} {v1 v2 : Value} {q r : Rat} (hb : Below w1.heap.size w1 w2) (h : HoldFF w v1 v2 q r w1) : HoldFF w v1 v2 q r w2 := ⟨bl_trans h.1 hb, FrQ.below h.2.1 hb, FrQ.below h.2.2 hb⟩
theorem HoldFF.t1 {w w1 : World} {v1 v2 : Value} {q r : Rat} (h : HoldFF w v1 v2 q r w1) : FrQ w1 v1 q := h.2.1
theorem HoldFF.t2 {w w1 : World} {v1 v2 : Value} {q r : Rat} (h : HoldFF w v1 v2 q r w1) : FrQ w1 v2 r := h.2.2
theorem holdff_next {w w1 w2 : World} {v1 v2 : Value} {q r : Rat} {a0 a1 a2 a3 a4 a5 : Addr} {x0 x1 x2 x3 x4 x5 : Value} (hb : Below w1.heap.size w1 w2) (h : HoldFF w v1 v2 q r w1 ∧ (w1.cell? a0 = some x0 ∧ w1.cell? a1 = some x1 ∧ w1.cell? a2 = some x2) ∧ (w1.cell? a3 = some x3 ∧ w1.cell? a4 = some x4 ∧ w1.cell? a5 = some x5)) : HoldFF w v1 v2 q r w2 ∧ (w2.cell? a0 = some x0 ∧ w2.cell? a1 = some x1 ∧ w2.cell? a2 = some x2) ∧ (w2.cell? a3 = some x3 ∧ w2.cell? a4 = some x4 ∧ w2.cell? a5 = some x5) := by
  obtain ⟨h0, ⟨e0, e1, e2⟩, ⟨e3, e4, e5⟩⟩ := h
  exact ⟨h0.next hb, ⟨cell_below hb e0, cell_below hb e1, cell_below hb e2⟩, ⟨cell_below hb e3, cell_below hb e4, cell_below hb e5⟩⟩
theorem rcmp_three (a b : Rat) : rcmp a b = -1 ∨ rcmp a b = 0 ∨ rcmp a b = 1 := by
  unfold rcmp; split
  · exact Or.inl rfl
  · split
    · exact Or.inr (Or.inr rfl)
    · exact Or.inr (Or.inl rfl)
set_option maxRecDepth 100000 in
set_option maxHeartbeats 4000000 in
theorem rleast_calls (w : World) (va : Value) (L : List (Bool × List Int × List Int)) (ha : FL w va L) (hL : L.length ≤ 64) (hf : FewD 16 L) :
    Calls Try.prog 46 #[va] w fun e w' => e = .returned (.int .i64 (pk (-1) (L.map fqd) L.length)) ∧ Below w.heap.size w w' := by
  have HA := Lib.hid ha
  have HF := Lib.hid hf
  obtain ⟨A, c, rfl⟩ := ha.shape
  have hcap := ha
  obtain ⟨_, _, hv, hl, hc, _⟩ := hcap
  obtain ⟨rfl, rfl⟩ : A = _ ∧ c = _ := by simpa using hv
  clear hf ha hv
  go_enter Try.func46, Try.ntmps46
  go_wp2
  go_loopw [3, 4] (fun t i wr => ∃ k : Nat, k ≤ L.length ∧ i = .int .i64 (k : Int) ∧ t = .int .i64 (pk (-1) (L.map fqd) k) ∧ Below w.heap.size w wr)
    (fun _ i _ => L.length - (intOf i).toNat)
  case atStart => exact ⟨0, by omega, rfl, rfl, Below.refl _ _⟩
  case round =>
    obtain ⟨k, hk, rfl, rfl, hbl⟩ := hrel
    by_cases hx : k < L.length
    · have q1 : (k : Int) < (L.length : Int) := by omega
      rcases Nat.eq_zero_or_pos k with h0 | h0
      · subst h0
        have HB := Lib.hid hbl
        clear hbl
        have hp : pk (-1) (L.map fqd) 0 = -1 := rfl
        rw [hp]
        go_wp2_with fail
        go_quiet (fail)
        go_wp2
        exact ⟨⟨1, by omega, by go_num, by rw [pk_one]; rfl, bl_trans HB.out (bl_drewN _ _)⟩, by simp [intOf]; omega⟩
      · obtain ⟨j, hj, hjk⟩ := pk_at (-1) (L.map fqd) k h0
        obtain ⟨x, hx1⟩ : ∃ x, L[k]? = some x := ⟨_, List.getElem?_eq_getElem hx⟩
        obtain ⟨y, hy1⟩ : ∃ y, L[j]? = some y := ⟨_, List.getElem?_eq_getElem (by omega)⟩
        have PY := Lib.hid (pk_yes hj (qs := L.map fqd) (a := fqd x) (b := fqd y) (by rw [List.getElem?_map, hx1]; rfl) (by rw [List.getElem?_map, hy1]; rfl))
        have PN := Lib.hid (pk_no hj (qs := L.map fqd) (a := fqd x) (b := fqd y) (by rw [List.getElem?_map, hx1]; rfl) (by rw [List.getElem?_map, hy1]; rfl))
        have fewx := HF.out x (List.mem_of_getElem? hx1)
        have fewy := HF.out y (List.mem_of_getElem? hy1)
        obtain ⟨ad, c', A1, a1, A2, a2, hsl, _, _, e0, e1, e2, hfr⟩ := HA.out.at hx1
        obtain ⟨rfl, rfl⟩ : A = some ad ∧ c = c' := by simpa using hsl
        obtain ⟨ad2, c2', A3, a3, A4, a4, hsl2, _, _, e3, e4, e5, hfr2⟩ := HA.out.at hy1
        have hh : ad = ad2 ∧ c = c2' := by simpa using hsl2
        obtain rfl := hh.1
        clear hh
        have hs := holdff_next (bl_drew wr) ⟨(⟨hbl, ⟨x.1, x.2.1, x.2.2, hfr.below hbl, by omega, rfl⟩, ⟨y.1, y.2.1, y.2.2, hfr2.below hbl, by omega, rfl⟩⟩ : HoldFF w _ _ (fqd x) (fqd y) wr), ⟨cell_below hbl e0, cell_below hbl e1, cell_below hbl e2⟩, ⟨cell_below hbl e3, cell_below hbl e4, cell_below hbl e5⟩⟩
        rw [hj]
        have q2 : (j : Int) < (L.length : Int) := by omega
        have q3 : ¬ (j : Int) < 0 := by omega
        have h3 := rcmp_three (fqd x) (fqd y)
        clear hj hbl hfr hfr2 hsl hsl2 e0 e1 e2 e3 e4 e5 hx1 hy1
        by_cases hc : rcmp (fqd x) (fqd y) = (-1)
        · have hc2 : decide (rcmp (fqd x) (fqd y) < 0) = true := decide_eq_true (by omega)
          clear h3
          go_wp2_with fail
          go_region_held3 (fun w' => HoldFF w (.agg #[.bool x.1, .slice A1 x.2.1.length a1, .slice A2 x.2.2.length a2]) (.agg #[.bool y.1, .slice A3 y.2.1.length a3, .slice A4 y.2.2.length a4]) (fqd x) (fqd y) w' ∧ (w'.cell? (ad.add (k * 3)) = some (.bool x.1) ∧ w'.cell? ⟨(ad.add (k * 3)).block, (ad.add (k * 3)).off + 1, none⟩ = some (.slice A1 x.2.1.length a1) ∧ w'.cell? ⟨(ad.add (k * 3)).block, (ad.add (k * 3)).off + 2, none⟩ = some (.slice A2 x.2.2.length a2)) ∧ (w'.cell? (ad.add (j * 3)) = some (.bool y.1) ∧ w'.cell? ⟨(ad.add (j * 3)).block, (ad.add (j * 3)).off + 1, none⟩ = some (.slice A3 y.2.1.length a3) ∧ w'.cell? ⟨(ad.add (j * 3)).block, (ad.add (j * 3)).off + 2, none⟩ = some (.slice A4 y.2.2.length a4)))
            ((first | exact hs | exact holdff_next hbN (by assumption)))
            (first
              | (go_at_call 37; (with_reducible refine (rcmpq _ _ _ (fqd x) (fqd y) ?_ ?_).mono ?_); (exact HoldFF.t1 (And.left (by assumption))); (exact HoldFF.t2 (And.left (by assumption))); (rintro e w' ⟨rfl, hbN⟩); (have H1 := HoldFF.next hbN (And.left (by assumption)))))
          go_wp2
          exact ⟨⟨k + 1, by omega, by go_num, by rw [PY.out hc], H1.1⟩, by simp [intOf]; omega⟩
        · have hc2 : decide (rcmp (fqd x) (fqd y) < 0) = false := decide_eq_false (by omega)
          clear h3
          go_wp2_with fail
          go_region_held3 (fun w' => HoldFF w (.agg #[.bool x.1, .slice A1 x.2.1.length a1, .slice A2 x.2.2.length a2]) (.agg #[.bool y.1, .slice A3 y.2.1.length a3, .slice A4 y.2.2.length a4]) (fqd x) (fqd y) w' ∧ (w'.cell? (ad.add (k * 3)) = some (.bool x.1) ∧ w'.cell? ⟨(ad.add (k * 3)).block, (ad.add (k * 3)).off + 1, none⟩ = some (.slice A1 x.2.1.length a1) ∧ w'.cell? ⟨(ad.add (k * 3)).block, (ad.add (k * 3)).off + 2, none⟩ = some (.slice A2 x.2.2.length a2)) ∧ (w'.cell? (ad.add (j * 3)) = some (.bool y.1) ∧ w'.cell? ⟨(ad.add (j * 3)).block, (ad.add (j * 3)).off + 1, none⟩ = some (.slice A3 y.2.1.length a3) ∧ w'.cell? ⟨(ad.add (j * 3)).block, (ad.add (j * 3)).off + 2, none⟩ = some (.slice A4 y.2.2.length a4)))
            ((first | exact hs | exact holdff_next hbN (by assumption)))
            (first
              | (go_at_call 37; (with_reducible refine (rcmpq _ _ _ (fqd x) (fqd y) ?_ ?_).mono ?_); (exact HoldFF.t1 (And.left (by assumption))); (exact HoldFF.t2 (And.left (by assumption))); (rintro e w' ⟨rfl, hbN⟩); (have H1 := HoldFF.next hbN (And.left (by assumption)))))
          go_wp2
          exact ⟨⟨k + 1, by omega, by go_num, by rw [PN.out hc], H1.1⟩, by simp [intOf]; omega⟩
    · obtain rfl : k = L.length := by omega
      have HB := Lib.hid hbl
      clear hbl
      go_wp2
      go_ret
      exact ⟨rfl, HB.out⟩
set_option maxRecDepth 100000 in
set_option maxHeartbeats 4000000 in
theorem rmost_calls (w : World) (va : Value) (L : List (Bool × List Int × List Int)) (ha : FL w va L) (hL : L.length ≤ 64) (hf : FewD 16 L) :
    Calls Try.prog 48 #[va] w fun e w' => e = .returned (.int .i64 (pk 1 (L.map fqd) L.length)) ∧ Below w.heap.size w w' := by
  have HA := Lib.hid ha
  have HF := Lib.hid hf
  obtain ⟨A, c, rfl⟩ := ha.shape
  have hcap := ha
  obtain ⟨_, _, hv, hl, hc, _⟩ := hcap
  obtain ⟨rfl, rfl⟩ : A = _ ∧ c = _ := by simpa using hv
  clear hf ha hv
  go_enter Try.func48, Try.ntmps48
  go_wp2
  go_loopw [3, 4] (fun t i wr => ∃ k : Nat, k ≤ L.length ∧ i = .int .i64 (k : Int) ∧ t = .int .i64 (pk 1 (L.map fqd) k) ∧ Below w.heap.size w wr)
    (fun _ i _ => L.length - (intOf i).toNat)
  case atStart => exact ⟨0, by omega, rfl, rfl, Below.refl _ _⟩
  case round =>
    obtain ⟨k, hk, rfl, rfl, hbl⟩ := hrel
    by_cases hx : k < L.length
    · have q1 : (k : Int) < (L.length : Int) := by omega
      rcases Nat.eq_zero_or_pos k with h0 | h0
      · subst h0
        have HB := Lib.hid hbl
        clear hbl
        have hp : pk 1 (L.map fqd) 0 = -1 := rfl
        rw [hp]
        go_wp2_with fail
        go_quiet (fail)
        go_wp2
        exact ⟨⟨1, by omega, by go_num, by rw [pk_one]; rfl, bl_trans HB.out (bl_drewN _ _)⟩, by simp [intOf]; omega⟩
      · obtain ⟨j, hj, hjk⟩ := pk_at 1 (L.map fqd) k h0
        obtain ⟨x, hx1⟩ : ∃ x, L[k]? = some x := ⟨_, List.getElem?_eq_getElem hx⟩
        obtain ⟨y, hy1⟩ : ∃ y, L[j]? = some y := ⟨_, List.getElem?_eq_getElem (by omega)⟩
        have PY := Lib.hid (pk_yes hj (qs := L.map fqd) (a := fqd x) (b := fqd y) (by rw [List.getElem?_map, hx1]; rfl) (by rw [List.getElem?_map, hy1]; rfl))
        have PN := Lib.hid (pk_no hj (qs := L.map fqd) (a := fqd x) (b := fqd y) (by rw [List.getElem?_map, hx1]; rfl) (by rw [List.getElem?_map, hy1]; rfl))
        have fewx := HF.out x (List.mem_of_getElem? hx1)
        have fewy := HF.out y (List.mem_of_getElem? hy1)
        obtain ⟨ad, c', A1, a1, A2, a2, hsl, _, _, e0, e1, e2, hfr⟩ := HA.out.at hx1
        obtain ⟨rfl, rfl⟩ : A = some ad ∧ c = c' := by simpa using hsl
        obtain ⟨ad2, c2', A3, a3, A4, a4, hsl2, _, _, e3, e4, e5, hfr2⟩ := HA.out.at hy1
        have hh : ad = ad2 ∧ c = c2' := by simpa using hsl2
        obtain rfl := hh.1
        clear hh
        have hs := holdff_next (bl_drew wr) ⟨(⟨hbl, ⟨x.1, x.2.1, x.2.2, hfr.below hbl, by omega, rfl⟩, ⟨y.1, y.2.1, y.2.2, hfr2.below hbl, by omega, rfl⟩⟩ : HoldFF w _ _ (fqd x) (fqd y) wr), ⟨cell_below hbl e0, cell_below hbl e1, cell_below hbl e2⟩, ⟨cell_below hbl e3, cell_below hbl e4, cell_below hbl e5⟩⟩
        rw [hj]
        have q2 : (j : Int) < (L.length : Int) := by omega
        have q3 : ¬ (j : Int) < 0 := by omega
        have h3 := rcmp_three (fqd x) (fqd y)
        clear hj hbl hfr hfr2 hsl hsl2 e0 e1 e2 e3 e4 e5 hx1 hy1
        by_cases hc : rcmp (fqd x) (fqd y) = 1
        · have hc2 : decide (rcmp (fqd x) (fqd y) > 0) = true := decide_eq_true (by omega)
          clear h3
          go_wp2_with fail
          go_region_held3 (fun w' => HoldFF w (.agg #[.bool x.1, .slice A1 x.2.1.length a1, .slice A2 x.2.2.length a2]) (.agg #[.bool y.1, .slice A3 y.2.1.length a3, .slice A4 y.2.2.length a4]) (fqd x) (fqd y) w' ∧ (w'.cell? (ad.add (k * 3)) = some (.bool x.1) ∧ w'.cell? ⟨(ad.add (k * 3)).block, (ad.add (k * 3)).off + 1, none⟩ = some (.slice A1 x.2.1.length a1) ∧ w'.cell? ⟨(ad.add (k * 3)).block, (ad.add (k * 3)).off + 2, none⟩ = some (.slice A2 x.2.2.length a2)) ∧ (w'.cell? (ad.add (j * 3)) = some (.bool y.1) ∧ w'.cell? ⟨(ad.add (j * 3)).block, (ad.add (j * 3)).off + 1, none⟩ = some (.slice A3 y.2.1.length a3) ∧ w'.cell? ⟨(ad.add (j * 3)).block, (ad.add (j * 3)).off + 2, none⟩ = some (.slice A4 y.2.2.length a4)))
            ((first | exact hs | exact holdff_next hbN (by assumption)))
            (first
              | (go_at_call 37; (with_reducible refine (rcmpq _ _ _ (fqd x) (fqd y) ?_ ?_).mono ?_); (exact HoldFF.t1 (And.left (by assumption))); (exact HoldFF.t2 (And.left (by assumption))); (rintro e w' ⟨rfl, hbN⟩); (have H1 := HoldFF.next hbN (And.left (by assumption)))))
          go_wp2
          exact ⟨⟨k + 1, by omega, by go_num, by rw [PY.out hc], H1.1⟩, by simp [intOf]; omega⟩
        · have hc2 : decide (rcmp (fqd x) (fqd y) > 0) = false := decide_eq_false (by omega)
          clear h3
          go_wp2_with fail
          go_region_held3 (fun w' => HoldFF w (.agg #[.bool x.1, .slice A1 x.2.1.length a1, .slice A2 x.2.2.length a2]) (.agg #[.bool y.1, .slice A3 y.2.1.length a3, .slice A4 y.2.2.length a4]) (fqd x) (fqd y) w' ∧ (w'.cell? (ad.add (k * 3)) = some (.bool x.1) ∧ w'.cell? ⟨(ad.add (k * 3)).block, (ad.add (k * 3)).off + 1, none⟩ = some (.slice A1 x.2.1.length a1) ∧ w'.cell? ⟨(ad.add (k * 3)).block, (ad.add (k * 3)).off + 2, none⟩ = some (.slice A2 x.2.2.length a2)) ∧ (w'.cell? (ad.add (j * 3)) = some (.bool y.1) ∧ w'.cell? ⟨(ad.add (j * 3)).block, (ad.add (j * 3)).off + 1, none⟩ = some (.slice A3 y.2.1.length a3) ∧ w'.cell? ⟨(ad.add (j * 3)).block, (ad.add (j * 3)).off + 2, none⟩ = some (.slice A4 y.2.2.length a4)))
            ((first | exact hs | exact holdff_next hbN (by assumption)))
            (first
              | (go_at_call 37; (with_reducible refine (rcmpq _ _ _ (fqd x) (fqd y) ?_ ?_).mono ?_); (exact HoldFF.t1 (And.left (by assumption))); (exact HoldFF.t2 (And.left (by assumption))); (rintro e w' ⟨rfl, hbN⟩); (have H1 := HoldFF.next hbN (And.left (by assumption)))))
          go_wp2
          exact ⟨⟨k + 1, by omega, by go_num, by rw [PN.out hc], H1.1⟩, by simp [intOf]; omega⟩
    · obtain rfl : k = L.length := by omega
      have HB := Lib.hid hbl
      clear hbl
      go_wp2
      go_ret
      exact ⟨rfl, HB.out⟩
end Go.Proofs.Ytdmgceckmciifaa
