/- Lists of fractions: what is handed in, what all makes of it. -/
import Derived.Test.YtajckdheecgceaaRef19
set_option linter.unusedVariables false
set_option linter.unusedSimpArgs false
namespace Go.Proofs.Ytajckdheecgceaa
open Go.RowKit

/-- A list of fractions that is handed in: of each its sign and its words. -/
def FL (w : World) (v : Value) (L : List (Bool × List Int × List Int)) : Prop := ∃ A c, v = .slice A L.length c ∧ L.length ≤ c ∧ c ≤ 9223372036854775807 ∧ (0 < L.length → ∃ ad, A = some ad ∧ ∀ i d, L[i]? = some d →
  ∃ v1 v2, w.cell? (ad.add (i * 3)) = some (.bool d.1) ∧ w.cell? ⟨(ad.add (i * 3)).block, (ad.add (i * 3)).off + 1, none⟩ = some v1 ∧ w.cell? ⟨(ad.add (i * 3)).block, (ad.add (i * 3)).off + 2, none⟩ = some v2 ∧ FrIn w (.agg #[.bool d.1, v1, v2]) d.1 d.2.1 d.2.2)
theorem FL.below {w w1 : World} {v : Value} {L : List (Bool × List Int × List Int)} (h : FL w v L) (hb : Below w.heap.size w w1) : FL w1 v L := by
  obtain ⟨A, c, hv, h1, h2, h3⟩ := h
  refine ⟨A, c, hv, h1, h2, fun h0 => ?_⟩
  obtain ⟨ad, ha, hc⟩ := h3 h0
  refine ⟨ad, ha, fun i d hd => ?_⟩
  obtain ⟨v1, v2, k0, k1, k2, hf⟩ := hc i d hd
  exact ⟨v1, v2, cell_below hb k0, cell_below hb k1, cell_below hb k2, hf.below hb⟩
theorem FL.shape {w : World} {v : Value} {L : List (Bool × List Int × List Int)} (h : FL w v L) : ∃ A c, v = .slice A L.length c := by
  obtain ⟨A, c, hv, _⟩ := h
  exact ⟨A, c, hv⟩
/-- What an element counts as. -/
def fqd (d : Bool × List Int × List Int) : Rat := fixq d.1 d.2.1 d.2.2
/-- All are of few words. -/
def FewD (k : Nat) (L : List (Bool × List Int × List Int)) : Prop := ∀ d ∈ L, d.2.1.length ≤ k ∧ d.2.2.length ≤ k
/-- A row of ratios in a block of its own: cells that hold no words. -/
def RL (w : World) (g : Nat) (n : Nat) (qs : List Rat) : Prop := ∃ cs : Array Value, w.heap[g]? = some (.cells cs 113 (0, 0)) ∧ cs.size = 3 * n ∧ (∀ (j : Nat) (x : Value), cs[j]? = some x → ∀ n, x ≠ Value.int .u32 n) ∧
  ∀ (i : Nat) (q : Rat), qs[i]? = some q → ∃ v1 v2, cs[i * 3]? = some v1 ∧ cs[i * 3 + 1]? = some v2 ∧ cs[i * 3 + 2]? = some (.bool (decide (q.num < 0))) ∧ Nm w v1 q.num.natAbs ∧ Nm w v2 q.den
theorem RL.below {w w1 : World} {g n : Nat} {qs : List Rat} (h : RL w g n qs) (hb : Below w.heap.size w w1) : RL w1 g n qs := by
  obtain ⟨cs, h1, h2, h3, h4⟩ := h
  refine ⟨cs, (hb.block g (Array.getElem?_eq_some_iff.1 h1).1).trans h1, h2, h3, fun i q hq => ?_⟩
  obtain ⟨v1, v2, k0, k1, k2, m1, m2⟩ := h4 i q hq
  exact ⟨v1, v2, k0, k1, k2, m1.below hb, m2.below hb⟩
theorem RL.cell {w : World} {g n : Nat} {qs : List Rat} (h : RL w g n qs) {i : Nat} {q : Rat} (hq : qs[i]? = some q) : ∃ A c A2 c2, w.cell? ⟨g, i * 3, none⟩ = some (.slice A (dg q.num.natAbs).length c) ∧ w.cell? ⟨g, i * 3 + 1, none⟩ = some (.slice A2 (dg q.den).length c2) ∧ w.cell? ⟨g, i * 3 + 2, none⟩ = some (.bool (decide (q.num < 0))) ∧ RtV w (.agg #[.slice A (dg q.num.natAbs).length c, .slice A2 (dg q.den).length c2, .bool (decide (q.num < 0))]) q := by
  obtain ⟨cs, h1, h2, h3, h4⟩ := h
  obtain ⟨v1, v2, k0, k1, k2, m1, m2⟩ := h4 i q hq
  obtain ⟨A, c, rfl⟩ := m1.shape
  obtain ⟨A2, c2, rfl⟩ := m2.shape
  exact ⟨A, c, A2, c2, by rw [cell_of_row w g _ cs _ _ h1, k0], by rw [cell_of_row w g _ cs _ _ h1, k1], by rw [cell_of_row w g _ cs _ _ h1, k2], _, _, rfl, m1, m2⟩
theorem RL.free {w : World} {g n : Nat} {qs : List Rat} (h : RL w g n qs) (j : Nat) : w.frozen? ⟨g, j, none⟩ = false := by
  obtain ⟨cs, h1, _⟩ := h
  exact frozen_of_row w g j cs _ h1
theorem RL.lt {w : World} {g n : Nat} {qs : List Rat} (h : RL w g n qs) : g < w.heap.size := by
  obtain ⟨cs, h1, _⟩ := h
  exact (Array.getElem?_eq_some_iff.1 h1).1
/-- A place that is there. -/
theorem RL.there {w : World} {g n : Nat} {qs : List Rat} (h : RL w g n qs) {j : Nat} (hj : j < 3 * n) : ∃ x, w.cell? ⟨g, j, none⟩ = some x := by
  obtain ⟨cs, h1, h2, _⟩ := h
  exact ⟨_, by rw [cell_of_row w g j cs _ _ h1]; exact Array.getElem?_eq_getElem (by omega)⟩
/-- One more ratio is stored. -/
theorem RL.set {w : World} {g n : Nat} {qs : List Rat} (h : RL w g n qs) (hn : qs.length < n) {q : Rat} {A A2 : Option Addr} {c c2 : Nat} (hq : RtV w (.agg #[.slice A (dg q.num.natAbs).length c, .slice A2 (dg q.den).length c2, .bool (decide (q.num < 0))]) q) :
    RL (((w.setCell ⟨g, qs.length * 3, none⟩ (.slice A (dg q.num.natAbs).length c)).setCell ⟨g, qs.length * 3 + 1, none⟩ (.slice A2 (dg q.den).length c2)).setCell ⟨g, qs.length * 3 + 2, none⟩ (.bool (decide (q.num < 0)))) g n (qs ++ [q]) := by
  obtain ⟨cs, h1, h2, h3, h4⟩ := h
  obtain ⟨v1, v2, hv, m1, m2⟩ := hq
  obtain ⟨rfl, rfl⟩ : Value.slice A (dg q.num.natAbs).length c = v1 ∧ Value.slice A2 (dg q.den).length c2 = v2 := by simpa using hv
  have s1 := heap_setCell_same w g (qs.length * 3) cs 113 (.slice A (dg q.num.natAbs).length c) h1
  have s2 := heap_setCell_same _ g (qs.length * 3 + 1) _ 113 (.slice A2 (dg q.den).length c2) s1
  have s3 := heap_setCell_same _ g (qs.length * 3 + 2) _ 113 (.bool (decide (q.num < 0))) s2
  have keep : ∀ {v : Value} {m : Nat}, Nm w v m → Nm (((w.setCell ⟨g, qs.length * 3, none⟩ (.slice A (dg q.num.natAbs).length c)).setCell ⟨g, qs.length * 3 + 1, none⟩ (.slice A2 (dg q.den).length c2)).setCell ⟨g, qs.length * 3 + 2, none⟩ (.bool (decide (q.num < 0)))) v m := fun {v m} k => by
    have t0 : w.cell? ⟨g, qs.length * 3, none⟩ = some cs[qs.length * 3] := by rw [cell_of_row w g _ cs _ _ h1]; exact Array.getElem?_eq_getElem (by omega)
    have k1 := Nm.set k t0 (h3 _ _ (Array.getElem?_eq_getElem (by omega))) (.slice A (dg q.num.natAbs).length c)
    have t1 : (w.setCell ⟨g, qs.length * 3, none⟩ (.slice A (dg q.num.natAbs).length c)).cell? ⟨g, qs.length * 3 + 1, none⟩ = some cs[qs.length * 3 + 1] := by
      rw [World.cell?_setCell_other _ _ _ _ (by simp), cell_of_row w g _ cs _ _ h1]; exact Array.getElem?_eq_getElem (by omega)
    have k2 := Nm.set k1 t1 (h3 _ _ (Array.getElem?_eq_getElem (by omega))) (.slice A2 (dg q.den).length c2)
    have t2 : ((w.setCell ⟨g, qs.length * 3, none⟩ (.slice A (dg q.num.natAbs).length c)).setCell ⟨g, qs.length * 3 + 1, none⟩ (.slice A2 (dg q.den).length c2)).cell? ⟨g, qs.length * 3 + 2, none⟩ = some cs[qs.length * 3 + 2] := by
      rw [World.cell?_setCell_other _ _ _ _ (by simp), World.cell?_setCell_other _ _ _ _ (by simp), cell_of_row w g _ cs _ _ h1]; exact Array.getElem?_eq_getElem (by omega)
    exact Nm.set k2 t2 (h3 _ _ (Array.getElem?_eq_getElem (by omega))) _
  refine ⟨_, s3, by simpa using h2, fun j x hx => ?_, fun i r hr => ?_⟩
  · simp only [Array.getElem?_setIfInBounds] at hx
    split at hx
    · split at hx
      · obtain rfl := Option.some.inj hx; intro n hh; cases hh
      · cases hx
    · split at hx
      · split at hx
        · obtain rfl := Option.some.inj hx; intro n hh; cases hh
        · cases hx
      · split at hx
        · split at hx
          · obtain rfl := Option.some.inj hx; intro n hh; cases hh
          · cases hx
        · exact h3 j x hx
  · rcases Nat.lt_or_ge i qs.length with hi | hi
    · rw [List.getElem?_append_left hi] at hr
      obtain ⟨u1, u2, k0, k1, k2, n1, n2⟩ := h4 i r hr
      refine ⟨u1, u2, ?_, ?_, ?_, keep n1, keep n2⟩
      · rw [Array.getElem?_setIfInBounds_ne (by omega), Array.getElem?_setIfInBounds_ne (by omega), Array.getElem?_setIfInBounds_ne (by omega)]; exact k0
      · rw [Array.getElem?_setIfInBounds_ne (by omega), Array.getElem?_setIfInBounds_ne (by omega), Array.getElem?_setIfInBounds_ne (by omega)]; exact k1
      · rw [Array.getElem?_setIfInBounds_ne (by omega), Array.getElem?_setIfInBounds_ne (by omega), Array.getElem?_setIfInBounds_ne (by omega)]; exact k2
    · obtain rfl : i = qs.length := by
        have := (List.getElem?_eq_some_iff.1 hr).1
        simp at this
        omega
      obtain rfl : q = r := by simpa using hr
      refine ⟨_, _, ?_, ?_, ?_, keep m1, keep m2⟩
      · rw [Array.getElem?_setIfInBounds_ne (by omega), Array.getElem?_setIfInBounds_ne (by omega), Array.getElem?_setIfInBounds_self_of_lt (by omega)]
      · rw [Array.getElem?_setIfInBounds_ne (by omega), Array.getElem?_setIfInBounds_self_of_lt (by simp; omega)]
      · rw [Array.getElem?_setIfInBounds_self_of_lt (by simp; omega)]
theorem info_ratio : (Try.prog.info? 113).map (fun i => (i.zero, i.size, i.bytes)) = some (some (.agg #[.slice none 0 0, .slice none 0 0, .bool false]), 3, 56) := by kernel_rfl
/-- A new row of ratios. -/
theorem mk_ratios (n : Nat) (h : n ≤ 4096) (w : World) : (Instr.makeSlice 124 (.int .i64 (n : Int)) (.int .i64 (n : Int))).run Try.prog w = .ok (.slice (some ⟨w.heap.size, 0, none⟩) n n) (w.alloc (.cells (madeCells #[.slice none 0 0, .slice none 0 0, .bool false] (n * 3)) 113)) := by
  obtain ⟨i0, hi, hz0, hz1, hz2⟩ := info_parts info_ratio
  have hr := run_make (P := Try.prog) w 124 113 i0 _ Try.underlying124 hi hz0 .i64 .i64 (n : Int) (n : Int) (by omega) (by omega) (by rw [hz2]; omega) (by omega)
  simp only [Int.toNat_natCast, hz1] at hr
  exact hr
theorem RL.new (w : World) (n : Nat) : RL (w.alloc (.cells (madeCells #[.slice none 0 0, .slice none 0 0, .bool false] (n * 3)) 113)) w.heap.size n [] := by
  refine ⟨_, heap_alloc_new w _, by rw [size_madeCells]; omega, fun j x hx => ?_, fun i q hq => by simp at hq⟩
  simp only [madeCells, Array.getElem?_map, Array.getElem?_range] at hx
  split at hx
  · simp only [Option.map_some, Option.some.injEq] at hx
    subst hx
    have h3 : j % 3 = 0 ∨ j % 3 = 1 ∨ j % 3 = 2 := by omega
    intro n
    show (#[Value.slice none 0 0, .slice none 0 0, .bool false] : Array Value)[j % 3]! ≠ _
    rcases h3 with h | h | h <;> rw [h] <;> intro hh <;> cases hh
  · cases hx
theorem take_map_snoc {L : List (Bool × List Int × List Int)} {k : Nat} {d : Bool × List Int × List Int} (h : L[k]? = some d) : (L.take k).map fqd ++ [fixq d.1 d.2.1 d.2.2] = (L.take (k + 1)).map fqd := by
  rw [List.take_add_one, h, List.map_append]; rfl
set_option maxRecDepth 100000 in
theorem all_calls (w : World) (va : Value) (L : List (Bool × List Int × List Int)) (ha : FL w va L) (hL : L.length ≤ 4096) (hf : FewD 2048 L) :
    Calls Try.prog 104 #[va] w fun e w' => ∃ g, e = .returned (.slice (some ⟨g, 0, none⟩) L.length L.length) ∧ w.heap.size ≤ g ∧ RL w' g L.length (L.map fqd) ∧ Below w.heap.size w w' := by
  obtain ⟨A, c, rfl, hl, hc, hr⟩ := ha
  have hmk := mk_ratios L.length hL
  go_enter Try.func104, Try.ntmps104
  go_wp2
  go_loopw [11] (fun i wr => ∃ k : Nat, k ≤ L.length ∧ i = .int .i64 (k : Int) ∧ RL wr w.heap.size L.length ((L.take k).map fqd) ∧ Below w.heap.size w wr)
    (fun i _ => L.length - (intOf i).toNat)
  case atStart => exact ⟨0, by omega, rfl, RL.new _ _, (Below.refl _ _).alloc (Nat.le_refl _) _⟩
  case round =>
    clear hmk
    obtain ⟨k, hk, rfl, hRL, hbl⟩ := hrel
    have HR := Lib.hid hRL
    have HB := Lib.hid hbl
    by_cases hx : k < L.length
    · obtain ⟨ad, rfl, hcell⟩ := hr (by omega)
      obtain ⟨d, hd⟩ : ∃ d, L[k]? = some d := ⟨_, List.getElem?_eq_getElem hx⟩
      obtain ⟨v1, v2, e0, e1, e2, hfr⟩ := hcell k d hd
      have few := hf d (List.mem_of_getElem? hd)
      obtain ⟨A1, c1, A2, c2, hsh, _⟩ := FrIn.shape hfr
      obtain ⟨rfl, rfl⟩ : v1 = .slice A1 d.2.1.length c1 ∧ v2 = .slice A2 d.2.2.length c2 := by simpa using hsh
      replace e0 := cell_below hbl e0
      replace e1 := cell_below hbl e1
      replace e2 := cell_below hbl e2
      have HD := Lib.hid hd
      have al := below_alloc0 wr (.cells #[.bool d.1, .slice A1 d.2.1.length c1, .slice A2 d.2.2.length c2] 38)
      have K := Blk.new wr 38 #[.bool d.1, .slice A1 d.2.1.length c1, .slice A2 d.2.2.length c2]
      have k0 := K.cell 0
      have k1 := K.cell 1
      have k2 := K.cell 2
      clear hcell hr hRL hbl hd hsh
      go_wp2_with fail
      refine (taken_calls _ _ d.1 d.2.1 d.2.2 ((hfr.below HB.out).below al) (by omega)).mono ?_
      rintro e w2 ⟨v, rfl, hvt, hb2⟩
      obtain ⟨B1, b1, B2, b2, rfl, n1, n2⟩ := hvt.open
      have HR2 := Lib.hid ((HR.out.below al).below hb2)
      have HB2 := Lib.hid (bl_trans (bl_trans HB.out al) hb2)
      have HVT := Lib.hid hvt
      obtain ⟨x0, t0⟩ := HR2.out.there (j := k * 3) (by omega)
      obtain ⟨x1, t1⟩ := HR2.out.there (j := k * 3 + 1) (by omega)
      obtain ⟨x2, t2⟩ := HR2.out.there (j := k * 3 + 2) (by omega)
      have f := HR2.out.free
      clear k0 k1 k2 K al hvt n1 n2 e0 e1 e2 hb2
      go_wp2
      have hlen : ((L.take k).map fqd).length = k := by simp; omega
      have hset := RL.set HR2.out (by rw [hlen]; exact hx) (q := fixq d.1 d.2.1 d.2.2) HVT.out
      rw [hlen, take_map_snoc HD.out] at hset
      exact ⟨⟨k + 1, by omega, by go_num, hset, ((HB2.out.setCell (Nat.le_refl _) _).setCell (Nat.le_refl _) _).setCell (Nat.le_refl _) _⟩, by simp [intOf]; omega⟩
    · obtain rfl : k = L.length := by omega
      have hR2 := HR.out
      rw [List.take_length] at hR2
      have HR2 := Lib.hid hR2
      clear hr hRL hbl hR2
      go_wp2
      go_ret
      exact ⟨_, rfl, Nat.le_refl _, HR2.out, HB.out⟩
theorem Nm.three {w : World} {v : Value} {n B : Nat} (h : Nm w v n) {x0 x1 x2 : Value} (h0 : w.cell? ⟨B, 0, none⟩ = some x0) (h1 : w.cell? ⟨B, 1, none⟩ = some x1) (h2 : w.cell? ⟨B, 2, none⟩ = some x2)
    (n0 : ∀ n, x0 ≠ .int .u32 n) (n1 : ∀ n, x1 ≠ .int .u32 n) (n2 : ∀ n, x2 ≠ .int .u32 n) (y0 y1 y2 : Value) : Nm (((w.setCell ⟨B, 0, none⟩ y0).setCell ⟨B, 1, none⟩ y1).setCell ⟨B, 2, none⟩ y2) v n := three_keep h h0 h1 h2 n0 n1 n2 y0 y1 y2
/-- Three stores into another struct. -/
theorem RL.three {w : World} {g n B : Nat} {qs : List Rat} (h : RL w g n qs) (hg : g ≠ B) {x0 x1 x2 : Value} (h0 : w.cell? ⟨B, 0, none⟩ = some x0) (h1 : w.cell? ⟨B, 1, none⟩ = some x1) (h2 : w.cell? ⟨B, 2, none⟩ = some x2)
    (n0 : ∀ n, x0 ≠ .int .u32 n) (n1 : ∀ n, x1 ≠ .int .u32 n) (n2 : ∀ n, x2 ≠ .int .u32 n) (y0 y1 y2 : Value) : RL (((w.setCell ⟨B, 0, none⟩ y0).setCell ⟨B, 1, none⟩ y1).setCell ⟨B, 2, none⟩ y2) g n qs := by
  obtain ⟨cs, k1, k2, k3, k4⟩ := h
  refine ⟨cs, (((heap_setCell_other _ ⟨B, 2, none⟩ g y2 hg).trans (heap_setCell_other _ ⟨B, 1, none⟩ g y1 hg)).trans (heap_setCell_other _ ⟨B, 0, none⟩ g y0 hg)).trans k1, k2, k3, fun i q hq => ?_⟩
  obtain ⟨v1, v2, t0, t1, t2, m1, m2⟩ := k4 i q hq
  exact ⟨v1, v2, t0, t1, t2, m1.three h0 h1 h2 n0 n1 n2 _ _ _, m2.three h0 h1 h2 n0 n1 n2 _ _ _⟩
/-- A ratio in a box of its own. -/
def RBox (w : World) (g : Nat) (q : Rat) : Prop := ∃ A c A2 c2, Blk w g 113 #[.slice A (dg q.num.natAbs).length c, .slice A2 (dg q.den).length c2, .bool (decide (q.num < 0))] ∧ RtV w (.agg #[.slice A (dg q.num.natAbs).length c, .slice A2 (dg q.den).length c2, .bool (decide (q.num < 0))]) q
theorem RBox.below {w w1 : World} {g : Nat} {q : Rat} (h : RBox w g q) (hb : Below w.heap.size w w1) : RBox w1 g q := by
  obtain ⟨A, c, A2, c2, h1, h2⟩ := h
  exact ⟨A, c, A2, c2, h1.below hb, h2.below hb⟩
theorem RBox.lt {w : World} {g : Nat} {q : Rat} (h : RBox w g q) : g < w.heap.size := by
  obtain ⟨A, c, A2, c2, h1, h2⟩ := h
  exact h1.lt
theorem RBox.set {w : World} {g : Nat} {q : Rat} {x0 x1 x2 : Value} (h : Blk w g 113 #[x0, x1, x2]) (n0 : ∀ n, x0 ≠ .int .u32 n) (n1 : ∀ n, x1 ≠ .int .u32 n) (n2 : ∀ n, x2 ≠ .int .u32 n) {A A2 : Option Addr} {c c2 : Nat}
    (hq : RtV w (.agg #[.slice A (dg q.num.natAbs).length c, .slice A2 (dg q.den).length c2, .bool (decide (q.num < 0))]) q) :
    RBox (((w.setCell ⟨g, 0, none⟩ (.slice A (dg q.num.natAbs).length c)).setCell ⟨g, 1, none⟩ (.slice A2 (dg q.den).length c2)).setCell ⟨g, 2, none⟩ (.bool (decide (q.num < 0)))) g q := by
  obtain ⟨v1, v2, hv, m1, m2⟩ := hq
  exact ⟨A, c, A2, c2, blk3 h _ _ _, v1, v2, hv, m1.three (h.cell 0) (h.cell 1) (h.cell 2) n0 n1 n2 _ _ _, m2.three (h.cell 0) (h.cell 1) (h.cell 2) n0 n1 n2 _ _ _⟩
/-- The first k of a list, summed up. -/
def psum (qs : List Rat) (k : Nat) : Rat := (qs.take k).foldl (· + ·) 0
theorem psum_zero (qs : List Rat) : psum qs 0 = 0 := rfl
theorem psum_succ {qs : List Rat} {k : Nat} {q : Rat} (h : qs[k]? = some q) : psum qs (k + 1) = psum qs k + q := by
  unfold psum
  rw [List.take_add_one, h, List.foldl_append]
  rfl
theorem psum_szq {qs : List Rat} {m : Nat} (h : ∀ q ∈ qs, Szq m q) : ∀ k, Szq ((m + 1) * k + 1) (psum qs k) := by
  intro k
  induction k with
  | zero => rw [psum_zero]; exact szq_zero _ (by omega)
  | succ k ih =>
    by_cases hk : k < qs.length
    · have hq : qs[k]? = some qs[k] := List.getElem?_eq_getElem hk
      rw [psum_succ hq]
      refine (szq_add ih (h _ (List.getElem_mem hk))).mono ?_
      rw [Nat.mul_add]; omega
    · unfold psum
      rw [List.take_of_length_le (by omega)]
      unfold psum at ih
      rw [List.take_of_length_le (by omega)] at ih
      refine ih.mono ?_
      rw [Nat.mul_add]; omega
theorem few_szq {L : List (Bool × List Int × List Int)} {m : Nat} (hm : 1 ≤ m) (h : FewD m L) (hw : ∀ d ∈ L, Wd d.2.1 ∧ Wd d.2.2) : ∀ q ∈ L.map fqd, Szq m q := by
  intro q hq
  obtain ⟨d, hd, rfl⟩ := List.mem_map.1 hq
  exact szq_fix (hw d hd).1 (hw d hd).2 (h d hd).1 (h d hd).2 hm
theorem FL.wd {w : World} {v : Value} {L : List (Bool × List Int × List Int)} (h : FL w v L) : ∀ d ∈ L, Wd d.2.1 ∧ Wd d.2.2 := by
  intro d hd
  obtain ⟨A, c, _, _, _, h3⟩ := h
  obtain ⟨i, hi, rfl⟩ := List.mem_iff_getElem.1 hd
  obtain ⟨ad, _, hc⟩ := h3 (by omega)
  obtain ⟨v1, v2, _, _, _, hf⟩ := hc i _ (List.getElem?_eq_getElem hi)
  exact hf.wd
set_option maxRecDepth 100000 in
theorem sum_calls (w : World) (va : Value) (L : List (Bool × List Int × List Int)) (ha : FL w va L) (hL : L.length ≤ 64) (hf : FewD 16 L) :
    Calls Try.prog 74 #[va] w (FrPost (psum (L.map fqd) L.length) w) := by
  have hz := psum_szq (few_szq (by omega) hf ha.wd)
  have hsh : Short (psum (L.map fqd) L.length) := (hz L.length).short (by omega)
  have hzq := few_szq (by omega) hf ha.wd
  have HZ := Lib.hid hz
  have HZQ := Lib.hid hzq
  have HSH := Lib.hid hsh
  have hf2 : FewD 2048 L := fun d hd => ⟨Nat.le_trans (hf d hd).1 (by omega), Nat.le_trans (hf d hd).2 (by omega)⟩
  have HF := Lib.hid hf2
  obtain ⟨A, c, rfl⟩ := ha.shape
  have hbl0 := below_alloc0 w (.cells #[.bool false, .slice none 0 0, .slice none 0 0] 38)
  have K := Blk.new w 38 #[.bool false, .slice none 0 0, .slice none 0 0]
  clear hz hzq hsh hf hf2
  go_enter Try.func74, Try.ntmps74
  go_wp2_with fail
  refine (whole_calls _ 0 (by omega) (by omega)).mono ?_
  rintro e w1 ⟨v, rfl, hv0, hb1⟩
  obtain ⟨s0, hs0⟩ : ∃ s : Rat, s = psum (L.map fqd) 0 := ⟨_, rfl⟩
  have HS0 := Lib.hid hs0
  have hv1 : RtV w1 v s0 := by rw [hs0]; exact hv0
  obtain ⟨B1, b1, B2, b2, rfl, _, _⟩ := hv1.open
  have al := below_alloc0 w1 (.cells #[.slice B1 (dg s0.num.natAbs).length b1, .slice B2 (dg s0.den).length b2, .bool (decide (s0.num < 0))] 113)
  have RB := Lib.hid (show RBox (w1.alloc (.cells #[.slice B1 (dg s0.num.natAbs).length b1, .slice B2 (dg s0.den).length b2, .bool (decide (s0.num < 0))] 113)) w1.heap.size s0 from ⟨_, _, _, _, Blk.new w1 _ _, hv1.below al⟩)
  have hbw := bl_trans (bl_trans hbl0 hb1) al
  have K1 := Lib.hid ((K.below hb1).below al)
  have hlt1 : w.heap.size < w1.heap.size := (K.below hb1).lt
  clear hs0 hv0 hv1 K hbl0 hb1 al
  go_wp2_with fail
  refine (all_calls _ _ L (ha.below hbw) (by omega) HF.out).mono ?_
  rintro e w2 ⟨gR, rfl, hgR, hRL, hb2⟩
  have hgs : w1.heap.size < gR := by
    have := RB.out.lt
    omega
  have RB2 := Lib.hid (RB.out.below hb2)
  have RL2 := Lib.hid hRL
  have K2 := Lib.hid (K1.out.below hb2)
  have hbw2 := bl_trans hbw hb2
  obtain ⟨gS, hgS⟩ : ∃ g, g = w1.heap.size := ⟨_, rfl⟩
  rw [← hgS] at RB2 hgs hlt1
  clear RB K1 hbw hb2 hRL hgR
  go_wp2
  rw [← hgS]
  clear hgS
  go_loopw [10] (fun i wr => ∃ k : Nat, k ≤ L.length ∧ i = .int .i64 (k : Int) ∧ RBox wr gS (psum (L.map fqd) k) ∧ RL wr gR L.length (L.map fqd) ∧ Blk wr w.heap.size 38 #[.bool false, .slice none 0 0, .slice none 0 0] ∧ Below w.heap.size w wr)
    (fun i _ => L.length - (intOf i).toNat)
  case atStart => exact ⟨0, by omega, rfl, by rw [← HS0.out]; exact RB2.out, RL2.out, K2.out, hbw2⟩
  case round =>
    clear RB2 RL2 K2 hbw2 HS0
    obtain ⟨k, hk, rfl, hRB, hRL, hK, hbl⟩ := hrel
    obtain ⟨D1, d1, D2, d2, KS, hsr⟩ := hRB
    have HRL := Lib.hid hRL
    have HK := Lib.hid hK
    have HBL := Lib.hid hbl
    by_cases hx : k < L.length
    · obtain ⟨q, hq⟩ : ∃ q, (L.map fqd)[k]? = some q := ⟨_, List.getElem?_eq_getElem (by simpa using hx)⟩
      obtain ⟨E1, x1, E2, x2, e0, e1, e2, hrt⟩ := hRL.cell hq
      have hps := psum_succ hq
      have hq16 := HZQ.out q (List.mem_of_getElem? hq)
      obtain ⟨p0, hp0⟩ : ∃ p, p = psum (L.map fqd) k := ⟨_, rfl⟩
      have hp16 := HZ.out k
      rw [← hp0] at KS hsr hps hp16
      have HPS := Lib.hid hps.symm
      have al := below_alloc0 wr (.cells #[.slice E1 (dg q.num.natAbs).length x1, .slice E2 (dg q.den).length x2, .bool (decide (q.num < 0))] 113)
      have K5 := Blk.new wr 113 #[.slice E1 (dg q.num.natAbs).length x1, .slice E2 (dg q.den).length x2, .bool (decide (q.num < 0))]
      have KS2 := KS.below al
      have t0 := K5.cell 0
      have t1 := K5.cell 1
      have t2 := K5.cell 2
      have u0 := KS2.cell 0
      have u1 := KS2.cell 1
      have u2 := KS2.cell 2
      have hsr2 := Lib.hid (hsr.below al)
      have hrt2 := Lib.hid (hrt.below al)
      have hgS2 : gS < wr.heap.size := KS.lt
      clear hq hps hp0 hK hbl hRL hsr hrt KS K5
      go_wp2_with fail
      refine (plus_calls _ _ _ p0 q hsr2.out hrt2.out (hp16.mono (by have := Nat.mul_le_mul_left 17 (show k ≤ 64 by omega); omega)) (hq16.mono (by omega))).mono ?_
      rintro e w3 ⟨v3, rfl, hv3, hb3⟩
      rw [HPS.out] at hv3
      obtain ⟨C1, y1, C2, y2, rfl, _, _⟩ := hv3.open
      have KS3 := KS2.below hb3
      have u0' := KS3.cell 0
      have u1' := KS3.cell 1
      have u2' := KS3.cell 2
      have uf := KS3.free
      have HV3 := Lib.hid hv3
      have HRL3 := Lib.hid ((HRL.out.below al).below hb3)
      have HK3 := Lib.hid ((HK.out.below al).below hb3)
      have HB3 := Lib.hid (bl_trans (bl_trans HBL.out al) hb3)
      clear t0 t1 t2 u0 u1 u2 e0 e1 e2 KS2 hsr2 hrt2 hv3 hb3 al
      go_wp2
      refine ⟨⟨k + 1, by omega, by go_num, RBox.set KS3 (slne _ _ _) (slne _ _ _) (boolne _) HV3.out, HRL3.out.three (by omega) u0' u1' u2' (slne _ _ _) (slne _ _ _) (boolne _) _ _ _, ((HK3.out.other _ _ (by simp; omega)).other _ _ (by simp; omega)).other _ _ (by simp; omega), three_below HB3.out (by omega) _ _ _⟩, by simp [intOf]; omega⟩
    · obtain rfl : k = L.length := by omega
      have k0 := KS.cell 0
      have k1 := KS.cell 1
      have k2 := KS.cell 2
      obtain ⟨p0, hp0⟩ : ∃ p, p = psum (L.map fqd) L.length := ⟨_, rfl⟩
      rw [← hp0] at KS hsr k0 k1 k2 HSH
      have HSR := Lib.hid hsr
      have HP0 := Lib.hid hp0
      clear hK hbl hRL hsr hp0 HZ
      go_wp2_with fail
      refine (told_calls _ _ p0 HSR.out HSH.out).mono ?_
      rintro e w3 ⟨v3, rfl, hfr, hb3⟩
      obtain ⟨C1, y1, C2, y2, rfl, r1, r2, r3, r4⟩ := FrIn.shape hfr
      have K3 := HK.out.below hb3
      have m0 := K3.cell 0
      have m1 := K3.cell 1
      have m2 := K3.cell 2
      have f1 := K3.free
      have hbw := bl_trans HBL.out hb3
      clear k0 k1 k2 KS hfr hb3
      go_wp2
      exact bodyPost_ret (results_cell_row rfl _ _ w.heap.size 38 _ (0, 0) _ rfl (blk3 K3 _ _ _) Try.underlying38 rfl (by kernel_rfl)) rfl ⟨_, rfl, by rw [← HP0.out]; exact ⟨_, _, rfl, r1.three m0 m1 m2 (boolne _) (slne _ _ _) (slne _ _ _) _ _ _, r2.three m0 m1 m2 (boolne _) (slne _ _ _) (slne _ _ _) _ _ _, r3, r4⟩, three_below hbw (Nat.le_refl _) _ _ _⟩

/-- A row of one's own whose cells hold no words, the spare ones neither. -/
def NoW (w : World) (v : Value) : Prop := ∀ g, v.ownBlock = some g → ∃ cur e, w.heap[g]? = some (.cells cur e (0, 0)) ∧ ∀ (j : Nat) (x : Value), cur[j]? = some x → ∀ n, x ≠ Value.int .u32 n
theorem NoW.nil (w : World) : NoW w (.slice none 0 0) := fun g h => by cases h
theorem NoW.below {w w1 : World} {v : Value} (h : NoW w v) (hb : Below w.heap.size w w1) : NoW w1 v := by
  intro g hg
  obtain ⟨cur, e, h1, h2⟩ := h g hg
  exact ⟨cur, e, (hb.block g (Array.getElem?_eq_some_iff.1 h1).1).trans h1, h2⟩
/-- What reads as words reads so still. -/
def KeepW (w w' : World) : Prop := ∀ (v : Value) (l : List Int), RdI .u32 w v l → RdI .u32 w' v l
theorem KeepW.of_below {w w' : World} (h : Below w.heap.size w w') : KeepW w w' := fun v l k => k.below h
theorem KeepW.fr {w w' : World} (h : KeepW w w') {v : Value} {neg : Bool} {ln ld : List Int} (k : FrIn w v neg ln ld) : FrIn w' v neg ln ld := by
  obtain ⟨v1, v2, hv, h1, h2, h3, h4⟩ := k
  exact ⟨v1, v2, hv, h _ _ h1, h _ _ h2, h3, h4⟩
/-- append of structs that hold no words, to a row of one's own. -/
theorem run_append_structs {P : Program} (w : World) (base : Nat) (t ty e : TypeId) (i : TypeInfo) (z : Value) (size bytes : Nat) (ht : P.underlying t = some (.slice e)) (hi : P.info? e = some i) (hz : i.zero = some z)
    (hsize : i.size = size) (hby : i.bytes = bytes) (hzs : z.cells.size = size) (hsz : 0 < size) (hzn : ∀ (j : Nat) (x : Value), z.cells[j]? = some x → ∀ n, x ≠ Value.int .u32 n)
    (v : Value) (n : Nat) (xs : List Value) (hown : w.ownsRow base e size v n xs) (hno : NoW w v)
    (a : Addr) (c : Nat) (news : List Value) (hl : news.length = size) (hnews : ∀ j u, news[j]? = some u → w.cell? (a.add j) = some u) (h1 : ∀ u ∈ news, u.oneCell' = true) (h1n : ∀ u ∈ news, ∀ n, u ≠ Value.int .u32 n) (hxn : ∀ u ∈ xs, ∀ n, u ≠ Value.int .u32 n)
    (h63 : n + 1 ≤ maxLen) (hbytes : (n + 1) * bytes ≤ 140737488355328) (hbase : base ≤ w.heap.size) :
    ∃ v' w', (Builtin.append_ #[t, t] ty #[v, .slice (some a) 1 c]).run P w = .ok v' w' ∧ w'.ownsRow base e size v' (n + 1) (xs ++ news) ∧ Below base w w' ∧ NoW w' v' ∧ KeepW w w' := by
  have hlen : (xs ++ news).length = (n + 1) * size := by rw [List.length_append, hown.1, hl, Nat.add_mul, Nat.one_mul]
  have hm : n + 1 ≤ 9223372036854775807 := by simp only [maxLen] at h63; omega
  have hall : ∀ u ∈ xs ++ news, ∀ n, u ≠ Value.int .u32 n := fun u hu => by
    rcases List.mem_append.1 hu with h | h
    · exact hxn u h
    · exact h1n u h
  have grown : ∀ old : Nat, old < n + 1 →
      (w.drew.alloc (.cells (xs.toArray ++ news.toArray ++ Builtin.zeroCells z.cells (grownCap w (n + 1) old e - (n + 1))) e)).ownsRow base e size (.slice (some ⟨w.heap.size, 0, none⟩) (n + 1) (grownCap w (n + 1) old e)) (n + 1) (xs ++ news) ∧
      Below base w (w.drew.alloc (.cells (xs.toArray ++ news.toArray ++ Builtin.zeroCells z.cells (grownCap w (n + 1) old e - (n + 1))) e)) ∧
      NoW (w.drew.alloc (.cells (xs.toArray ++ news.toArray ++ Builtin.zeroCells z.cells (grownCap w (n + 1) old e - (n + 1))) e)) (.slice (some ⟨w.heap.size, 0, none⟩) (n + 1) (grownCap w (n + 1) old e)) ∧
      KeepW w (w.drew.alloc (.cells (xs.toArray ++ news.toArray ++ Builtin.zeroCells z.cells (grownCap w (n + 1) old e - (n + 1))) e)) := by
    intro old ho
    have hge := grownCap_ge w (n + 1) old e
    have hcm := grownCap_le_maxLen w (n + 1) old e h63
    have hbl : Below w.heap.size w (w.drew.alloc (.cells (xs.toArray ++ news.toArray ++ Builtin.zeroCells z.cells (grownCap w (n + 1) old e - (n + 1))) e)) := bl_trans (bl_drew w) (below_alloc0 _ _)
    have hnew := heap_alloc_new w.drew (.cells (xs.toArray ++ news.toArray ++ Builtin.zeroCells z.cells (grownCap w (n + 1) old e - (n + 1))) e)
    refine ⟨⟨hlen, .inr ⟨w.heap.size, _, _, rfl, hbase, hnew, hge, hcm, ?_, ?_⟩⟩, hbl.mono hbase, ?_, KeepW.of_below hbl⟩
    · simp only [Array.size_append, List.size_toArray, size_zeroCells, hzs, hown.1, hl]
      rw [← Nat.succ_mul, ← Nat.add_mul]
      congr 1
      omega
    · simp only [Array.toList_append, List.append_assoc]
      rw [← List.append_assoc, ← hlen]
      exact List.take_left
    · intro g hg
      obtain rfl : w.heap.size = g := by simpa [Value.ownBlock] using hg
      refine ⟨_, _, hnew, fun j x hx => ?_⟩
      have hx' := Array.mem_of_getElem? hx
      rw [Array.mem_append, Array.mem_append] at hx'
      rcases hx' with (h | h) | h
      · exact hxn x (by simpa using h)
      · exact h1n x (by simpa using h)
      · obtain ⟨k, hk⟩ := Array.mem_iff_getElem?.1 h
        simp only [Builtin.zeroCells, Array.getElem?_map, Array.getElem?_range] at hk
        split at hk
        · simp only [Option.map_some, Option.some.injEq] at hk
          have hlt : k % z.cells.size < z.cells.size := Nat.mod_lt _ (by omega)
          refine hzn (k % z.cells.size) x ?_
          rw [← hk, getElem!_pos z.cells (k % z.cells.size) hlt, Array.getElem?_eq_getElem hlt]
        · cases hk
  have hl1 : news.length = 1 * i.size := by rw [hl, hsize, Nat.one_mul]
  rcases hown.2 with ⟨rfl, rfl⟩ | ⟨g, cap, cur, rfl, hbg, hg, hnc, hcm, hcs, htake⟩
  · have hx : xs = [] := List.eq_nil_of_length_eq_zero (by simpa using hown.1)
    subst hx
    have hr := run_append_nil (P := P) w t ty e i z ht hi hz a 1 c news hl1 hnews (by omega) (by omega) (by rw [hby]; omega)
    have hgr := grown 0 (by omega)
    simp only [Nat.zero_add, List.nil_append, Array.empty_append] at hgr ⊢
    exact ⟨_, _, hr, hgr.1, hgr.2.1, hgr.2.2.1, hgr.2.2.2⟩
  · by_cases hroom : n + 1 ≤ cap
    · have hfit : n * i.size + news.length ≤ cur.size := by
        rw [hl, hcs, hsize, ← Nat.succ_mul]; exact Nat.mul_le_mul_right _ hroom
      have hr := run_append_room (P := P) w t ty e i ht hi g n cap cur hg a 1 c news hl1 hnews h1 hroom hfit
      rw [hsize] at hr hfit
      obtain ⟨cur', e', hg', hcn⟩ := hno g rfl
      obtain ⟨rfl, rfl⟩ : cur = cur' ∧ e = e' := by
        rw [hg] at hg'
        simpa using hg'
      have hset := setRow_heap w g cur (cur.toList.take (n * size) ++ news ++ cur.toList.drop (n * size + news.length)).toArray e _ hg
      refine ⟨_, _, hr, ⟨hlen, .inr ⟨g, cap, _, rfl, hbg, hset, hroom, hcm, ?_, ?_⟩⟩, ⟨rfl, rfl, rfl, by simp, fun k hk => setRow_other w g k _ (by omega)⟩, ?_, ?_⟩
      · simp only [List.size_toArray, List.length_append, List.length_take, List.length_drop, Array.length_toList]
        omega
      · show List.take _ (_ ++ news ++ _) = _
        rw [htake, ← hlen]
        exact List.take_left
      · intro g2 hg2
        obtain rfl : g = g2 := by simpa [Value.ownBlock] using hg2
        refine ⟨_, _, hset, fun j x hx => ?_⟩
        have hx' := Array.mem_of_getElem? hx
        simp only [List.mem_toArray, List.mem_append] at hx'
        rcases hx' with (h | h) | h
        · obtain ⟨k, hk⟩ := List.mem_iff_getElem?.1 (List.mem_of_mem_take h)
          exact hcn k x (by simpa using hk)
        · exact h1n x h
        · obtain ⟨k, hk⟩ := List.mem_iff_getElem?.1 (List.mem_of_mem_drop h)
          exact hcn k x (by simpa using hk)
      · intro v l hr
        obtain ⟨A, c', hv, hl, hc, hr⟩ := hr
        refine ⟨A, c', hv, hl, hc, fun h0 => ?_⟩
        obtain ⟨ad, ha, hcell⟩ := hr h0
        refine ⟨ad, ha, fun j hj => ?_⟩
        have hc0 := hcell j hj
        by_cases hb : (ad.add j).block = g
        · exfalso
          have : ∃ k : Nat, cur[k]? = some (Value.int .u32 (wat l j)) := by
            unfold World.cell? at hc0
            rw [hb, hg] at hc0
            simp only at hc0
            split at hc0
            · cases hc0
            · exact ⟨_, hc0⟩
          obtain ⟨k, hk⟩ := this
          exact hcn k _ hk _ rfl
        · rw [World.cell?_of_block (w := w) (setRow_other w g _ _ hb)]
          exact hc0
    · have holds : ∀ j u, xs[j]? = some u → w.cell? ((⟨g, 0, none⟩ : Addr).add j) = some u := hown.cells (g := g) rfl
      have hr := run_append_grow (P := P) w t ty e i z ht hi hz ⟨g, 0, none⟩ n cap xs (by rw [hsize]; exact hown.1) holds a 1 c news hl1 hnews (by omega) (by omega) (growslice_fits (by omega) (by rw [hby]; exact hbytes))
      have hgr := grown cap (by omega)
      exact ⟨_, _, hr, hgr.1, hgr.2.1, hgr.2.2.1, hgr.2.2.2⟩
theorem own_bl {w w1 : World} {base e size n : Nat} {v : Value} {xs : List Value} (h : w.ownsRow base e size v n xs) (hb : Below w.heap.size w w1) : w1.ownsRow base e size v n xs := by
  refine ⟨h.1, ?_⟩
  rcases h.2 with h2 | ⟨g, cap, cur, h1, h2, h3, h4⟩
  · exact .inl h2
  · exact .inr ⟨g, cap, cur, h1, h2, (hb.block g (Array.getElem?_eq_some_iff.1 h3).1).trans h3, h4⟩
/-- The same, as a step of a walk. -/
theorem wpList_append_run {P : Program} (w : World) {ops : Array Oper} {rest : List Oper} {o : Oper} {a : Act} {Q : Exit → Act → World → Prop} (hgd : o.guard = none) (s x : Operand) (t : TypeId)
    (ho : o.op = .call { callee := .builtin .append, args := #[s, x], argTypes := #[t, t] }) (v u : Value) (hs : a.eval s = v) (hx : a.eval x = u)
    (h : ∃ v' w', (Builtin.append_ #[t, t] o.type #[v, u]).run P w = .ok v' w' ∧ wpList P ops Q rest (a.put o.dst v') w') : wpList P ops Q (o :: rest) a w := by
  obtain ⟨v', w', hr, hk⟩ := h
  refine wpList_plain hgd fun _ hK => ?_
  unfold Oper.wp execOp
  simp only [ho, resolve, invoke, builtin, Sem.run_bind, Sem.run_pure, Result.andThen_ok, List.map_toArray, List.map_cons, List.map_nil, hs, hx, hr]
  exact hK _ _ hk
theorem info_frac : (Try.prog.info? 38).map (fun i => (i.zero, i.size, i.bytes)) = some (some (.agg #[.bool false, .slice none 0 0, .slice none 0 0]), 3, 56) := by kernel_rfl
/-- The cells of copies. -/
def CopyRow (w : World) (L : List (Bool × List Int × List Int)) (xs : List Value) : Prop := xs.length = L.length * 3 ∧ (∀ u ∈ xs, ∀ n, u ≠ Value.int .u32 n) ∧ ∀ (i : Nat) (d : Bool × List Int × List Int), L[i]? = some d →
  ∃ v1 v2, xs[i * 3]? = some (.bool d.1) ∧ xs[i * 3 + 1]? = some v1 ∧ xs[i * 3 + 2]? = some v2 ∧ FrIn w (.agg #[.bool d.1, v1, v2]) d.1 d.2.1 d.2.2
theorem CopyRow.keep {w w' : World} {L : List (Bool × List Int × List Int)} {xs : List Value} (h : CopyRow w L xs) (hk : KeepW w w') : CopyRow w' L xs := by
  obtain ⟨h1, h2, h3⟩ := h
  refine ⟨h1, h2, fun i d hd => ?_⟩
  obtain ⟨v1, v2, k0, k1, k2, hf⟩ := h3 i d hd
  exact ⟨v1, v2, k0, k1, k2, hk.fr hf⟩
theorem CopyRow.snoc {w : World} {L : List (Bool × List Int × List Int)} {xs : List Value} {d : Bool × List Int × List Int} {A1 A2 : Option Addr} {c1 c2 : Nat} (h : CopyRow w L xs) (hf : FrIn w (.agg #[.bool d.1, .slice A1 d.2.1.length c1, .slice A2 d.2.2.length c2]) d.1 d.2.1 d.2.2) :
    CopyRow w (L ++ [d]) (xs ++ [.bool d.1, .slice A1 d.2.1.length c1, .slice A2 d.2.2.length c2]) := by
  obtain ⟨h1, h2, h3⟩ := h
  refine ⟨by simp [h1]; omega, fun u hu => ?_, fun i e he => ?_⟩
  · rcases List.mem_append.1 hu with h | h
    · exact h2 u h
    · simp only [List.mem_cons, List.not_mem_nil, or_false] at h
      rcases h with rfl | rfl | rfl <;> intro n hh <;> cases hh
  · rcases Nat.lt_or_ge i L.length with hi | hi
    · rw [List.getElem?_append_left hi] at he
      obtain ⟨v1, v2, k0, k1, k2, hf⟩ := h3 i e he
      refine ⟨v1, v2, ?_, ?_, ?_, hf⟩
      · rw [List.getElem?_append_left (by omega)]; exact k0
      · rw [List.getElem?_append_left (by omega)]; exact k1
      · rw [List.getElem?_append_left (by omega)]; exact k2
    · obtain rfl : i = L.length := by
        have := (List.getElem?_eq_some_iff.1 he).1
        simp at this
        omega
      obtain rfl : d = e := by simpa using he
      refine ⟨_, _, ?_, ?_, ?_, hf⟩
      · rw [List.getElem?_append_right (by omega), h1, Nat.sub_self]; rfl
      · rw [List.getElem?_append_right (by omega), h1, show L.length * 3 + 1 - L.length * 3 = 1 by omega]; rfl
      · rw [List.getElem?_append_right (by omega), h1, show L.length * 3 + 2 - L.length * 3 = 2 by omega]; rfl
theorem take_snocD {L : List (Bool × List Int × List Int)} {k : Nat} {d : Bool × List Int × List Int} (h : L[k]? = some d) : L.take k ++ [d] = L.take (k + 1) := by
  rw [List.take_add_one, h]; rfl
theorem fl_owned {w : World} {base n : Nat} {v : Value} {xs : List Value} {L : List (Bool × List Int × List Int)} (h : w.ownsRow base 38 3 v n xs) (hc : CopyRow w L xs) (hn : n = L.length) : FL w v L := by
  subst hn
  have hh := h
  rcases h.2 with ⟨rfl, h0⟩ | ⟨g, cap, cur, rfl, hb, hg, hn, hm, hcs, ht⟩
  · exact ⟨none, 0, by rw [h0], by omega, by omega, fun h => by omega⟩
  · refine ⟨_, cap, rfl, hn, by simp only [maxLen] at hm; omega, fun _ => ⟨_, rfl, fun i d hd => ?_⟩⟩
    obtain ⟨v1, v2, k0, k1, k2, hf⟩ := hc.2.2 i d hd
    have ha : ∀ j, (⟨g, 0, none⟩ : Addr).add j = ⟨g, j, none⟩ := fun j => by simp only [Addr.add]; split <;> simp_all
    have c0 := hh.cells (g := g) rfl _ _ k0
    have c1 := hh.cells (g := g) rfl _ _ k1
    have c2 := hh.cells (g := g) rfl _ _ k2
    rw [ha] at c0 c1 c2 ⊢
    exact ⟨v1, v2, c0, c1, c2, hf⟩
/-- A fraction in a box of its own. -/
def FBox (w : World) (g : Nat) (q : Rat) : Prop := ∃ A c A2 c2, Blk w g 38 #[.bool (decide (q.num < 0)), .slice A (dg q.num.natAbs).length c, .slice A2 (dg q.den).length c2] ∧ FrV w (.agg #[.bool (decide (q.num < 0)), .slice A (dg q.num.natAbs).length c, .slice A2 (dg q.den).length c2]) q
theorem FBox.below {w w1 : World} {g : Nat} {q : Rat} (h : FBox w g q) (hb : Below w.heap.size w w1) : FBox w1 g q := by
  obtain ⟨A, c, A2, c2, h1, h2⟩ := h
  exact ⟨A, c, A2, c2, h1.below hb, FrV.below h2 hb⟩
theorem FBox.lt {w : World} {g : Nat} {q : Rat} (h : FBox w g q) : g < w.heap.size := by
  obtain ⟨A, c, A2, c2, h1, h2⟩ := h
  exact h1.lt
theorem FBox.set {w : World} {g : Nat} {q : Rat} {x0 x1 x2 : Value} (h : Blk w g 38 #[x0, x1, x2]) (n0 : ∀ n, x0 ≠ .int .u32 n) (n1 : ∀ n, x1 ≠ .int .u32 n) (n2 : ∀ n, x2 ≠ .int .u32 n) {A A2 : Option Addr} {c c2 : Nat}
    (hq : FrV w (.agg #[.bool (decide (q.num < 0)), .slice A (dg q.num.natAbs).length c, .slice A2 (dg q.den).length c2]) q) :
    FBox (((w.setCell ⟨g, 0, none⟩ (.bool (decide (q.num < 0)))).setCell ⟨g, 1, none⟩ (.slice A (dg q.num.natAbs).length c)).setCell ⟨g, 2, none⟩ (.slice A2 (dg q.den).length c2)) g q := by
  obtain ⟨v1, v2, hv, m1, m2, m3, m4⟩ := hq
  exact ⟨A, c, A2, c2, blk3 h _ _ _, v1, v2, hv, m1.three (h.cell 0) (h.cell 1) (h.cell 2) n0 n1 n2 _ _ _, m2.three (h.cell 0) (h.cell 1) (h.cell 2) n0 n1 n2 _ _ _, m3, m4⟩
theorem raddq (w : World) (va vb : Value) (a b : Rat) (ha : FrQ w va a) (hb : FrQ w vb b) (hs : Short (a + b)) : Calls Try.prog 41 #[va, vb] w (FrPost (a + b) w) := by
  obtain ⟨n, l, d, h, h2, rfl⟩ := ha
  obtain ⟨n', l', d', h', h2', rfl⟩ := hb
  exact radd_calls w va vb n n' l d l' d' h h' h2 h2' hs
theorem rmulq (w : World) (va vb : Value) (a b : Rat) (ha : FrQ w va a) (hb : FrQ w vb b) (hs : Short (a * b)) : Calls Try.prog 76 #[va, vb] w (FrPost (a * b) w) := by
  obtain ⟨n, l, d, h, h2, rfl⟩ := ha
  obtain ⟨n', l', d', h', h2', rfl⟩ := hb
  exact rmul_calls w va vb n n' l d l' d' h h' h2 h2' hs
theorem rcmpq (w : World) (va vb : Value) (a b : Rat) (ha : FrQ w va a) (hb : FrQ w vb b) : Calls Try.prog 23 #[va, vb] w fun e w' => e = .returned (.int .i64 (rcmp a b)) ∧ Below w.heap.size w w' := by
  obtain ⟨n, l, d, h, h2, rfl⟩ := ha
  obtain ⟨n', l', d', h', h2', rfl⟩ := hb
  exact rcmp_calls w va vb n n' l d l' d' h h' h2 h2'
/-- An element of a list that is handed in. -/
theorem FL.at {w : World} {v : Value} {L : List (Bool × List Int × List Int)} (h : FL w v L) {k : Nat} {d : Bool × List Int × List Int} (hd : L[k]? = some d) : ∃ ad c A1 c1 A2 c2, v = .slice (some ad) L.length c ∧ L.length ≤ c ∧ c ≤ 9223372036854775807 ∧ w.cell? (ad.add (k * 3)) = some (.bool d.1) ∧ w.cell? ⟨(ad.add (k * 3)).block, (ad.add (k * 3)).off + 1, none⟩ = some (.slice A1 d.2.1.length c1) ∧
    w.cell? ⟨(ad.add (k * 3)).block, (ad.add (k * 3)).off + 2, none⟩ = some (.slice A2 d.2.2.length c2) ∧ FrIn w (.agg #[.bool d.1, .slice A1 d.2.1.length c1, .slice A2 d.2.2.length c2]) d.1 d.2.1 d.2.2 := by
  obtain ⟨A, c, rfl, hl, hc, hr⟩ := h
  have hlt := (List.getElem?_eq_some_iff.1 hd).1
  obtain ⟨ad, rfl, hcell⟩ := hr (by omega)
  obtain ⟨v1, v2, e0, e1, e2, hfr⟩ := hcell k d hd
  obtain ⟨A1, c1, A2, c2, hsh, _⟩ := FrIn.shape hfr
  obtain ⟨rfl, rfl⟩ : v1 = .slice A1 d.2.1.length c1 ∧ v2 = .slice A2 d.2.2.length c2 := by simpa using hsh
  exact ⟨ad, c, A1, c1, A2, c2, rfl, hl, hc, e0, e1, e2, hfr⟩
/-- The products of two lists, up to the shorter one's end. -/
def dots (L M : List (Bool × List Int × List Int)) : List Rat := List.zipWith (fun x y => fqd x * fqd y) L M
theorem dots_at {L M : List (Bool × List Int × List Int)} {k : Nat} {x y : Bool × List Int × List Int} (hx : L[k]? = some x) (hy : M[k]? = some y) : (dots L M)[k]? = some (fqd x * fqd y) := by
  simp [dots, List.getElem?_zipWith, hx, hy]
theorem dots_len (L M : List (Bool × List Int × List Int)) : (dots L M).length = min L.length M.length := by simp [dots]
theorem dots_szq {L M : List (Bool × List Int × List Int)} {m : Nat} (hm : 1 ≤ m) (h : FewD m L) (h2 : FewD m M) (hw : ∀ d ∈ L, Wd d.2.1 ∧ Wd d.2.2) (hw2 : ∀ d ∈ M, Wd d.2.1 ∧ Wd d.2.2) : ∀ q ∈ dots L M, Szq (m + m) q := by
  intro q hq
  obtain ⟨k, hk, rfl⟩ := List.mem_iff_getElem.1 hq
  rw [dots_len] at hk
  have e := dots_at (L := L) (M := M) (k := k) (List.getElem?_eq_getElem (by omega)) (List.getElem?_eq_getElem (by omega))
  rw [List.getElem?_eq_getElem (by rw [dots_len]; exact hk)] at e
  rw [Option.some.inj e]
  have hx := few_szq hm h hw
  have hy := few_szq hm h2 hw2
  exact szq_mul (hx _ (List.mem_map.2 ⟨_, List.getElem_mem _, rfl⟩)) (hy _ (List.mem_map.2 ⟨_, List.getElem_mem _, rfl⟩))
theorem FL.take {w : World} {A : Option Addr} {l c : Nat} {L : List (Bool × List Int × List Int)} (h : FL w (.slice A l c) L) {n : Nat} (hn : n ≤ L.length) : FL w (.slice A n n) (L.take n) := by
  obtain ⟨A', c', hv, h1, h2, h3⟩ := h
  obtain ⟨rfl, rfl, rfl⟩ : A = A' ∧ l = L.length ∧ c = c' := by simpa using hv
  have hl : (L.take n).length = n := by simp; omega
  refine ⟨A, n, by rw [hl], by omega, by omega, fun h0 => ?_⟩
  obtain ⟨ad, ha, hc⟩ := h3 (by omega)
  refine ⟨ad, ha, fun i d hd => hc i d ?_⟩
  have hi := (List.getElem?_eq_some_iff.1 hd).1
  rw [List.getElem?_take_of_lt (by omega)] at hd
  exact hd
/-- The cell for the result. -/
def HoldR (w : World) (t : Nat) (w' : World) : Prop := Below w.heap.size w w' ∧ Blk w' w.heap.size t #[.bool false, .slice none 0 0, .slice none 0 0]
theorem HoldR.cells {w w' : World} {t : Nat} (h : HoldR w t w') : HoldR w t w' ∧ w'.cell? ⟨w.heap.size, 0, none⟩ = some (.bool false) := ⟨h, h.2.cell 0⟩
theorem HoldR.next {w w1 w2 : World} {t : Nat} (k : Below w1.heap.size w1 w2) (h : HoldR w t w1) : HoldR w t w2 := ⟨bl_trans h.1 k, h.2.below k⟩
theorem HoldR.bl {w w1 : World} {t : Nat} (h : HoldR w t w1) : Below w.heap.size w w1 := h.1
/-- No words above: 0. -/
theorem fqd_nil {d : Bool × List Int × List Int} (h : d.2.1.length = 0) : fqd d = 0 := by
  have h2 : d.2.1 = [] := List.length_eq_zero_iff.1 h
  unfold fqd fixq
  rw [h2]
  split
  · cases d.1 <;> simp [sgn, nv, Rat.mkRat_eq_div, Rat.div_def]
  · rfl
/-- The first place whose number comes ahead of all others by a sign of their order, of the first k; -1 for none. -/
def pk (s : Int) (qs : List Rat) : Nat → Int
  | 0 => -1
  | k + 1 => if pk s qs k < 0 ∨ rcmp (qs.getD k 0) (qs.getD (pk s qs k).toNat 0) = s then (k : Int) else pk s qs k
theorem pk_lt (s : Int) (qs : List Rat) (k : Nat) : pk s qs k < (k : Int) ∧ (0 < k → 0 ≤ pk s qs k) ∧ -1 ≤ pk s qs k := by
  induction k with
  | zero => simp [pk]
  | succ k ih => simp only [pk]; split <;> omega
theorem pk_one (s : Int) (qs : List Rat) : pk s qs 1 = 0 := by simp [pk]
theorem pk_at (s : Int) (qs : List Rat) (k : Nat) (hk : 0 < k) : ∃ j : Nat, pk s qs k = (j : Int) ∧ j < k := by
  have h := pk_lt s qs k
  exact ⟨(pk s qs k).toNat, by omega, by omega⟩
theorem pk_yes {s : Int} {qs : List Rat} {k j : Nat} {a b : Rat} (hj : pk s qs k = (j : Int)) (ha : qs[k]? = some a) (hb : qs[j]? = some b) (h : rcmp a b = s) : pk s qs (k + 1) = (k : Int) := by
  simp only [pk, hj, List.getD_eq_getElem?_getD, ha, hb, Int.toNat_natCast, Option.getD_some, h, or_true, if_true]
theorem pk_no {s : Int} {qs : List Rat} {k j : Nat} {a b : Rat} (hj : pk s qs k = (j : Int)) (ha : qs[k]? = some a) (hb : qs[j]? = some b) (h : ¬ rcmp a b = s) : pk s qs (k + 1) = (j : Int) := by
  have h0 : ¬ ((j : Int) < 0) := by omega
  simp only [pk, hj, List.getD_eq_getElem?_getD, ha, hb, Int.toNat_natCast, Option.getD_some, h, h0, or_self, if_false]
/-- What a comparison of two ratios of the row holds on to. -/
def HoldP (w : World) (g n : Nat) (qs : List Rat) (v1 v2 : Value) (q r : Rat) (w' : World) : Prop := Below w.heap.size w w' ∧ RL w' g n qs ∧ RtV w' v1 q ∧ RtV w' v2 r
theorem HoldP.next {w w1 w2 : World} {g n : Nat} {qs : List Rat} {v1 v2 : Value} {q r : Rat} (hb : Below w1.heap.size w1 w2) (h : HoldP w g n qs v1 v2 q r w1) : HoldP w g n qs v1 v2 q r w2 := ⟨bl_trans h.1 hb, h.2.1.below hb, h.2.2.1.below hb, h.2.2.2.below hb⟩
theorem HoldP.t1 {w w1 : World} {g n : Nat} {qs : List Rat} {v1 v2 : Value} {q r : Rat} (h : HoldP w g n qs v1 v2 q r w1) : RtV w1 v1 q := h.2.2.1
theorem HoldP.t2 {w w1 : World} {g n : Nat} {qs : List Rat} {v1 v2 : Value} {q r : Rat} (h : HoldP w g n qs v1 v2 q r w1) : RtV w1 v2 r := h.2.2.2
theorem holdp_next {w w1 w2 : World} {g n i j : Nat} {qs : List Rat} {v1 v2 : Value} {q r : Rat} {x0 x1 x2 x3 x4 x5 : Value} (hb : Below w1.heap.size w1 w2) (h : HoldP w g n qs v1 v2 q r w1 ∧ (w1.cell? ⟨g, i * 3, none⟩ = some x0 ∧ w1.cell? ⟨g, i * 3 + 1, none⟩ = some x1 ∧ w1.cell? ⟨g, i * 3 + 2, none⟩ = some x2) ∧ (w1.cell? ⟨g, j * 3, none⟩ = some x3 ∧ w1.cell? ⟨g, j * 3 + 1, none⟩ = some x4 ∧ w1.cell? ⟨g, j * 3 + 2, none⟩ = some x5)) : HoldP w g n qs v1 v2 q r w2 ∧ (w2.cell? ⟨g, i * 3, none⟩ = some x0 ∧ w2.cell? ⟨g, i * 3 + 1, none⟩ = some x1 ∧ w2.cell? ⟨g, i * 3 + 2, none⟩ = some x2) ∧ (w2.cell? ⟨g, j * 3, none⟩ = some x3 ∧ w2.cell? ⟨g, j * 3 + 1, none⟩ = some x4 ∧ w2.cell? ⟨g, j * 3 + 2, none⟩ = some x5) := by
  obtain ⟨h0, ⟨e0, e1, e2⟩, ⟨e3, e4, e5⟩⟩ := h
  exact ⟨h0.next hb, ⟨cell_below hb e0, cell_below hb e1, cell_below hb e2⟩, ⟨cell_below hb e3, cell_below hb e4, cell_below hb e5⟩⟩
set_option maxRecDepth 100000 in
set_option maxHeartbeats 4000000 in
theorem pick_calls (w : World) (va : Value) (L : List (Bool × List Int × List Int)) (s : Int) (ha : FL w va L) (hL : L.length ≤ 64) (hf : FewD 16 L) :
    Calls Try.prog 93 #[va, .int .i64 s] w fun e w' => e = .returned (.int .i64 (pk s (L.map fqd) L.length)) ∧ Below w.heap.size w w' := by
  have HZQ := Lib.hid (few_szq (by omega) hf ha.wd)
  have hf2 : FewD 2048 L := fun d hd => ⟨Nat.le_trans (hf d hd).1 (by omega), Nat.le_trans (hf d hd).2 (by omega)⟩
  have HF := Lib.hid hf2
  obtain ⟨A, c, rfl⟩ := ha.shape
  clear hf hf2
  go_enter Try.func93, Try.ntmps93
  go_wp2_with fail
  refine (all_calls _ _ L ha (by omega) HF.out).mono ?_
  rintro e w2 ⟨gR, rfl, hgR, hRL, hb2⟩
  have R0 := Lib.hid hRL
  have B0 := Lib.hid hb2
  clear ha hRL hb2 hgR
  go_wp2
  go_loopw [12, 5] (fun i t wr => ∃ k : Nat, k ≤ L.length ∧ i = .int .i64 (k : Int) ∧ t = .int .i64 (pk s (L.map fqd) k) ∧ RL wr gR L.length (L.map fqd) ∧ Below w.heap.size w wr)
    (fun i _ _ => L.length - (intOf i).toNat)
  case atStart => exact ⟨0, by omega, rfl, rfl, R0.out, B0.out⟩
  case round =>
    clear R0 B0
    obtain ⟨k, hk, rfl, rfl, hRL, hbl⟩ := hrel
    by_cases hx : k < L.length
    · obtain ⟨q, hq⟩ : ∃ q, (L.map fqd)[k]? = some q := ⟨_, List.getElem?_eq_getElem (by simpa using hx)⟩
      have q1 : (k : Int) < (L.length : Int) := by omega
      rcases Nat.eq_zero_or_pos k with h0 | h0
      · subst h0
        have HK := Lib.hid hRL
        have HB := Lib.hid hbl
        clear hRL hbl
        have hp : pk s (L.map fqd) 0 = -1 := rfl
        rw [hp]
        go_wp2_with fail
        go_quiet (fail)
        go_wp2
        exact ⟨⟨1, by omega, by go_num, by rw [pk_one]; rfl, HK.out.below (bl_drewN _ _), bl_trans HB.out (bl_drewN _ _)⟩, by simp [intOf]; omega⟩
      · obtain ⟨j, hj, hjk⟩ := pk_at s (L.map fqd) k h0
        obtain ⟨r, hr⟩ : ∃ r, (L.map fqd)[j]? = some r := ⟨_, List.getElem?_eq_getElem (by simp; omega)⟩
        have PY := Lib.hid (pk_yes hj hq hr)
        have PN := Lib.hid (pk_no hj hq hr)
        obtain ⟨E1, x1, E2, x2, e0, e1, e2, hrt⟩ := hRL.cell hq
        obtain ⟨E3, x3, E4, x4, e3, e4, e5, hrt2⟩ := hRL.cell hr
        have zq := HZQ.out q (List.mem_of_getElem? hq)
        have zr := HZQ.out r (List.mem_of_getElem? hr)
        have hs := holdp_next (bl_drew wr) ⟨(⟨hbl, hRL, hrt, hrt2⟩ : HoldP w gR L.length (L.map fqd) _ _ q r wr), ⟨e0, e1, e2⟩, ⟨e3, e4, e5⟩⟩
        rw [hj]
        have q2 : (j : Int) < (L.length : Int) := by omega
        have q3 : ¬ (j : Int) < 0 := by omega
        clear hq hr hj hRL hbl hrt hrt2 e0 e1 e2 e3 e4 e5
        by_cases hc : rcmp q r = s
        · have hc2 : (rcmp q r == s) = true := beq_iff_eq.2 hc
          go_wp2_with fail
          go_region_held3 (fun w' => HoldP w gR L.length (L.map fqd) (.agg #[.slice E1 (dg q.num.natAbs).length x1, .slice E2 (dg q.den).length x2, .bool (decide (q.num < 0))]) (.agg #[.slice E3 (dg r.num.natAbs).length x3, .slice E4 (dg r.den).length x4, .bool (decide (r.num < 0))]) q r w' ∧ (w'.cell? ⟨gR, k * 3, none⟩ = some (.slice E1 (dg q.num.natAbs).length x1) ∧ w'.cell? ⟨gR, k * 3 + 1, none⟩ = some (.slice E2 (dg q.den).length x2) ∧ w'.cell? ⟨gR, k * 3 + 2, none⟩ = some (.bool (decide (q.num < 0)))) ∧ (w'.cell? ⟨gR, j * 3, none⟩ = some (.slice E3 (dg r.num.natAbs).length x3) ∧ w'.cell? ⟨gR, j * 3 + 1, none⟩ = some (.slice E4 (dg r.den).length x4) ∧ w'.cell? ⟨gR, j * 3 + 2, none⟩ = some (.bool (decide (r.num < 0)))))
            ((first | exact hs | exact holdp_next hbN (by assumption)))
            (first
              | (go_at_call 100; (with_reducible refine (order_calls _ _ _ q r ?_ ?_ (zq.mono (by omega)) (zr.mono (by omega))).mono ?_); (exact HoldP.t1 (And.left (by assumption))); (exact HoldP.t2 (And.left (by assumption))); (rintro e w' ⟨rfl, hbN⟩); (have H1 := HoldP.next hbN (And.left (by assumption)))))
          go_wp2
          exact ⟨⟨k + 1, by omega, by go_num, by rw [PY.out hc], H1.2.1, H1.1⟩, by simp [intOf]; omega⟩
        · have hc2 : (rcmp q r == s) = false := beq_eq_false_iff_ne.2 hc
          go_wp2_with fail
          go_region_held3 (fun w' => HoldP w gR L.length (L.map fqd) (.agg #[.slice E1 (dg q.num.natAbs).length x1, .slice E2 (dg q.den).length x2, .bool (decide (q.num < 0))]) (.agg #[.slice E3 (dg r.num.natAbs).length x3, .slice E4 (dg r.den).length x4, .bool (decide (r.num < 0))]) q r w' ∧ (w'.cell? ⟨gR, k * 3, none⟩ = some (.slice E1 (dg q.num.natAbs).length x1) ∧ w'.cell? ⟨gR, k * 3 + 1, none⟩ = some (.slice E2 (dg q.den).length x2) ∧ w'.cell? ⟨gR, k * 3 + 2, none⟩ = some (.bool (decide (q.num < 0)))) ∧ (w'.cell? ⟨gR, j * 3, none⟩ = some (.slice E3 (dg r.num.natAbs).length x3) ∧ w'.cell? ⟨gR, j * 3 + 1, none⟩ = some (.slice E4 (dg r.den).length x4) ∧ w'.cell? ⟨gR, j * 3 + 2, none⟩ = some (.bool (decide (r.num < 0)))))
            ((first | exact hs | exact holdp_next hbN (by assumption)))
            (first
              | (go_at_call 100; (with_reducible refine (order_calls _ _ _ q r ?_ ?_ (zq.mono (by omega)) (zr.mono (by omega))).mono ?_); (exact HoldP.t1 (And.left (by assumption))); (exact HoldP.t2 (And.left (by assumption))); (rintro e w' ⟨rfl, hbN⟩); (have H1 := HoldP.next hbN (And.left (by assumption)))))
          go_wp2
          exact ⟨⟨k + 1, by omega, by go_num, by rw [PN.out hc], H1.2.1, H1.1⟩, by simp [intOf]; omega⟩
    · obtain rfl : k = L.length := by omega
      have HB := Lib.hid hbl
      clear hRL hbl
      go_wp2
      go_ret
      exact ⟨rfl, HB.out⟩
theorem least_calls (w : World) (va : Value) (L : List (Bool × List Int × List Int)) (ha : FL w va L) (hL : L.length ≤ 64) (hf : FewD 16 L) :
    Calls Try.prog 60 #[va] w fun e w' => e = .returned (.int .i64 (pk (-1) (L.map fqd) L.length)) ∧ Below w.heap.size w w' := by
  go_enter Try.func60, Try.ntmps60
  obtain ⟨A, c, rfl⟩ := ha.shape
  go_wp2_with fail
  refine (pick_calls _ _ L (-1) ha hL hf).mono ?_
  rintro e w2 ⟨rfl, hb2⟩
  have HB := Lib.hid hb2
  clear ha hb2
  go_wp2
  go_ret
  exact ⟨rfl, HB.out⟩
/-- What a comparison of two fractions of the list holds on to. -/
def HoldFF (w : World) (v1 v2 : Value) (q r : Rat) (w' : World) : Prop := Below w.heap.size w w' ∧ FrQ w' v1 q ∧ FrQ w' v2 r
theorem HoldFF.next {w w1 w2 : World} {v1 v2 : Value} {q r : Rat} (hb : Below w1.heap.size w1 w2) (h : HoldFF w v1 v2 q r w1) : HoldFF w v1 v2 q r w2 := ⟨bl_trans h.1 hb, FrQ.below h.2.1 hb, FrQ.below h.2.2 hb⟩
theorem HoldFF.t1 {w w1 : World} {v1 v2 : Value} {q r : Rat} (h : HoldFF w v1 v2 q r w1) : FrQ w1 v1 q := h.2.1
theorem HoldFF.t2 {w w1 : World} {v1 v2 : Value} {q r : Rat} (h : HoldFF w v1 v2 q r w1) : FrQ w1 v2 r := h.2.2
theorem holdff_next {w w1 w2 : World} {v1 v2 : Value} {q r : Rat} {a0 a1 a2 a3 a4 a5 : Addr} {x0 x1 x2 x3 x4 x5 : Value} (hb : Below w1.heap.size w1 w2) (h : HoldFF w v1 v2 q r w1 ∧ (w1.cell? a0 = some x0 ∧ w1.cell? a1 = some x1 ∧ w1.cell? a2 = some x2) ∧ (w1.cell? a3 = some x3 ∧ w1.cell? a4 = some x4 ∧ w1.cell? a5 = some x5)) : HoldFF w v1 v2 q r w2 ∧ (w2.cell? a0 = some x0 ∧ w2.cell? a1 = some x1 ∧ w2.cell? a2 = some x2) ∧ (w2.cell? a3 = some x3 ∧ w2.cell? a4 = some x4 ∧ w2.cell? a5 = some x5) := by
  obtain ⟨h0, ⟨e0, e1, e2⟩, ⟨e3, e4, e5⟩⟩ := h
  exact ⟨h0.next hb, ⟨cell_below hb e0, cell_below hb e1, cell_below hb e2⟩, ⟨cell_below hb e3, cell_below hb e4, cell_below hb e5⟩⟩
theorem rcmp_three (a b : Rat) : rcmp a b = -1 ∨ rcmp a b = 0 ∨ rcmp a b = 1 := by
  unfold rcmp; split
  · exact Or.inl rfl
  · split
    · exact Or.inr (Or.inr rfl)
    · exact Or.inr (Or.inl rfl)
end Go.Proofs.Ytajckdheecgceaa
