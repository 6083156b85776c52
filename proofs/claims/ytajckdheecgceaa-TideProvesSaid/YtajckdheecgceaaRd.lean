/- What is read of a slice of whole numbers, and that it stays. -/
import Derived.Test.YtajckdheecgceaaNum
import Derived.Test.YtajckdheecgceaaProg
import Derived.Below
import Derived.BigQuiet
import Derived.Deep.LoopGhost
import Derived.Deep.OwnRows
import Derived.Deep.QuietTactic
import Derived.Deep.RegionHeld3
import Derived.KernelRfl
import Derived.Laws.CopyOwn
import Derived.Laws.MakeOwn
import Derived.Laws.OwnMore
import Derived.Lib.Hide
import Derived.Outline
import Derived.WalkKit
set_option linter.unusedVariables false
set_option linter.unusedSimpArgs false
namespace Go.Proofs.Ytajckdheecgceaa
open Go.RowKit

/-- The slice v reads as the list l. -/
def RdI (k : IntKind) (w : World) (v : Value) (l : List Int) : Prop :=
  ∃ A c, v = .slice A l.length c ∧ l.length ≤ c ∧ c ≤ 9223372036854775807 ∧ (0 < l.length → ∃ ad, A = some ad ∧ ∀ j, j < l.length → w.cell? (ad.add j) = some (.int k (wat l j)))
/-- The slice v reads as the words of the number n. -/
def Nm (w : World) (v : Value) (n : Nat) : Prop := RdI .u32 w v (dg n)

theorem add0 (ad : Addr) : ad.add 0 = ad := by
  cases ad
  simp [Addr.add]
theorem add_row (g j : Nat) : (⟨g, 0, none⟩ : Addr).add j = ⟨g, j, none⟩ := by
  unfold Addr.add
  split <;> simp_all
theorem add_pos (ad : Addr) {j : Nat} (h : 0 < j) : ad.add j = ⟨ad.block, ad.off + j, none⟩ := by
  unfold Addr.add
  split <;> simp_all
theorem cell_below {w w1 : World} (h : Below w.heap.size w w1) {a : Addr} {x : Value} (hc : w.cell? a = some x) : w1.cell? a = some x :=
  (h.cell (World.block_lt_of_cell? w a hc)).trans hc
theorem RdI.below {k : IntKind} {w w1 : World} {v : Value} {l : List Int} (h : RdI k w v l) (hb : Below w.heap.size w w1) : RdI k w1 v l := by
  obtain ⟨A, c, hv, hl, hc, hr⟩ := h
  refine ⟨A, c, hv, hl, hc, fun h0 => ?_⟩
  obtain ⟨ad, ha, hcell⟩ := hr h0
  exact ⟨ad, ha, fun j hj => cell_below hb (hcell j hj)⟩
theorem Nm.below {w w1 : World} {v : Value} {n : Nat} (h : Nm w v n) (hb : Below w.heap.size w w1) : Nm w1 v n := RdI.below h hb
theorem below_then {B : Nat} {w w1 w2 : World} (h : Below B w w1) (hB : B ≤ w1.heap.size) (k : Below w1.heap.size w1 w2) : Below B w w2 :=
  h.trans ⟨k.os, k.tape, k.output, k.size, fun i hi => k.block i (Nat.lt_of_lt_of_le hi hB)⟩
theorem bl_trans {w w1 w2 : World} (h : Below w.heap.size w w1) (k : Below w1.heap.size w1 w2) : Below w.heap.size w w2 := below_then h h.size k
theorem below_alloc0 (w : World) (o : Obj) : Below w.heap.size w (w.alloc o) := (Below.refl _ _).alloc (Nat.le_refl _) o
theorem alloc_at1 (w : World) (o o' : Obj) : ((w.alloc o).alloc o').heap[w.heap.size + 1]? = some o' := by
  have h := heap_alloc_new (w.alloc o) o'
  rwa [show (w.alloc o).heap.size = w.heap.size + 1 by simp] at h
theorem bl_drew (w : World) : Below w.heap.size w w.drew := (Below.refl _ _).drew
theorem bl_drewN (w : World) (n : Nat) : Below w.heap.size w (w.drewN n) := by
  induction n with
  | zero => exact Below.refl _ _
  | succ n ih =>
    rw [← World.drew_drewN]
    exact ih.drew
theorem Nm.shape {w : World} {v : Value} {n : Nat} (h : Nm w v n) : ∃ A c, v = .slice A (dg n).length c := by
  obtain ⟨A, c, hv, _⟩ := h
  exact ⟨A, c, hv⟩
theorem Nm.nil (w : World) : Nm w (.slice none 0 0) 0 := by
  refine ⟨none, 0, by rw [dg_zero]; rfl, by rw [dg_zero]; simp, by omega, fun h => ?_⟩
  rw [dg_zero] at h
  exact absurd h (by simp)
theorem int_ne0 {n : Nat} (h : 0 < n) : ((n : Int) == 0) = false := beq_eq_false_iff_ne.2 (by omega)
/-- A store into a cell that holds no number. -/
theorem RdI.set {k : IntKind} {w : World} {v : Value} {l : List Int} (h : RdI k w v l) {p : Addr} {x0 : Value} (hp : w.cell? p = some x0) (hne : ∀ n, x0 ≠ .int k n) (y : Value) : RdI k (w.setCell p y) v l := by
  obtain ⟨A, c, hv, hl, hc, hr⟩ := h
  refine ⟨A, c, hv, hl, hc, fun h0 => ?_⟩
  obtain ⟨ad, ha, hcell⟩ := hr h0
  refine ⟨ad, ha, fun j hj => ?_⟩
  rw [World.cell?_setCell_other]
  · exact hcell j hj
  · intro e
    have := hcell j hj
    rw [← e] at this
    rw [this] at hp
    injection hp with hp
    exact hne _ hp.symm
theorem Nm.set {w : World} {v : Value} {n : Nat} (h : Nm w v n) {p : Addr} {x0 : Value} (hp : w.cell? p = some x0) (hne : ∀ n, x0 ≠ .int .u32 n) (y : Value) : Nm (w.setCell p y) v n := RdI.set h hp hne y
/-- Three stores into a struct's cells, none of which holds a word. -/
theorem three_keep {w : World} {v : Value} {n B : Nat} (h : Nm w v n) {x0 x1 x2 : Value} (h0 : w.cell? ⟨B, 0, none⟩ = some x0) (h1 : w.cell? ⟨B, 1, none⟩ = some x1) (h2 : w.cell? ⟨B, 2, none⟩ = some x2)
    (n0 : ∀ n, x0 ≠ .int .u32 n) (n1 : ∀ n, x1 ≠ .int .u32 n) (n2 : ∀ n, x2 ≠ .int .u32 n) (y0 y1 y2 : Value) : Nm (((w.setCell ⟨B, 0, none⟩ y0).setCell ⟨B, 1, none⟩ y1).setCell ⟨B, 2, none⟩ y2) v n := by
  refine Nm.set (x0 := x2) (Nm.set (x0 := x1) (Nm.set h h0 n0 y0) ?_ n1 y1) ?_ n2 y2
  · rw [World.cell?_setCell_other _ _ _ _ (by simp)]; exact h1
  · rw [World.cell?_setCell_other _ _ _ _ (by simp), World.cell?_setCell_other _ _ _ _ (by simp)]; exact h2
theorem three_below {w w1 : World} {B : Nat} (h : Below w.heap.size w w1) (hB : w.heap.size ≤ B) (y0 y1 y2 : Value) : Below w.heap.size w (((w1.setCell ⟨B, 0, none⟩ y0).setCell ⟨B, 1, none⟩ y1).setCell ⟨B, 2, none⟩ y2) :=
  ((h.setCell hB _).setCell hB _).setCell hB _
theorem three_cells {w : World} {B : Nat} {x0 x1 x2 : Value} (h0 : w.cell? ⟨B, 0, none⟩ = some x0) (h1 : w.cell? ⟨B, 1, none⟩ = some x1) (h2 : w.cell? ⟨B, 2, none⟩ = some x2) (y0 y1 y2 : Value) :
    (((w.setCell ⟨B, 0, none⟩ y0).setCell ⟨B, 1, none⟩ y1).setCell ⟨B, 2, none⟩ y2).cell? ⟨B, 0, none⟩ = some y0 ∧ (((w.setCell ⟨B, 0, none⟩ y0).setCell ⟨B, 1, none⟩ y1).setCell ⟨B, 2, none⟩ y2).cell? ⟨B, 1, none⟩ = some y1 ∧ (((w.setCell ⟨B, 0, none⟩ y0).setCell ⟨B, 1, none⟩ y1).setCell ⟨B, 2, none⟩ y2).cell? ⟨B, 2, none⟩ = some y2 := by
  refine ⟨?_, ?_, ?_⟩
  · rw [World.cell?_setCell_other _ _ _ _ (by simp), World.cell?_setCell_other _ _ _ _ (by simp)]
    exact World.cell?_setCell_same _ _ _ h0
  · rw [World.cell?_setCell_other _ _ _ _ (by simp)]
    exact World.cell?_setCell_same _ _ _ (by rw [World.cell?_setCell_other _ _ _ _ (by simp)]; exact h1)
  · exact World.cell?_setCell_same _ _ _ (by rw [World.cell?_setCell_other _ _ _ _ (by simp), World.cell?_setCell_other _ _ _ _ (by simp)]; exact h2)
/-- A struct of three cells in a block of its own. -/
def Blk (w : World) (g t : Nat) (cs : Array Value) : Prop := w.heap[g]? = some (.cells cs t (0, 0))
theorem Blk.lt {w : World} {g t : Nat} {cs : Array Value} (h : Blk w g t cs) : g < w.heap.size := (Array.getElem?_eq_some_iff.1 h).1
theorem Blk.below {w w1 : World} {g t : Nat} {cs : Array Value} (h : Blk w g t cs) (hb : Below w.heap.size w w1) : Blk w1 g t cs := (hb.block g h.lt).trans h
theorem Blk.cell {w : World} {g t : Nat} {cs : Array Value} (h : Blk w g t cs) (j : Nat) : w.cell? ⟨g, j, none⟩ = cs[j]? := cell_of_row w g j cs t _ h
theorem Blk.free {w : World} {g t : Nat} {cs : Array Value} (h : Blk w g t cs) (j : Nat) : w.frozen? ⟨g, j, none⟩ = false := frozen_of_row w g j cs t h
theorem Blk.new (w : World) (t : Nat) (cs : Array Value) : Blk (w.alloc (.cells cs t)) w.heap.size t cs := heap_alloc_new w _
theorem Blk.set {w : World} {g t : Nat} {cs : Array Value} (h : Blk w g t cs) (j : Nat) (y : Value) : Blk (w.setCell ⟨g, j, none⟩ y) g t (cs.setIfInBounds j y) := heap_setCell_same w g j cs t y h
theorem blk3 {w : World} {g t : Nat} {x0 x1 x2 : Value} (h : Blk w g t #[x0, x1, x2]) (y0 y1 y2 : Value) : Blk (((w.setCell ⟨g, 0, none⟩ y0).setCell ⟨g, 1, none⟩ y1).setCell ⟨g, 2, none⟩ y2) g t #[y0, y1, y2] := ((h.set 0 y0).set 1 y1).set 2 y2
theorem blk3_keep {w : World} {v : Value} {n g t : Nat} (h : Nm w v n) {x0 x1 x2 : Value} (hb : Blk w g t #[x0, x1, x2])
    (n0 : ∀ n, x0 ≠ .int .u32 n) (n1 : ∀ n, x1 ≠ .int .u32 n) (n2 : ∀ n, x2 ≠ .int .u32 n) (y0 y1 y2 : Value) : Nm (((w.setCell ⟨g, 0, none⟩ y0).setCell ⟨g, 1, none⟩ y1).setCell ⟨g, 2, none⟩ y2) v n :=
  three_keep h (hb.cell 0) (hb.cell 1) (hb.cell 2) n0 n1 n2 y0 y1 y2
/-- Behind a call: what lay there still lies there. -/
theorem bcell {W w1 : World} (hb : Below W.heap.size W w1) : (∀ b o, b < W.heap.size → w1.cell? ⟨b, o, none⟩ = W.cell? ⟨b, o, none⟩) ∧ (∀ b o, b < W.heap.size → w1.frozen? ⟨b, o, none⟩ = W.frozen? ⟨b, o, none⟩) :=
  ⟨fun b o h => hb.cell (p := ⟨b, o, none⟩) h, fun b o h => hb.frozen (p := ⟨b, o, none⟩) h⟩
/-- Block g is a row of the words l. -/
def Ow (w : World) (g : Nat) (l : List Int) : Prop := w.heap[g]? = some (.cells (l.map (Value.int .u32)).toArray 101 (0, 0))
theorem Ow.cell {w : World} {g : Nat} {l : List Int} (h : Ow w g l) {j : Nat} (hj : j < l.length) : w.cell? ⟨g, j, none⟩ = some (.int .u32 (wat l j)) := by
  rw [cell_of_row w g j _ _ _ h]
  simp [wat, hj, List.getD_eq_getElem?_getD]
theorem Ow.free {w : World} {g : Nat} {l : List Int} (h : Ow w g l) (j : Nat) : w.frozen? ⟨g, j, none⟩ = false := frozen_of_row w g j _ _ h
theorem Ow.set {w : World} {g : Nat} {l : List Int} (h : Ow w g l) (j : Nat) (x : Int) : Ow (w.setCell ⟨g, j, none⟩ (.int .u32 x)) g (l.set j x) := by
  have := heap_setCell_same w g j _ _ (.int .u32 x) h
  unfold Ow
  rw [this]
  simp [List.map_set]
theorem Ow.lt {w : World} {g : Nat} {l : List Int} (h : Ow w g l) : g < w.heap.size := (Array.getElem?_eq_some_iff.1 h).1
theorem Ow.below {w w1 : World} {g : Nat} {l : List Int} (h : Ow w g l) (hb : Below w.heap.size w w1) : Ow w1 g l := (hb.block g h.lt).trans h
theorem Ow.other {w : World} {g : Nat} {l : List Int} (h : Ow w g l) (a : Addr) (hne : g ≠ a.block) (x : Value) : Ow (w.setCell a x) g l := (heap_setCell_other w a g x hne).trans h
theorem Ow.rd {w : World} {g : Nat} {l : List Int} (h : Ow w g l) (n c : Nat) (hn : n ≤ l.length) (hc : n ≤ c) (hm : c ≤ 9223372036854775807) : RdI .u32 w (.slice (some ⟨g, 0, none⟩) n c) (l.take n) := by
  have hl : (l.take n).length = n := by rw [List.length_take]; omega
  refine ⟨_, c, by rw [hl], by omega, hm, fun _ => ⟨_, rfl, fun j hj => ?_⟩⟩
  have e : (⟨g, 0, none⟩ : Addr).add j = ⟨g, j, none⟩ := add_row g j
  rw [e, h.cell (by omega)]
  simp only [wat, List.getD_eq_getElem?_getD]
  rw [List.getElem?_take_of_lt (by omega)]
theorem below_set {B : Nat} {w w1 : World} (h : Below B w w1) {a : Addr} (ha : B ≤ a.block) (x : Value) : Below B w (w1.setCell a x) := h.setCell ha x
theorem map_replicate_u32 (n : Nat) : (List.replicate n (Value.int .u32 0)) = (List.replicate n (0 : Int)).map (Value.int .u32) := by simp
theorem mk_row {P : Program} (t e : TypeId) (bytes : Nat) (ht : P.underlying t = some (.slice e)) (hinfo : (P.info? e).map (fun i => (i.zero, i.size, i.bytes)) = some (some (.int .u32 0), 1, bytes))
    (n : Int) (h0 : 0 ≤ n) (hbytes : bytes * n.toNat ≤ 281474976710656) (h63 : n ≤ 9223372036854775807) (w : World) :
    (Instr.makeSlice t (.int .i64 n) (.int .i64 n)).run P w = .ok (.slice (some ⟨w.heap.size, 0, none⟩) n.toNat n.toNat) (w.alloc (.cells ((List.replicate n.toNat (0 : Int)).map (Value.int .u32)).toArray e)) := by
  obtain ⟨k, rfl⟩ := Int.eq_ofNat_of_zero_le h0
  rw [Int.toNat_natCast] at *
  have h := run_make_row' (P := P) t e (.int .u32 0) bytes ht hinfo rfl .i64 .i64 k hbytes (by omega) w
  rw [h]
  congr 3
  apply Array.toList_inj.1
  rw [toList_madeCells_one]
  simp
theorem info_u32 : (Try.prog.info? 101).map (fun i => (i.zero, i.size, i.bytes)) = some (some (.int .u32 0), 1, 4) := by kernel_rfl
/-- A new row of words (make). -/
theorem mk_words (n : Int) (h0 : 0 ≤ n) (h : n ≤ 70368744177664) (w : World) :
    (Instr.makeSlice 111 (.int .i64 n) (.int .i64 n)).run Try.prog w = .ok (.slice (some ⟨w.heap.size, 0, none⟩) n.toNat n.toNat) (w.alloc (.cells ((List.replicate n.toNat (0 : Int)).map (Value.int .u32)).toArray 101)) :=
  mk_row _ _ 4 Try.underlying111 info_u32 n h0 (by omega) (by omega) w
theorem Ow.zeros (w : World) (n : Nat) : Ow (w.alloc (.cells (Array.replicate n (.int .u32 0)) 101)) w.heap.size (List.replicate n 0) := by
  have := heap_alloc_new w (.cells (Array.replicate n (.int .u32 0)) 101)
  unfold Ow
  rw [this]
  simp
theorem Ow.made (w : World) (l : List Int) : Ow (w.alloc (.cells (l.map (Value.int .u32)).toArray 101)) w.heap.size l := heap_alloc_new w _

end Go.Proofs.Ytajckdheecgceaa
