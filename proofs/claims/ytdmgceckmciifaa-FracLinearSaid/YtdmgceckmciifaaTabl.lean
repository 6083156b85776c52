/- Systems of equations: rows of one's own, CopyRows. -/
import Derived.Test.YtdmgceckmciifaaScal
set_option linter.unusedVariables false
set_option linter.unusedSimpArgs false
namespace Go.Proofs.Ytdmgceckmciifaa
open Go.RowKit

theorem OF.typ2 {w : World} {B : Nat} {v : Value} {L : List (Bool × List Int × List Int)} (h : OF w B v L) {g : Nat} (hg : v.ownBlock = some g) : ∃ cs, w.heap[g]? = some (.cells cs 24 (0, 0)) := by
  obtain ⟨xs, h1, h2, h3⟩ := h
  rcases h1.2 with ⟨rfl, _⟩ | ⟨g', cap, cur, rfl, hb, hc, _⟩
  · cases hg
  · obtain rfl : g' = g := by simpa [Value.ownBlock] using hg
    exact ⟨cur, hc⟩
set_option maxRecDepth 100000 in
set_option maxHeartbeats 4000000 in
theorem copyfracs_of (w : World) (va : Value) (L : List (Bool × List Int × List Int)) (ha : FL w va L) (hL : L.length ≤ 4096) (hf : FewD 4096 L) :
    Calls Try.prog 40 #[va] w fun e w' => ∃ v, e = .returned v ∧ OF w' w.heap.size v L ∧ Below w.heap.size w w' := by
  obtain ⟨A, c, rfl, hl, hc, hr⟩ := ha
  go_enter Try.func40, Try.ntmps40
  go_wp2
  go_loopw [3, 4] (fun v i wr => ∃ (k : Nat), k ≤ L.length ∧ i = .int .i64 (k : Int) ∧ OF wr w.heap.size v (L.take k) ∧ Below w.heap.size w wr)
    (fun _ i _ => L.length - (intOf i).toNat)
  case atStart => exact ⟨0, by omega, rfl, OF.nil _ _, Below.refl _ _⟩
  case round =>
    obtain ⟨k, hk, rfl, hO, hbl⟩ := hrel
    have HO := Lib.hid hO
    have HB := Lib.hid hbl
    by_cases hx : k < L.length
    · obtain ⟨ad, rfl, hcell⟩ := hr (by omega)
      obtain ⟨d, hd⟩ : ∃ d, L[k]? = some d := ⟨_, List.getElem?_eq_getElem hx⟩
      obtain ⟨v1, v2, e0, e1, e2, hfr⟩ := hcell k d hd
      have few := hf d (List.mem_of_getElem? hd)
      obtain ⟨A1, c1, A2, c2, hsh, _⟩ := FrIn.shape hfr
      obtain ⟨rfl, rfl⟩ : v1 = .slice A1 d.2.1.length c1 ∧ v2 = .slice A2 d.2.2.length c2 := by simpa using hsh
      replace e0 := cell_below hbl e0
      replace e1 := cell_below hbl e1
      replace e2 := cell_below hbl e2
      have HD := Lib.hid hd
      have hsz := hbl.size
      clear hcell hr hO hbl hd hsh
      go_wp2_with fail
      refine (copyfrac_calls _ _ d.1 d.2.1 d.2.2 (hfr.below HB.out) few.1 few.2).mono ?_
      rintro e w2 ⟨v, rfl, hcp, hb2⟩
      obtain ⟨A3, c3, A4, c4, rfl, _⟩ := hcp.shape
      have al := below_alloc0 w2 (.cells #[.bool d.1, .slice A3 d.2.1.length c3, .slice A4 d.2.2.length c4] 24)
      have K := Blk.new w2 24 #[.bool d.1, .slice A3 d.2.1.length c3, .slice A4 d.2.2.length c4]
      have hb3 := bl_trans hb2 al
      obtain ⟨v', w', hrun, ho', hfr', _⟩ := OF.push (d := d) (HO.out.below hb3) (Nat.le_trans hsz hb3.size) K (hcp.below al) (by simp; omega)
      have hb4 := Lib.hid (Below.trans (bl_trans HB.out hb3) (hfr'.below (Nat.le_trans hsz hb3.size) (fun g hg => HO.out.block hg)))
      have HRUN := Lib.hid hrun
      rw [take_snocD HD.out] at ho'
      have ho2 := Lib.hid ho'
      clear hrun ho' hfr' hcp al K hb2 hb3 e0 e1 e2
      go_wp2_with (first
        | (at_builtin; refine wpList_append_run _ rfl _ _ 32 rfl _ _ rfl rfl ⟨v', w', HRUN.out, ?_⟩)
        | go_in)
      exact ⟨⟨k + 1, by omega, by go_num, ho2.out, hb4.out⟩, by simp [intOf]; omega⟩
    · obtain rfl : k = L.length := by omega
      have hc2 := HO.out
      rw [List.take_length] at hc2
      have HF := Lib.hid hc2
      clear hr hO hbl hc2
      go_wp2
      go_ret
      exact ⟨_, rfl, HF.out, HB.out⟩
theorem info_row : (Try.prog.info? 32).map (fun i => (i.zero, i.size, i.bytes)) = some (some (.slice none 0 0), 1, 24) := by kernel_rfl
/-- Rows of one's own. -/
def OR (w : World) (B : Nat) (v : Value) (LL : List (List (Bool × List Int × List Int))) : Prop := ∃ xs, w.ownsRow B 32 1 v LL.length xs ∧ NoW w v ∧ (∀ u ∈ xs, ∀ n, u ≠ Value.int .u32 n) ∧ ∀ (i : Nat) (L : List (Bool × List Int × List Int)), LL[i]? = some L → ∃ u, xs[i]? = some u ∧ OF w B u L
theorem OR.nil (w : World) (B : Nat) : OR w B (.slice none 0 0) [] := ⟨[], World.ownsRow_nil _ _ _ _, NoW.nil _, fun u hu => by simp at hu, fun i d hd => by simp at hd⟩
theorem OR.below {w w1 : World} {B : Nat} {v : Value} {LL : List (List (Bool × List Int × List Int))} (h : OR w B v LL) (hb : Below w.heap.size w w1) : OR w1 B v LL := by
  obtain ⟨xs, h1, h2, h3, h4⟩ := h
  have k := Fr.of_below (S := fun _ => False) hb
  refine ⟨xs, k.own h1 (fun _ _ h => h), k.now h2 (fun _ _ h => h), h3, fun i L hL => ?_⟩
  obtain ⟨u, e0, e1⟩ := h4 i L hL
  exact ⟨u, e0, e1.below hb⟩
theorem OR.block {w : World} {B : Nat} {v : Value} {LL : List (List (Bool × List Int × List Int))} (h : OR w B v LL) {g : Nat} (hg : v.ownBlock = some g) : B ≤ g := by
  obtain ⟨xs, h1, _⟩ := h
  rcases h1.2 with ⟨rfl, _⟩ | ⟨g', cap, cur, rfl, hb, _⟩
  · cases hg
  · obtain rfl : g' = g := by simpa [Value.ownBlock] using hg
    exact hb
/-- One more row. -/
theorem OR.push {W : World} {B : Nat} {v : Value} {LL : List (List (Bool × List Int × List Int))} (h : OR W B v LL) (hB : B ≤ W.heap.size) {g : Nat} {u : Value} {L : List (Bool × List Int × List Int)} (K : Blk W g 32 #[u]) (hu : OF W B u L) (hl : LL.length ≤ 1000000) :
    ∃ v' w', (Builtin.append_ #[48, 48] 48 #[v, .slice (some ⟨g, 0, none⟩) 1 1]).run Try.prog W = .ok v' w' ∧ OR w' B v' (LL ++ [L]) ∧ Fr (fun x => v.ownBlock = some x) W w' := by
  obtain ⟨xs, h1, h2, h3, h4⟩ := h
  obtain ⟨i0, hi, hz0, hz1, hz2⟩ := info_parts info_row
  obtain ⟨A, c, hsh, _⟩ := hu.shape
  obtain ⟨v', w', hrun, ho, hfr, hn, hob⟩ := run_append_fr (P := Try.prog) W B 48 48 32 i0 _ 1 24 Try.underlying48 hi hz0 hz1 hz2 rfl (by decide)
    (by intro j x hx n hh; subst hh
        have : j = 0 ∨ 1 ≤ j := by omega
        rcases this with rfl | h
        · cases hx
        · have hnone : (#[Value.slice none 0 0] : Array Value)[j]? = none := Array.getElem?_eq_none (by simpa using h)
          exact absurd (hnone.symm.trans hx) (by simp))
    v LL.length xs h1 h2 ⟨g, 0, none⟩ 1 [u] rfl
    (by intro j x hx
        have h3 : j = 0 ∨ 1 ≤ j := by omega
        rcases h3 with rfl | h
        · rw [← hx, add0]; exact K.cell 0
        · rw [List.getElem?_eq_none (by simpa using h)] at hx; cases hx)
    (by intro x hx; simp only [List.mem_cons, List.not_mem_nil, or_false] at hx; rw [hx, hsh]; rfl)
    (by intro x hx n; simp only [List.mem_cons, List.not_mem_nil, or_false] at hx; rw [hx, hsh]; exact slne _ _ _ n)
    h3 (by unfold maxLen; omega) (by omega) hB
  have typ : ∀ {x : Value} {M : List (Bool × List Int × List Int)}, OF W B x M → OF w' B x M := fun hx => hx.fr hfr (fun y hy e => by
    obtain ⟨ds, k1⟩ := hx.typ2 hy
    rcases h1.2 with ⟨e1, _⟩ | ⟨g', cap, cur, e1, _, k2, _⟩
    · rw [e1] at e; cases e
    · rw [e1] at e
      obtain rfl : g' = y := by simpa [Value.ownBlock] using e
      rw [k1] at k2
      have := Option.some.inj k2
      injection this with _ e3
      revert e3; decide)
  have hxl : xs.length = LL.length := by have := h1.1; omega
  refine ⟨v', w', hrun, ⟨_, by rw [List.length_append]; exact ho, hn, ?_, fun i M hM => ?_⟩, hfr⟩
  · intro x hx
    rcases List.mem_append.1 hx with h | h
    · exact h3 x h
    · simp only [List.mem_cons, List.not_mem_nil, or_false] at h
      rw [h, hsh]; exact slne _ _ _
  · rcases Nat.lt_or_ge i LL.length with hi | hi
    · rw [List.getElem?_append_left hi] at hM
      obtain ⟨x, e0, e1⟩ := h4 i M hM
      exact ⟨x, by rw [List.getElem?_append_left (by omega)]; exact e0, typ e1⟩
    · obtain rfl : i = LL.length := by
        have := (List.getElem?_eq_some_iff.1 hM).1
        simp at this
        omega
      obtain rfl : L = M := by simpa using hM
      exact ⟨u, by rw [List.getElem?_append_right (by omega), hxl, Nat.sub_self]; rfl, typ hu⟩
theorem OR.fll {w : World} {B : Nat} {v : Value} {LL : List (List (Bool × List Int × List Int))} (h : OR w B v LL) : FLL w v LL := by
  obtain ⟨xs, h1, h2, h3, h4⟩ := h
  have hh := h1
  rcases h1.2 with ⟨rfl, h0⟩ | ⟨g, cap, cur, rfl, hb, hg, hn, hm, hcs, ht⟩
  · exact ⟨none, 0, by rw [h0], by omega, by omega, fun h => by omega⟩
  · refine ⟨_, cap, rfl, hn, by simp only [maxLen] at hm; omega, fun _ => ⟨_, rfl, fun i L hL => ?_⟩⟩
    obtain ⟨u, e0, e1⟩ := h4 i L hL
    exact ⟨u, hh.cells (g := g) rfl _ _ e0, e1.fl⟩
set_option maxRecDepth 100000 in
set_option maxHeartbeats 4000000 in
theorem copyrows_calls (w : World) (va : Value) (LL : List (List (Bool × List Int × List Int))) (ha : FLL w va LL) (hL : LL.length ≤ 4096) (hf : ∀ L ∈ LL, L.length ≤ 4096 ∧ FewD 4096 L) :
    Calls Try.prog 54 #[va] w fun e w' => ∃ v, e = .returned v ∧ OR w' w.heap.size v LL ∧ Below w.heap.size w w' := by
  have HA := Lib.hid ha
  obtain ⟨A, c, rfl⟩ := ha.shape
  have hcc := ha.bounds
  clear ha
  go_enter Try.func54, Try.ntmps54
  go_wp2
  go_loopw [3, 4] (fun v i wr => ∃ (k : Nat), k ≤ LL.length ∧ i = .int .i64 (k : Int) ∧ OR wr w.heap.size v (LL.take k) ∧ Below w.heap.size w wr)
    (fun _ i _ => LL.length - (intOf i).toNat)
  case atStart => exact ⟨0, by omega, rfl, OR.nil _ _, Below.refl _ _⟩
  case round =>
    obtain ⟨k, hk, rfl, hO, hbl⟩ := hrel
    have HO := Lib.hid hO
    have HB := Lib.hid hbl
    by_cases hx : k < LL.length
    · obtain ⟨L, hd⟩ : ∃ d, LL[k]? = some d := ⟨_, List.getElem?_eq_getElem hx⟩
      obtain ⟨ad, c', A1, c1, hv, _, _, e0, hc1, hc2, hfl⟩ := HA.out.at hd
      obtain ⟨rfl, rfl⟩ : A = some ad ∧ c = c' := by simpa using hv
      have few := hf L (List.mem_of_getElem? hd)
      replace e0 := cell_below hbl e0
      have HD := Lib.hid (take_snocL hd)
      have HFL := Lib.hid hfl
      have hsz := hbl.size
      have q1 : (k : Int) < (LL.length : Int) := by omega
      clear hO hbl hd hv hfl
      go_wp2_with fail
      refine (copyfracs_of _ _ L (HFL.out.below HB.out) few.1 few.2).mono ?_
      rintro e w2 ⟨u, rfl, hcp, hb2⟩
      have hcp2 := hcp.mono hsz
      obtain ⟨A3, c3, rfl, _, _⟩ := hcp2.shape
      have al := below_alloc0 w2 (.cells #[.slice A3 L.length c3] 32)
      have K := Blk.new w2 32 #[.slice A3 L.length c3]
      have hb3 := bl_trans hb2 al
      obtain ⟨v', w', hrun, ho', hfr'⟩ := OR.push (HO.out.below hb3) (Nat.le_trans hsz hb3.size) K (hcp2.below al) (by simp; omega)
      have hb4 := Lib.hid (Below.trans (bl_trans HB.out hb3) (hfr'.below (Nat.le_trans hsz hb3.size) (fun g hg => HO.out.block hg)))
      have HRUN := Lib.hid hrun
      rw [← HD.out] at ho'
      have ho2 := Lib.hid ho'
      clear hrun ho' hfr' hcp hcp2 al K hb2 hb3 e0
      go_wp2_with (first
        | (at_builtin; refine wpList_append_run _ rfl _ _ 48 rfl _ _ rfl rfl ⟨v', w', HRUN.out, ?_⟩)
        | go_in)
      exact ⟨⟨k + 1, by omega, by go_num, ho2.out, hb4.out⟩, by simp [intOf]; omega⟩
    · obtain rfl : k = LL.length := by omega
      have hc2 := HO.out
      rw [List.take_length] at hc2
      have HF := Lib.hid hc2
      clear hO hbl hc2
      go_wp2
      go_ret
      exact ⟨_, rfl, HF.out, HB.out⟩
end Go.Proofs.Ytdmgceckmciifaa
