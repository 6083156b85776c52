/- Systems of equations: rows that are handed in, and whether they are of one length. -/
import Derived.Test.YtdmgceckmciifaaLst8
set_option linter.unusedVariables false
set_option linter.unusedSimpArgs false
namespace Go.Proofs.Ytdmgceckmciifaa
open Go.RowKit

/-- Rows of fractions that are handed in. -/
def FLL (w : World) (v : Value) (LL : List (List (Bool × List Int × List Int))) : Prop := ∃ A c, v = .slice A LL.length c ∧ LL.length ≤ c ∧ c ≤ 9223372036854775807 ∧ (0 < LL.length → ∃ ad, A = some ad ∧ ∀ i L, LL[i]? = some L → ∃ u, w.cell? (ad.add i) = some u ∧ FL w u L)
theorem FLL.below {w w1 : World} {v : Value} {LL : List (List (Bool × List Int × List Int))} (h : FLL w v LL) (hb : Below w.heap.size w w1) : FLL w1 v LL := by
  obtain ⟨A, c, hv, h1, h2, h3⟩ := h
  refine ⟨A, c, hv, h1, h2, fun h0 => ?_⟩
  obtain ⟨ad, ha, hc⟩ := h3 h0
  refine ⟨ad, ha, fun i L hL => ?_⟩
  obtain ⟨u, k0, hf⟩ := hc i L hL
  exact ⟨u, cell_below hb k0, hf.below hb⟩
theorem FLL.at {w : World} {v : Value} {LL : List (List (Bool × List Int × List Int))} (h : FLL w v LL) {i : Nat} {L : List (Bool × List Int × List Int)} (hL : LL[i]? = some L) : ∃ ad c A1 c1, v = .slice (some ad) LL.length c ∧ LL.length ≤ c ∧ c ≤ 9223372036854775807 ∧ w.cell? (ad.add i) = some (.slice A1 L.length c1) ∧ L.length ≤ c1 ∧ c1 ≤ 9223372036854775807 ∧ FL w (.slice A1 L.length c1) L := by
  obtain ⟨A, c, rfl, h1, h2, h3⟩ := h
  have hlt := (List.getElem?_eq_some_iff.1 hL).1
  obtain ⟨ad, rfl, hc⟩ := h3 (by omega)
  obtain ⟨u, k0, hf⟩ := hc i L hL
  have hf0 := hf
  obtain ⟨A1, c1, rfl, k1, k2, _⟩ := hf0
  exact ⟨ad, c, A1, c1, rfl, h1, h2, k0, k1, k2, hf⟩
theorem FLL.shape {w : World} {v : Value} {LL : List (List (Bool × List Int × List Int))} (h : FLL w v LL) : ∃ A c, v = .slice A LL.length c := by
  obtain ⟨A, c, hv, _⟩ := h
  exact ⟨A, c, hv⟩
theorem FLL.bounds {w : World} {A : Option Addr} {l c : Nat} {LL : List (List (Bool × List Int × List Int))} (h : FLL w (.slice A l c) LL) : LL.length ≤ c ∧ c ≤ 9223372036854775807 := by
  obtain ⟨A', c', hv, h1, h2, _⟩ := h
  obtain ⟨_, _, rfl⟩ : A = A' ∧ l = LL.length ∧ c = c' := by simpa using hv
  exact ⟨h1, h2⟩
/-- How many columns there are. -/
def colsN (LL : List (List (Bool × List Int × List Int))) : Nat := (LL.getD 0 []).length
/-- All rows are of one length. -/
def unif (LL : List (List (Bool × List Int × List Int))) : Prop := ∀ L ∈ LL, L.length = colsN LL
instance (LL : List (List (Bool × List Int × List Int))) : Decidable (unif LL) := by unfold unif; infer_instance
theorem take_snocL {α : Type} {LL : List α} {k : Nat} {L : α} (h : LL[k]? = some L) : LL.take (k + 1) = LL.take k ++ [L] := by
  rw [List.take_add_one, h]; rfl
theorem unif_take {LL : List (List (Bool × List Int × List Int))} {k n : Nat} {L : List (Bool × List Int × List Int)} (h : LL[k]? = some L) (h1 : ∀ M ∈ LL.take k, M.length = n) (h2 : L.length = n) : ∀ M ∈ LL.take (k + 1), M.length = n := by
  intro M hM
  rw [take_snocL h] at hM
  rcases List.mem_append.1 hM with hM | hM
  · exact h1 M hM
  · rw [List.mem_singleton.1 hM]; exact h2
/-- What is told of rows' form; r: how many numbers are on the right (below 0: not asked). -/
def formE (LL : List (List (Bool × List Int × List Int))) (r : Int) : Int := if unif LL ∧ (0 ≤ r → r = LL.length) then 0 else 12
theorem formE_ok {LL : List (List (Bool × List Int × List Int))} {r : Int} (h : unif LL ∧ (0 ≤ r → r = LL.length)) : formE LL r = 0 := if_pos h
theorem formE_no {LL : List (List (Bool × List Int × List Int))} {r : Int} (h : ¬ (unif LL ∧ (0 ≤ r → r = LL.length))) : formE LL r = 12 := if_neg h
set_option maxRecDepth 100000 in
set_option maxHeartbeats 4000000 in
theorem form_calls (w : World) (v : Value) (LL : List (List (Bool × List Int × List Int))) (h : FLL w v LL) (hR : LL.length ≤ 72) (hC : ∀ L ∈ LL, L.length ≤ 72) :
    Calls Try.prog 95 #[v] w fun e w' => e = .returned (.int .i64 (formE LL (-1))) ∧ w' = w := by
  have HH := Lib.hid h
  obtain ⟨A, c, rfl⟩ := h.shape
  have hcc := h.bounds
  clear h
  go_enter Try.func95, Try.ntmps95
  go_wp2
  go_loop [7] (fun s => ∃ i : Nat, i ≤ LL.length ∧ s = .int .i64 (i : Int) ∧ ∀ M ∈ LL.take i, M.length = colsN LL) (fun s => LL.length - (intOf s).toNat)
  case atStart => exact ⟨0, by omega, rfl, by simp⟩
  case round =>
    obtain ⟨i, hi, rfl, hu⟩ := hrel
    by_cases hx : i < LL.length
    · obtain ⟨L, hL⟩ : ∃ L, LL[i]? = some L := ⟨_, List.getElem?_eq_getElem hx⟩
      obtain ⟨L0, hL0⟩ : ∃ L, LL[0]? = some L := ⟨_, List.getElem?_eq_getElem (by omega)⟩
      have hn : colsN LL = L0.length := by unfold colsN; rw [List.getD_eq_getElem?_getD, hL0]; rfl
      obtain ⟨ad, c', A1, c1, hv, _, _, e1, _⟩ := HH.out.at hL
      obtain ⟨rfl, rfl⟩ : A = some ad ∧ c = c' := by simpa using hv
      obtain ⟨ad', c', A0, c0, hv', _, _, e0, _⟩ := HH.out.at hL0
      obtain rfl : ad = ad' := by
        have h := hv'
        simp at h
        exact h.1
      rw [add0] at e0
      have q1 : (i : Int) < (LL.length : Int) := by omega
      have q2 : (0 : Int) < (LL.length : Int) := by omega
      by_cases he : L.length = L0.length
      · have g : ((L.length : Int) == (L0.length : Int)) = true := by rw [he]; simp
        have HU := Lib.hid (unif_take hL hu (he.trans hn.symm))
        clear hv hv' hu he hn hL hL0
        go_wp2
        exact ⟨⟨i + 1, by omega, by go_num, HU.out⟩, by simp [intOf]; omega⟩
      · have g : ((L.length : Int) == (L0.length : Int)) = false := beq_eq_false_iff_ne.2 (by omega)
        have HU := Lib.hid (show ¬ unif LL from fun h => he ((h L (List.mem_of_getElem? hL)).trans hn))
        clear hv hv' hu he hn hL hL0
        go_wp2
        go_ret
        exact ⟨by rw [formE_no (fun h => HU.out h.1)]; rfl, rfl⟩
    · obtain rfl : i = LL.length := by omega
      rw [List.take_length] at hu
      have HU := Lib.hid (show unif LL from hu)
      clear hu
      by_cases h0 : 0 < LL.length
      · obtain ⟨L0, hL0⟩ : ∃ L, LL[0]? = some L := ⟨_, List.getElem?_eq_getElem (by omega)⟩
        obtain ⟨ad', c', A0, c0, hv', _, _, e0, _⟩ := HH.out.at hL0
        obtain ⟨rfl, rfl⟩ : A = some ad' ∧ c = c' := by simpa using hv'
        rw [add0] at e0
        have q2 : (0 : Int) < (LL.length : Int) := by omega
        have q3 : ¬ (72 : Int) < (LL.length : Int) := by omega
        have q4 : ¬ (72 : Int) < (L0.length : Int) := by have := hC L0 (List.mem_of_getElem? hL0); omega
        clear hv' hL0
        go_wp2
        go_ret
        exact ⟨by rw [formE_ok ⟨HU.out, fun h => by omega⟩]; rfl, rfl⟩
      · have q2 : ¬ (0 : Int) < (LL.length : Int) := by omega
        have q3 : ¬ (72 : Int) < (LL.length : Int) := by omega
        go_wp2
        go_ret
        exact ⟨by rw [formE_ok ⟨HU.out, fun h => by omega⟩]; rfl, rfl⟩
set_option maxRecDepth 100000 in
set_option maxHeartbeats 4000000 in
theorem formed_calls (w : World) (v : Value) (LL : List (List (Bool × List Int × List Int))) (r : Int) (h : FLL w v LL) (hR : LL.length ≤ 72) (hC : ∀ L ∈ LL, L.length ≤ 72) :
    Calls Try.prog 98 #[v, .int .i64 r] w fun e w' => e = .returned (.int .i64 (formE LL r)) ∧ Below w.heap.size w w' := by
  have HH := Lib.hid h
  obtain ⟨A, c, rfl⟩ := h.shape
  have hcc := h.bounds
  clear h
  go_enter Try.func98, Try.ntmps98
  go_wp2
  go_loopw [5] (fun s wr => ∃ i : Nat, i ≤ LL.length ∧ s = .int .i64 (i : Int) ∧ (∀ M ∈ LL.take i, M.length = colsN LL) ∧ Below w.heap.size w wr) (fun s _ => LL.length - (intOf s).toNat)
  case atStart => exact ⟨0, by omega, rfl, by simp, Below.refl _ _⟩
  case round =>
    obtain ⟨i, hi, rfl, hu, hb⟩ := hrel
    have HB := Lib.hid hb
    by_cases hx : i < LL.length
    · obtain ⟨L, hL⟩ : ∃ L, LL[i]? = some L := ⟨_, List.getElem?_eq_getElem hx⟩
      obtain ⟨L0, hL0⟩ : ∃ L, LL[0]? = some L := ⟨_, List.getElem?_eq_getElem (by omega)⟩
      have hn : colsN LL = L0.length := by unfold colsN; rw [List.getD_eq_getElem?_getD, hL0]; rfl
      obtain ⟨ad, c', A1, c1, hv, _, _, e1, _⟩ := HH.out.at hL
      obtain ⟨rfl, rfl⟩ : A = some ad ∧ c = c' := by simpa using hv
      obtain ⟨ad', c', A0, c0, hv', _, _, e0, _⟩ := HH.out.at hL0
      obtain rfl : ad = ad' := by
        have h := hv'
        simp at h
        exact h.1
      rw [add0] at e0
      replace e1 := cell_below hb e1
      replace e0 := cell_below hb e0
      have q1 : (i : Int) < (LL.length : Int) := by omega
      have q2 : (0 : Int) < (LL.length : Int) := by omega
      by_cases he : L.length = L0.length
      · have g : ((L.length : Int) != (L0.length : Int)) = false := by rw [he]; simp
        have HU := Lib.hid (unif_take hL hu (he.trans hn.symm))
        clear hv hv' hu he hn hL hL0 hb
        go_wp2_with fail
        go_quiet (fail)
        go_wp2
        exact ⟨⟨i + 1, by omega, by go_num, HU.out, bl_trans HB.out (bl_drewN _ _)⟩, by simp [intOf]; omega⟩
      · have g : ((L.length : Int) != (L0.length : Int)) = true := bne_iff_ne.2 (by omega)
        have HU := Lib.hid (show ¬ unif LL from fun h => he ((h L (List.mem_of_getElem? hL)).trans hn))
        clear hv hv' hu he hn hL hL0 hb
        go_wp2_with fail
        go_quiet (fail)
        go_wp2
        go_ret
        exact ⟨by rw [formE_no (fun h => HU.out h.1)]; rfl, bl_trans HB.out (bl_drewN _ _)⟩
    · obtain rfl : i = LL.length := by omega
      rw [List.take_length] at hu
      have HU := Lib.hid (show unif LL from hu)
      have HH2 := Lib.hid (HH.out.below hb)
      clear hu hb
      have q3 : ¬ (72 : Int) < (LL.length : Int) := by omega
      by_cases hr0 : 0 ≤ r
      · by_cases hre : r = LL.length
        · have g : (r == (LL.length : Int)) = true := by rw [hre]; simp
          have HP := Lib.hid (show unif LL ∧ (0 ≤ r → r = LL.length) from ⟨HU.out, fun _ => hre⟩)
          clear hre
          by_cases h0 : 0 < LL.length
          · obtain ⟨L0, hL0⟩ : ∃ L, LL[0]? = some L := ⟨_, List.getElem?_eq_getElem (by omega)⟩
            obtain ⟨ad', c', A0, c0, hv', _, _, e0, _⟩ := HH2.out.at hL0
            obtain ⟨rfl, rfl⟩ : A = some ad' ∧ c = c' := by simpa using hv'
            rw [add0] at e0
            have q2 : (0 : Int) < (LL.length : Int) := by omega
            have q4 : ¬ (72 : Int) < (L0.length : Int) := by have := hC L0 (List.mem_of_getElem? hL0); omega
            clear hv' hL0
            go_wp2
            go_ret
            exact ⟨by rw [formE_ok HP.out]; rfl, HB.out⟩
          · have q2 : ¬ (0 : Int) < (LL.length : Int) := by omega
            go_wp2
            go_ret
            exact ⟨by rw [formE_ok HP.out]; rfl, HB.out⟩
        · have g : (r == (LL.length : Int)) = false := beq_eq_false_iff_ne.2 hre
          have HP := Lib.hid (show ¬ (unif LL ∧ (0 ≤ r → r = LL.length)) from fun h => hre (h.2 hr0))
          clear hre
          go_wp2
          go_ret
          exact ⟨by rw [formE_no HP.out]; rfl, HB.out⟩
      · have HP := Lib.hid (show unif LL ∧ (0 ≤ r → r = LL.length) from ⟨HU.out, fun h => absurd h hr0⟩)
        have q5 : ¬ (0 ≤ r) := hr0
        by_cases h0 : 0 < LL.length
        · obtain ⟨L0, hL0⟩ : ∃ L, LL[0]? = some L := ⟨_, List.getElem?_eq_getElem (by omega)⟩
          obtain ⟨ad', c', A0, c0, hv', _, _, e0, _⟩ := HH2.out.at hL0
          obtain ⟨rfl, rfl⟩ : A = some ad' ∧ c = c' := by simpa using hv'
          rw [add0] at e0
          have q2 : (0 : Int) < (LL.length : Int) := by omega
          have q4 : ¬ (72 : Int) < (L0.length : Int) := by have := hC L0 (List.mem_of_getElem? hL0); omega
          clear hv' hL0
          go_wp2
          go_ret
          exact ⟨by rw [formE_ok HP.out]; rfl, HB.out⟩
        · have q2 : ¬ (0 : Int) < (LL.length : Int) := by omega
          go_wp2
          go_ret
          exact ⟨by rw [formE_ok HP.out]; rfl, HB.out⟩
end Go.Proofs.Ytdmgceckmciifaa
