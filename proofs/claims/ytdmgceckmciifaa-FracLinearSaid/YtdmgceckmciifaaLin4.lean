/- Systems of equations: the reference's Rank. -/
import Derived.Test.YtdmgceckmciifaaLin3
import Derived.Test.YtdmgceckmciifaaRank
import Derived.Test.YtdmgceckmciifaaGsz
import Derived.Test.YtdmgceckmciifaaForm
import Derived.Test.YtdmgceckmciifaaLst8
set_option linter.unusedVariables false
set_option linter.unusedSimpArgs false
namespace Go.Proofs.Ytdmgceckmciifaa
open Go.RowKit

theorem OR.mono {w : World} {B B' : Nat} {v : Value} {LL : List (List (Bool × List Int × List Int))} (h : OR w B v LL) (hB : B' ≤ B) : OR w B' v LL := by
  obtain ⟨xs, h1, h2, h3, h4⟩ := h
  refine ⟨xs, ⟨h1.1, ?_⟩, h2, h3, fun i L hL => ?_⟩
  · rcases h1.2 with h | ⟨g', cap, cur, e, hb, k⟩
    · exact .inl h
    · exact .inr ⟨g', cap, cur, e, Nat.le_trans hB hb, k⟩
  · obtain ⟨u, k0, k1⟩ := h4 i L hL
    exact ⟨u, k0, k1.mono hB⟩
set_option maxRecDepth 100000 in
set_option maxHeartbeats 8000000 in
theorem rrank_calls (w : World) (va : Value) (LL : List (List (Bool × List Int × List Int))) (ha : FLL w va LL) (hR : LL.length ≤ 72) (hf : ∀ L ∈ LL, L.length ≤ 72 ∧ FewD 2000 L)
    (hz : unif LL → ∀ col i j, col ≤ colsN LL → i < LL.length → j < colsN LL + 1 + LL.length → Szq 400 ((gj (sysM LL []) LL.length col).M i j)) :
    Calls Try.prog 60 #[va] w fun e w' => e = .returned (.tuple #[.int .i64 (if formE LL (-1) = 0 then ((sysG LL []).st.length : Int) else 0), .int .i64 (formE LL (-1))]) ∧ Below w.heap.size w w' := by
  have HA := Lib.hid ha
  obtain ⟨A, c, rfl⟩ := ha.shape
  have hcc := ha.bounds
  have HZ0 := Lib.hid hz
  clear hz ha
  by_cases hu : formE LL (-1) = 0
  · have hun : unif LL := by
      apply Classical.byContradiction
      intro h
      rw [formE_no (fun k => h k.1)] at hu
      cases hu
    have HF := Lib.hid hu
    have HU := Lib.hid hun
    have HZ := Lib.hid (HZ0.out hun)
    obtain ⟨r, hr⟩ : ∃ r : Int, r = (sysG LL []).st.length := ⟨_, rfl⟩
    rw [if_pos hu, ← hr]
    have HRS := Lib.hid hr
    clear hu hun hr
    by_cases hn0 : LL.length = 0
    · have hnil : LL = [] := List.eq_nil_of_length_eq_zero hn0
      have q0 : ((LL.length : Int) == 0) = true := by rw [hn0]; rfl
      have hr0 : r = 0 := by rw [HRS.out, hnil]; rfl
      subst hr0
      clear hnil hn0
      go_enter Try.func60, Try.ntmps60
      go_wp2_with fail
      refine (formed_calls _ _ LL _ HA.out hR (fun L h => (hf L h).1)).mono ?_
      rintro e w1 ⟨rfl, hb1⟩
      rw [HF.out]
      go_wp2
      go_ret2
      exact ⟨by rw [HF.out]; rfl, hb1⟩
    · have q0 : ((LL.length : Int) == 0) = false := beq_eq_false_iff_ne.2 (by omega)
      obtain ⟨L0, hL0⟩ : ∃ L, LL[0]? = some L := ⟨_, List.getElem?_eq_getElem (by omega)⟩
      obtain ⟨ad0, c', A1, c1, hv, _, _, e0, hc1, hc2, _⟩ := HA.out.at hL0
      obtain ⟨rfl, rfl⟩ : A = some ad0 ∧ c = c' := by simpa using hv
      rw [add0] at e0
      have hn : L0.length = colsN LL := HU.out L0 (List.mem_of_getElem? hL0)
      have hc72 : colsN LL ≤ 72 := by have := (hf L0 (List.mem_of_getElem? hL0)).1; omega
      rw [hn] at e0
      have E0 := Lib.hid e0
      have q1 : (0 : Int) < (LL.length : Int) := by omega
      clear hv hL0 hn e0
      obtain ⟨n, hnn⟩ : ∃ n, n = colsN LL := ⟨_, rfl⟩
      have HC72 := Lib.hid hc72
      have HN := Lib.hid hnn
      have H0 := Lib.hid (show 0 < LL.length by omega)
      have q2 : 0 < LL.length := H0.out
      have q3 : ¬ LL.length = 0 := by omega
      clear hnn
      go_enter Try.func60, Try.ntmps60
      go_wp2_with fail
      refine (formed_calls _ _ LL _ HA.out hR (fun L h => (hf L h).1)).mono ?_
      rintro e w1 ⟨rfl, hb1⟩
      rw [HF.out]
      have e0 := cell_below hb1 E0.out
      rw [← HN.out] at e0
      have HB1 := Lib.hid hb1
      have HA1 := Lib.hid (HA.out.below hb1)
      clear hb1
      go_upto_region 4 with fail
      have mkS : ∀ w', Below w1.heap.size w1 w' → (Below w1.heap.size w1 w' ∧ w'.cell? ad0 = some (.slice A1 n c1)) := fun w' hb => ⟨hb, cell_below hb e0⟩
      have hS0 := mkS w1.drew (bl_drew _)
      have hge0 : w1.heap.size ≤ w1.drew.heap.size := Nat.le_refl _
      go_region_held3 (fun w' => Below w1.heap.size w1 w' ∧ w'.cell? ad0 = some (.slice A1 n c1))
        ((first | exact hS0 | exact mkS _ hB6 | exact mkS _ hBN | exact mkS _ (bl_trans (bl_drew _) (below_alloc0 _ _)) | exact mkS _ (bl_trans hBN (below_alloc0 _ _)) | exact mkS _ (bl_trans hB6 (below_alloc0 _ _)) | exact mkS _ ((hB6.setCell hge5 _).setCell hge5 _) | exact mkS _ ((hB6.setCell hge0 _).setCell hge0 _) | exact mkS _ (bl_trans (And.left (by assumption)) (below_alloc0 _ _))))
        (first
          | (go_at_call 100; (with_reducible refine (table_calls _ _ _ LL [] (HA1.out.below (And.left (by assumption))) (FL.nil _) hR hf ?_).mono ?_); (exact fun d hd => absurd hd (by simp)); (rintro e w5 ⟨v5, rfl, hO5, hbN⟩); (have hBN := bl_trans (And.left (by assumption) : Below w1.heap.size w1 _) hbN); (have hO5' : OR w5 w1.heap.size v5 (tabD LL []) := OR.mono hO5 (Below.size (And.left (by assumption)))); (have hge5 : w1.heap.size ≤ w5.heap.size := hBN.size); (first | (have KX := ((Blk.new w1 100 #[.slice none 0 0, .slice none 0 0]).below (bl_drew _)).below hbN; have kx0 := KX.cell 0; have kx1 := KX.cell 1; have kxf := KX.free) | skip))
          | (go_at_call 99; (with_reducible refine (reduced_or w1 _ _ LL [] HU.out H0.out ?_ ?_ hR HC72.out HN.out HZ.out).mono ?_); (first | exact hO5' | exact hO5'.below (below_alloc0 _ _)); (first | exact hBN | exact bl_trans hBN (below_alloc0 _ _)); (rintro e w6 ⟨gr, cap, As, cs, rfl, _, _, _, _, hRD, hkeep⟩); (have hB6 : Below w1.heap.size w1 w6 := hRD.2.2); (first | (have KY := hkeep _ _ _ KX (by decide); have ky0 := KY.cell 0; have ky1 := KY.cell 1; have kyf := KY.free) | (have KY := hkeep _ _ _ (Blk.new w5 100 #[.slice none 0 0, .slice none 0 0]) (by decide); have ky0 := KY.cell 0; have ky1 := KY.cell 1; have kyf := KY.free) | skip)))
      all_goals
        have HB6 := Lib.hid hB6
        first
          | (have K6 := (KY.set 0 (.slice (some ⟨gr, 0, none⟩) LL.length cap)).set 1 (.slice As (sysG LL []).st.length cs); have k61 := K6.cell 1)
          | (have k61 := (Blk.new w6 100 #[.slice (some ⟨gr, 0, none⟩) LL.length cap, .slice As (sysG LL []).st.length cs]).cell 1)
        go_wp2
        go_ret2
        first
          | exact ⟨by rw [HRS.out, HF.out]; rfl, bl_trans HB1.out (bl_trans HB6.out (below_alloc0 _ _))⟩
          | exact ⟨by rw [HRS.out, HF.out]; rfl, bl_trans HB1.out ((HB6.out.setCell hge5 _).setCell hge5 _)⟩
          | exact ⟨by rw [HRS.out, HF.out]; rfl, bl_trans HB1.out ((HB6.out.setCell (Nat.le_refl _) _).setCell (Nat.le_refl _) _)⟩
  · have h12 : formE LL (-1) = 12 := by unfold formE at hu ⊢; split at hu <;> first | exact absurd rfl hu | (rw [if_neg (by assumption)])
    have HF := Lib.hid h12
    have q9 : ((12 : Int) != 0) = true := rfl
    rw [if_neg hu]
    clear hu h12
    go_enter Try.func60, Try.ntmps60
    go_wp2_with fail
    refine (formed_calls _ _ LL _ HA.out hR (fun L h => (hf L h).1)).mono ?_
    rintro e w1 ⟨rfl, hb1⟩
    rw [HF.out]
    go_wp2
    go_ret2
    exact ⟨by rw [HF.out]; rfl, hb1⟩

def wdL (LL : List (List (Bool × List Int × List Int))) : Prop := ∀ L ∈ LL, ∀ d ∈ L, Wd d.2.1 ∧ Wd d.2.2
theorem FLL.wd {w : World} {v : Value} {LL : List (List (Bool × List Int × List Int))} (h : FLL w v LL) : wdL LL := by
  intro L hL
  obtain ⟨i, hi, rfl⟩ := List.mem_iff_getElem.1 hL
  obtain ⟨_, _, _, _, _, _, _, _, _, _, hfl⟩ := h.at (List.getElem?_eq_getElem hi)
  exact hfl.wd
theorem sysM_at {LL : List (List (Bool × List Int × List Int))} {Rl : List (Bool × List Int × List Int)} {i : Nat} (hi : i < LL.length) (j : Nat) : sysM LL Rl i j = (tabq LL Rl i).getD j 0 := by
  have e : (tabL LL Rl).getD i [] = tabq LL Rl i := by rw [List.getD_eq_getElem?_getD, tabL_at hi]; rfl
  show ((tabL LL Rl).getD i []).getD j 0 = _
  rw [e]
theorem sysM_row_at {LL : List (List (Bool × List Int × List Int))} {Rl : List (Bool × List Int × List Int)} {i j : Nat} {L : List (Bool × List Int × List Int)} (h : LL[i]? = some L) (hj : j < L.length) : sysM LL Rl i j = fqd (L.getD j (false, [], [])) := by
  have hi := (List.getElem?_eq_some_iff.1 h).1
  rw [sysM_at hi]
  unfold tabq
  have e : LL.getD i [] = L := by rw [List.getD_eq_getElem?_getD, h]; rfl
  rw [e, List.getD_eq_getElem?_getD, List.getElem?_append_left (by simpa using hj), List.getElem?_map, List.getElem?_eq_getElem hj, List.getD_eq_getElem?_getD, List.getElem?_eq_getElem hj]
  rfl
theorem sysM_rhs {LL : List (List (Bool × List Int × List Int))} {Rl : List (Bool × List Int × List Int)} {i : Nat} {L : List (Bool × List Int × List Int)} (h : LL[i]? = some L) : sysM LL Rl i L.length = rhsq Rl i := by
  have hi := (List.getElem?_eq_some_iff.1 h).1
  rw [sysM_at hi]
  unfold tabq
  have e : LL.getD i [] = L := by rw [List.getD_eq_getElem?_getD, h]; rfl
  rw [e, List.getD_eq_getElem?_getD, List.getElem?_append_right (by simp)]
  simp
theorem sysM_unit {LL : List (List (Bool × List Int × List Int))} {Rl : List (Bool × List Int × List Int)} {i l : Nat} {L : List (Bool × List Int × List Int)} (h : LL[i]? = some L) (hl : l < LL.length) : sysM LL Rl i (L.length + 1 + l) = if l = i then 1 else 0 := by
  have hi := (List.getElem?_eq_some_iff.1 h).1
  rw [sysM_at hi]
  unfold tabq
  have e : LL.getD i [] = L := by rw [List.getD_eq_getElem?_getD, h]; rfl
  rw [e, List.getD_eq_getElem?_getD, List.getElem?_append_right (by simp; omega)]
  have e2 : L.length + 1 + l - (L.map fqd).length = l + 1 := by simp; omega
  rw [e2, List.getElem?_cons_succ, List.getElem?_map, List.getElem?_range hl]
  rfl
theorem colsN_le {LL : List (List (Bool × List Int × List Int))} {m : Nat} (h : ∀ L ∈ LL, L.length ≤ m) : colsN LL ≤ m := by
  unfold colsN
  cases LL with
  | nil => simp
  | cons L M => exact h L (by simp)
theorem fqd_szq {d : Bool × List Int × List Int} (hw : Wd d.2.1 ∧ Wd d.2.2) (h : d.2.1.length ≤ 3 ∧ d.2.2.length ≤ 3) : Szq 3 (fqd d) := szq_fix hw.1 hw.2 h.1 h.2 (by omega)
theorem row_get {LL : List (List (Bool × List Int × List Int))} {i : Nat} (hi : i < LL.length) : LL[i]? = some (LL[i]) := List.getElem?_eq_getElem hi
theorem getD_mem {L : List (Bool × List Int × List Int)} {j : Nat} (h : j < L.length) : L.getD j (false, [], []) ∈ L := by
  rw [List.getD_eq_getElem?_getD, List.getElem?_eq_getElem h]
  exact List.getElem_mem h
theorem rhs_szq {Rl : List (Bool × List Int × List Int)} (hw : ∀ d ∈ Rl, Wd d.2.1 ∧ Wd d.2.2) (h : FewD 3 Rl) (i : Nat) : Szq 3 (rhsq Rl i) := by
  unfold rhsq
  rcases e : Rl[i]? with _ | d
  · exact szq_zero _ (by omega)
  · exact fqd_szq (hw d (List.mem_of_getElem? e)) (h d (List.mem_of_getElem? e))
theorem sys_szq {LL : List (List (Bool × List Int × List Int))} {Rl : List (Bool × List Int × List Int)} (hs : sysOK LL Rl) (hw : wdL LL) (hwr : ∀ d ∈ Rl, Wd d.2.1 ∧ Wd d.2.2) (hu : unif LL) :
    ∀ col i j, col ≤ colsN LL → i < LL.length → j < colsN LL + 1 + LL.length → Szq 214 ((gj (sysM LL Rl) LL.length col).M i j) := by
  refine gj_szq (m := colsN LL + 1) hs.1 (by have := colsN_le (m := 7) (fun L hL => (hs.2.2.2 L hL).1); omega) (by omega) (fun i j hi hj => ?_) (fun i j hi h1 h2 => ?_)
  · have hl : (LL[i]).length = colsN LL := hu _ (List.getElem_mem hi)
    rcases Nat.lt_or_ge j (colsN LL) with h | h
    · rw [sysM_row_at (row_get hi) (by omega)]
      have hm := getD_mem (L := LL[i]) (j := j) (by omega)
      exact fqd_szq (hw _ (List.getElem_mem hi) _ hm) ((hs.2.2.2 _ (List.getElem_mem hi)).2 _ hm)
    · obtain rfl : j = (LL[i]).length := by omega
      rw [sysM_rhs (row_get hi)]
      exact rhs_szq hwr hs.2.2.1 i
  · have hl : (LL[i]).length = colsN LL := hu _ (List.getElem_mem hi)
    obtain ⟨l, rfl⟩ : ∃ l, j = (LL[i]).length + 1 + l := ⟨j - ((LL[i]).length + 1), by omega⟩
    rw [sysM_unit (row_get hi) (by omega)]
    split
    · exact .inr rfl
    · exact .inl rfl
theorem rat_at {LL : List (List (Bool × List Int × List Int))} {i j : Nat} {L : List (Bool × List Int × List Int)} (h : LL[i]? = some L) (hj : j < L.length) : matL (ratL LL) i j = fqd (L.getD j (false, [], [])) := by
  unfold matL ratL
  rw [List.getD_eq_getElem?_getD (l := LL.map _), List.getElem?_map, h]
  show (L.map fqd).getD j 0 = _
  rw [List.getD_eq_getElem?_getD, List.getElem?_map, List.getElem?_eq_getElem hj, List.getD_eq_getElem?_getD, List.getElem?_eq_getElem hj]
  rfl
theorem rank_szq {LL : List (List (Bool × List Int × List Int))} (h7 : LL.length ≤ 7) (hs : ∀ L ∈ LL, L.length ≤ 7 ∧ FewD 3 L) (hw : wdL LL) (hu : unif LL) :
    ∀ col i j, col ≤ colsN LL → i < LL.length → j < colsN LL → Szq 214 ((gj (matL (ratL LL)) LL.length col).M i j) := by
  refine gj_szq (m := colsN LL) h7 (by have := colsN_le (m := 7) (fun L hL => (hs L hL).1); omega) (by omega) (fun i j hi hj => ?_) (fun i j hi h1 h2 => by omega)
  have hl : (LL[i]).length = colsN LL := hu _ (List.getElem_mem hi)
  rw [rat_at (row_get hi) (by omega)]
  have hm := getD_mem (L := LL[i]) (j := j) (by omega)
  exact fqd_szq (hw _ (List.getElem_mem hi) _ hm) ((hs _ (List.getElem_mem hi)).2 _ hm)
/-- The rank of the rows alone is that of the rows with whatever behind them. -/
theorem rank_eq {LL : List (List (Bool × List Int × List Int))} (Rl : List (Bool × List Int × List Int)) (hu : unif LL) : (gj (matL (ratL LL)) LL.length (colsN LL)).st = (sysG LL Rl).st := by
  refine (gj_prefix (C := colsN LL) (fun i j hi hj => ?_) (colsN LL) (Nat.le_refl _)).1
  have hl : (LL[i]).length = colsN LL := hu _ (List.getElem_mem hi)
  rw [rat_at (row_get hi) (by omega), sysM_row_at (row_get hi) (by omega)]
theorem psum_dots (L X : List (Bool × List Int × List Int)) : ∀ k, k ≤ L.length → k ≤ X.length → psum (dots L X) k = sumN k (fun j => fqd (L.getD j (false, [], [])) * fqd (X.getD j (false, [], []))) := by
  intro k
  induction k with
  | zero => intro _ _; rfl
  | succ k ih =>
    intro h1 h2
    have e := dots_at (L := L) (M := X) (k := k) (List.getElem?_eq_getElem (by omega)) (List.getElem?_eq_getElem (by omega))
    rw [psum_succ e, ih (by omega) (by omega)]
    show _ = sumN k _ + fqd (L.getD k (false, [], [])) * fqd (X.getD k (false, [], []))
    have e1 : L.getD k (false, [], []) = L[k] := by rw [List.getD_eq_getElem?_getD, List.getElem?_eq_getElem (by omega)]; rfl
    have e2 : X.getD k (false, [], []) = X[k] := by rw [List.getD_eq_getElem?_getD, List.getElem?_eq_getElem (by omega)]; rfl
    rw [e1, e2]
theorem solves_sol {LL : List (List (Bool × List Int × List Int))} {Rl X : List (Bool × List Int × List Int)} (hu : unif LL) (hlr : LL.length = Rl.length) (hX : 0 < LL.length → X.length = colsN LL) : solvesP LL Rl X ↔ Sol LL.length (colsN LL) (sysM LL Rl) (fun j => fqd (X.getD j (false, [], []))) := by
  have key : ∀ (i : Nat) (L : List (Bool × List Int × List Int)) (d : Bool × List Int × List Int), LL[i]? = some L → Rl[i]? = some d → (psum (dots L X) L.length = fqd d ↔ sumN (colsN LL) (fun j => sysM LL Rl i j * fqd (X.getD j (false, [], []))) = sysM LL Rl i (colsN LL)) := by
    intro i L d h1 h2
    have hl : L.length = colsN LL := hu L (List.mem_of_getElem? h1)
    have hi := (List.getElem?_eq_some_iff.1 h1).1
    have hx := hX (by omega)
    rw [psum_dots L X L.length (Nat.le_refl _) (by omega), ← hl, sysM_rhs h1]
    have e : rhsq Rl i = fqd d := by unfold rhsq; rw [h2]
    rw [e, sumN_congr (fun j hj => by rw [← sysM_row_at (Rl := Rl) h1 hj])]
  constructor
  · intro h i hi
    have hr := List.getElem?_eq_getElem (l := Rl) (i := i) (by omega)
    exact (key i _ _ (row_get hi) hr).1 (h i _ _ (row_get hi) hr)
  · intro h i L d h1 h2
    exact (key i L d h1 h2).2 (h i (List.getElem?_eq_some_iff.1 h1).1)
theorem colL_getD {LL : List (List (Bool × List Int × List Int))} {k l : Nat} (hl : l < LL.length) : (colL LL k).getD l (false, [], []) = (LL[l]).getD k (false, [], []) := by
  unfold colL
  rw [List.getD_eq_getElem?_getD, List.getElem?_map, List.getElem?_eq_getElem hl]
  rfl
theorem proves_sum {LL : List (List (Bool × List Int × List Int))} {Rl Y : List (Bool × List Int × List Int)} (hu : unif LL) (hlr : LL.length = Rl.length) : provesP LL Rl Y ↔ Y.length = LL.length ∧ 0 < LL.length ∧ (∀ j, j < colsN LL → sumN LL.length (fun l => fqd (Y.getD l (false, [], [])) * sysM LL Rl l j) = 0) ∧ sumN LL.length (fun l => fqd (Y.getD l (false, [], [])) * sysM LL Rl l (colsN LL)) ≠ 0 := by
  unfold provesP
  by_cases hy : Y.length = LL.length
  · have k1 : ∀ j, j < colsN LL → psum (dots Y (colL LL j)) LL.length = sumN LL.length (fun l => fqd (Y.getD l (false, [], [])) * sysM LL Rl l j) := by
      intro j hj
      rw [psum_dots Y (colL LL j) LL.length (by omega) (by rw [colL_len]; exact Nat.le_refl _)]
      refine sumN_congr (fun l hl => ?_)
      have hll : (LL[l]).length = colsN LL := hu _ (List.getElem_mem hl)
      rw [colL_getD hl, sysM_row_at (row_get hl) (by omega)]
    have k2 : psum (dots Y Rl) LL.length = sumN LL.length (fun l => fqd (Y.getD l (false, [], [])) * sysM LL Rl l (colsN LL)) := by
      rw [psum_dots Y Rl LL.length (by omega) (by omega)]
      refine sumN_congr (fun l hl => ?_)
      have hll : (LL[l]).length = colsN LL := hu _ (List.getElem_mem hl)
      have e := sysM_rhs (Rl := Rl) (row_get hl)
      rw [hll] at e
      rw [e]
      have e2 : rhsq Rl l = fqd (Rl.getD l (false, [], [])) := by
        unfold rhsq
        rw [List.getD_eq_getElem?_getD, List.getElem?_eq_getElem (by omega)]
        rfl
      rw [e2]
    rw [k2]
    constructor
    · rintro ⟨h1, h2, h3, h4⟩
      exact ⟨h1, h2, fun j hj => by rw [← k1 j hj]; exact h3 j hj, h4⟩
    · rintro ⟨h1, h2, h3, h4⟩
      exact ⟨h1, h2, fun j hj => by rw [k1 j hj]; exact h3 j hj, h4⟩
  · exact ⟨fun h => absurd h.1 hy, fun h => absurd h.1 hy⟩
/-- The list that is told. -/
def xL (LL : List (List (Bool × List Int × List Int))) (Rl : List (Bool × List Int × List Int)) : List (Bool × List Int × List Int) := (List.range (colsN LL)).map (fun j => dq (xs (sysG LL Rl) (colsN LL) (sysG LL Rl).st.length j))
def yL (LL : List (List (Bool × List Int × List Int))) (Rl : List (Bool × List Int × List Int)) (i : Nat) : List (Bool × List Int × List Int) := (List.range LL.length).map (fun l => dq ((sysG LL Rl).M i (colsN LL + 1 + l)))
theorem range_getD {n j : Nat} (f : Nat → Bool × List Int × List Int) (h : j < n) : ((List.range n).map f).getD j (false, [], []) = f j := by
  rw [List.getD_eq_getElem?_getD, List.getElem?_map, List.getElem?_range h]; rfl
theorem Sol.congr {R n : Nat} {A : Nat → Nat → Rat} {x y : Nat → Rat} (h : Sol R n A x) (e : ∀ j, j < n → x j = y j) : Sol R n A y := by
  intro i hi
  rw [← h i hi]
  exact sumN_congr (fun j hj => by rw [e j hj])
theorem xL_solves {LL : List (List (Bool × List Int × List Int))} {Rl : List (Bool × List Int × List Int)} (hu : unif LL) (hlr : LL.length = Rl.length) (h : gjok (sysG LL Rl) LL.length (colsN LL)) : solvesP LL Rl (xL LL Rl) := by
  rw [solves_sol hu hlr (fun _ => by simp [xL])]
  refine Sol.congr (gj_solves (C := colsN LL) (Nat.le_refl _) h) (fun j hj => ?_)
  unfold xL
  rw [range_getD _ hj, fqd_dq]
  rfl
theorem yL_proves {LL : List (List (Bool × List Int × List Int))} {Rl : List (Bool × List Int × List Int)} (hu : unif LL) (hlr : LL.length = Rl.length) {i : Nat} (h1 : (sysG LL Rl).st.length ≤ i) (h2 : i < LL.length) (hne : (sysG LL Rl).M i (colsN LL) ≠ 0) : provesP LL Rl (yL LL Rl i) := by
  rw [proves_sum hu hlr]
  obtain ⟨k1, k2⟩ := gj_none (A := sysM LL Rl) (R := LL.length) (C := colsN LL) (n := colsN LL) (i := i) (Nat.le_refl _) (fun i l hi hl => by
    have hll : (LL[i]).length = colsN LL := hu _ (List.getElem_mem hi)
    have e := sysM_unit (Rl := Rl) (row_get hi) hl
    rw [hll] at e
    exact e) h1 h2 hne
  have e : ∀ l, l < LL.length → fqd ((yL LL Rl i).getD l (false, [], [])) = (gj (sysM LL Rl) LL.length (colsN LL)).M i (colsN LL + 1 + l) := fun l hl => by
    unfold yL
    rw [range_getD _ hl, fqd_dq]
    rfl
  refine ⟨by simp [yL], by omega, fun j hj => ?_, ?_⟩
  · rw [← k1 j hj]
    exact sumN_congr (fun l hl => by rw [e l hl])
  · rw [sumN_congr (fun l hl => by rw [e l hl])]
    exact k2
theorem solves_ok {LL : List (List (Bool × List Int × List Int))} {Rl Z : List (Bool × List Int × List Int)} (hu : unif LL) (hlr : LL.length = Rl.length) (hZ : 0 < LL.length → Z.length = colsN LL) (h : solvesP LL Rl Z) : gjok (sysG LL Rl) LL.length (colsN LL) :=
  gj_yes (C := colsN LL) (Nat.le_refl _) ((solves_sol hu hlr hZ).1 h)
theorem proves_not {LL : List (List (Bool × List Int × List Int))} {Rl Z : List (Bool × List Int × List Int)} (hu : unif LL) (hlr : LL.length = Rl.length) (h : provesP LL Rl Z) : ¬ gjok (sysG LL Rl) LL.length (colsN LL) := by
  intro hok
  obtain ⟨_, _, k1, k2⟩ := (proves_sum hu hlr).1 h
  exact k2 (gj_no (gj_solves (C := colsN LL) (Nat.le_refl _) hok) k1)
theorem dq_few {q : Rat} {k : Nat} (h : Szq k q) : (dq q).2.1.length ≤ k ∧ (dq q).2.2.length ≤ k := h
theorem xs_szq {S : GS} {n R k : Nat} (hk : 1 ≤ k) (h : ∀ i, i < R → Szq k (S.M i n)) : ∀ m, m ≤ R → ∀ j, Szq k (xs S n m j) := by
  intro m
  induction m with
  | zero => intro _ j; exact szq_zero _ hk
  | succ m ih =>
    intro hm j
    show Szq k (if j = S.st.getD m 0 then S.M m n else xs S n m j)
    split
    · exact h m (by omega)
    · exact ih (by omega) j
theorem xL_few {LL : List (List (Bool × List Int × List Int))} {Rl : List (Bool × List Int × List Int)} (hz : ∀ col i j, col ≤ colsN LL → i < LL.length → j < colsN LL + 1 + LL.length → Szq 214 ((gj (sysM LL Rl) LL.length col).M i j)) : FewD 214 (xL LL Rl) := by
  intro d hd
  obtain ⟨j, hj, rfl⟩ := List.mem_map.1 hd
  have hst : (sysG LL Rl).st.length ≤ LL.length := (gj_ok (sysM LL Rl) LL.length (colsN LL) (colsN LL) (Nat.le_refl _)).len
  exact dq_few (xs_szq (R := LL.length) (by omega) (fun i hi => hz (colsN LL) i (colsN LL) (Nat.le_refl _) hi (by omega)) _ hst j)
theorem yL_few {LL : List (List (Bool × List Int × List Int))} {Rl : List (Bool × List Int × List Int)} (hz : ∀ col i j, col ≤ colsN LL → i < LL.length → j < colsN LL + 1 + LL.length → Szq 214 ((gj (sysM LL Rl) LL.length col).M i j)) {i : Nat} (hi : i < LL.length) : FewD 214 (yL LL Rl i) := by
  intro d hd
  obtain ⟨l, hl, rfl⟩ := List.mem_map.1 hd
  exact dq_few (hz (colsN LL) i (colsN LL + 1 + l) (Nat.le_refl _) hi (by have h9 : l < LL.length := (by simpa using hl); omega))

theorem xL_eq (LL : List (List (Bool × List Int × List Int))) (Rl : List (Bool × List Int × List Int)) : (List.range (colsN LL)).map (fun j => dq (xs (sysG LL Rl) (colsN LL) (sysG LL Rl).st.length j)) = xL LL Rl := rfl
theorem yL_eq (LL : List (List (Bool × List Int × List Int))) (Rl : List (Bool × List Int × List Int)) (i : Nat) : (List.range LL.length).map (fun l => dq ((sysG LL Rl).M i (colsN LL + 1 + l))) = yL LL Rl i := rfl
theorem sysOK.rows {LL : List (List (Bool × List Int × List Int))} {Rl : List (Bool × List Int × List Int)} (h : sysOK LL Rl) : ∀ L ∈ LL, L.length ≤ 72 ∧ FewD 2000 L := fun L hL => ⟨by have := (h.2.2.2 L hL).1; omega, (h.2.2.2 L hL).2.mono (by omega)⟩
set_option maxRecDepth 100000 in
set_option maxHeartbeats 16000000 in
theorem law_both (w : World) (va vb vz : Value) (LL : List (List (Bool × List Int × List Int))) (Rl Z : List (Bool × List Int × List Int)) (ha : FLL w va LL) (hb : FL w vb Rl) (hz : FL w vz Z) :
    Calls Try.prog 10 #[va, vb, vz] w fun e w' => e = .returned (.bool true) ∧ Below w.heap.size w w' := by
  have HA := Lib.hid ha
  have HB := Lib.hid hb
  have HZ := Lib.hid hz
  obtain ⟨A, c, rfl⟩ := ha.shape
  obtain ⟨Ab, cb, rfl⟩ := hb.shape
  obtain ⟨Az, cz, rfl⟩ := hz.shape
  have hZb : Z.length ≤ 9223372036854775807 := by obtain ⟨_, _, _, k1, k2, _⟩ := hz; omega
  clear ha hb hz
  go_enter Try.func10, Try.ntmps10
  go_wp2_with fail
  refine (system_calls _ _ _ LL Rl HA.out HB.out).mono ?_
  rintro e w1 ⟨rfl, hb1⟩
  by_cases hs : sysOK LL Rl
  · rw [decide_eq_true hs]
    have HS := Lib.hid hs
    have HB1 := Lib.hid hb1
    clear hs hb1
    by_cases hz7 : Z.length ≤ 7
    · have g1 : decide ((7 : Int) < (Z.length : Int)) = false := decide_eq_false (by omega)
      have g2 : ¬ 7 < Z.length := by omega
      go_wp2_with fail
      refine (few6_fl _ _ Z (HZ.out.below HB1.out)).mono ?_
      rintro e w2 ⟨rfl, hb2⟩
      by_cases hf : FewD 6 Z
      · rw [decide_eq_true hf]
        have HFZ := Lib.hid (FewD.mono hf (show 6 ≤ 214 by omega))
        have HB2 := Lib.hid (bl_trans HB1.out hb2)
        have hR7 : LL.length ≤ 7 := HS.out.1
        have hr7 : Rl.length ≤ 7 := HS.out.2.1
        clear hf hb2 HB1
        go_wp2_with fail
        refine (copyrows_calls _ _ LL (HA.out.below HB2.out) (by omega) (fun L hL => ⟨by have := (HS.out.2.2.2 L hL).1; omega, (HS.out.2.2.2 L hL).2.mono (by omega)⟩)).mono ?_
        rintro e w3 ⟨v3, rfl, hO3, hb3⟩
        have HO3 := Lib.hid hO3.fll
        have HB3 := Lib.hid (bl_trans HB2.out hb3)
        clear hO3 hb3 HB2
        go_wp2_with fail
        refine (copyfracs_of _ _ Rl (HB.out.below HB3.out) (by omega) (HS.out.2.2.1.mono (by omega))).mono ?_
        rintro e w4 ⟨v4, rfl, hO4, hb4⟩
        have HO4 := Lib.hid hO4.fl
        have HO34 := Lib.hid (HO3.out.below hb4)
        have HB4 := Lib.hid (bl_trans HB3.out hb4)
        have HWL := Lib.hid HA.out.wd
        have HWR := Lib.hid HB.out.wd
        have HSQ := Lib.hid (fun hu => sys_szq HS.out HWL.out HWR.out hu)
        clear hO4 hb4 HB3 HO3
        go_wp2_with fail
        refine (linear_calls _ _ _ LL Rl HO34.out HO4.out (by omega) (by omega) HS.out.rows (HS.out.2.2.1.mono (by omega)) (fun hu col i j h1 h2 h3 => (HSQ.out hu col i j h1 h2 h3).mono (by omega))).mono ?_
        rintro e w5 ⟨hb5, ⟨hno, rfl⟩ | ⟨hu, hlr, hok, g, rfl, hg, hF⟩ | ⟨hu, hlr, i, hi1, hi2, hne, v, rfl, hO⟩⟩
        · have HB5 := Lib.hid (bl_trans HB4.out hb5)
          have q9 : ((12 : Int) != 0) = true := rfl
          clear hb5 hno
          go_wp2_with fail
          refine (half_calls _).mono ?_
          rintro e w6 ⟨rfl, hb6⟩
          go_wp2
          go_ret
          exact ⟨rfl, bl_trans HB5.out hb6⟩
        · have HB5 := Lib.hid (bl_trans HB4.out hb5)
          have hX := hF.fl
          rw [xL_eq] at hX
          have HX := Lib.hid hX
          have HU := Lib.hid hu
          have HLR := Lib.hid hlr
          have HOK := Lib.hid hok
          obtain ⟨n, hn⟩ : ∃ n, n = colsN LL := ⟨_, rfl⟩
          rw [← hn] at hX ⊢
          have HX' := Lib.hid hX
          have HN := Lib.hid hn
          clear hb5 hF hu hlr hok hX hn HO34 HO4 hg HX
          go_upto_region 8 with fail
          go_cut [63] (fun v63 wx => v63 = .bool false ∧ Below w.heap.size w wx ∧ FL wx (.slice (some ⟨g, 0, none⟩) n n) (xL LL Rl))
          case first =>
            by_cases hR0 : LL.length = 0
            · have q0 : decide ((0 : Int) < (LL.length : Int)) = false := decide_eq_false (by omega)
              have q1 : ¬ 0 < LL.length := by omega
              clear hR0
              go_wp2
              all_goals go_meet
              case rel => exact ⟨rfl, HB5.out, HX'.out⟩
            · have q0 : decide ((0 : Int) < (LL.length : Int)) = true := decide_eq_true (by omega)
              have q1 : 0 < LL.length := by omega
              have q2 : (0 : Int) < (LL.length : Int) := by omega
              obtain ⟨L0, hL0⟩ : ∃ L, LL[0]? = some L := ⟨_, List.getElem?_eq_getElem (by omega)⟩
              obtain ⟨ad0, c', A1, c1, hv, _, _, e0, _, _, _⟩ := HA.out.at hL0
              obtain ⟨rfl, rfl⟩ : A = some ad0 ∧ c = c' := by simpa using hv
              rw [add0] at e0
              have hn0 : L0.length = n := by have := HU.out L0 (List.mem_of_getElem? hL0); have := HN.out; omega
              rw [hn0] at e0
              replace e0 := cell_below HB5.out e0
              have hn7 : n ≤ 7 := by have := (HS.out.2.2.2 L0 (List.mem_of_getElem? hL0)).1; omega
              clear hv hL0 hn0 hR0
              by_cases hzl : n = Z.length
              · have g3 : ((n : Int) == (Z.length : Int)) = true := by rw [hzl]; simp
                have HZL := Lib.hid (show Z.length = colsN LL by have := HN.out; omega)
                clear hzl
                go_wp2_with fail
                refine (solves_calls _ _ _ _ LL Rl Z (HA.out.below HB5.out) (HB.out.below HB5.out) (HZ.out.below HB5.out) HS.out HU.out HLR.out (fun _ => HZL.out) HFZ.out).mono ?_
                rintro e w6 ⟨b, rfl, hbS, hb6⟩
                have HB6 := Lib.hid (bl_trans HB5.out hb6)
                have HX6 := Lib.hid (HX'.out.below hb6)
                clear hbS hb6
                cases b
                all_goals go_wp2
                all_goals go_meet
                all_goals exact ⟨rfl, HB6.out, HX6.out⟩
              · have g3 : ((n : Int) == (Z.length : Int)) = false := beq_eq_false_iff_ne.2 (by omega)
                clear hzl
                go_wp2
                all_goals go_meet
                case rel => exact ⟨rfl, HB5.out, HX'.out⟩
          case rest =>
            obtain ⟨rfl, hbc, hxc⟩ := hcut
            have HBC := Lib.hid hbc
            have HXC := Lib.hid hxc
            clear hxc
            clear hbc
            go_wp2_with fail
            refine (proves_calls _ _ _ _ LL Rl Z (HA.out.below HBC.out) (HB.out.below HBC.out) (HZ.out.below HBC.out) HS.out HU.out HLR.out HFZ.out).mono ?_
            rintro e w7 ⟨b, rfl, hbP, hb7⟩
            have hbf : b = false := by
              cases b
              · rfl
              · exact absurd HOK.out (proves_not HU.out HLR.out (hbP.1 rfl))
            subst hbf
            have HB7 := Lib.hid (bl_trans HBC.out hb7)
            have HX7 := Lib.hid (HXC.out.below hb7)
            clear hbP hb7
            go_wp2_with fail
            refine (half_calls _).mono ?_
            rintro e w8 ⟨rfl, hb8⟩
            have HB8 := Lib.hid (bl_trans HB7.out hb8)
            have HX8 := Lib.hid (HX7.out.below hb8)
            clear hb8
            go_wp2_with fail
            refine (solves_calls _ _ _ _ LL Rl (xL LL Rl) (HA.out.below HB8.out) (HB.out.below HB8.out) HX8.out HS.out HU.out HLR.out (fun _ => by simp [xL]) (xL_few (HSQ.out HU.out))).mono ?_
            rintro e w9 ⟨b, rfl, hbS, hb9⟩
            have hbt : b = true := hbS.2 (xL_solves HU.out HLR.out HOK.out)
            subst hbt
            have HB9 := Lib.hid (bl_trans HB8.out hb9)
            clear hbS hb9
            go_wp2
            go_ret
            exact ⟨rfl, HB9.out⟩
        · have HB5 := Lib.hid (bl_trans HB4.out hb5)
          have hY := hO.fl
          rw [yL_eq] at hY
          have HY := Lib.hid hY
          have HU := Lib.hid hu
          have HLR := Lib.hid hlr
          have hnok : ¬ gjok (sysG LL Rl) LL.length (colsN LL) := fun h => hne (h i hi1 hi2)
          have HOK := Lib.hid hnok
          have HP := Lib.hid (yL_proves hu hlr hi1 hi2 hne)
          obtain ⟨n, hn⟩ : ∃ n, n = colsN LL := ⟨_, rfl⟩
          have HN := Lib.hid hn
          clear hb5 hO hu hlr hnok hY hn HO34 HO4 hi1 hne
          go_upto_region 8 with fail
          go_cut [63] (fun v63 wx => v63 = .bool false ∧ Below w.heap.size w wx ∧ FL wx v (yL LL Rl i))
          case first =>
            by_cases hR0 : LL.length = 0
            · have q0 : decide ((0 : Int) < (LL.length : Int)) = false := decide_eq_false (by omega)
              have q1 : ¬ 0 < LL.length := by omega
              clear hR0
              go_wp2
              all_goals go_meet
              case rel => exact ⟨rfl, HB5.out, HY.out⟩
            · have q0 : decide ((0 : Int) < (LL.length : Int)) = true := decide_eq_true (by omega)
              have q1 : 0 < LL.length := by omega
              have q2 : (0 : Int) < (LL.length : Int) := by omega
              obtain ⟨L0, hL0⟩ : ∃ L, LL[0]? = some L := ⟨_, List.getElem?_eq_getElem (by omega)⟩
              obtain ⟨ad0, c', A1, c1, hv, _, _, e0, _, _, _⟩ := HA.out.at hL0
              obtain ⟨rfl, rfl⟩ : A = some ad0 ∧ c = c' := by simpa using hv
              rw [add0] at e0
              have hn0 : L0.length = n := by have := HU.out L0 (List.mem_of_getElem? hL0); have := HN.out; omega
              rw [hn0] at e0
              replace e0 := cell_below HB5.out e0
              have hn7 : n ≤ 7 := by have := (HS.out.2.2.2 L0 (List.mem_of_getElem? hL0)).1; omega
              clear hv hL0 hn0 hR0
              by_cases hzl : n = Z.length
              · have g3 : ((n : Int) == (Z.length : Int)) = true := by rw [hzl]; simp
                have HZL := Lib.hid (show Z.length = colsN LL by have := HN.out; omega)
                clear hzl
                go_wp2_with fail
                refine (solves_calls _ _ _ _ LL Rl Z (HA.out.below HB5.out) (HB.out.below HB5.out) (HZ.out.below HB5.out) HS.out HU.out HLR.out (fun _ => HZL.out) HFZ.out).mono ?_
                rintro e w6 ⟨b, rfl, hbS, hb6⟩
                have hbf : b = false := by
                  cases b
                  · rfl
                  · exact absurd (solves_ok HU.out HLR.out (fun _ => HZL.out) (hbS.1 rfl)) HOK.out
                subst hbf
                have HB6 := Lib.hid (bl_trans HB5.out hb6)
                have HY6 := Lib.hid (HY.out.below hb6)
                clear hbS hb6
                go_wp2
                all_goals go_meet
                case rel => exact ⟨rfl, HB6.out, HY6.out⟩
              · have g3 : ((n : Int) == (Z.length : Int)) = false := beq_eq_false_iff_ne.2 (by omega)
                clear hzl
                go_wp2
                all_goals go_meet
                case rel => exact ⟨rfl, HB5.out, HY.out⟩
          case rest =>
            obtain ⟨rfl, hbc, hyc⟩ := hcut
            have HBC := Lib.hid hbc
            have HYC := Lib.hid hyc
            clear hbc hyc
            go_wp2_with fail
            refine (proves_calls _ _ _ _ LL Rl Z (HA.out.below HBC.out) (HB.out.below HBC.out) (HZ.out.below HBC.out) HS.out HU.out HLR.out HFZ.out).mono ?_
            rintro e w7 ⟨b, rfl, hbP, hb7⟩
            have HB7 := Lib.hid (bl_trans HBC.out hb7)
            have HY7 := Lib.hid (HYC.out.below hb7)
            clear hbP hb7
            cases b
            all_goals
              go_wp2_with fail
              refine (half_calls _).mono ?_
              rintro e w8 ⟨rfl, hb8⟩
              have HB8 := Lib.hid (bl_trans HB7.out hb8)
              have HY8 := Lib.hid (HY7.out.below hb8)
              clear hb8
              go_wp2_with fail
              refine (proves_calls _ _ _ _ LL Rl (yL LL Rl i) (HA.out.below HB8.out) (HB.out.below HB8.out) HY8.out HS.out HU.out HLR.out (yL_few (HSQ.out HU.out) hi2)).mono ?_
              rintro e w9 ⟨b, rfl, hbS, hb9⟩
              have hbt : b = true := hbS.2 HP.out
              subst hbt
              have HB9 := Lib.hid (bl_trans HB8.out hb9)
              clear hbS hb9
              go_wp2
              go_ret
              exact ⟨rfl, HB9.out⟩
      · rw [decide_eq_false hf]
        clear hf
        go_wp2
        go_ret
        exact ⟨rfl, bl_trans HB1.out hb2⟩
    · have g1 : decide ((7 : Int) < (Z.length : Int)) = true := decide_eq_true (by omega)
      have g2 : 7 < Z.length := by omega
      go_wp2
      go_ret
      exact ⟨rfl, HB1.out⟩
  · rw [decide_eq_false hs]
    clear hs
    go_wp2
    go_ret
    exact ⟨rfl, hb1⟩
open Go.RowKit Go.ChangeShapes Go.WideShapes Go.ChangeAt Go.Joins

set_option maxRecDepth 100000 in
/-- A list of fractions that is read. -/
theorem fl_of_trod {H : Type} {enc : TypeId × Value → H} {W : World} {v : Value} {fuel : Nat} {y : DataW H × List MemPlace}
    (hf : DataW.trod enc Try.prog W 0 (fun _ => true) true fuel 32 [v] = some y) : ∃ L, FL W v L := by
  rcases Deep.open_slice Try.underlying32 hf with ⟨hcs, _⟩ | ⟨ad, l, c, m, n, D, Pl, hcs, _, hl, hm, hmm, _, hx⟩
  · obtain rfl : v = .slice none 0 0 := by simpa using hcs
    exact ⟨[], none, 0, rfl, by simp, by omega, fun h => absurd h (by simp)⟩
  · obtain rfl : v = .slice (some ad) l c := by simpa using hcs
    have hc3 : Program.cellsOf Try.prog 24 = 3 := by kernel_rfl
    have el : ∀ i, i < l → ∃ x : Bool × List Int × List Int, ∃ v1 v2, W.cell? (ad.add (i * 3)) = some (.bool x.1) ∧ W.cell? ⟨(ad.add (i * 3)).block, (ad.add (i * 3)).off + 1, none⟩ = some v1 ∧ W.cell? ⟨(ad.add (i * 3)).block, (ad.add (i * 3)).off + 2, none⟩ = some v2 ∧ FrIn W (.agg #[.bool x.1, v1, v2]) x.1 x.2.1 x.2.2 := by
      intro i hi
      obtain ⟨cs', h1, h2⟩ := hx i (by simp [hmm]; omega)
      rw [hc3] at h1
      obtain ⟨_, hlen, hat⟩ := World.cells?_some h1
      obtain ⟨y0, y1, y2, n', _, _, k0, k1, k2⟩ := Deep.trod_struct3 Try.underlying24 h2
      have b1 : Program.cellsOf Try.prog 4 = 1 := by kernel_rfl
      have b2 : Program.cellsOf Try.prog 22 = 1 := by kernel_rfl
      match cs', hlen with
      | [c0, c1, c2], _ =>
        have k0' : DataW.trod enc Try.prog W 0 (fun _ => true) true n' 4 [c0] = some y0 := by simpa [b1] using k0
        have k1' : DataW.trod enc Try.prog W 0 (fun _ => true) true n' 22 [c1] = some y1 := by simpa [b2] using k1
        have k2' : DataW.trod enc Try.prog W 0 (fun _ => true) true n' 22 [c2] = some y2 := by simpa [b2] using k2
        obtain ⟨b, hb, _⟩ := DataW.trod_bool Try.underlying4 k0'
        obtain rfl : c0 = .bool b := by simpa using hb
        obtain ⟨ln, r1, w1⟩ := row_of_arg k1'
        obtain ⟨ld, r2, w2⟩ := row_of_arg k2'
        refine ⟨(b, ln, ld), c1, c2, ?_, ?_, ?_, c1, c2, rfl, r1, r2, w1, w2⟩
        · have := hat 0 (by omega); simpa [Addr.add] using this
        · have := hat 1 (by omega); simpa [Addr.add] using this
        · have := hat 2 (by omega); simpa [Addr.add] using this
    obtain ⟨f, hfx⟩ := Deep.choose_lt el
    refine ⟨(List.range l).map f, some ad, c, by simp, by simpa using hl, by unfold maxLen at hm; omega, fun _ => ⟨ad, rfl, fun i d hd => ?_⟩⟩
    obtain ⟨hi, rfl⟩ : i < l ∧ f i = d := by
      rw [List.getElem?_map] at hd
      rcases Nat.lt_or_ge i l with h | h
      · rw [List.getElem?_range h] at hd
        exact ⟨h, by simpa using hd⟩
      · rw [List.getElem?_eq_none (by simpa using h)] at hd
        cases hd
    exact hfx i hi
set_option maxRecDepth 100000 in
/-- Rows of fractions that are handed in. -/
theorem fll_of_arg {H : Type} {enc : TypeId × Value → H} {W : World} {v : Value} {d : DataW H} {p : List MemPlace}
    (hv : Value.okWide Try.prog W .any 0 48 v) (h : DataW.Trod enc Try.prog W 0 (fun _ => true) true 48 v d p) : ∃ LL, FLL W v LL := by
  obtain ⟨a, l, c, rfl⟩ := okWide_slice Try.underlying48 hv
  obtain ⟨fuel, hf⟩ := h
  rcases Deep.open_slice1 Try.underlying48 (by kernel_rfl) hf with ⟨hcs, _⟩ | ⟨ad, len, cap, m, n, V, D, Pl, hcs, _, hl, hm, hmm, _, hx⟩
  · obtain ⟨rfl, rfl, rfl⟩ : a = none ∧ l = 0 ∧ c = 0 := by simpa [Value.cells] using hcs
    exact ⟨[], none, 0, rfl, by simp, by omega, fun h => absurd h (by simp)⟩
  · obtain ⟨rfl, rfl, rfl⟩ : a = some ad ∧ l = len ∧ c = cap := by simpa [Value.cells] using hcs
    have el : ∀ i, i < l → ∃ L, FL W (V i) L := fun i hi => fl_of_trod (hx i (by simp [hmm]; omega)).2
    obtain ⟨f, hfx⟩ := Deep.choose_lt el
    refine ⟨(List.range l).map f, some ad, c, by simp, by simpa using hl, by unfold maxLen at hm; omega, fun _ => ⟨ad, rfl, fun i d hd => ?_⟩⟩
    obtain ⟨hi, rfl⟩ : i < l ∧ f i = d := by
      rw [List.getElem?_map] at hd
      rcases Nat.lt_or_ge i l with h | h
      · rw [List.getElem?_range h] at hd
        exact ⟨h, by simpa using hd⟩
      · rw [List.getElem?_eq_none (by simpa using h)] at hd
        cases hd
    exact ⟨V i, (hx i (by simp [hmm]; omega)).1, hfx i hi⟩
end Go.Proofs.Ytdmgceckmciifaa
