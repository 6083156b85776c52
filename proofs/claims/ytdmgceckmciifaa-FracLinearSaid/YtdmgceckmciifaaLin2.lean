/- Systems of equations: frac.Linear. -/
import Derived.Test.YtdmgceckmciifaaProw
set_option linter.unusedVariables false
set_option linter.unusedSimpArgs false
namespace Go.Proofs.Ytdmgceckmciifaa
open Go.RowKit

/-- Rows with the right sides and a unit matrix behind them. -/
def tabL (LL : List (List (Bool × List Int × List Int))) (Rl : List (Bool × List Int × List Int)) : List (List Rat) := (List.range LL.length).map (tabq LL Rl)
theorem tabL_len (LL : List (List (Bool × List Int × List Int))) (Rl : List (Bool × List Int × List Int)) : (tabL LL Rl).length = LL.length := by simp [tabL]
theorem tabL_at {LL : List (List (Bool × List Int × List Int))} {Rl : List (Bool × List Int × List Int)} {i : Nat} (h : i < LL.length) : (tabL LL Rl)[i]? = some (tabq LL Rl i) := by simp [tabL, h]
theorem getD_colsN {LL : List (List (Bool × List Int × List Int))} (hu : unif LL) {i : Nat} (h : i < LL.length) : (LL.getD i []).length = colsN LL := by
  rw [List.getD_eq_getElem?_getD, List.getElem?_eq_getElem h]
  exact hu _ (List.getElem_mem h)
theorem tabq_len {LL : List (List (Bool × List Int × List Int))} {Rl : List (Bool × List Int × List Int)} (hu : unif LL) {i : Nat} (h : i < LL.length) : (tabq LL Rl i).length = colsN LL + 1 + LL.length := by
  have := getD_colsN hu h
  simp only [tabq, List.length_append, List.length_map, List.length_cons, List.length_range]
  omega
/-- The system as a table of numbers. -/
def sysM (LL : List (List (Bool × List Int × List Int))) (Rl : List (Bool × List Int × List Int)) : Nat → Nat → Rat := matL (tabL LL Rl)
/-- What its elimination leaves. -/
def sysG (LL : List (List (Bool × List Int × List Int))) (Rl : List (Bool × List Int × List Int)) : GS := gj (sysM LL Rl) LL.length (colsN LL)
/-- What Linear tells. -/
def LinP (LL : List (List (Bool × List Int × List Int))) (Rl : List (Bool × List Int × List Int)) (w : World) (e : Ending) (w' : World) : Prop := Below w.heap.size w w' ∧
  ((¬ (unif LL ∧ LL.length = Rl.length) ∧ e = .returned (.tuple #[.slice none 0 0, .slice none 0 0, .bool false, .int .i64 12])) ∨
   (unif LL ∧ LL.length = Rl.length ∧ gjok (sysG LL Rl) LL.length (colsN LL) ∧ ∃ g, e = .returned (.tuple #[.slice (some ⟨g, 0, none⟩) (colsN LL) (colsN LL), .slice none 0 0, .bool true, .int .i64 0]) ∧ w.heap.size ≤ g ∧ FB w' g (colsN LL) (colsN LL) (fun j => dq (xs (sysG LL Rl) (colsN LL) (sysG LL Rl).st.length j))) ∨
   (unif LL ∧ LL.length = Rl.length ∧ ∃ i, (sysG LL Rl).st.length ≤ i ∧ i < LL.length ∧ (sysG LL Rl).M i (colsN LL) ≠ 0 ∧ ∃ v, e = .returned (.tuple #[.slice none 0 0, v, .bool false, .int .i64 0]) ∧ OF w' w.heap.size v ((List.range LL.length).map (fun l => dq ((sysG LL Rl).M i (colsN LL + 1 + l))))))
theorem results_tmp4 {fn : Func} {t u v x : Tmp} (h : fn.results = #[.tmp t, .tmp u, .tmp v, .tmp x]) (tmps : Array Value) (P : Program) (w : World) :
    (results fn tmps).run P w = .ok (.tuple #[tmps.getD t undef, tmps.getD u undef, tmps.getD v undef, tmps.getD x undef]) w := by
  simp [results, h]
theorem add_off (g o j : Nat) : (⟨g, o, none⟩ : Addr).add j = ⟨g, o + j, none⟩ := by
  simp only [Addr.add]
  split <;> simp_all
/-- The unit matrix's row. -/
def unitL (k m : Nat) : List Rat := (List.range m).map fun l => if l = k then 1 else 0
theorem unitL_snoc (k m : Nat) : unitL k (m + 1) = unitL k m ++ [if m = k then 1 else 0] := by simp [unitL, List.range_succ]
theorem unitL_len (k m : Nat) : (unitL k m).length = m := by simp [unitL]
theorem unit_row {LL : List (List (Bool × List Int × List Int))} {Rl : List (Bool × List Int × List Int)} {k : Nat} {L : List (Bool × List Int × List Int)} {q : Rat} (h1 : LL.getD k [] = L) (h2 : rhsq Rl k = q) : L.map fqd ++ [q] ++ unitL k LL.length = tabq LL Rl k := by
  unfold tabq unitL
  rw [h1, h2]
  simp
theorem tabL_take {LL : List (List (Bool × List Int × List Int))} {Rl : List (Bool × List Int × List Int)} {k : Nat} (h : k < LL.length) : (tabL LL Rl).take (k + 1) = (tabL LL Rl).take k ++ [tabq LL Rl k] := by
  rw [take_snocL (tabL_at h)]
/-- One more row behind the program's rows. -/
theorem push_prow {wo W : World} {B D : Nat} {v u : Value} {TL : List (List Rat)} {L : List Rat} (hP : PR wo B D v TL) (hB : B ≤ D) (hD : D ≤ wo.heap.size) (hb : Below wo.heap.size wo W) (hu : OL W D u L) (hl : TL.length ≤ 1000000) :
    ∃ v' w', (Builtin.append_ #[94, 94] 94 #[v, .slice (some ⟨W.heap.size, 0, none⟩) 1 1]).run Try.prog (W.alloc (.cells #[u] 79)) = .ok v' w' ∧ PR w' B w'.heap.size v' (TL ++ [L]) ∧ Fr (fun x => v.ownBlock = some x) wo w' := by
  have al := below_alloc0 W (.cells #[u] 79)
  have KB := Blk.new W 79 #[u]
  have hba := bl_trans hb al
  obtain ⟨v', w', hrun, hP', hfr⟩ := PR.push (L := L) (PR.below hP hba) hB (Nat.le_trans hD hba.size) KB (OL.below hu al) hl
  exact ⟨v', w', hrun, hP', (Fr.of_below hba).trans hfr⟩
set_option maxRecDepth 100000 in
set_option maxHeartbeats 16000000 in
theorem linear_calls (w : World) (va vb : Value) (LL : List (List (Bool × List Int × List Int))) (Rl : List (Bool × List Int × List Int)) (ha : FLL w va LL) (hb : FL w vb Rl) (hR : LL.length ≤ 72) (hR2 : Rl.length ≤ 72) (hf : ∀ L ∈ LL, L.length ≤ 72 ∧ FewD 2000 L) (hf2 : FewD 2000 Rl)
    (hz : unif LL → ∀ col i j, col ≤ colsN LL → i < LL.length → j < colsN LL + 1 + LL.length → Szq 1000 ((gj (sysM LL Rl) LL.length col).M i j)) :
    Calls Try.prog 55 #[va, vb] w (LinP LL Rl w) := by
  have HA := Lib.hid ha
  have HBL := Lib.hid hb
  obtain ⟨A, c, rfl⟩ := ha.shape
  obtain ⟨Ab, cb, rfl⟩ := hb.shape
  have hcc := ha.bounds
  have HZ0 := Lib.hid hz
  clear hz ha hb
  by_cases hlr : LL.length = Rl.length
  · by_cases hu : formE LL (-1) = 0
    · have hun : unif LL := by
        apply Classical.byContradiction
        intro h
        rw [formE_no (fun k => h k.1)] at hu
        cases hu
      have HF := Lib.hid hu
      have HU := Lib.hid hun
      have HZ := Lib.hid (HZ0.out hun)
      have HLR := Lib.hid hlr
      have q0 : ((LL.length : Int) != (Rl.length : Int)) = false := by rw [hlr]; simp
      clear hu hun hlr
      go_enter Try.func55, Try.ntmps55
      go_wp2_with fail
      refine (form_calls _ _ LL HA.out hR (fun L h => (hf L h).1)).mono ?_
      rintro e w1 ⟨rfl, rfl⟩
      rw [HF.out]
      go_wp2
      go_loopw [35] (fun i wr => ∃ (k : Nat) (v : Value), k ≤ LL.length ∧ i = .int .i64 (k : Int) ∧ Blk wr w1.heap.size 97 #[v, .int .i64 ((if k = 0 then 0 else colsN LL : Nat) : Int), .slice none 0 0] ∧ PR wr w1.heap.size wr.heap.size v ((tabL LL Rl).take k) ∧ Below w1.heap.size w1 wr)
        (fun i _ => LL.length - (intOf i).toNat)
      case atStart => exact ⟨0, _, by omega, rfl, Blk.new _ _ _, PR.nil _ _ _, below_alloc0 _ _⟩
      case round =>
        obtain ⟨k, v, hk, rfl, hK, hP, hb⟩ := hrel
        have HP := Lib.hid hP
        have HB := Lib.hid hb
        have HK := Lib.hid hK
        have hge := hb.size
        by_cases hx : k < LL.length
        · obtain ⟨L, hL⟩ : ∃ L, LL[k]? = some L := ⟨_, List.getElem?_eq_getElem hx⟩
          obtain ⟨ad, c', A1, c1, hv, _, _, e0, hc1, hc2, hfl⟩ := HA.out.at hL
          obtain ⟨rfl, rfl⟩ : A = some ad ∧ c = c' := by simpa using hv
          have few := hf L (List.mem_of_getElem? hL)
          have hlen := Lib.hid (show L.length = colsN LL from HU.out L (List.mem_of_getElem? hL))
          replace e0 := cell_below hb e0
          obtain ⟨d, hd⟩ : ∃ d, Rl[k]? = some d := ⟨_, List.getElem?_eq_getElem (by have := HLR.out; omega)⟩
          obtain ⟨ad2, c2, B1, b1, B2, b2, hv2, hq1, hq2, f0, f1, f2, hfe⟩ := HBL.out.at hd
          obtain ⟨rfl, rfl⟩ : Ab = some ad2 ∧ cb = c2 := by simpa using hv2
          have fw := hf2 d (List.mem_of_getElem? hd)
          have HF0 := Lib.hid f0
          have HF1 := Lib.hid f1
          have HF2 := Lib.hid f2
          obtain ⟨q, hq⟩ : ∃ q, q = fqd d := ⟨_, rfl⟩
          have HQ := Lib.hid hq
          have HRH := Lib.hid (show rhsq Rl k = q by unfold rhsq; rw [hd, hq])
          clear hq
          have q1 : (k : Int) < (LL.length : Int) := by omega
          have q2 : (k : Int) < (Rl.length : Int) := by have := HLR.out; omega
          have k1 := hK.cell 1
          have kf := hK.free
          have HK1 := Lib.hid (show Blk (wr.setCell ⟨w1.heap.size, 1, none⟩ (.int .i64 (L.length : Int))) w1.heap.size 97 #[v, .int .i64 (L.length : Int), .slice none 0 0] from hK.set 1 _)
          have HP1 := Lib.hid (show PR (wr.setCell ⟨w1.heap.size, 1, none⟩ (.int .i64 (L.length : Int))) w1.heap.size wr.heap.size v ((tabL LL Rl).take k) from hP.set hK k1 (by intro n h; cases h) _)
          have HB1 := Lib.hid (show Below w1.heap.size w1 (wr.setCell ⟨w1.heap.size, 1, none⟩ (.int .i64 (L.length : Int))) from hb.setCell (Nat.le_refl _) _)
          have HSZ := Lib.hid (show (wr.setCell ⟨w1.heap.size, 1, none⟩ (.int .i64 (L.length : Int))).heap.size = wr.heap.size by simp)
          have HFL := Lib.hid hfl
          have HFE0 := Lib.hid hfe
          have HL := Lib.hid hL
          have HLd := Lib.hid (show LL.getD k [] = L by rw [List.getD_eq_getElem?_getD, hL]; rfl)
          clear hP hb hK hL hv hfl hv2 hd f0 f1 f2 hfe
          go_upto_region 11 with fail
          obtain ⟨wo, hwo⟩ : ∃ x, x = wr.setCell ⟨w1.heap.size, 1, none⟩ (.int .i64 (L.length : Int)) := ⟨_, rfl⟩
          rw [← hwo] at HK1 HP1 HB1 HSZ ⊢
          clear hwo
          have HFO := Lib.hid (HFL.out.below (show Below w1.heap.size w1 wo from HB1.out))
          have HFE := Lib.hid (HFE0.out.below (show Below w1.heap.size w1 wo from HB1.out))
          have hFD := Lib.hid (show FewD 2048 L from fun d hd => ⟨by have := few.2 d hd; omega, by have := few.2 d hd; omega⟩)
          have hbw : Below wo.heap.size wo wo.drew := bl_drew _
          have mkS : ∀ w', Below wo.heap.size wo w' → (Below w1.heap.size w1 w' ∧ w'.cell? (ad2.add (k * 3)) = some (.bool d.1) ∧ w'.cell? ⟨(ad2.add (k * 3)).block, (ad2.add (k * 3)).off + 1, none⟩ = some (.slice B1 d.2.1.length b1) ∧ w'.cell? ⟨(ad2.add (k * 3)).block, (ad2.add (k * 3)).off + 2, none⟩ = some (.slice B2 d.2.2.length b2)) := fun w' hb => ⟨bl_trans HB1.out hb, cell_below (bl_trans HB1.out hb) HF0.out, cell_below (bl_trans HB1.out hb) HF1.out, cell_below (bl_trans HB1.out hb) HF2.out⟩
          refine wp_region_T (fun w' => Below w1.heap.size w1 w' ∧ w'.cell? (ad2.add (k * 3)) = some (.bool d.1) ∧ w'.cell? ⟨(ad2.add (k * 3)).block, (ad2.add (k * 3)).off + 1, none⟩ = some (.slice B1 d.2.1.length b1) ∧ w'.cell? ⟨(ad2.add (k * 3)).block, (ad2.add (k * 3)).off + 2, none⟩ = some (.slice B2 d.2.2.length b2)) 9 (by kernel_rfl) ?_
          have hS : (fun w' => Below w1.heap.size w1 w' ∧ w'.cell? (ad2.add (k * 3)) = some (.bool d.1) ∧ w'.cell? ⟨(ad2.add (k * 3)).block, (ad2.add (k * 3)).off + 1, none⟩ = some (.slice B1 d.2.1.length b1) ∧ w'.cell? ⟨(ad2.add (k * 3)).block, (ad2.add (k * 3)).off + 2, none⟩ = some (.slice B2 d.2.2.length b2)) _ := mkS _ hbw
          simp only [List.size_toArray, List.length_cons, List.length_nil, Nat.reduceAdd]
          refine wpAnyT_take 0 (some 45) (v := ?vr1_0) rfl rfl (by kernel_rfl) (by kernel_rfl) (by kernel_rfl) (by kernel_rfl) (fun _ _ _ h => h) rfl ?hyr1_0 hS ?restr1_0
          case hyr1_0 => (intro w hSw; (try dsimp only at hSw); go_simp; (try with_reducible rfl))
          (try simp only [Act.put, List.setIfInBounds_toArray, List.set_cons_zero, List.set_cons_succ])
          refine wpAnyT_take 2 (some 47) (v := ?vr1_2) rfl rfl (by kernel_rfl) (by kernel_rfl) (by kernel_rfl) (by kernel_rfl) (fun _ _ _ h => h) rfl ?hyr1_2 hS ?restr1_2
          case hyr1_2 => (intro w hSw; (try dsimp only at hSw); go_simp; (try with_reducible rfl))
          (try simp only [Act.put, List.setIfInBounds_toArray, List.set_cons_zero, List.set_cons_succ])
          refine wpAnyT_take 3 (some 48) (v := ?vr1_3) rfl rfl (by kernel_rfl) (by kernel_rfl) (by kernel_rfl) (by kernel_rfl) (fun _ _ _ h => h) rfl ?hyr1_3 hS ?restr1_3
          case hyr1_3 => (intro w hSw; (try dsimp only at hSw); go_simp; (try with_reducible rfl))
          (try simp only [Act.put, List.setIfInBounds_toArray, List.set_cons_zero, List.set_cons_succ])
          refine wpAnyT_take 4 (some 49) (v := ?vr1_4) rfl rfl (by kernel_rfl) (by kernel_rfl) (by kernel_rfl) (by kernel_rfl) (fun _ _ _ h => h) rfl ?hyr1_4 hS ?restr1_4
          case hyr1_4 => (intro w hSw; (try dsimp only at hSw); go_simp; (try with_reducible rfl))
          (try simp only [Act.put, List.setIfInBounds_toArray, List.set_cons_zero, List.set_cons_succ])
          refine wpAnyT_take 5 (some 50) (v := ?vr1_5) rfl rfl (by kernel_rfl) (by kernel_rfl) (by kernel_rfl) (by kernel_rfl) (fun _ _ _ h => h) rfl ?hyr1_5 hS ?restr1_5
          case hyr1_5 => (intro w hSw; (try dsimp only at hSw); go_simp; (try with_reducible rfl))
          (try simp only [Act.put, List.setIfInBounds_toArray, List.set_cons_zero, List.set_cons_succ])
          refine wpAnyT_one (i := 1) rfl (by kernel_rfl) rfl (fun K hK => ?_)
          simp only [List.getElem_toArray, List.getElem_cons_succ, List.getElem_cons_zero]
          go_simp
          go_at_call 87
          with_reducible refine (all_calls _ _ L (HFO.out.below hbw) (by omega) hFD.out).mono ?_
          rintro e w5 ⟨g5, rfl, hg5, hRL, hb5⟩
          have hOL : OL w5 wo.heap.size (.slice (some ⟨g5, 0, none⟩) L.length L.length) (L.map fqd) := by have h := OL.of_rl (w := w5) (qs := L.map fqd) (B := wo.heap.size) (by rw [List.length_map]; exact hRL) (by have := hbw.size; omega) (by rw [List.length_map]; omega); rw [List.length_map] at h; exact h
          have hbw := bl_trans hbw hb5
          have hS2 := mkS _ hbw
          refine hK.out _ _ (fun _ => hS2) ?_
          clear hS K hK
          have hS := hS2
          clear hS2
          (try simp only [Act.put, List.setIfInBounds_toArray, List.set_cons_zero, List.set_cons_succ])
          refine wpAnyT_one (i := 6) rfl (by kernel_rfl) rfl (fun K hK => ?_)
          simp only [List.getElem_toArray, List.getElem_cons_succ, List.getElem_cons_zero]
          go_simp
          go_at_call 71
          with_reducible refine (taken_calls _ _ d.1 d.2.1 d.2.2 (HFE.out.below hbw) (by omega)).mono ?_
          rintro e w6 ⟨v6, rfl, hv6, hb6⟩
          have hv6 : RtV w6 v6 q := by rw [HQ.out]; exact hv6
          obtain ⟨C1, e1, C2, e2, rfl, _, _⟩ := hv6.open
          have hOL := hOL.below hb6
          have hbw := bl_trans hbw hb6
          have hS2 := mkS _ hbw
          refine hK.out _ _ (fun _ => hS2) ?_
          clear hS K hK
          have hS := hS2
          clear hS2
          (try simp only [Act.put, List.setIfInBounds_toArray, List.set_cons_zero, List.set_cons_succ])
          refine wpAnyT_one (i := 7) rfl (by kernel_rfl) rfl (fun K hK => ?_)
          simp only [List.getElem_toArray, List.getElem_cons_succ, List.getElem_cons_zero]
          go_simp
          obtain ⟨v8, w8, hrun, hO8, hb8⟩ := push_rat hOL hbw hv6 (by rw [List.length_map]; omega)
          have hbw := bl_trans hbw (below_alloc0 w6 (.cells #[.slice C1 (dg q.num.natAbs).length e1, .slice C2 (dg q.den).length e2, .bool (decide (q.num < 0))] 59))
          have hS2 := mkS _ hbw
          refine hK.out _ _ (fun _ => hS2) ?_
          clear hS K hK
          have hS := hS2
          clear hS2
          (try simp only [Act.put, List.setIfInBounds_toArray, List.set_cons_zero, List.set_cons_succ])
          refine wpAnyT_one (i := 8) rfl (by kernel_rfl) rfl (fun K hK => ?_)
          simp only [List.getElem_toArray, List.getElem_cons_succ, List.getElem_cons_zero]
          obtain ⟨A8, c8, rfl, _, _⟩ := hO8.shape
          generalize hl8 : (L.map fqd ++ [q]).length = l8 at *
          refine wp_append_run _ (.tmp 46) (.tmp 52) 79 _ _ rfl rfl rfl ⟨_, w8, hrun, ?_⟩
          have hS8 := mkS _ hb8
          refine hK.out _ _ (fun _ => hS8) ?_
          clear hS K hK hrun
          have hS := hS8
          (try simp only [Act.put, List.setIfInBounds_toArray, List.set_cons_zero, List.set_cons_succ])
          refine wpAnyT_one (i := 9) rfl (by kernel_rfl) rfl (fun K hK => ?_)
          simp only [List.getElem_toArray, List.getElem_cons_succ, List.getElem_cons_zero]
          go_simp
          refine hK.out _ _ (fun h => absurd rfl h) ?_
          refine wpAnyT_done (by kernel_rfl) ?_ _
          have HO8 := Lib.hid hO8
          have HB8 := Lib.hid hb8
          have HL8 := Lib.hid hl8
          clear K hK mkS hS hS8 hbw hRL hOL hg5 hb5 hv6 hb6 hO8 hb8 hl8
          go_wp2
          go_loopw [56, 12] (fun i v2 wx => ∃ (m : Nat), m ≤ LL.length ∧ i = .int .i64 (m : Int) ∧ OL wx wo.heap.size v2 ((L.map fqd ++ [q]) ++ unitL k m) ∧ Below wo.heap.size wo wx)
            (fun i _ _ => LL.length - (intOf i).toNat)
          case atStart => exact ⟨0, by omega, rfl, by simpa [unitL] using HO8.out, HB8.out⟩
          case round =>
            obtain ⟨m, hm, rfl, hO2, hb2⟩ := hrel
            have HO2 := Lib.hid hO2
            have HB2 := Lib.hid hb2
            by_cases hmx : m < LL.length
            · have q3 : (m : Int) < (LL.length : Int) := by omega
              have HN := Lib.hid (unitL_snoc k m)
              clear hO2 hb2
              by_cases hmk : m = k
              · have g : ((m : Int) == (k : Int)) = true := by rw [hmk]; simp
                have HMK := Lib.hid hmk
                clear hmk
                go_wp2_with fail
                refine (whole_calls _ 1 (by omega) (by omega)).mono ?_
                rintro e w6 ⟨v6, rfl, hv6, hb6⟩
                obtain ⟨r, hr⟩ : ∃ r : Rat, r = 1 := ⟨_, rfl⟩
                have hv6 : RtV w6 v6 r := by rw [hr]; exact hv6
                have HR := Lib.hid hr
                clear hr
                obtain ⟨C1, e1, C2, e2, rfl, _, _⟩ := hv6.open
                obtain ⟨v8, w8, hrun, hO8, hb8⟩ := push_rat (HO2.out.below hb6) (bl_trans HB2.out hb6) hv6 (by simp [unitL]; omega)
                have HRUN := Lib.hid hrun
                have HO8 := Lib.hid hO8
                have HB8 := Lib.hid hb8
                clear hrun hO8 hb8 hv6 hb6
                go_wp2_with (first
                  | (at_builtin; refine wpList_append_run _ rfl _ _ 79 rfl _ _ rfl rfl ⟨v8, w8, HRUN.out, ?_⟩)
                  | go_in)
                exact ⟨⟨m + 1, by omega, by go_num, by rw [HN.out, if_pos HMK.out, ← HR.out, ← List.append_assoc]; exact HO8.out, HB8.out⟩, by simp [intOf]; omega⟩
              · have g : ((m : Int) == (k : Int)) = false := beq_eq_false_iff_ne.2 (by omega)
                have HMK := Lib.hid hmk
                clear hmk
                go_wp2_with fail
                refine (whole_calls _ 0 (by omega) (by omega)).mono ?_
                rintro e w6 ⟨v6, rfl, hv6, hb6⟩
                obtain ⟨r, hr⟩ : ∃ r : Rat, r = 0 := ⟨_, rfl⟩
                have hv6 : RtV w6 v6 r := by rw [hr]; exact hv6
                have HR := Lib.hid hr
                clear hr
                obtain ⟨C1, e1, C2, e2, rfl, _, _⟩ := hv6.open
                obtain ⟨v8, w8, hrun, hO8, hb8⟩ := push_rat (HO2.out.below hb6) (bl_trans HB2.out hb6) hv6 (by simp [unitL]; omega)
                have HRUN := Lib.hid hrun
                have HO8 := Lib.hid hO8
                have HB8 := Lib.hid hb8
                clear hrun hO8 hb8 hv6 hb6
                go_wp2_with (first
                  | (at_builtin; refine wpList_append_run _ rfl _ _ 79 rfl _ _ rfl rfl ⟨v8, w8, HRUN.out, ?_⟩)
                  | go_in)
                exact ⟨⟨m + 1, by omega, by go_num, by rw [HN.out, if_neg HMK.out, ← HR.out, ← List.append_assoc]; exact HO8.out, HB8.out⟩, by simp [intOf]; omega⟩
            · have hmL : m = LL.length := by omega
              rw [hmL, unit_row HLd.out HRH.out] at hO2
              obtain ⟨A9, c9, rfl, _, _⟩ := hO2.shape
              generalize hl9 : (tabq LL Rl k).length = l9 at *
              have q3 : ¬ (m : Int) < (LL.length : Int) := by omega
              have hO3 := hO2
              rw [HSZ.out] at hO3
              obtain ⟨v8, w8, hrun, hP8, hfr8⟩ := push_prow HP1.out hge (by rw [HSZ.out]; exact Nat.le_refl _) hb2 hO3 (by simp; omega)
              have hb9 : Below w1.heap.size w1 w8 := Below.trans HB1.out (hfr8.below HB1.out.size (fun g hg => PR.block HP1.out hg))
              have K8 := PR.blk HP1.out HK1.out hfr8
              have kx := Blk.below HK1.out hb2
              have kx0 := kx.cell 0
              obtain ⟨Av, cv, hvs, _⟩ := HP1.out.shape
              obtain ⟨A10, c10, rfl, _, _⟩ := hP8.shape
              rw [← tabL_take hx] at hP8 hrun
              generalize hl10 : ((tabL LL Rl).take (k + 1)).length = l10 at *
              have k80 := K8.cell 0
              have kf8 := K8.free
              have HRUN := Lib.hid hrun
              have hP9 := Lib.hid (hP8.set K8 (K8.cell 0) (by rw [hvs]; intro n h; cases h) (.slice A10 l10 c10))
              have K9 := Lib.hid (K8.set 0 (.slice A10 l10 c10))
              have HB9 := Lib.hid (hb9.setCell (p := ⟨w1.heap.size, 0, none⟩) (Nat.le_refl w1.heap.size) (.slice A10 l10 c10))
              clear hO2 hO3 hb2 hrun hP8 hfr8 hb9 K8 kx hvs hl10 hl9 HO2 HB2
              go_wp2_with (first
                | (at_builtin; refine wpList_append_run _ rfl _ _ 94 rfl _ _ rfl rfl ⟨_, w8, HRUN.out, ?_⟩)
                | go_in)
              refine ⟨⟨k + 1, .slice A10 l10 c10, by omega, by go_num, ?_, ?_, ?_⟩, by simp [intOf]; omega⟩
              · rw [if_neg (by omega), ← hlen.out]; exact K9.out
              · have h := hP9.out; simpa using h
              · exact HB9.out
        · obtain rfl : k = LL.length := by omega
          have hP2 := HP.out
          rw [List.take_of_length_le (by rw [tabL_len]; exact Nat.le_refl _)] at hP2
          have q1 : ¬ (LL.length : Int) < (LL.length : Int) := by omega
          obtain ⟨Av, cv, rfl, _, _⟩ := hP2.shape
          have hnil : LL.length = 0 → colsN LL = 0 := by
            intro h
            have : LL = [] := List.eq_nil_of_length_eq_zero h
            subst this
            rfl
          have hK2 : Blk wr w1.heap.size 97 #[.slice Av (tabL LL Rl).length cv, .int .i64 (colsN LL : Int), .slice none 0 0] := by
            have h := HK.out
            have e : (if LL.length = 0 then 0 else colsN LL) = colsN LL := by
              split
              · rename_i h0; exact (hnil h0).symm
              · rfl
            rw [e] at h
            exact h
          have hul : ∀ L ∈ tabL LL Rl, L.length = colsN LL + 1 + LL.length := by
            intro L hL
            obtain ⟨i, hi, rfl⟩ := List.mem_map.1 hL
            exact tabq_len HU.out (by simpa using hi)
          have hc72 : colsN LL ≤ 72 := by
            rcases Nat.eq_zero_or_pos LL.length with h | h
            · have := hnil h; omega
            · obtain ⟨L, hL⟩ : ∃ L, LL[0]? = some L := ⟨_, List.getElem?_eq_getElem (by omega)⟩
              have h1 := (hf L (List.mem_of_getElem? hL)).1
              have h2 := HU.out L (List.mem_of_getElem? hL)
              omega
          have hst : (sysG LL Rl).st.length ≤ LL.length := (gj_ok (sysM LL Rl) LL.length (colsN LL) (colsN LL) (Nat.le_refl _)).len
          have HP2 := Lib.hid hP2
          have HK2 := Lib.hid hK2
          have HQ := Lib.hid (tabL_len LL Rl)
          have HUL := Lib.hid hul
          have HNIL := Lib.hid hnil
          clear hK hP hb hP2 hK2 hul hnil
          go_wp2_with fail
          refine (reduce_pr w1 _ _ (colsN LL + 1 + LL.length) _ _ _ (tabL LL Rl) HP2.out HK2.out (by rw [HQ.out]; omega) (by omega) (by omega) (fun _ => by omega) (fun h => HNIL.out (HQ.out.symm.trans h)) HUL.out HB.out (Nat.le_refl _) (by rw [HQ.out]; exact HZ.out)).mono ?_
          rintro e w7 ⟨rfl, h7⟩
          rw [HQ.out] at h7
          have h7 : LD w1 w7 w1.heap.size LL.length (colsN LL + 1 + LL.length) (colsN LL) (sysG LL Rl).M (sysG LL Rl).st := h7
          obtain ⟨S, hS⟩ : ∃ S, S = sysG LL Rl := ⟨_, rfl⟩
          rw [← hS] at h7 hst
          obtain ⟨n, hn⟩ : ∃ n, n = colsN LL := ⟨_, rfl⟩
          rw [← hn] at h7 hc72
          have HS := Lib.hid hS
          have HN := Lib.hid hn
          have HLD := Lib.hid h7
          clear hS hn HP2 HK2 HUL HNIL HP HK HB
          obtain ⟨Ar, cap, As, cs, K7, hcap, hcap2, hcs, hcs2, hstc, hrow, hb7⟩ := h7
          have HROW := Lib.hid hrow
          have HST := Lib.hid hstc
          have HB7 := Lib.hid hb7
          have k0 := K7.cell 0
          have k1 := K7.cell 1
          have k2 := K7.cell 2
          have kf := K7.free
          have r1 : (S.st.length : Int) ≤ (LL.length : Int) := by omega
          have r2 : (0 : Int) ≤ (S.st.length : Int) := by omega
          clear hrow hstc hb7
          go_wp2_with fail
          go_cut [5, 93, 94, 95] (fun t5 t93 t94 t95 wx => ∃ A2 c2, t5 = .slice none 0 0 ∧ t93 = .slice A2 (LL.length - S.st.length) c2 ∧ t94 = .int .i64 ((LL.length - S.st.length : Nat) : Int) ∧ t95 = .int .i64 0 ∧ Below w7.heap.size w7 wx ∧ ∀ i, i < LL.length - S.st.length → ∃ ad b c, A2 = some ad ∧ w7.cell? (ad.add i) = some (.slice (some ⟨b, 0, none⟩) (n + 1 + LL.length) c) ∧ n + 1 + LL.length ≤ c ∧ c ≤ 9223372036854775807 ∧ RF w7 b c (n + 1 + LL.length) (S.M (S.st.length + i)))
          case first =>
            go_quiet (fail)
            go_wp2
            all_goals go_meet
            case rel =>
              refine ⟨_, _, rfl, rfl, by go_num, rfl, bl_drewN _ _, fun i hi => ?_⟩
              omega
            case rel =>
              refine ⟨_, _, rfl, rfl, by go_num, rfl, bl_drewN _ _, fun i hi => ?_⟩
              obtain ⟨gr, b, c, hA, hc, k3, k4, k5⟩ := HROW.out (S.st.length + i) (by omega)
              refine ⟨⟨gr, S.st.length, none⟩, b, c, ?_, ?_, k3, k4, k5⟩
              · rw [hA]; simp [Addr.add]; try (intro h; simp [h])
              · rw [add_off]; exact hc
          case rest =>
            obtain ⟨A2, c2, rfl, rfl, rfl, rfl, hb8, hA2⟩ := hcut
            have HA2 := Lib.hid hA2
            have HB8 := Lib.hid hb8
            clear hA2 hb8 K7 k0 k1 k2 kf
            go_wp2
            go_loopw [95, 5] (fun i v5 wx => ∃ m : Nat, m ≤ LL.length - S.st.length ∧ i = .int .i64 (m : Int) ∧ v5 = .slice none 0 0 ∧ Below w7.heap.size w7 wx ∧ ∀ l, S.st.length ≤ l → l < S.st.length + m → S.M l n = 0)
              (fun i _ _ => LL.length - S.st.length - (intOf i).toNat)
            case atStart => exact ⟨0, by omega, rfl, rfl, HB8.out, fun l h1 h2 => by omega⟩
            case round =>
              obtain ⟨m, hm, rfl, rfl, hbx, hze⟩ := hrel
              have HZE := Lib.hid hze
              have HBX := Lib.hid hbx
              have kx := (HLD.out.below hbx)
              by_cases hmx : m < LL.length - S.st.length
              · obtain ⟨ad, b, c3, rfl, e0, hc1, hc2, hrf⟩ := HA2.out m hmx
                replace e0 := cell_below hbx e0
                have hrf := hrf.below hbx
                obtain ⟨X1, x1, X2, x2, f0, f1, f2, hrt⟩ := hrf.cell (i := n) (by omega)
                obtain ⟨x, hx0⟩ : ∃ x, x = S.M (S.st.length + m) n := ⟨_, rfl⟩
                rw [← hx0] at f0 f1 f2 hrt
                have HRT := Lib.hid hrt
                have HRF := Lib.hid hrf
                have HX := Lib.hid hx0
                obtain ⟨Ar', cap', As', cs', Kx, _⟩ := kx
                have kx1 := Kx.cell 1
                have q3 : (m : Int) < ((LL.length - S.st.length : Nat) : Int) := by omega
                have q4 : (n : Int) < ((n + 1 + LL.length : Nat) : Int) := by omega
                clear hbx hze hrt hrf hx0 Kx
                by_cases hz0 : x = 0
                · have HZ0 := Lib.hid hz0
                  have HSG := Lib.hid (show x.num.sign = 0 by rw [hz0]; rfl)
                  clear hz0
                  go_wp2_with fail
                  refine (sign_calls _ _ x HRT.out).mono ?_
                  rintro e w9 ⟨rfl, hb9⟩
                  rw [HSG.out]
                  have HB9 := Lib.hid (bl_trans HBX.out hb9)
                  go_wp2
                  exact ⟨⟨m + 1, by omega, by go_num, rfl, HB9.out, fun l h1 h2 => by
                    rcases Nat.lt_or_ge l (S.st.length + m) with h | h
                    · exact HZE.out l h1 h
                    · obtain rfl : l = S.st.length + m := by omega
                      rw [← HX.out]; exact HZ0.out⟩, by simp [intOf]; omega⟩
                · have hsg : ((x.num.sign : Int) != 0) = true := by
                    rw [bne_iff_ne]
                    intro h
                    exact hz0 (Rat.num_eq_zero.1 (Int.sign_eq_zero_iff_zero.1 h))
                  have HZ0 := Lib.hid hz0
                  clear hz0
                  go_wp2_with fail
                  refine (sign_calls _ _ x HRT.out).mono ?_
                  rintro e w9 ⟨rfl, hb9⟩
                  have HB9 := Lib.hid (bl_trans HBX.out hb9)
                  have K9 := (HLD.out.below HB9.out)
                  obtain ⟨Ar', cap', As', cs', K9, _⟩ := K9
                  have k91 := K9.cell 1
                  have hcn : ¬ c3 = n + 1 := by omega
                  have hb9' := hb9
                  clear hb9 K9
                  go_wp2
                  have HRF9 := Lib.hid ((HRF.out.below (show Below _ _ w9 from hb9')))
                  go_loopw [116, 5] (fun i v wy => ∃ l : Nat, l ≤ LL.length ∧ i = .int .i64 (l : Int) ∧ OF wy w9.heap.size v (((List.range l).map (fun t => S.M (S.st.length + m) (n + 1 + t))).map dq) ∧ Below w9.heap.size w9 wy)
                    (fun i _ _ => LL.length - (intOf i).toNat)
                  case atStart => exact ⟨0, by omega, rfl, OF.nil _ _, Below.refl _ _⟩
                  case round =>
                    obtain ⟨l, hl, rfl, hO, hby⟩ := hrel
                    have HO := Lib.hid hO
                    have HBY := Lib.hid hby
                    by_cases hlx : l < LL.length
                    · have hrf := HRF9.out.below hby
                      obtain ⟨Y1, y1, Y2, y2, f0, f1, f2, hrt⟩ := hrf.cell (i := n + 1 + l) (by omega)
                      have HSQ := Lib.hid (HZ.out (colsN LL) (S.st.length + m) (n + 1 + l) (Nat.le_refl _) (by omega) (by have := HN.out; omega))
                      obtain ⟨y, hy⟩ : ∃ y, y = S.M (S.st.length + m) (n + 1 + l) := ⟨_, rfl⟩
                      have eM : S.M = (gj (sysM LL Rl) LL.length (colsN LL)).M := by rw [HS.out]; rfl
                      have hsy : Szq 1000 y := by rw [hy, eM]; exact HSQ.out
                      rw [← hy] at f0 f1 f2 hrt
                      rw [show (n + 1 + l) * 3 = (n + 1) * 3 + l * 3 by omega] at f0 f1 f2
                      have HN2 := Lib.hid (show (List.range (l + 1)).map (fun t => S.M (S.st.length + m) (n + 1 + t)) = (List.range l).map (fun t => S.M (S.st.length + m) (n + 1 + t)) ++ [y] by rw [List.range_succ, List.map_append, hy]; rfl)
                      have q5 : (l : Int) < (LL.length : Int) := by omega
                      have al := below_alloc0 wr (.cells #[.slice Y1 (dg y.num.natAbs).length y1, .slice Y2 (dg y.den).length y2, .bool (decide (y.num < 0))] 59)
                      have K := Blk.new wr 59 #[.slice Y1 (dg y.num.natAbs).length y1, .slice Y2 (dg y.den).length y2, .bool (decide (y.num < 0))]
                      have k0 := K.cell 0
                      have k1 := K.cell 1
                      have k2 := K.cell 2
                      have HRT2 := Lib.hid (hrt.below al)
                      have HSY := Lib.hid hsy
                      have HAL := Lib.hid al
                      clear hO hby hrf hrt hy hsy al K eM
                      go_wp2_with fail
                      refine (told_calls _ _ y HRT2.out (by have h1 := HSY.out.1; have h2 := HSY.out.2; omega)).mono ?_
                      rintro e w6 ⟨v6, rfl, hv6, hb6⟩
                      obtain ⟨P1, p1, P2, p2, rfl, _, _, _, _⟩ := FrIn.shape hv6
                      have hb7 := bl_trans HAL.out hb6
                      obtain ⟨v8, w8, hrun, hO8, hb8⟩ := push_frv (W0 := w9) (acc := (List.range l).map (fun t => S.M (S.st.length + m) (n + 1 + t))) (HO.out.below hb7) (bl_trans HBY.out hb7) hv6 (by simp; omega)
                      have HRUN := Lib.hid hrun
                      have HO8 := Lib.hid hO8
                      have HB8 := Lib.hid hb8
                      clear hrun hO8 hb8 hv6 hb6 hb7 k0 k1 k2 f0 f1 f2
                      go_wp2_with (first
                        | (at_builtin; refine wpList_append_run _ rfl _ _ 32 rfl _ _ rfl rfl ⟨v8, w8, HRUN.out, ?_⟩)
                        | go_in)
                      exact ⟨⟨l + 1, by omega, by go_num, by rw [HN2.out]; exact HO8.out, HB8.out⟩, by simp [intOf]; omega⟩
                    · obtain rfl : l = LL.length := by omega
                      clear hO hby
                      go_wp2
                      try simp only [Exit.inBlock, Exit.then]
                      refine bodyPost_ret (results_tmp4 rfl _ _ _) rfl ?_
                      have hbb := bl_trans (bl_trans HB7.out HB9.out) HBY.out
                      unfold LinP
                      rw [← HS.out, ← HN.out]
                      refine ⟨hbb, .inr (.inr ⟨HU.out, HLR.out, S.st.length + m, by omega, by omega, by rw [← HX.out]; exact HZ0.out, _, rfl, ?_⟩)⟩
                      have h := HO.out.mono (bl_trans HB7.out HB9.out).size
                      rw [List.map_map] at h
                      exact h
              · have hok : gjok S LL.length n := fun l h1 h2 => hze l h1 (by omega)
                have HOK := Lib.hid hok
                have hmk := mk_fracs n (by omega)
                have q3 : ¬ (m : Int) < ((LL.length - S.st.length : Nat) : Int) := by omega
                obtain ⟨Ar2, cap2, As2, cs2, K2, b1, b2, b3, b4, hst2, hrow2, _⟩ := kx
                have kx1 := K2.cell 1
                have kx2 := K2.cell 2
                have HST2 := Lib.hid hst2
                have HROW2 := Lib.hid hrow2
                have HK2 := Lib.hid K2
                have HBO := Lib.hid (bl_trans HB7.out hbx)
                clear hbx hze K2 hst2 hrow2 HZE HBX hok
                obtain ⟨wo, rfl⟩ : ∃ x, x = wr := ⟨_, rfl⟩
                go_wp2
                go_loopw [135] (fun i wx => ∃ l : Nat, l ≤ n ∧ i = .int .i64 (l : Int) ∧ FB wx wo.heap.size n n (fun j => if j < l then dq 0 else (false, [], [])) ∧ Below wo.heap.size wo wx)
                  (fun i _ => n - (intOf i).toNat)
                case atStart => exact ⟨0, by omega, rfl, (FB.new _ _ (by omega)).congr (fun j _ => by simp), (Below.refl _ _).alloc (Nat.le_refl _) _⟩
                case round =>
                  clear hmk
                  obtain ⟨l, hl, rfl, hF, hby⟩ := hrel
                  have HF2 := Lib.hid hF
                  have HBY := Lib.hid hby
                  by_cases hlx : l < n
                  · have q5 : (l : Int) < (n : Int) := by omega
                    clear hF hby kx1 kx2
                    go_wp2_with fail
                    refine (whole_calls _ 0 (by omega) (by omega)).mono ?_
                    rintro e w6 ⟨v6, rfl, hv6, hb6⟩
                    obtain ⟨q, hq⟩ : ∃ q : Rat, q = 0 := ⟨_, rfl⟩
                    have hv6 : RtV w6 v6 q := by rw [hq]; exact hv6
                    have HQ0 := Lib.hid hq
                    have hsq : Szq 1 q := by rw [hq]; exact szq_zero _ (by omega)
                    clear hq
                    obtain ⟨C1, e1, C2, e2, rfl, _, _⟩ := hv6.open
                    have HV6 := Lib.hid hv6
                    have HSQ := Lib.hid hsq
                    clear hv6 hsq
                    go_wp2_with fail
                    refine (told_calls _ _ q HV6.out (by have h1 := HSQ.out.1; have h2 := HSQ.out.2; omega)).mono ?_
                    rintro e w9 ⟨v9, rfl, hv9, hb9⟩
                    obtain ⟨P1, p1, P2, p2, rfl, _, _, _, _⟩ := FrIn.shape hv9
                    have hF9 := Lib.hid ((HF2.out.below hb6).below hb9)
                    have HB9 := Lib.hid (bl_trans (bl_trans HBY.out hb6) hb9)
                    have HV9 := Lib.hid hv9
                    obtain ⟨x0, t0, _⟩ := hF9.out.there (j := l * 3) (by omega)
                    obtain ⟨x1, t1, _⟩ := hF9.out.there (j := l * 3 + 1) (by omega)
                    obtain ⟨x2, t2, _⟩ := hF9.out.there (j := l * 3 + 2) (by omega)
                    have ff := hF9.out.free
                    clear hv9 hb6 hb9
                    go_wp2
                    refine ⟨⟨l + 1, by omega, by go_num, ?_, ((HB9.out.setCell (Nat.le_refl _) _).setCell (Nat.le_refl _) _).setCell (Nat.le_refl _) _⟩, by simp [intOf]; omega⟩
                    have h := (FB.set (d := dq q) hF9.out hlx HV9.out).1
                    refine FB.congr h (fun j _ => ?_)
                    rw [HQ0.out]
                    by_cases hj : j = l
                    · rw [hj, upd_at, if_pos (by omega)]
                    · rw [upd_ne hj]
                      by_cases hj2 : j < l
                      · rw [if_pos hj2, if_pos (by omega)]
                      · rw [if_neg hj2, if_neg (by omega)]
                  · obtain rfl : l = n := by omega
                    have hF3 : FB wr wo.heap.size l l (fun j => dq (xs S l 0 j)) := hF.congr (fun j hj => by rw [if_pos hj]; rfl)
                    have HF3 := Lib.hid hF3
                    have kz := HK2.out.below hby
                    have kz2 := kz.cell 2
                    have q5 : ¬ (l : Int) < (l : Int) := by omega
                    clear hF hby kx1 kx2 hF3 HF2 kz
                    go_wp2
                    go_loopw [149] (fun i wx => ∃ k : Nat, k ≤ S.st.length ∧ i = .int .i64 (k : Int) ∧ FB wx wo.heap.size l l (fun j => dq (xs S l k j)) ∧ Below wo.heap.size wo wx)
                      (fun i _ => S.st.length - (intOf i).toNat)
                    case atStart => exact ⟨0, by omega, rfl, HF3.out, HBY.out⟩
                    case round =>
                      clear HF3 HBY kz2
                      obtain ⟨k, hk2, rfl, hF, hby⟩ := hrel
                      have HF2 := Lib.hid hF
                      have HBY := Lib.hid hby
                      by_cases hkx : k < S.st.length
                      · obtain ⟨s, hs⟩ : ∃ s, S.st[k]? = some s := ⟨_, List.getElem?_eq_getElem hkx⟩
                        have hsD : S.st.getD k 0 = s := by rw [List.getD_eq_getElem?_getD, hs]; rfl
                        have hsl : s < l := by
                          have h := (gj_ok (sysM LL Rl) LL.length (colsN LL) (colsN LL) (Nat.le_refl _)).mem k
                          have e : gj (sysM LL Rl) LL.length (colsN LL) = S := HS.out.symm
                          rw [e] at h
                          have h2 := h hkx
                          rw [hsD, ← HN.out] at h2
                          exact h2
                        obtain ⟨ad, rfl, e0⟩ := HST2.out k s hs
                        obtain ⟨gr, b, c, rfl, e1, hc1, hc2, hrf⟩ := HROW2.out k (by omega)
                        replace e0 := cell_below hby e0
                        have hrf := hrf.below hby
                        obtain ⟨X1, x1, X2, x2, f0, f1, f2, hrt⟩ := hrf.cell (i := l) (by omega)
                        have HSZ := Lib.hid (HZ.out (colsN LL) k l (Nat.le_refl _) (by omega) (by have := HN.out; omega))
                        obtain ⟨x, hx0⟩ : ∃ x, x = S.M k l := ⟨_, rfl⟩
                        have eM : S.M = (gj (sysM LL Rl) LL.length (colsN LL)).M := by rw [HS.out]; rfl
                        have hsx : Szq 1000 x := by rw [hx0, eM]; exact HSZ.out
                        rw [← hx0] at f0 f1 f2 hrt
                        have HRT := Lib.hid hrt
                        have HX := Lib.hid hx0
                        have HSX := Lib.hid (show (dg x.num.natAbs).length + (dg x.den).length ≤ 4096 by have h1 := hsx.1; have h2 := hsx.2; omega)
                        have HSD := Lib.hid hsD
                        have HSL := Lib.hid hsl
                        have kz := HK2.out.below hby
                        have c0 := kz.cell 0
                        have c1 := kz.cell 1
                        have e1 := cell_below hby e1
                        have q5 : (k : Int) < (S.st.length : Int) := by omega
                        have q6 : (k : Int) < (LL.length : Int) := by omega
                        have q7 : (l : Int) < ((l + 1 + LL.length : Nat) : Int) := by omega
                        have q9 : (l : Int) < (l : Int) + 1 + (LL.length : Int) := by omega
                        have q8 : (s : Int) < (l : Int) := by omega
                        clear hF hby hrf hrt hx0 hsx hsD hs eM kz
                        go_upto_region 42 with fail
                        have hbw : Below wr.heap.size wr wr.drew := bl_drew _
                        have mkS : ∀ w', Below wr.heap.size wr w' → (w'.cell? ⟨w1.heap.size, 0, none⟩ = some (.slice (some ⟨gr, 0, none⟩) LL.length cap2) ∧ w'.cell? ⟨w1.heap.size, 1, none⟩ = some (.int .i64 (l : Int)) ∧ w'.cell? ⟨gr, k, none⟩ = some (.slice (some ⟨b, 0, none⟩) (l + 1 + LL.length) c) ∧ w'.cell? ⟨b, l * 3, none⟩ = some (.slice X1 (dg x.num.natAbs).length x1) ∧ w'.cell? ⟨b, l * 3 + 1, none⟩ = some (.slice X2 (dg x.den).length x2) ∧ w'.cell? ⟨b, l * 3 + 2, none⟩ = some (.bool (decide (x.num < 0)))) := fun w' hb => ⟨cell_below hb c0, cell_below hb c1, cell_below hb e1, cell_below hb f0, cell_below hb f1, cell_below hb f2⟩
                        refine wp_region_T (fun (w' : World) => w'.cell? ⟨w1.heap.size, 0, none⟩ = some (.slice (some ⟨gr, 0, none⟩) LL.length cap2) ∧ w'.cell? ⟨w1.heap.size, 1, none⟩ = some (.int .i64 (l : Int)) ∧ w'.cell? ⟨gr, k, none⟩ = some (.slice (some ⟨b, 0, none⟩) (l + 1 + LL.length) c) ∧ w'.cell? ⟨b, l * 3, none⟩ = some (.slice X1 (dg x.num.natAbs).length x1) ∧ w'.cell? ⟨b, l * 3 + 1, none⟩ = some (.slice X2 (dg x.den).length x2) ∧ w'.cell? ⟨b, l * 3 + 2, none⟩ = some (.bool (decide (x.num < 0)))) 17 (by kernel_rfl) ?_
                        have hS : (fun (w' : World) => w'.cell? ⟨w1.heap.size, 0, none⟩ = some (.slice (some ⟨gr, 0, none⟩) LL.length cap2) ∧ w'.cell? ⟨w1.heap.size, 1, none⟩ = some (.int .i64 (l : Int)) ∧ w'.cell? ⟨gr, k, none⟩ = some (.slice (some ⟨b, 0, none⟩) (l + 1 + LL.length) c) ∧ w'.cell? ⟨b, l * 3, none⟩ = some (.slice X1 (dg x.num.natAbs).length x1) ∧ w'.cell? ⟨b, l * 3 + 1, none⟩ = some (.slice X2 (dg x.den).length x2) ∧ w'.cell? ⟨b, l * 3 + 2, none⟩ = some (.bool (decide (x.num < 0)))) _ := mkS _ hbw
                        simp only [List.size_toArray, List.length_cons, List.length_nil, Nat.reduceAdd]
                        refine wpAnyT_take 0 (some 154) (v := ?vr2_0) rfl rfl (by kernel_rfl) (by kernel_rfl) (by kernel_rfl) (by kernel_rfl) (fun _ _ _ h => h) rfl ?hyr2_0 hS ?restr2_0
                        case hyr2_0 => (intro w hSw; (try dsimp only at hSw); go_simp; (try with_reducible rfl))
                        (try simp only [Act.put, List.setIfInBounds_toArray, List.set_cons_zero, List.set_cons_succ])
                        refine wpAnyT_take 1 (some 155) (v := ?vr2_1) rfl rfl (by kernel_rfl) (by kernel_rfl) (by kernel_rfl) (by kernel_rfl) (fun _ _ _ h => h) rfl ?hyr2_1 hS ?restr2_1
                        case hyr2_1 => (intro w hSw; (try dsimp only at hSw); go_simp; (try with_reducible rfl))
                        (try simp only [Act.put, List.setIfInBounds_toArray, List.set_cons_zero, List.set_cons_succ])
                        refine wpAnyT_take 2 (some 156) (v := ?vr2_2) rfl rfl (by kernel_rfl) (by kernel_rfl) (by kernel_rfl) (by kernel_rfl) (fun _ _ _ h => h) rfl ?hyr2_2 hS ?restr2_2
                        case hyr2_2 => (intro w hSw; (try dsimp only at hSw); go_simp; (try with_reducible rfl))
                        (try simp only [Act.put, List.setIfInBounds_toArray, List.set_cons_zero, List.set_cons_succ])
                        refine wpAnyT_take 3 (some 157) (v := ?vr2_3) rfl rfl (by kernel_rfl) (by kernel_rfl) (by kernel_rfl) (by kernel_rfl) (fun _ _ _ h => h) rfl ?hyr2_3 hS ?restr2_3
                        case hyr2_3 => (intro w hSw; (try dsimp only at hSw); go_simp; (try with_reducible rfl))
                        (try simp only [Act.put, List.setIfInBounds_toArray, List.set_cons_zero, List.set_cons_succ])
                        refine wpAnyT_take 4 (some 158) (v := ?vr2_4) rfl rfl (by kernel_rfl) (by kernel_rfl) (by kernel_rfl) (by kernel_rfl) (fun _ _ _ h => h) rfl ?hyr2_4 hS ?restr2_4
                        case hyr2_4 => (intro w hSw; (try dsimp only at hSw); go_simp; (try with_reducible rfl))
                        (try simp only [Act.put, List.setIfInBounds_toArray, List.set_cons_zero, List.set_cons_succ])
                        refine wpAnyT_take 5 (some 159) (v := ?vr2_5) rfl rfl (by kernel_rfl) (by kernel_rfl) (by kernel_rfl) (by kernel_rfl) (fun _ _ _ h => h) rfl ?hyr2_5 hS ?restr2_5
                        case hyr2_5 => (intro w hSw; (try dsimp only at hSw); go_simp; (try with_reducible rfl))
                        (try simp only [Act.put, List.setIfInBounds_toArray, List.set_cons_zero, List.set_cons_succ])
                        refine wpAnyT_take 6 (some 160) (v := ?vr2_6) rfl rfl (by kernel_rfl) (by kernel_rfl) (by kernel_rfl) (by kernel_rfl) (fun _ _ _ h => h) rfl ?hyr2_6 hS ?restr2_6
                        case hyr2_6 => (intro w hSw; (try dsimp only at hSw); go_simp; (try with_reducible rfl))
                        (try simp only [Act.put, List.setIfInBounds_toArray, List.set_cons_zero, List.set_cons_succ])
                        refine wpAnyT_take 7 (some 161) (v := ?vr2_7) rfl rfl (by kernel_rfl) (by kernel_rfl) (by kernel_rfl) (by kernel_rfl) (fun _ _ _ h => h) rfl ?hyr2_7 hS ?restr2_7
                        case hyr2_7 => (intro w hSw; (try dsimp only at hSw); go_simp; (try with_reducible rfl))
                        (try simp only [Act.put, List.setIfInBounds_toArray, List.set_cons_zero, List.set_cons_succ])
                        refine wpAnyT_take 8 (some 162) (v := ?vr2_8) rfl rfl (by kernel_rfl) (by kernel_rfl) (by kernel_rfl) (by kernel_rfl) (fun _ _ _ h => h) rfl ?hyr2_8 hS ?restr2_8
                        case hyr2_8 => (intro w hSw; (try dsimp only at hSw); go_simp; (try with_reducible rfl))
                        (try simp only [Act.put, List.setIfInBounds_toArray, List.set_cons_zero, List.set_cons_succ])
                        refine wpAnyT_take 9 (some 163) (v := ?vr2_9) rfl rfl (by kernel_rfl) (by kernel_rfl) (by kernel_rfl) (by kernel_rfl) (fun _ _ _ h => h) rfl ?hyr2_9 hS ?restr2_9
                        case hyr2_9 => (intro w hSw; (try dsimp only at hSw); go_simp; (try with_reducible rfl))
                        (try simp only [Act.put, List.setIfInBounds_toArray, List.set_cons_zero, List.set_cons_succ])
                        refine wpAnyT_take 10 (some 164) (v := ?vr2_10) rfl rfl (by kernel_rfl) (by kernel_rfl) (by kernel_rfl) (by kernel_rfl) (fun _ _ _ h => h) rfl ?hyr2_10 hS ?restr2_10
                        case hyr2_10 => (intro w hSw; (try dsimp only at hSw); go_simp; (try with_reducible rfl))
                        (try simp only [Act.put, List.setIfInBounds_toArray, List.set_cons_zero, List.set_cons_succ])
                        refine wpAnyT_take 11 (some 165) (v := ?vr2_11) rfl rfl (by kernel_rfl) (by kernel_rfl) (by kernel_rfl) (by kernel_rfl) (fun _ _ _ h => h) rfl ?hyr2_11 hS ?restr2_11
                        case hyr2_11 => (intro w hSw; (try dsimp only at hSw); go_simp; (try with_reducible rfl))
                        (try simp only [Act.put, List.setIfInBounds_toArray, List.set_cons_zero, List.set_cons_succ])
                        refine wpAnyT_take 12 (some 166) (v := ?vr2_12) rfl rfl (by kernel_rfl) (by kernel_rfl) (by kernel_rfl) (by kernel_rfl) (fun _ _ _ h => h) rfl ?hyr2_12 hS ?restr2_12
                        case hyr2_12 => (intro w hSw; (try dsimp only at hSw); go_simp; (try with_reducible rfl))
                        (try simp only [Act.put, List.setIfInBounds_toArray, List.set_cons_zero, List.set_cons_succ])
                        refine wpAnyT_take 13 (some 167) (v := ?vr2_13) rfl rfl (by kernel_rfl) (by kernel_rfl) (by kernel_rfl) (by kernel_rfl) (fun _ _ _ h => h) rfl ?hyr2_13 hS ?restr2_13
                        case hyr2_13 => (intro w hSw; (try dsimp only at hSw); go_simp; (try with_reducible rfl))
                        (try simp only [Act.put, List.setIfInBounds_toArray, List.set_cons_zero, List.set_cons_succ])
                        refine wpAnyT_take 14 (some 168) (v := ?vr2_14) rfl rfl (by kernel_rfl) (by kernel_rfl) (by kernel_rfl) (by kernel_rfl) (fun _ _ _ h => h) rfl ?hyr2_14 hS ?restr2_14
                        case hyr2_14 => (intro w hSw; (try dsimp only at hSw); go_simp; (try with_reducible rfl))
                        (try simp only [Act.put, List.setIfInBounds_toArray, List.set_cons_zero, List.set_cons_succ])
                        refine wpAnyT_one (i := 15) rfl (by kernel_rfl) rfl (fun K hK => ?_)
                        simp only [List.getElem_toArray, List.getElem_cons_succ, List.getElem_cons_zero]
                        go_simp
                        go_at_call 65
                        with_reducible refine (told_calls _ _ x (HRT.out.below hbw) HSX.out).mono ?_
                        rintro e w9 ⟨v9, rfl, hv9, hb9⟩
                        obtain ⟨P1, p1, P2, p2, rfl, _, _, _, _⟩ := FrIn.shape hv9
                        have hbw := bl_trans hbw hb9
                        have hS2 := mkS _ hbw
                        refine hK.out _ _ (fun _ => hS2) ?_
                        clear hS K hK
                        have hS := hS2
                        clear hS2
                        (try simp only [Act.put, List.setIfInBounds_toArray, List.set_cons_zero, List.set_cons_succ])
                        refine wpAnyT_take 16 (some 170) (v := ?vr2_16) rfl rfl (by kernel_rfl) (by kernel_rfl) (by kernel_rfl) (by kernel_rfl) (fun _ _ _ h => h) rfl ?hyr2_16 hS ?restr2_16
                        case hyr2_16 => (intro w hSw; (try dsimp only at hSw); go_simp; (try with_reducible rfl))
                        (try simp only [Act.put, List.setIfInBounds_toArray, List.set_cons_zero, List.set_cons_succ])
                        refine wpAnyT_one (i := 17) rfl (by kernel_rfl) rfl (fun K hK => ?_)
                        have HF9 := Lib.hid (HF2.out.below hbw)
                        have HB9 := Lib.hid (bl_trans HBY.out hbw)
                        have HV9 := Lib.hid hv9
                        obtain ⟨x0, t0, _⟩ := HF9.out.there (j := s * 3) (by omega)
                        obtain ⟨x1, t1, _⟩ := HF9.out.there (j := s * 3 + 1) (by omega)
                        obtain ⟨x2, t2, _⟩ := HF9.out.there (j := s * 3 + 2) (by omega)
                        have ff := HF9.out.free
                        simp only [List.getElem_toArray, List.getElem_cons_succ, List.getElem_cons_zero]
                        go_simp
                        refine hK.out _ _ (fun h => absurd rfl h) ?_
                        refine wpAnyT_done (by kernel_rfl) ?_ _
                        have hlt : True := trivial
                        clear hS K hK mkS hbw hv9 hb9
                        go_wp2
                        refine ⟨⟨k + 1, by omega, by go_num, ?_, ((HB9.out.setCell (Nat.le_refl _) _).setCell (Nat.le_refl _) _).setCell (Nat.le_refl _) _⟩, by simp [intOf]; omega⟩
                        have h := (FB.set (d := dq x) HF9.out HSL.out HV9.out).1
                        refine FB.congr h (fun j _ => ?_)
                        show _ = dq (if j = S.st.getD k 0 then S.M k l else xs S l k j)
                        rw [HSD.out]
                        by_cases hj : j = s
                        · rw [hj, upd_at, if_pos rfl, HX.out]
                        · rw [upd_ne hj, if_neg hj]
                      · obtain rfl : k = S.st.length := by omega
                        have q5 : ¬ (S.st.length : Int) < (S.st.length : Int) := by omega
                        clear hF hby
                        go_wp2
                        try simp only [Exit.inBlock, Exit.then]
                        refine bodyPost_ret (results_tmp4 rfl _ _ _) rfl ?_
                        unfold LinP
                        rw [← HS.out, ← HN.out]
                        exact ⟨bl_trans HBO.out HBY.out, .inr (.inl ⟨HU.out, HLR.out, HOK.out, _, rfl, HBO.out.size, HF2.out⟩)⟩
    · have h12 : formE LL (-1) = 12 := by unfold formE at hu ⊢; split at hu <;> first | exact absurd rfl hu | (rw [if_neg (by assumption)])
      have hun : ¬ unif LL := fun h => hu (formE_ok ⟨h, fun k => by omega⟩)
      have HF := Lib.hid h12
      have HU := Lib.hid hun
      have q0 : ((LL.length : Int) != (Rl.length : Int)) = false := by rw [hlr]; simp
      have q9 : ((12 : Int) != 0) = true := rfl
      clear hu h12 hun hlr
      go_enter Try.func55, Try.ntmps55
      go_wp2_with fail
      refine (form_calls _ _ LL HA.out hR (fun L h => (hf L h).1)).mono ?_
      rintro e w1 ⟨rfl, rfl⟩
      rw [HF.out]
      go_wp2
      try simp only [Exit.inBlock, Exit.then]
      refine bodyPost_ret (results_tmp4 rfl _ _ _) rfl ?_
      exact ⟨Below.refl _ _, .inl ⟨fun h => HU.out h.1, rfl⟩⟩
  · have q0 : ((LL.length : Int) != (Rl.length : Int)) = true := bne_iff_ne.2 (by omega)
    have HLR := Lib.hid hlr
    clear hlr
    go_enter Try.func55, Try.ntmps55
    go_wp2
    try simp only [Exit.inBlock, Exit.then]
    refine bodyPost_ret (results_tmp4 rfl _ _ _) rfl ?_
    exact ⟨Below.refl _ _, .inl ⟨fun h => HLR.out h.2, rfl⟩⟩
end Go.Proofs.Ytdmgceckmciifaa
