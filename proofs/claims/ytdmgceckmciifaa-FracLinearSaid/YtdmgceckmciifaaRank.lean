/- Systems of equations: frac.Rank. -/
import Derived.Test.YtdmgceckmciifaaProw
set_option linter.unusedVariables false
set_option linter.unusedSimpArgs false
namespace Go.Proofs.Ytdmgceckmciifaa
open Go.RowKit

def ratL (LL : List (List (Bool × List Int × List Int))) : List (List Rat) := LL.map (List.map fqd)
set_option maxRecDepth 100000 in
set_option maxHeartbeats 8000000 in
theorem rank_calls (w : World) (va : Value) (LL : List (List (Bool × List Int × List Int))) (ha : FLL w va LL) (hR : LL.length ≤ 72) (hf : ∀ L ∈ LL, L.length ≤ 72 ∧ FewD 2000 L)
    (hz : unif LL → ∀ col i j, col ≤ colsN LL → i < LL.length → j < colsN LL → Szq 1000 ((gj (matL (ratL LL)) LL.length col).M i j)) :
    Calls Try.prog 59 #[va] w fun e w' => e = .returned (.tuple #[.int .i64 (if formE LL (-1) = 0 then ((gj (matL (ratL LL)) LL.length (colsN LL)).st.length : Int) else 0), .int .i64 (formE LL (-1))]) ∧ Below w.heap.size w w' := by
  have HA := Lib.hid ha
  obtain ⟨A, c, rfl⟩ := ha.shape
  have hcc := ha.bounds
  have HZ0 := Lib.hid hz
  clear hz
  by_cases hu : formE LL (-1) = 0
  · have hun : unif LL := by
      apply Classical.byContradiction
      intro h
      rw [formE_no (fun k => h k.1)] at hu
      cases hu
    have HF := Lib.hid hu
    have HU := Lib.hid hun
    have HZ := Lib.hid (HZ0.out hun)
    clear ha hu hun
    go_enter Try.func59, Try.ntmps59
    go_wp2_with fail
    refine (form_calls _ _ LL HA.out hR (fun L h => (hf L h).1)).mono ?_
    rintro e w1 ⟨rfl, rfl⟩
    rw [HF.out]
    go_wp2
    go_loopw [17] (fun i wr => ∃ (k : Nat) (v : Value), k ≤ LL.length ∧ i = .int .i64 (k : Int) ∧ Blk wr w1.heap.size 97 #[v, .int .i64 ((if k = 0 then 0 else colsN LL : Nat) : Int), .slice none 0 0] ∧ PR wr w1.heap.size wr.heap.size v ((ratL LL).take k) ∧ Below w1.heap.size w1 wr)
      (fun i _ => LL.length - (intOf i).toNat)
    case atStart => exact ⟨0, _, by omega, rfl, Blk.new _ _ _, PR.nil _ _ _, below_alloc0 _ _⟩
    case round =>
      obtain ⟨k, v, hk, rfl, hK, hP, hb⟩ := hrel
      have HP := Lib.hid hP
      have HB := Lib.hid hb
      have HK := Lib.hid hK
      have hge := hb.size
      by_cases hx : k < LL.length
      · obtain ⟨L, hL⟩ : ∃ L, LL[k]? = some L := ⟨_, List.getElem?_eq_getElem hx⟩
        obtain ⟨ad, c', A1, c1, hv, _, _, e0, hc1, hc2, hfl⟩ := HA.out.at hL
        obtain ⟨rfl, rfl⟩ : A = some ad ∧ c = c' := by simpa using hv
        have few := hf L (List.mem_of_getElem? hL)
        have hlen := Lib.hid (show L.length = colsN LL from HU.out L (List.mem_of_getElem? hL))
        replace e0 := cell_below hb e0
        have q1 : (k : Int) < (LL.length : Int) := by omega
        have k1 := hK.cell 1
        have kf := hK.free
        have HK1 := Lib.hid (show Blk (wr.setCell ⟨w1.heap.size, 1, none⟩ (.int .i64 (L.length : Int))) w1.heap.size 97 #[v, .int .i64 (L.length : Int), .slice none 0 0] from hK.set 1 _)
        have HP1 := Lib.hid (show PR (wr.setCell ⟨w1.heap.size, 1, none⟩ (.int .i64 (L.length : Int))) w1.heap.size wr.heap.size v ((ratL LL).take k) from hP.set hK k1 (by intro n h; cases h) _)
        have HB1 := Lib.hid (show Below w1.heap.size w1 (wr.setCell ⟨w1.heap.size, 1, none⟩ (.int .i64 (L.length : Int))) from hb.setCell (Nat.le_refl _) _)
        have HSZ := Lib.hid (show (wr.setCell ⟨w1.heap.size, 1, none⟩ (.int .i64 (L.length : Int))).heap.size = wr.heap.size by simp)
        have HFL := Lib.hid hfl
        have HL := Lib.hid hL
        clear hP hb hK hL hv hfl
        go_upto_region 9 with fail
        obtain ⟨wo, hwo⟩ : ∃ x, x = wr.setCell ⟨w1.heap.size, 1, none⟩ (.int .i64 (L.length : Int)) := ⟨_, rfl⟩
        rw [← hwo] at HK1 HP1 HB1 HSZ ⊢
        clear hwo
        have HFO := Lib.hid (HFL.out.below (show Below w1.heap.size w1 wo from HB1.out))
        have hFD := Lib.hid (show FewD 2048 L from fun d hd => ⟨by have := few.2 d hd; omega, by have := few.2 d hd; omega⟩)
        have mkS : ∀ w', Below wo.heap.size wo w' → (Below w1.heap.size w1 w' ∧ w'.cell? ⟨w1.heap.size, 0, none⟩ = some v) := fun w' hb => ⟨bl_trans HB1.out hb, cell_below hb (HK1.out.cell 0)⟩
        have hbw : Below wo.heap.size wo wo.drew := bl_drew _
        refine wp_region_T (fun w' => Below w1.heap.size w1 w' ∧ w'.cell? ⟨w1.heap.size, 0, none⟩ = some v) 11 (by kernel_rfl) ?_
        have hS : (fun w' => Below w1.heap.size w1 w' ∧ w'.cell? ⟨w1.heap.size, 0, none⟩ = some v) _ := mkS _ hbw
        simp only [List.size_toArray, List.length_cons, List.length_nil, Nat.reduceAdd]
        refine wpAnyT_take 0 (some 26) (v := ?vr1_0) rfl rfl (by kernel_rfl) (by kernel_rfl) (by kernel_rfl) (by kernel_rfl) (fun _ _ _ h => h) rfl ?hyr1_0 hS ?restr1_0
        case hyr1_0 => (intro w hSw; (try dsimp only at hSw); go_simp; (try with_reducible rfl))
        (try simp only [Act.put, List.setIfInBounds_toArray, List.set_cons_zero, List.set_cons_succ])
        refine wpAnyT_take 1 (some 27) (v := ?vr1_1) rfl rfl (by kernel_rfl) (by kernel_rfl) (by kernel_rfl) (by kernel_rfl) (fun _ _ _ h => h) rfl ?hyr1_1 hS ?restr1_1
        case hyr1_1 => (intro w hSw; (try dsimp only at hSw); go_simp; (try with_reducible rfl))
        (try simp only [Act.put, List.setIfInBounds_toArray, List.set_cons_zero, List.set_cons_succ])
        refine wpAnyT_take 2 (some 28) (v := ?vr1_2) rfl rfl (by kernel_rfl) (by kernel_rfl) (by kernel_rfl) (by kernel_rfl) (fun _ _ _ h => h) rfl ?hyr1_2 hS ?restr1_2
        case hyr1_2 => (intro w hSw; (try dsimp only at hSw); go_simp; (try with_reducible rfl))
        (try simp only [Act.put, List.setIfInBounds_toArray, List.set_cons_zero, List.set_cons_succ])
        refine wpAnyT_take 3 (some 29) (v := ?vr1_3) rfl rfl (by kernel_rfl) (by kernel_rfl) (by kernel_rfl) (by kernel_rfl) (fun _ _ _ h => h) rfl ?hyr1_3 hS ?restr1_3
        case hyr1_3 => (intro w hSw; (try dsimp only at hSw); go_simp; (try with_reducible rfl))
        (try simp only [Act.put, List.setIfInBounds_toArray, List.set_cons_zero, List.set_cons_succ])
        refine wpAnyT_take 4 (some 30) (v := ?vr1_4) rfl rfl (by kernel_rfl) (by kernel_rfl) (by kernel_rfl) (by kernel_rfl) (fun _ _ _ h => h) rfl ?hyr1_4 hS ?restr1_4
        case hyr1_4 => (intro w hSw; (try dsimp only at hSw); go_simp; (try with_reducible rfl))
        (try simp only [Act.put, List.setIfInBounds_toArray, List.set_cons_zero, List.set_cons_succ])
        refine wpAnyT_take 5 (some 31) (v := ?vr1_5) rfl rfl (by kernel_rfl) (by kernel_rfl) (by kernel_rfl) (by kernel_rfl) (fun _ _ _ h => h) rfl ?hyr1_5 hS ?restr1_5
        case hyr1_5 => (intro w hSw; (try dsimp only at hSw); go_simp; (try with_reducible rfl))
        (try simp only [Act.put, List.setIfInBounds_toArray, List.set_cons_zero, List.set_cons_succ])
        refine wpAnyT_one (i := 6) rfl (by kernel_rfl) rfl (fun K hK => ?_)
        simp only [List.getElem_toArray, List.getElem_cons_succ, List.getElem_cons_zero]
        go_simp
        go_at_call 87
        with_reducible refine (all_calls _ _ L (HFO.out.below hbw) (by omega) hFD.out).mono ?_
        rintro e w5 ⟨g5, rfl, hg5, hRL, hb5⟩
        have hOL : OL w5 wr.heap.size (.slice (some ⟨g5, 0, none⟩) L.length L.length) (L.map fqd) := by have h := OL.of_rl (w := w5) (qs := L.map fqd) (B := wr.heap.size) (by rw [List.length_map]; exact hRL) (by have := hbw.size; have := HSZ.out; omega) (by rw [List.length_map]; omega); rw [List.length_map] at h; exact h
        have hbw := bl_trans hbw hb5
        have hS2 := mkS _ hbw
        refine hK.out _ _ (fun _ => hS2) ?_
        clear hS K hK
        have hS := hS2
        clear hS2
        (try simp only [Act.put, List.setIfInBounds_toArray, List.set_cons_zero, List.set_cons_succ])
        refine wpAnyT_one (i := 7) rfl (by kernel_rfl) rfl (fun K hK => ?_)
        simp only [List.getElem_toArray, List.getElem_cons_succ, List.getElem_cons_zero]
        go_simp
        have al := below_alloc0 w5 (.cells #[.slice (some ⟨g5, 0, none⟩) L.length L.length] 79)
        have KB := Blk.new w5 79 #[.slice (some ⟨g5, 0, none⟩) L.length L.length]
        have hbw := bl_trans hbw al
        have hS2 := mkS _ hbw
        refine hK.out _ _ (fun _ => hS2) ?_
        clear hS K hK
        have hS := hS2
        clear hS2
        (try simp only [Act.put, List.setIfInBounds_toArray, List.set_cons_zero, List.set_cons_succ])
        refine wpAnyT_one (i := 8) rfl (by kernel_rfl) rfl (fun K hK => ?_)
        simp only [List.getElem_toArray, List.getElem_cons_succ, List.getElem_cons_zero]
        obtain ⟨v8, w8, hrun, hP8, hfr8⟩ := PR.push (L := L.map fqd) (PR.below HP1.out hbw) hge (by rw [← HSZ.out]; exact hbw.size) KB (OL.below hOL al) (by simp; omega)
        have hb8 : Below w1.heap.size w1 w8 := Below.trans (bl_trans HB1.out hbw) (hfr8.below (bl_trans HB1.out hbw).size (fun g hg => PR.block HP1.out hg))
        have K8 := PR.blk (PR.below HP1.out hbw) (Blk.below HK1.out hbw) hfr8
        obtain ⟨A8, c8, rfl, _, _⟩ := hP8.shape
        generalize hl8 : ((ratL LL).take k ++ [L.map fqd]).length = l8 at *
        refine wp_append_run _ (.tmp 30) (.tmp 33) 94 _ _ rfl rfl rfl ⟨_, w8, hrun, ?_⟩
        have hS8 : Below w1.heap.size w1 w8 ∧ w8.cell? ⟨w1.heap.size, 0, none⟩ = some v := ⟨hb8, K8.cell 0⟩
        refine hK.out _ _ (fun _ => hS8) ?_
        clear hS K hK hrun
        have hS := hS8
        have kf8 := K8.free 0
        have k80 := hS8.2
        (try simp only [Act.put, List.setIfInBounds_toArray, List.set_cons_zero, List.set_cons_succ])
        refine wpAnyT_one (i := 9) rfl (by kernel_rfl) rfl (fun K hK => ?_)
        simp only [List.getElem_toArray, List.getElem_cons_succ, List.getElem_cons_zero]
        go_simp
        refine hK.out _ _ (fun _ => hS) ?_
        clear K hK
        (try simp only [Act.put, List.setIfInBounds_toArray, List.set_cons_zero, List.set_cons_succ])
        refine wpAnyT_one (i := 10) rfl (by kernel_rfl) rfl (fun K hK => ?_)
        simp only [List.getElem_toArray, List.getElem_cons_succ, List.getElem_cons_zero]
        go_simp
        refine hK.out _ _ (fun _ => hS) ?_
        clear K hK
        (try simp only [Act.put, List.setIfInBounds_toArray, List.set_cons_zero, List.set_cons_succ])
        refine wpAnyT_one (i := 11) rfl (by kernel_rfl) rfl (fun K hK => ?_)
        simp only [List.getElem_toArray, List.getElem_cons_succ, List.getElem_cons_zero]
        go_simp
        refine hK.out _ _ (fun h => absurd rfl h) ?_
        refine wpAnyT_done (by kernel_rfl) ?_ _
        obtain ⟨Av, cv, hvs, _⟩ := HP1.out.shape
        have hP9 := Lib.hid (hP8.set K8 (K8.cell 0) (by rw [hvs]; intro n h; cases h) (.slice A8 l8 c8))
        have K9 := Lib.hid (K8.set 0 (.slice A8 l8 c8))
        have HB9 := Lib.hid (hb8.setCell (p := ⟨w1.heap.size, 0, none⟩) (Nat.le_refl w1.heap.size) (.slice A8 l8 c8))
        have HN := Lib.hid (show (ratL LL).take (k + 1) = (ratL LL).take k ++ [L.map fqd] by unfold ratL; rw [← List.map_take, ← List.map_take, take_snocL HL.out, List.map_append]; rfl)
        clear K hK mkS hS hS8 kf8 k80 K8 hP8 hfr8 hb8 hbw KB al hRL hOL hg5 hb5
        go_wp2
        refine ⟨⟨k + 1, .slice A8 l8 c8, by omega, by go_num, ?_, ?_, ?_⟩, by simp [intOf]; omega⟩
        · rw [if_neg (by omega), ← hlen.out]; exact K9.out
        · rw [HN.out]; have h := hP9.out; simpa using h
        · exact HB9.out
      · obtain rfl : k = LL.length := by omega
        have hP2 := HP.out
        rw [List.take_of_length_le (by simp [ratL])] at hP2
        have q1 : ¬ (LL.length : Int) < (LL.length : Int) := by omega
        obtain ⟨Av, cv, rfl, _, _⟩ := hP2.shape
        by_cases h0 : 0 < LL.length ∧ 0 < colsN LL
        · have hne : LL.length ≠ 0 := by omega
          have hK2 : Blk wr w1.heap.size 97 #[.slice Av (ratL LL).length cv, .int .i64 (colsN LL : Int), .slice none 0 0] := by
            have h := HK.out
            rw [if_neg hne] at h
            exact h
          have hlen : (ratL LL).length = LL.length := by simp [ratL]
          have hul : ∀ L ∈ ratL LL, L.length = colsN LL := by
            intro L hL
            obtain ⟨M, hM, rfl⟩ := List.mem_map.1 hL
            rw [List.length_map]; exact HU.out M hM
          have hc72 : colsN LL ≤ 72 := by
            obtain ⟨L, hL⟩ : ∃ L, LL[0]? = some L := ⟨_, List.getElem?_eq_getElem (by omega)⟩
            have h1 := (hf L (List.mem_of_getElem? hL)).1
            have h2 := HU.out L (List.mem_of_getElem? hL)
            omega
          have HP2 := Lib.hid hP2
          have HK2 := Lib.hid hK2
          have HQ := Lib.hid hlen
          have HUL := Lib.hid hul
          clear hK hP hb hP2 hK2 hlen hul
          go_wp2_with fail
          refine (reduce_pr w1 _ _ _ _ _ _ (ratL LL) HP2.out HK2.out (by rw [HQ.out]; omega) (by omega) (Nat.le_refl _) (fun _ => h0.2) (fun h => absurd (HQ.out.symm.trans h) hne) HUL.out HB.out (Nat.le_refl _) (by rw [HQ.out]; exact HZ.out)).mono ?_
          rintro e w7 ⟨rfl, h7⟩
          rw [HQ.out] at h7
          obtain ⟨Ar, cap, As, cs, K7, _, _, _, _, _, _, hb7⟩ := h7
          have k2 := K7.cell 2
          have HB7 := Lib.hid hb7
          clear hb7
          go_wp2
          go_ret2
          exact ⟨rfl, HB7.out⟩
        · have hn0 : colsN LL = 0 := by
            rcases Nat.eq_zero_or_pos LL.length with h | h
            · have : LL = [] := List.eq_nil_of_length_eq_zero h
              subst this; rfl
            · omega
          have HN0 := Lib.hid hn0
          have hK2 : Blk wr w1.heap.size 97 #[.slice Av (ratL LL).length cv, .int .i64 0, .slice none 0 0] := by
            have h := HK.out
            rw [hn0] at h
            simpa using h
          have HK2 := Lib.hid hK2
          clear hK hP hb hP2 hn0 hK2 h0
          go_wp2_with fail
          refine (reduce0_calls _ _ _ _ _ _ rfl HK2.out (by simp [ratL]; omega)).mono ?_
          rintro e w7 ⟨rfl, hb7⟩
          have K7 := HK2.out.below hb7
          have k2 := K7.cell 2
          go_wp2
          go_ret2
          exact ⟨by rw [HN0.out]; first | rfl | simp [gj], bl_trans HB.out hb7⟩
  · have h12 : formE LL (-1) = 12 := by unfold formE at hu ⊢; split at hu <;> first | exact absurd rfl hu | (rw [if_neg (by assumption)])
    have HF := Lib.hid h12
    clear ha hu h12
    go_enter Try.func59, Try.ntmps59
    go_wp2_with fail
    refine (form_calls _ _ LL HA.out hR (fun L h => (hf L h).1)).mono ?_
    rintro e w1 ⟨rfl, rfl⟩
    rw [HF.out]
    go_wp2
    all_goals
      go_ret2
      first
        | exact absurd (HF.out.symm.trans (by assumption : formE LL (-1) = 0)) (by decide)
        | exact ⟨by first | rfl | (rw [HF.out]; rfl), Below.refl _ _⟩
end Go.Proofs.Ytdmgceckmciifaa
