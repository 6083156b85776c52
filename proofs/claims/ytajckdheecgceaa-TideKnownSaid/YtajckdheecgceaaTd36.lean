/- TideKnown: the law's walk. -/
import Derived.Test.YtajckdheecgceaaTd35
set_option linter.unusedVariables false
set_option linter.unusedSimpArgs false
namespace Go.Proofs.Ytajckdheecgceaa
open Go.RowKit

theorem known_of {L M : List VD} {D K : Nat} {day : Int} (hl : L.length = M.length) (hn : AlN day L M L.length) (hr : rightN (D : Int) (K : Int) L = 0) {i : Nat} {x : VD} (hx : L[i]? = some x) :
    ((tdOf L).sold K D i ≤ day → (tdOf L).sold K D i ≠ 0 → (tdOf M).sold K D i = (tdOf L).sold K D i) ∧ ((tdOf M).sold K D i ≤ day → (tdOf M).sold K D i ≠ 0 → (tdOf M).sold K D i = (tdOf L).sold K D i) ∧ (x.2.1 ≤ day → (tdOf L).pay K D i = (tdOf M).pay K D i) := by
  have hi := (List.getElem?_eq_some_iff.1 hx).1
  have ha := alike_of hl hn
  obtain ⟨z1, z2, z3⟩ := rightN_zero hr
  have gx := bad_no (z3 i x hx)
  obtain ⟨t1, t2, t3⟩ := tdOf_at hx
  have hn : i < (tdOf L).n := hi
  exact ⟨fun h1 h2 => Td.known ha K D i h1 h2, fun h1 h2 => (Td.known (Td.alike_symm ha) K D i h1 h2).symm, fun h => Td.known_pay ha hn (by rw [t1]; omega) (by rw [t1, t2]; omega) (by rw [t2]; omega) (by rw [t2]; exact h)⟩
theorem kn_next {w w1 w2 : World} {a0 a1 : Addr} {x0 x1 : Value} (hb : Below w1.heap.size w1 w2)
    (h : Below w.heap.size w w1 ∧ w1.cell? a0 = some x0 ∧ w1.cell? a1 = some x1) : Below w.heap.size w w2 ∧ w2.cell? a0 = some x0 ∧ w2.cell? a1 = some x1 := ⟨bl_trans h.1 hb, cell_below hb h.2.1, cell_below hb h.2.2⟩
theorem knh_next {w w1 w2 : World} {v1 v2 : Value} {p q : Rat} {a0 a1 a2 a3 a4 a5 a6 a7 : Addr} {x0 x1 x2 x3 x4 x5 x6 x7 : Value} (hb : Below w1.heap.size w1 w2)
    (h : SelH w v1 v2 p q w1 ∧ w1.cell? a0 = some x0 ∧ w1.cell? a7 = some x7 ∧ (w1.cell? a1 = some x1 ∧ w1.cell? a2 = some x2 ∧ w1.cell? a3 = some x3) ∧ (w1.cell? a4 = some x4 ∧ w1.cell? a5 = some x5 ∧ w1.cell? a6 = some x6)) :
    SelH w v1 v2 p q w2 ∧ w2.cell? a0 = some x0 ∧ w2.cell? a7 = some x7 ∧ (w2.cell? a1 = some x1 ∧ w2.cell? a2 = some x2 ∧ w2.cell? a3 = some x3) ∧ (w2.cell? a4 = some x4 ∧ w2.cell? a5 = some x5 ∧ w2.cell? a6 = some x6) := by
  obtain ⟨h0, e0, e7, ⟨e1, e2, e3⟩, ⟨e4, e5, e6⟩⟩ := h
  exact ⟨h0.next hb, cell_below hb e0, cell_below hb e7, ⟨cell_below hb e1, cell_below hb e2, cell_below hb e3⟩, ⟨cell_below hb e4, cell_below hb e5, cell_below hb e6⟩⟩
set_option maxRecDepth 100000 in
set_option maxHeartbeats 16000000 in
theorem law_known (w : World) (days each days2 each2 day : Int) (va vb : Value) (L M : List VD) (h : VL w va L) (hf : FewV 4611686018427387903 L) (g : VL w vb M) (hf2 : FewV 4611686018427387903 M) :
    Calls Try.prog 5 #[.agg #[.int .i64 days, .int .i64 each, va], .agg #[.int .i64 days2, .int .i64 each2, vb], .int .i64 day] w fun e w' => e = .returned (.bool true) ∧ Below w.heap.size w w' := by
  obtain ⟨A, c, rfl⟩ := h.shape
  obtain ⟨B, c2, rfl⟩ := g.shape
  have HV := Lib.hid h
  have HU := Lib.hid g
  have hcc := h.bounds
  have hcd := g.bounds
  have HFF := Lib.hid hf
  have HFG := Lib.hid hf2
  have HWD := Lib.hid h.wd
  have HWE := Lib.hid g.wd
  have hfin : ∀ (wz : World), Below w.heap.size w wz → Calls Try.prog 24 #[] wz fun e w' => e = .returned (.bool true) ∧ Below w.heap.size w w' := fun wz hb => (tfixed_calls wz).mono (fun e w' h => ⟨h.1, bl_trans hb h.2⟩)
  have HFIN := Lib.hid hfin
  obtain ⟨wa, hwa⟩ : ∃ W, W = w.alloc (.cells #[.int .i64 days, .int .i64 each, .slice A L.length c] 24) := ⟨_, rfl⟩
  obtain ⟨wb, hwb⟩ : ∃ W, W = wa.alloc (.cells #[.int .i64 days2, .int .i64 each2, .slice B M.length c2] 24) := ⟨_, rfl⟩
  have sa : wa.heap.size = w.heap.size + 1 := by rw [hwa]; simp
  have ba : Below w.heap.size w wa := by rw [hwa]; exact below_alloc0 _ _
  have bb : Below wa.heap.size wa wb := by rw [hwb]; exact below_alloc0 _ _
  have KA : Blk wa w.heap.size 24 #[.int .i64 days, .int .i64 each, .slice A L.length c] := by rw [hwa]; exact Blk.new _ _ _
  have KB : Blk wb (w.heap.size + 1) 24 #[.int .i64 days2, .int .i64 each2, .slice B M.length c2] := by rw [hwb, ← sa]; exact Blk.new _ _ _
  have HB0 := Lib.hid (bl_trans ba bb)
  have HK0 := Lib.hid (KA.below bb)
  have HT0 := Lib.hid KB
  have HWB := Lib.hid (show (w.alloc (.cells #[.int .i64 days, .int .i64 each, .slice A L.length c] 24)).alloc (.cells #[.int .i64 days2, .int .i64 each2, .slice B M.length c2] 24) = wb by rw [hwb, hwa])
  clear h g hf hf2 hfin hwa hwb sa ba bb KA KB
  have k0 := HK0.out.cell 0
  have k1 := HK0.out.cell 1
  have k2 := HK0.out.cell 2
  have o0 := HT0.out.cell 0
  have o1 := HT0.out.cell 1
  have o2 := HT0.out.cell 2
  go_enter Try.func5, Try.ntmps5
  go_upto_region 1 with fail
  rw [HWB.out]
  go_wp2_with fail
  refine (beyond_calls _ days each A c L (HV.out.below HB0.out) HFF.out).mono ?_
  rintro e w1 ⟨b, rfl, hbey, hb1⟩
  have HB1 := Lib.hid (bl_trans HB0.out hb1)
  have HK1 := Lib.hid (HK0.out.below hb1)
  have HT1 := Lib.hid (HT0.out.below hb1)
  clear hb1 k0 k1 k2 o0 o1 o2
  cases b
  case true =>
    clear hbey
    go_wp2_with fail
    refine (HFIN.out _ HB1.out).mono ?_
    rintro e wf ⟨rfl, hbf⟩
    have HBF := Lib.hid hbf
    clear hbf
    go_wp2
    go_ret
    exact ⟨rfl, HBF.out⟩
  obtain ⟨hL20, hF⟩ := hbey rfl
  have HF := Lib.hid hF
  clear hbey hF
  have k0 := HK1.out.cell 0
  have k1 := HK1.out.cell 1
  have k2 := HK1.out.cell 2
  have o0 := HT1.out.cell 0
  have o1 := HT1.out.cell 1
  have o2 := HT1.out.cell 2
  go_wp2_with fail
  refine (beyond_calls _ days2 each2 B c2 M (HU.out.below HB1.out) HFG.out).mono ?_
  rintro e w2 ⟨b, rfl, hbey, hb2⟩
  have HB2 := Lib.hid (bl_trans HB1.out hb2)
  have HK2 := Lib.hid (HK1.out.below hb2)
  have HT2 := Lib.hid (HT1.out.below hb2)
  clear hb2 k0 k1 k2 o0 o1 o2
  cases b
  case true =>
    clear hbey
    go_wp2_with fail
    refine (HFIN.out _ HB2.out).mono ?_
    rintro e wf ⟨rfl, hbf⟩
    have HBF := Lib.hid hbf
    clear hbf
    go_wp2
    go_ret
    exact ⟨rfl, HBF.out⟩
  obtain ⟨hM20, hG⟩ := hbey rfl
  have HG := Lib.hid hG
  clear hbey hG
  have k0 := HK2.out.cell 0
  have k1 := HK2.out.cell 1
  have k2 := HK2.out.cell 2
  have o0 := HT2.out.cell 0
  have o1 := HT2.out.cell 1
  have o2 := HT2.out.cell 2
  go_wp2_with fail
  refine (alike_calls _ days each days2 each2 day A B c c2 L M (HV.out.below HB2.out) (HU.out.below HB2.out) (by omega) (HF.out.mono (by omega)) (HG.out.mono (by omega))).mono ?_
  rintro e w3 ⟨b, rfl, hal, hb3⟩
  have HB3 := Lib.hid (bl_trans HB2.out hb3)
  have HK3 := Lib.hid (HK2.out.below hb3)
  have HT3 := Lib.hid (HT2.out.below hb3)
  clear hb3 k0 k1 k2 o0 o1 o2
  cases b
  case false =>
    clear hal
    go_wp2_with fail
    refine (HFIN.out _ HB3.out).mono ?_
    rintro e wf ⟨rfl, hbf⟩
    have HBF := Lib.hid hbf
    clear hbf
    go_wp2
    go_ret
    exact ⟨rfl, HBF.out⟩
  obtain ⟨rfl, rfl, hML, hAN⟩ := hal rfl
  have HML := Lib.hid hML.symm
  have HAN := Lib.hid hAN
  clear hal hML hAN
  have k0 := HK3.out.cell 0
  have k1 := HK3.out.cell 1
  have k2 := HK3.out.cell 2
  have o0 := HT3.out.cell 0
  have o1 := HT3.out.cell 1
  have o2 := HT3.out.cell 2
  obtain ⟨r, hr⟩ : ∃ r, r = rightN days each L := ⟨_, rfl⟩
  have HR := Lib.hid hr
  obtain ⟨rs, hrs⟩ : ∃ r, r = rightN days each M := ⟨_, rfl⟩
  have HRS := Lib.hid hrs
  clear hr hrs
  go_wp2_with fail
  refine (rtright_calls _ days each A c L (HV.out.below HB3.out)).mono ?_
  rintro e w4 ⟨rfl, hb4⟩
  rw [← HR.out]
  have HB4 := Lib.hid (bl_trans HB3.out hb4)
  have HK4 := Lib.hid (HK3.out.below hb4)
  have HT4 := Lib.hid (HT3.out.below hb4)
  clear hb4 k0 k1 k2 o0 o1 o2
  by_cases hr0 : r = 0
  case neg =>
    have g9 : ((r : Int) != 0) = true := bne_iff_ne.2 hr0
    clear hr0
    go_wp2_with fail
    refine (HFIN.out _ HB4.out).mono ?_
    rintro e wf ⟨rfl, hbf⟩
    have HBF := Lib.hid hbf
    clear hbf
    go_wp2
    go_ret
    exact ⟨rfl, HBF.out⟩
  obtain rfl : r = 0 := hr0
  have hrz := HR.out.symm
  obtain ⟨z1, z2, z3⟩ := rightN_zero hrz
  obtain ⟨D, hD⟩ : ∃ D : Nat, days = (D : Int) := ⟨days.toNat, by omega⟩
  obtain ⟨K, hKe⟩ : ∃ K : Nat, each = (K : Int) := ⟨each.toNat, by omega⟩
  subst hD
  subst hKe
  have hK1 : 1 ≤ K := by omega
  have hL12 : L.length ≤ 12 := by omega
  have HRZ := Lib.hid hrz
  clear z1 z2 z3 hrz
  have k0 := HK4.out.cell 0
  have k1 := HK4.out.cell 1
  have k2 := HK4.out.cell 2
  have o0 := HT4.out.cell 0
  have o1 := HT4.out.cell 1
  have o2 := HT4.out.cell 2
  go_wp2_with fail
  refine (rtright_calls _ _ _ B c2 M (HU.out.below HB4.out)).mono ?_
  rintro e w5 ⟨rfl, hb5⟩
  rw [← HRS.out]
  have HB5 := Lib.hid (bl_trans HB4.out hb5)
  have HK5 := Lib.hid (HK4.out.below hb5)
  have HT5 := Lib.hid (HT4.out.below hb5)
  clear hb5 k0 k1 k2 o0 o1 o2
  by_cases hs0 : rs = 0
  case neg =>
    have g9 : ((rs : Int) != 0) = true := bne_iff_ne.2 hs0
    clear hs0
    go_wp2_with fail
    refine (HFIN.out _ HB5.out).mono ?_
    rintro e wf ⟨rfl, hbf⟩
    have HBF := Lib.hid hbf
    clear hbf
    go_wp2
    go_ret
    exact ⟨rfl, HBF.out⟩
  obtain rfl : rs = 0 := hs0
  have HSZ := Lib.hid HRS.out.symm
  have k0 := HK5.out.cell 0
  have k1 := HK5.out.cell 1
  have k2 := HK5.out.cell 2
  have o0 := HT5.out.cell 0
  have o1 := HT5.out.cell 1
  have o2 := HT5.out.cell 2
  go_wp2_with fail
  refine (sell_calls _ _ _ A c L (HV.out.below HB5.out) (HF.out.mono (by omega))).mono ?_
  intro e w6 hpo
  obtain ⟨g6, rfl, hT6, hb6⟩ := hpo.yes HRZ.out
  have HS6 := Lib.hid hT6
  have HB6 := Lib.hid (bl_trans HB5.out hb6)
  have HK6 := Lib.hid (HK5.out.below hb6)
  have HT6 := Lib.hid (HT5.out.below hb6)
  clear hpo hT6 hb6 k0 k1 k2 o0 o1 o2
  have k0 := HK6.out.cell 0
  have k1 := HK6.out.cell 1
  have k2 := HK6.out.cell 2
  have o0 := HT6.out.cell 0
  have o1 := HT6.out.cell 1
  have o2 := HT6.out.cell 2
  go_wp2_with fail
  refine (sell_calls _ _ _ B c2 M (HU.out.below HB6.out) (HG.out.mono (by omega))).mono ?_
  intro e w7 hpo
  obtain ⟨g7, rfl, hT7, hb7⟩ := hpo.yes HSZ.out
  have HU7 := Lib.hid hT7
  have HS7 := Lib.hid (HS6.out.fr (Fr.of_below (S := fun _ => False) hb7) (fun h => h))
  have HB7 := Lib.hid (bl_trans HB6.out hb7)
  have HK7 := Lib.hid (HK6.out.below hb7)
  have HT7 := Lib.hid (HT6.out.below hb7)
  clear hpo hT7 hb7 k0 k1 k2 o0 o1 o2
  have k0 := HK7.out.cell 0
  have k1 := HK7.out.cell 1
  have k2 := HK7.out.cell 2
  have o0 := HT7.out.cell 0
  have o1 := HT7.out.cell 1
  have o2 := HT7.out.cell 2
  go_wp2_with fail
  refine (pays_calls _ _ _ A c L (HV.out.below HB7.out) (HF.out.mono (by omega))).mono ?_
  intro e w8 hpo
  obtain ⟨g8, rfl, hP8, hb8⟩ := hpo.yes HRZ.out
  have HP8 := Lib.hid hP8
  have HU8 := Lib.hid (HU7.out.fr (Fr.of_below (S := fun _ => False) hb8) (fun h => h))
  have HS8 := Lib.hid (HS7.out.fr (Fr.of_below (S := fun _ => False) hb8) (fun h => h))
  have HB8 := Lib.hid (bl_trans HB7.out hb8)
  have HK8 := Lib.hid (HK7.out.below hb8)
  have HT8 := Lib.hid (HT7.out.below hb8)
  clear hpo hP8 hb8 k0 k1 k2 o0 o1 o2
  have k0 := HK8.out.cell 0
  have k1 := HK8.out.cell 1
  have k2 := HK8.out.cell 2
  have o0 := HT8.out.cell 0
  have o1 := HT8.out.cell 1
  have o2 := HT8.out.cell 2
  go_wp2_with fail
  refine (pays_calls _ _ _ B c2 M (HU.out.below HB8.out) (HG.out.mono (by omega))).mono ?_
  intro e w9 hpo
  obtain ⟨g9, rfl, hP9, hb9⟩ := hpo.yes HSZ.out
  have HQ9 := Lib.hid hP9
  have HP9 := Lib.hid (HP8.out.below hb9)
  have HU9 := Lib.hid (HU8.out.fr (Fr.of_below (S := fun _ => False) hb9) (fun h => h))
  have HS9 := Lib.hid (HS8.out.fr (Fr.of_below (S := fun _ => False) hb9) (fun h => h))
  have HB9 := Lib.hid (bl_trans HB8.out hb9)
  have HK9 := Lib.hid (HK8.out.below hb9)
  have HT9 := Lib.hid (HT8.out.below hb9)
  clear hpo hP9 hb9 k0 k1 k2 o0 o1 o2
  have k0 := HK9.out.cell 0
  have k1 := HK9.out.cell 1
  have k2 := HK9.out.cell 2
  have o0 := HT9.out.cell 0
  have o1 := HT9.out.cell 1
  have o2 := HT9.out.cell 2
  rw [HML.out]
  go_wp2
  clear k0 k1 k2 o0 o1 o2
  go_loopw [15] (fun iv wr => ∃ m : Nat, m ≤ L.length ∧ iv = .int .i64 (m : Int) ∧ Below w9.heap.size w9 wr) (fun iv _ => L.length - (intOf iv).toNat)
  case atStart => exact ⟨0, by omega, rfl, Below.refl _ _⟩
  case round =>
    obtain ⟨m, hm, rfl, hb⟩ := hrel
    have HB := Lib.hid hb
    have HBw := Lib.hid (bl_trans HB9.out hb)
    by_cases hx : m < L.length
    case neg =>
      obtain rfl : m = L.length := by omega
      have q1 : ¬ (L.length : Int) < (L.length : Int) := by omega
      clear hb
      go_wp2_with fail
      refine (HFIN.out _ HBw.out).mono ?_
      rintro e wf ⟨rfl, hbf⟩
      have HBF := Lib.hid hbf
      clear hbf
      go_wp2
      go_ret
      exact ⟨rfl, HBF.out⟩
    obtain ⟨x, hx1⟩ : ∃ x, L[m]? = some x := ⟨_, List.getElem?_eq_getElem hx⟩
    have q1 : (m : Int) < (L.length : Int) := by omega
    have hxM : m < M.length := by rw [HML.out]; exact hx
    have kb := HK9.out.below hb
    have b2 := kb.cell 2
    obtain ⟨hk1, hk2, hk3⟩ := known_of HML.out.symm HAN.out HRZ.out hx1
    obtain ⟨ad, A1, a1, A2, a2, rfl, e0, e1, e2, e3, e4, hfx⟩ := (HV.out.below HBw.out).at hx1
    have s0 := ((HS9.out.fr (Fr.of_below (S := fun _ => False) hb) (fun h => h))).cell hx
    have u0 := ((HU9.out.fr (Fr.of_below (S := fun _ => False) hb) (fun h => h))).cell (i := m) hxM
    obtain ⟨sx, hsx⟩ : ∃ s, s = (tdOf L).sold K D m := ⟨_, rfl⟩
    obtain ⟨sy, hsy⟩ : ∃ s, s = (tdOf M).sold K D m := ⟨_, rfl⟩
    obtain ⟨p, hp⟩ : ∃ p, p = (tdOf L).pay K D m := ⟨_, rfl⟩
    obtain ⟨q, hq⟩ : ∃ p, p = (tdOf M).pay K D m := ⟨_, rfl⟩
    rw [← hsx] at s0 hk1 hk2
    rw [← hsy] at u0 hk1 hk2
    rw [← hp, ← hq] at hk3
    have hpl := (HP9.out.below hb).fl
    rw [pays_list] at hpl
    obtain ⟨ad', cc, C1, c1', C2, c2', hvl, _, _, m0, m1, m2, hfp⟩ := hpl.atq (k := m) (q := p) (by rw [hp]; unfold payL; rw [List.getElem?_map, List.getElem?_range hx]; rfl)
    obtain rfl : ⟨g8, 0, none⟩ = ad' := by simpa using (by simpa using hvl : (some (⟨g8, 0, none⟩ : Addr) = some ad') ∧ _).1
    rw [add_row] at m0 m1 m2
    have hql := (HQ9.out.below hb).fl
    rw [pays_list] at hql
    obtain ⟨ad', cc', E1, f1, E2, f2, hvl2, _, _, l0, l1, l2, hfq⟩ := hql.atq (k := m) (q := q) (by rw [hq]; unfold payL; rw [List.getElem?_map, List.getElem?_range hxM]; rfl)
    obtain rfl : ⟨g9, 0, none⟩ = ad' := by simpa using (by simpa using hvl2 : (some (⟨g9, 0, none⟩ : Addr) = some ad') ∧ _).1
    rw [add_row] at l0 l1 l2
    have hpsh : Short p := by rw [hp]; exact (pay_szq (n := 16) (by omega) (HF.out.mono (by omega)) HWD.out hK1 D hx).short (by omega)
    have hqsh : Short q := by rw [hq]; exact (pay_szq (n := 16) (by omega) (HG.out.mono (by omega)) HWE.out hK1 D hxM).short (by omega)
    have hs : (fun (w' : World) => Below wr.heap.size wr w' ∧ w'.cell? ⟨g6, m, none⟩ = some (.int .i64 sx) ∧ w'.cell? ⟨g7, m, none⟩ = some (.int .i64 sy)) wr.drew := kn_next (bl_drew wr) ⟨Below.refl _ _, s0, u0⟩
    have h14 : (fun (w' : World) => SelH wr (.agg #[.bool (decide (p.num < 0)), .slice C1 (dg p.num.natAbs).length c1', .slice C2 (dg p.den).length c2']) (.agg #[.bool (decide (q.num < 0)), .slice E1 (dg q.num.natAbs).length f1, .slice E2 (dg q.den).length f2]) p q w' ∧ w'.cell? ⟨w.heap.size, 2, none⟩ = some (.slice (some ad) L.length c) ∧ w'.cell? ⟨(ad.add (m * 5)).block, (ad.add (m * 5)).off + 1, none⟩ = some (.int .i64 x.2.1) ∧ (w'.cell? ⟨g8, m * 3, none⟩ = some (.bool (decide (p.num < 0))) ∧ w'.cell? ⟨g8, m * 3 + 1, none⟩ = some (.slice C1 (dg p.num.natAbs).length c1') ∧ w'.cell? ⟨g8, m * 3 + 2, none⟩ = some (.slice C2 (dg p.den).length c2')) ∧ (w'.cell? ⟨g9, m * 3, none⟩ = some (.bool (decide (q.num < 0))) ∧ w'.cell? ⟨g9, m * 3 + 1, none⟩ = some (.slice E1 (dg q.num.natAbs).length f1) ∧ w'.cell? ⟨g9, m * 3 + 2, none⟩ = some (.slice E2 (dg q.den).length f2))) wr := ⟨⟨Below.refl _ _, FrV.q hfp hpsh, FrV.q hfq hqsh⟩, b2, e1, ⟨m0, m1, m2⟩, ⟨l0, l1, l2⟩⟩
    have HS := Lib.hid hs
    have H14 := Lib.hid h14
    have HK1 := Lib.hid hk1
    have HK2 := Lib.hid hk2
    have HK3 := Lib.hid hk3
    clear hb hx1 kb hk1 hk2 hk3 b2 e0 e1 e2 e3 e4 hfx s0 u0 hsx hsy hp hq hpl hql hvl hvl2 m0 m1 m2 l0 l1 l2 hfp hfq hpsh hqsh hs h14
    go_upto_region 12 with fail
    go_cut [147] (fun t147 wx => t147 = .bool false ∧ Below wr.heap.size wr wx)
    case first =>
      have hs := HS.out
      by_cases h1 : sx ≤ day
      · have g1 : decide (sx ≤ day) = true := decide_eq_true h1
        by_cases h0 : sx = 0
        · subst h0
          by_cases h2 : sy ≤ day
          · have g2 : decide (sy ≤ day) = true := decide_eq_true h2
            obtain rfl : sy = 0 := by
              by_cases hz : sy = 0
              · exact hz
              · exact HK2.out h2 hz
            clear h1 h2
            go_wp2_with fail
            have hS : (fun (w' : World) => Below wr.heap.size wr w' ∧ w'.cell? ⟨g6, m, none⟩ = some (.int .i64 0) ∧ w'.cell? ⟨g7, m, none⟩ = some (.int .i64 0)) _ := hs
            refine wp_region_held_drew (S := fun (w' : World) => Below wr.heap.size wr w' ∧ w'.cell? ⟨g6, m, none⟩ = some (.int .i64 0) ∧ w'.cell? ⟨g7, m, none⟩ = some (.int .i64 0)) (by kernel_rfl) hS (fun _ => ?_)
            simp only [List.size_toArray, List.length_cons, List.length_nil, Nat.reduceAdd]
            refine wpAnyH_takeD 0 (some 109) (v := ?vh1_0) rfl rfl (by kernel_rfl) (by kernel_rfl) (by kernel_rfl) (fun _ _ _ h => h) (.inl ⟨by kernel_rfl, ?hyh1_0⟩) hS ?resth1_0
            case hyh1_0 => (intro w hSw; (try dsimp only at hSw); go_simp; (try with_reducible rfl))
            (try simp only [Act.put, List.setIfInBounds_toArray, List.set_cons_zero, List.set_cons_succ])
            refine wpAnyH_takeD 1 (some 110) (v := ?vh1_1) rfl rfl (by kernel_rfl) (by kernel_rfl) (by kernel_rfl) (fun _ _ _ h => h) (.inl ⟨by kernel_rfl, ?hyh1_1⟩) hS ?resth1_1
            case hyh1_1 => (intro w hSw; (try dsimp only at hSw); go_simp; (try with_reducible rfl))
            (try simp only [Act.put, List.setIfInBounds_toArray, List.set_cons_zero, List.set_cons_succ])
            refine wpAnyH_takeD 2 (some 111) (v := ?vh1_2) rfl rfl (by kernel_rfl) (by kernel_rfl) (by kernel_rfl) (fun _ _ _ h => h) (.inl ⟨by kernel_rfl, ?hyh1_2⟩) hS ?resth1_2
            case hyh1_2 => (intro w hSw; (try dsimp only at hSw); go_simp; (try with_reducible rfl))
            (try simp only [Act.put, List.setIfInBounds_toArray, List.set_cons_zero, List.set_cons_succ])
            refine wpAnyH_takeD 3 (some 112) (v := ?vh1_3) rfl rfl (by kernel_rfl) (by kernel_rfl) (by kernel_rfl) (fun _ _ _ h => h) (.inl ⟨by kernel_rfl, ?hyh1_3⟩) hS ?resth1_3
            case hyh1_3 => (intro w hSw; (try dsimp only at hSw); go_simp; (try with_reducible rfl))
            (try simp only [Act.put, List.setIfInBounds_toArray, List.set_cons_zero, List.set_cons_succ])
            refine wpAnyH_takeD 4 (some 113) (v := ?vh1_4) rfl rfl (by kernel_rfl) (by kernel_rfl) (by kernel_rfl) (fun _ _ _ h => h) (.inl ⟨by kernel_rfl, ?hyh1_4⟩) hS ?resth1_4
            case hyh1_4 => (intro w hSw; (try dsimp only at hSw); go_simp; (try with_reducible rfl))
            (try simp only [Act.put, List.setIfInBounds_toArray, List.set_cons_zero, List.set_cons_succ])
            refine wpAnyH_takeD 5 (some 114) (v := ?vh1_5) rfl rfl (by kernel_rfl) (by kernel_rfl) (by kernel_rfl) (fun _ _ _ h => h) (.inl ⟨by kernel_rfl, ?hyh1_5⟩) hS ?resth1_5
            case hyh1_5 => (intro w hSw; (try dsimp only at hSw); go_simp; (try with_reducible rfl))
            (try simp only [Act.put, List.setIfInBounds_toArray, List.set_cons_zero, List.set_cons_succ])
            refine wpAnyH_takeD 6 (some 115) (v := ?vh1_6) rfl rfl (by kernel_rfl) (by kernel_rfl) (by kernel_rfl) (fun _ _ _ h => h) (.inl ⟨by kernel_rfl, ?hyh1_6⟩) hS ?resth1_6
            case hyh1_6 => (intro w hSw; (try dsimp only at hSw); go_simp; (try with_reducible rfl))
            (try simp only [Act.put, List.setIfInBounds_toArray, List.set_cons_zero, List.set_cons_succ])
            refine wpAnyH_takeD 7 (some 116) (v := ?vh1_7) rfl rfl (by kernel_rfl) (by kernel_rfl) (by kernel_rfl) (fun _ _ _ h => h) (.inl ⟨by kernel_rfl, ?hyh1_7⟩) hS ?resth1_7
            case hyh1_7 => (intro w hSw; (try dsimp only at hSw); go_simp; (try with_reducible rfl))
            (try simp only [Act.put, List.setIfInBounds_toArray, List.set_cons_zero, List.set_cons_succ])
            refine wpAnyH_takeD 8 (some 117) (v := ?vh1_8) rfl rfl (by kernel_rfl) (by kernel_rfl) (by kernel_rfl) (fun _ _ _ h => h) (.inl ⟨by kernel_rfl, ?hyh1_8⟩) hS ?resth1_8
            case hyh1_8 => (intro w hSw; (try dsimp only at hSw); go_simp; (try with_reducible rfl))
            (try simp only [Act.put, List.setIfInBounds_toArray, List.set_cons_zero, List.set_cons_succ])
            refine wpAnyH_takeD 9 (some 118) (v := ?vh1_9) rfl rfl (by kernel_rfl) (by kernel_rfl) (by kernel_rfl) (fun _ _ _ h => h) (.inl ⟨by kernel_rfl, ?hyh1_9⟩) hS ?resth1_9
            case hyh1_9 => (intro w hSw; (try dsimp only at hSw); go_simp; (try with_reducible rfl))
            (try simp only [Act.put, List.setIfInBounds_toArray, List.set_cons_zero, List.set_cons_succ])
            refine wpAnyH_takeD 10 (some 119) (v := ?vh1_10) rfl rfl (by kernel_rfl) (by kernel_rfl) (by kernel_rfl) (fun _ _ _ h => h) (.inl ⟨by kernel_rfl, ?hyh1_10⟩) hS ?resth1_10
            case hyh1_10 => (intro w hSw; (try dsimp only at hSw); go_simp; (try with_reducible rfl))
            (try simp only [Act.put, List.setIfInBounds_toArray, List.set_cons_zero, List.set_cons_succ])
            refine wpAnyH_takeD 11 (some 120) (v := ?vh1_11) rfl rfl (by kernel_rfl) (by kernel_rfl) (by kernel_rfl) (fun _ _ _ h => h) (.inl ⟨by kernel_rfl, ?hyh1_11⟩) hS ?resth1_11
            case hyh1_11 => (intro w hSw; (try dsimp only at hSw); go_simp; (try with_reducible rfl))
            (try simp only [Act.put, List.setIfInBounds_toArray, List.set_cons_zero, List.set_cons_succ])
            refine wpAnyH_takeD 12 (some 121) (v := ?vh1_12) rfl rfl (by kernel_rfl) (by kernel_rfl) (by kernel_rfl) (fun _ _ _ h => h) (.inl ⟨by kernel_rfl, ?hyh1_12⟩) hS ?resth1_12
            case hyh1_12 => (intro w hSw; (try dsimp only at hSw); go_simp; (try with_reducible rfl))
            (try simp only [Act.put, List.setIfInBounds_toArray, List.set_cons_zero, List.set_cons_succ])
            refine wpAnyH_takeD 13 (some 122) (v := ?vh1_13) rfl rfl (by kernel_rfl) (by kernel_rfl) (by kernel_rfl) (fun _ _ _ h => h) (.inl ⟨by kernel_rfl, ?hyh1_13⟩) hS ?resth1_13
            case hyh1_13 => (intro w hSw; (try dsimp only at hSw); go_simp; (try with_reducible rfl))
            (try simp only [Act.put, List.setIfInBounds_toArray, List.set_cons_zero, List.set_cons_succ])
            refine wpAnyH_takeD 14 (some 123) (v := ?vh1_14) rfl rfl (by kernel_rfl) (by kernel_rfl) (by kernel_rfl) (fun _ _ _ h => h) (.inl ⟨by kernel_rfl, ?hyh1_14⟩) hS ?resth1_14
            case hyh1_14 => (intro w hSw; (try dsimp only at hSw); go_simp; (try with_reducible rfl))
            (try simp only [Act.put, List.setIfInBounds_toArray, List.set_cons_zero, List.set_cons_succ])
            refine wpAnyH_takeD 15 (some 124) (v := ?vh1_15) rfl rfl (by kernel_rfl) (by kernel_rfl) (by kernel_rfl) (fun _ _ _ h => h) (.inl ⟨by kernel_rfl, ?hyh1_15⟩) hS ?resth1_15
            case hyh1_15 => (intro w hSw; (try dsimp only at hSw); go_simp; (try with_reducible rfl))
            (try simp only [Act.put, List.setIfInBounds_toArray, List.set_cons_zero, List.set_cons_succ])
            refine wpAnyH_takeD 16 (some 125) (v := ?vh1_16) rfl rfl (by kernel_rfl) (by kernel_rfl) (by kernel_rfl) (fun _ _ _ h => h) (.inl ⟨by kernel_rfl, ?hyh1_16⟩) hS ?resth1_16
            case hyh1_16 => (intro w hSw; (try dsimp only at hSw); go_simp; (try with_reducible rfl))
            (try simp only [Act.put, List.setIfInBounds_toArray, List.set_cons_zero, List.set_cons_succ])
            refine wpAnyH_takeD 17 (some 126) (v := ?vh1_17) rfl rfl (by kernel_rfl) (by kernel_rfl) (by kernel_rfl) (fun _ _ _ h => h) (.inl ⟨by kernel_rfl, ?hyh1_17⟩) hS ?resth1_17
            case hyh1_17 => (intro w hSw; (try dsimp only at hSw); go_simp; (try with_reducible rfl))
            (try simp only [Act.put, List.setIfInBounds_toArray, List.set_cons_zero, List.set_cons_succ])
            refine wpAnyH_takeD 18 (some 127) (v := ?vh1_18) rfl rfl (by kernel_rfl) (by kernel_rfl) (by kernel_rfl) (fun _ _ _ h => h) (.inl ⟨by kernel_rfl, ?hyh1_18⟩) hS ?resth1_18
            case hyh1_18 => (intro w hSw; (try dsimp only at hSw); go_simp; (try with_reducible rfl))
            (try simp only [Act.put, List.setIfInBounds_toArray, List.set_cons_zero, List.set_cons_succ])
            refine wpAnyH_takeD 19 (some 128) (v := ?vh1_19) rfl rfl (by kernel_rfl) (by kernel_rfl) (by kernel_rfl) (fun _ _ _ h => h) (.inl ⟨by kernel_rfl, ?hyh1_19⟩) hS ?resth1_19
            case hyh1_19 => (intro w hSw; (try dsimp only at hSw); go_simp; (try with_reducible rfl))
            (try simp only [Act.put, List.setIfInBounds_toArray, List.set_cons_zero, List.set_cons_succ])
            refine wpAnyH_takeD 20 (some 129) (v := ?vh1_20) rfl rfl (by kernel_rfl) (by kernel_rfl) (by kernel_rfl) (fun _ _ _ h => h) (.inl ⟨by kernel_rfl, ?hyh1_20⟩) hS ?resth1_20
            case hyh1_20 => (intro w hSw; (try dsimp only at hSw); go_simp; (try with_reducible rfl))
            (try simp only [Act.put, List.setIfInBounds_toArray, List.set_cons_zero, List.set_cons_succ])
            refine wpAnyH_takeD 21 (some 130) (v := ?vh1_21) rfl rfl (by kernel_rfl) (by kernel_rfl) (by kernel_rfl) (fun _ _ _ h => h) (.inl ⟨by kernel_rfl, ?hyh1_21⟩) hS ?resth1_21
            case hyh1_21 => (intro w hSw; (try dsimp only at hSw); go_simp; (try with_reducible rfl))
            (try simp only [Act.put, List.setIfInBounds_toArray, List.set_cons_zero, List.set_cons_succ])
            refine wpAnyH_takeD 22 (some 131) (v := ?vh1_22) rfl rfl (by kernel_rfl) (by kernel_rfl) (by kernel_rfl) (fun _ _ _ h => h) (.inl ⟨by kernel_rfl, ?hyh1_22⟩) hS ?resth1_22
            case hyh1_22 => (intro w hSw; (try dsimp only at hSw); go_simp; (try with_reducible rfl))
            (try simp only [Act.put, List.setIfInBounds_toArray, List.set_cons_zero, List.set_cons_succ])
            refine wpAnyH_takeD 23 (some 132) (v := ?vh1_23) rfl rfl (by kernel_rfl) (by kernel_rfl) (by kernel_rfl) (fun _ _ _ h => h) (.inl ⟨by kernel_rfl, ?hyh1_23⟩) hS ?resth1_23
            case hyh1_23 => (intro w hSw; (try dsimp only at hSw); go_simp; (try with_reducible rfl))
            (try simp only [Act.put, List.setIfInBounds_toArray, List.set_cons_zero, List.set_cons_succ])
            refine wpAnyH_takeD 24 (some 133) (v := ?vh1_24) rfl rfl (by kernel_rfl) (by kernel_rfl) (by kernel_rfl) (fun _ _ _ h => h) (.inl ⟨by kernel_rfl, ?hyh1_24⟩) hS ?resth1_24
            case hyh1_24 => (intro w hSw; (try dsimp only at hSw); go_simp; (try with_reducible rfl))
            (try simp only [Act.put, List.setIfInBounds_toArray, List.set_cons_zero, List.set_cons_succ])
            refine wpAnyH_takeD 25 (some 134) (v := ?vh1_25) rfl rfl (by kernel_rfl) (by kernel_rfl) (by kernel_rfl) (fun _ _ _ h => h) (.inl ⟨by kernel_rfl, ?hyh1_25⟩) hS ?resth1_25
            case hyh1_25 => (intro w hSw; (try dsimp only at hSw); go_simp; (try with_reducible rfl))
            (try simp only [Act.put, List.setIfInBounds_toArray, List.set_cons_zero, List.set_cons_succ])
            refine wpAnyH_takeD 26 (some 135) (v := ?vh1_26) rfl rfl (by kernel_rfl) (by kernel_rfl) (by kernel_rfl) (fun _ _ _ h => h) (.inl ⟨by kernel_rfl, ?hyh1_26⟩) hS ?resth1_26
            case hyh1_26 => (intro w hSw; (try dsimp only at hSw); go_simp; (try with_reducible rfl))
            (try simp only [Act.put, List.setIfInBounds_toArray, List.set_cons_zero, List.set_cons_succ])
            refine wpAnyH_takeD 27 (some 136) (v := ?vh1_27) rfl rfl (by kernel_rfl) (by kernel_rfl) (by kernel_rfl) (fun _ _ _ h => h) (.inl ⟨by kernel_rfl, ?hyh1_27⟩) hS ?resth1_27
            case hyh1_27 => (intro w hSw; (try dsimp only at hSw); go_simp; (try with_reducible rfl))
            (try simp only [Act.put, List.setIfInBounds_toArray, List.set_cons_zero, List.set_cons_succ])
            refine wpAnyH_takeD 28 (some 137) (v := ?vh1_28) rfl rfl (by kernel_rfl) (by kernel_rfl) (by kernel_rfl) (fun _ _ _ h => h) (.inl ⟨by kernel_rfl, ?hyh1_28⟩) hS ?resth1_28
            case hyh1_28 => (intro w hSw; (try dsimp only at hSw); go_simp; (try with_reducible rfl))
            (try simp only [Act.put, List.setIfInBounds_toArray, List.set_cons_zero, List.set_cons_succ])
            refine wpAnyH_takeD 29 (some 138) (v := undef) rfl rfl (by kernel_rfl) (by kernel_rfl) (by kernel_rfl) (fun _ _ _ h => h) (.inr ⟨by kernel_rfl, rfl⟩) hS ?_
            (try simp only [Act.put, List.setIfInBounds_toArray, List.set_cons_zero, List.set_cons_succ])
            refine wpAnyH_takeD 30 (some 139) (v := undef) rfl rfl (by kernel_rfl) (by kernel_rfl) (by kernel_rfl) (fun _ _ _ h => h) (.inr ⟨by kernel_rfl, rfl⟩) hS ?_
            (try simp only [Act.put, List.setIfInBounds_toArray, List.set_cons_zero, List.set_cons_succ])
            refine wpAnyH_takeD 31 (some 140) (v := undef) rfl rfl (by kernel_rfl) (by kernel_rfl) (by kernel_rfl) (fun _ _ _ h => h) (.inr ⟨by kernel_rfl, rfl⟩) hS ?_
            (try simp only [Act.put, List.setIfInBounds_toArray, List.set_cons_zero, List.set_cons_succ])
            refine wpAnyH_takeD 32 (some 141) (v := undef) rfl rfl (by kernel_rfl) (by kernel_rfl) (by kernel_rfl) (fun _ _ _ h => h) (.inr ⟨by kernel_rfl, rfl⟩) hS ?_
            (try simp only [Act.put, List.setIfInBounds_toArray, List.set_cons_zero, List.set_cons_succ])
            refine wpAnyH_takeD 33 (some 142) (v := undef) rfl rfl (by kernel_rfl) (by kernel_rfl) (by kernel_rfl) (fun _ _ _ h => h) (.inr ⟨by kernel_rfl, rfl⟩) hS ?_
            (try simp only [Act.put, List.setIfInBounds_toArray, List.set_cons_zero, List.set_cons_succ])
            refine wpAnyH_takeD 34 (some 143) (v := undef) rfl rfl (by kernel_rfl) (by kernel_rfl) (by kernel_rfl) (fun _ _ _ h => h) (.inr ⟨by kernel_rfl, rfl⟩) hS ?_
            (try simp only [Act.put, List.setIfInBounds_toArray, List.set_cons_zero, List.set_cons_succ])
            refine wpAnyH_takeD 35 (some 144) (v := undef) rfl rfl (by kernel_rfl) (by kernel_rfl) (by kernel_rfl) (fun _ _ _ h => h) (.inr ⟨by kernel_rfl, rfl⟩) hS ?_
            (try simp only [Act.put, List.setIfInBounds_toArray, List.set_cons_zero, List.set_cons_succ])
            refine wpAnyH_takeD 36 (some 145) (v := undef) rfl rfl (by kernel_rfl) (by kernel_rfl) (by kernel_rfl) (fun _ _ _ h => h) (.inr ⟨by kernel_rfl, rfl⟩) hS ?_
            (try simp only [Act.put, List.setIfInBounds_toArray, List.set_cons_zero, List.set_cons_succ])
            refine wpAnyH_takeD 37 (some 146) (v := undef) rfl rfl (by kernel_rfl) (by kernel_rfl) (by kernel_rfl) (fun _ _ _ h => h) (.inr ⟨by kernel_rfl, rfl⟩) hS ?_
            (try simp only [Act.put, List.setIfInBounds_toArray, List.set_cons_zero, List.set_cons_succ])
            refine wpAnyH_takeD 38 (some 147) (v := ?vh1_38) rfl rfl (by kernel_rfl) (by kernel_rfl) (by kernel_rfl) (fun _ _ _ h => h) (.inl ⟨by kernel_rfl, ?hyh1_38⟩) hS ?resth1_38
            case hyh1_38 => (intro w hSw; (try dsimp only at hSw); go_simp; (try with_reducible rfl))
            (try simp only [Act.put, List.setIfInBounds_toArray, List.set_cons_zero, List.set_cons_succ])
            refine wpAnyH_done (by kernel_rfl) ?_ _
            go_wp2
            go_meet
            case rel => exact ⟨rfl, hS.1⟩
          · have g2 : decide (sy ≤ day) = false := decide_eq_false h2
            clear h1 h2
            go_wp2_with fail
            have hS : (fun (w' : World) => Below wr.heap.size wr w' ∧ w'.cell? ⟨g6, m, none⟩ = some (.int .i64 0) ∧ w'.cell? ⟨g7, m, none⟩ = some (.int .i64 sy)) _ := hs
            refine wp_region_held_drew (S := fun (w' : World) => Below wr.heap.size wr w' ∧ w'.cell? ⟨g6, m, none⟩ = some (.int .i64 0) ∧ w'.cell? ⟨g7, m, none⟩ = some (.int .i64 sy)) (by kernel_rfl) hS (fun _ => ?_)
            simp only [List.size_toArray, List.length_cons, List.length_nil, Nat.reduceAdd]
            refine wpAnyH_takeD 0 (some 109) (v := ?vh2_0) rfl rfl (by kernel_rfl) (by kernel_rfl) (by kernel_rfl) (fun _ _ _ h => h) (.inl ⟨by kernel_rfl, ?hyh2_0⟩) hS ?resth2_0
            case hyh2_0 => (intro w hSw; (try dsimp only at hSw); go_simp; (try with_reducible rfl))
            (try simp only [Act.put, List.setIfInBounds_toArray, List.set_cons_zero, List.set_cons_succ])
            refine wpAnyH_takeD 1 (some 110) (v := ?vh2_1) rfl rfl (by kernel_rfl) (by kernel_rfl) (by kernel_rfl) (fun _ _ _ h => h) (.inl ⟨by kernel_rfl, ?hyh2_1⟩) hS ?resth2_1
            case hyh2_1 => (intro w hSw; (try dsimp only at hSw); go_simp; (try with_reducible rfl))
            (try simp only [Act.put, List.setIfInBounds_toArray, List.set_cons_zero, List.set_cons_succ])
            refine wpAnyH_takeD 2 (some 111) (v := ?vh2_2) rfl rfl (by kernel_rfl) (by kernel_rfl) (by kernel_rfl) (fun _ _ _ h => h) (.inl ⟨by kernel_rfl, ?hyh2_2⟩) hS ?resth2_2
            case hyh2_2 => (intro w hSw; (try dsimp only at hSw); go_simp; (try with_reducible rfl))
            (try simp only [Act.put, List.setIfInBounds_toArray, List.set_cons_zero, List.set_cons_succ])
            refine wpAnyH_takeD 3 (some 112) (v := ?vh2_3) rfl rfl (by kernel_rfl) (by kernel_rfl) (by kernel_rfl) (fun _ _ _ h => h) (.inl ⟨by kernel_rfl, ?hyh2_3⟩) hS ?resth2_3
            case hyh2_3 => (intro w hSw; (try dsimp only at hSw); go_simp; (try with_reducible rfl))
            (try simp only [Act.put, List.setIfInBounds_toArray, List.set_cons_zero, List.set_cons_succ])
            refine wpAnyH_takeD 4 (some 113) (v := ?vh2_4) rfl rfl (by kernel_rfl) (by kernel_rfl) (by kernel_rfl) (fun _ _ _ h => h) (.inl ⟨by kernel_rfl, ?hyh2_4⟩) hS ?resth2_4
            case hyh2_4 => (intro w hSw; (try dsimp only at hSw); go_simp; (try with_reducible rfl))
            (try simp only [Act.put, List.setIfInBounds_toArray, List.set_cons_zero, List.set_cons_succ])
            refine wpAnyH_takeD 5 (some 114) (v := ?vh2_5) rfl rfl (by kernel_rfl) (by kernel_rfl) (by kernel_rfl) (fun _ _ _ h => h) (.inl ⟨by kernel_rfl, ?hyh2_5⟩) hS ?resth2_5
            case hyh2_5 => (intro w hSw; (try dsimp only at hSw); go_simp; (try with_reducible rfl))
            (try simp only [Act.put, List.setIfInBounds_toArray, List.set_cons_zero, List.set_cons_succ])
            refine wpAnyH_takeD 6 (some 115) (v := ?vh2_6) rfl rfl (by kernel_rfl) (by kernel_rfl) (by kernel_rfl) (fun _ _ _ h => h) (.inl ⟨by kernel_rfl, ?hyh2_6⟩) hS ?resth2_6
            case hyh2_6 => (intro w hSw; (try dsimp only at hSw); go_simp; (try with_reducible rfl))
            (try simp only [Act.put, List.setIfInBounds_toArray, List.set_cons_zero, List.set_cons_succ])
            refine wpAnyH_takeD 7 (some 116) (v := ?vh2_7) rfl rfl (by kernel_rfl) (by kernel_rfl) (by kernel_rfl) (fun _ _ _ h => h) (.inl ⟨by kernel_rfl, ?hyh2_7⟩) hS ?resth2_7
            case hyh2_7 => (intro w hSw; (try dsimp only at hSw); go_simp; (try with_reducible rfl))
            (try simp only [Act.put, List.setIfInBounds_toArray, List.set_cons_zero, List.set_cons_succ])
            refine wpAnyH_takeD 8 (some 117) (v := ?vh2_8) rfl rfl (by kernel_rfl) (by kernel_rfl) (by kernel_rfl) (fun _ _ _ h => h) (.inl ⟨by kernel_rfl, ?hyh2_8⟩) hS ?resth2_8
            case hyh2_8 => (intro w hSw; (try dsimp only at hSw); go_simp; (try with_reducible rfl))
            (try simp only [Act.put, List.setIfInBounds_toArray, List.set_cons_zero, List.set_cons_succ])
            refine wpAnyH_takeD 9 (some 118) (v := ?vh2_9) rfl rfl (by kernel_rfl) (by kernel_rfl) (by kernel_rfl) (fun _ _ _ h => h) (.inl ⟨by kernel_rfl, ?hyh2_9⟩) hS ?resth2_9
            case hyh2_9 => (intro w hSw; (try dsimp only at hSw); go_simp; (try with_reducible rfl))
            (try simp only [Act.put, List.setIfInBounds_toArray, List.set_cons_zero, List.set_cons_succ])
            refine wpAnyH_takeD 10 (some 119) (v := ?vh2_10) rfl rfl (by kernel_rfl) (by kernel_rfl) (by kernel_rfl) (fun _ _ _ h => h) (.inl ⟨by kernel_rfl, ?hyh2_10⟩) hS ?resth2_10
            case hyh2_10 => (intro w hSw; (try dsimp only at hSw); go_simp; (try with_reducible rfl))
            (try simp only [Act.put, List.setIfInBounds_toArray, List.set_cons_zero, List.set_cons_succ])
            refine wpAnyH_takeD 11 (some 120) (v := ?vh2_11) rfl rfl (by kernel_rfl) (by kernel_rfl) (by kernel_rfl) (fun _ _ _ h => h) (.inl ⟨by kernel_rfl, ?hyh2_11⟩) hS ?resth2_11
            case hyh2_11 => (intro w hSw; (try dsimp only at hSw); go_simp; (try with_reducible rfl))
            (try simp only [Act.put, List.setIfInBounds_toArray, List.set_cons_zero, List.set_cons_succ])
            refine wpAnyH_takeD 12 (some 121) (v := ?vh2_12) rfl rfl (by kernel_rfl) (by kernel_rfl) (by kernel_rfl) (fun _ _ _ h => h) (.inl ⟨by kernel_rfl, ?hyh2_12⟩) hS ?resth2_12
            case hyh2_12 => (intro w hSw; (try dsimp only at hSw); go_simp; (try with_reducible rfl))
            (try simp only [Act.put, List.setIfInBounds_toArray, List.set_cons_zero, List.set_cons_succ])
            refine wpAnyH_takeD 13 (some 122) (v := ?vh2_13) rfl rfl (by kernel_rfl) (by kernel_rfl) (by kernel_rfl) (fun _ _ _ h => h) (.inl ⟨by kernel_rfl, ?hyh2_13⟩) hS ?resth2_13
            case hyh2_13 => (intro w hSw; (try dsimp only at hSw); go_simp; (try with_reducible rfl))
            (try simp only [Act.put, List.setIfInBounds_toArray, List.set_cons_zero, List.set_cons_succ])
            refine wpAnyH_takeD 14 (some 123) (v := ?vh2_14) rfl rfl (by kernel_rfl) (by kernel_rfl) (by kernel_rfl) (fun _ _ _ h => h) (.inl ⟨by kernel_rfl, ?hyh2_14⟩) hS ?resth2_14
            case hyh2_14 => (intro w hSw; (try dsimp only at hSw); go_simp; (try with_reducible rfl))
            (try simp only [Act.put, List.setIfInBounds_toArray, List.set_cons_zero, List.set_cons_succ])
            refine wpAnyH_takeD 15 (some 124) (v := ?vh2_15) rfl rfl (by kernel_rfl) (by kernel_rfl) (by kernel_rfl) (fun _ _ _ h => h) (.inl ⟨by kernel_rfl, ?hyh2_15⟩) hS ?resth2_15
            case hyh2_15 => (intro w hSw; (try dsimp only at hSw); go_simp; (try with_reducible rfl))
            (try simp only [Act.put, List.setIfInBounds_toArray, List.set_cons_zero, List.set_cons_succ])
            refine wpAnyH_takeD 16 (some 125) (v := ?vh2_16) rfl rfl (by kernel_rfl) (by kernel_rfl) (by kernel_rfl) (fun _ _ _ h => h) (.inl ⟨by kernel_rfl, ?hyh2_16⟩) hS ?resth2_16
            case hyh2_16 => (intro w hSw; (try dsimp only at hSw); go_simp; (try with_reducible rfl))
            (try simp only [Act.put, List.setIfInBounds_toArray, List.set_cons_zero, List.set_cons_succ])
            refine wpAnyH_takeD 17 (some 126) (v := ?vh2_17) rfl rfl (by kernel_rfl) (by kernel_rfl) (by kernel_rfl) (fun _ _ _ h => h) (.inl ⟨by kernel_rfl, ?hyh2_17⟩) hS ?resth2_17
            case hyh2_17 => (intro w hSw; (try dsimp only at hSw); go_simp; (try with_reducible rfl))
            (try simp only [Act.put, List.setIfInBounds_toArray, List.set_cons_zero, List.set_cons_succ])
            refine wpAnyH_takeD 18 (some 127) (v := ?vh2_18) rfl rfl (by kernel_rfl) (by kernel_rfl) (by kernel_rfl) (fun _ _ _ h => h) (.inl ⟨by kernel_rfl, ?hyh2_18⟩) hS ?resth2_18
            case hyh2_18 => (intro w hSw; (try dsimp only at hSw); go_simp; (try with_reducible rfl))
            (try simp only [Act.put, List.setIfInBounds_toArray, List.set_cons_zero, List.set_cons_succ])
            refine wpAnyH_takeD 19 (some 128) (v := ?vh2_19) rfl rfl (by kernel_rfl) (by kernel_rfl) (by kernel_rfl) (fun _ _ _ h => h) (.inl ⟨by kernel_rfl, ?hyh2_19⟩) hS ?resth2_19
            case hyh2_19 => (intro w hSw; (try dsimp only at hSw); go_simp; (try with_reducible rfl))
            (try simp only [Act.put, List.setIfInBounds_toArray, List.set_cons_zero, List.set_cons_succ])
            refine wpAnyH_takeD 20 (some 129) (v := ?vh2_20) rfl rfl (by kernel_rfl) (by kernel_rfl) (by kernel_rfl) (fun _ _ _ h => h) (.inl ⟨by kernel_rfl, ?hyh2_20⟩) hS ?resth2_20
            case hyh2_20 => (intro w hSw; (try dsimp only at hSw); go_simp; (try with_reducible rfl))
            (try simp only [Act.put, List.setIfInBounds_toArray, List.set_cons_zero, List.set_cons_succ])
            refine wpAnyH_takeD 21 (some 130) (v := undef) rfl rfl (by kernel_rfl) (by kernel_rfl) (by kernel_rfl) (fun _ _ _ h => h) (.inr ⟨by kernel_rfl, rfl⟩) hS ?_
            (try simp only [Act.put, List.setIfInBounds_toArray, List.set_cons_zero, List.set_cons_succ])
            refine wpAnyH_takeD 22 (some 131) (v := undef) rfl rfl (by kernel_rfl) (by kernel_rfl) (by kernel_rfl) (fun _ _ _ h => h) (.inr ⟨by kernel_rfl, rfl⟩) hS ?_
            (try simp only [Act.put, List.setIfInBounds_toArray, List.set_cons_zero, List.set_cons_succ])
            refine wpAnyH_takeD 23 (some 132) (v := undef) rfl rfl (by kernel_rfl) (by kernel_rfl) (by kernel_rfl) (fun _ _ _ h => h) (.inr ⟨by kernel_rfl, rfl⟩) hS ?_
            (try simp only [Act.put, List.setIfInBounds_toArray, List.set_cons_zero, List.set_cons_succ])
            refine wpAnyH_takeD 24 (some 133) (v := undef) rfl rfl (by kernel_rfl) (by kernel_rfl) (by kernel_rfl) (fun _ _ _ h => h) (.inr ⟨by kernel_rfl, rfl⟩) hS ?_
            (try simp only [Act.put, List.setIfInBounds_toArray, List.set_cons_zero, List.set_cons_succ])
            refine wpAnyH_takeD 25 (some 134) (v := undef) rfl rfl (by kernel_rfl) (by kernel_rfl) (by kernel_rfl) (fun _ _ _ h => h) (.inr ⟨by kernel_rfl, rfl⟩) hS ?_
            (try simp only [Act.put, List.setIfInBounds_toArray, List.set_cons_zero, List.set_cons_succ])
            refine wpAnyH_takeD 26 (some 135) (v := ?vh2_26) rfl rfl (by kernel_rfl) (by kernel_rfl) (by kernel_rfl) (fun _ _ _ h => h) (.inl ⟨by kernel_rfl, ?hyh2_26⟩) hS ?resth2_26
            case hyh2_26 => (intro w hSw; (try dsimp only at hSw); go_simp; (try with_reducible rfl))
            (try simp only [Act.put, List.setIfInBounds_toArray, List.set_cons_zero, List.set_cons_succ])
            refine wpAnyH_takeD 27 (some 136) (v := ?vh2_27) rfl rfl (by kernel_rfl) (by kernel_rfl) (by kernel_rfl) (fun _ _ _ h => h) (.inl ⟨by kernel_rfl, ?hyh2_27⟩) hS ?resth2_27
            case hyh2_27 => (intro w hSw; (try dsimp only at hSw); go_simp; (try with_reducible rfl))
            (try simp only [Act.put, List.setIfInBounds_toArray, List.set_cons_zero, List.set_cons_succ])
            refine wpAnyH_takeD 28 (some 137) (v := ?vh2_28) rfl rfl (by kernel_rfl) (by kernel_rfl) (by kernel_rfl) (fun _ _ _ h => h) (.inl ⟨by kernel_rfl, ?hyh2_28⟩) hS ?resth2_28
            case hyh2_28 => (intro w hSw; (try dsimp only at hSw); go_simp; (try with_reducible rfl))
            (try simp only [Act.put, List.setIfInBounds_toArray, List.set_cons_zero, List.set_cons_succ])
            refine wpAnyH_takeD 29 (some 138) (v := undef) rfl rfl (by kernel_rfl) (by kernel_rfl) (by kernel_rfl) (fun _ _ _ h => h) (.inr ⟨by kernel_rfl, rfl⟩) hS ?_
            (try simp only [Act.put, List.setIfInBounds_toArray, List.set_cons_zero, List.set_cons_succ])
            refine wpAnyH_takeD 30 (some 139) (v := undef) rfl rfl (by kernel_rfl) (by kernel_rfl) (by kernel_rfl) (fun _ _ _ h => h) (.inr ⟨by kernel_rfl, rfl⟩) hS ?_
            (try simp only [Act.put, List.setIfInBounds_toArray, List.set_cons_zero, List.set_cons_succ])
            refine wpAnyH_takeD 31 (some 140) (v := undef) rfl rfl (by kernel_rfl) (by kernel_rfl) (by kernel_rfl) (fun _ _ _ h => h) (.inr ⟨by kernel_rfl, rfl⟩) hS ?_
            (try simp only [Act.put, List.setIfInBounds_toArray, List.set_cons_zero, List.set_cons_succ])
            refine wpAnyH_takeD 32 (some 141) (v := undef) rfl rfl (by kernel_rfl) (by kernel_rfl) (by kernel_rfl) (fun _ _ _ h => h) (.inr ⟨by kernel_rfl, rfl⟩) hS ?_
            (try simp only [Act.put, List.setIfInBounds_toArray, List.set_cons_zero, List.set_cons_succ])
            refine wpAnyH_takeD 33 (some 142) (v := undef) rfl rfl (by kernel_rfl) (by kernel_rfl) (by kernel_rfl) (fun _ _ _ h => h) (.inr ⟨by kernel_rfl, rfl⟩) hS ?_
            (try simp only [Act.put, List.setIfInBounds_toArray, List.set_cons_zero, List.set_cons_succ])
            refine wpAnyH_takeD 34 (some 143) (v := undef) rfl rfl (by kernel_rfl) (by kernel_rfl) (by kernel_rfl) (fun _ _ _ h => h) (.inr ⟨by kernel_rfl, rfl⟩) hS ?_
            (try simp only [Act.put, List.setIfInBounds_toArray, List.set_cons_zero, List.set_cons_succ])
            refine wpAnyH_takeD 35 (some 144) (v := undef) rfl rfl (by kernel_rfl) (by kernel_rfl) (by kernel_rfl) (fun _ _ _ h => h) (.inr ⟨by kernel_rfl, rfl⟩) hS ?_
            (try simp only [Act.put, List.setIfInBounds_toArray, List.set_cons_zero, List.set_cons_succ])
            refine wpAnyH_takeD 36 (some 145) (v := undef) rfl rfl (by kernel_rfl) (by kernel_rfl) (by kernel_rfl) (fun _ _ _ h => h) (.inr ⟨by kernel_rfl, rfl⟩) hS ?_
            (try simp only [Act.put, List.setIfInBounds_toArray, List.set_cons_zero, List.set_cons_succ])
            refine wpAnyH_takeD 37 (some 146) (v := undef) rfl rfl (by kernel_rfl) (by kernel_rfl) (by kernel_rfl) (fun _ _ _ h => h) (.inr ⟨by kernel_rfl, rfl⟩) hS ?_
            (try simp only [Act.put, List.setIfInBounds_toArray, List.set_cons_zero, List.set_cons_succ])
            refine wpAnyH_takeD 38 (some 147) (v := ?vh2_38) rfl rfl (by kernel_rfl) (by kernel_rfl) (by kernel_rfl) (fun _ _ _ h => h) (.inl ⟨by kernel_rfl, ?hyh2_38⟩) hS ?resth2_38
            case hyh2_38 => (intro w hSw; (try dsimp only at hSw); go_simp; (try with_reducible rfl))
            (try simp only [Act.put, List.setIfInBounds_toArray, List.set_cons_zero, List.set_cons_succ])
            refine wpAnyH_done (by kernel_rfl) ?_ _
            go_wp2
            go_meet
            case rel => exact ⟨rfl, hS.1⟩
        · have g3 : ((sx : Int) != 0) = true := bne_iff_ne.2 h0
          obtain rfl : sy = sx := HK1.out h1 h0
          have g4 : ((sy : Int) != sy) = false := by simp
          clear h1 h0
          go_wp2_with fail
          have hS : (fun (w' : World) => Below wr.heap.size wr w' ∧ w'.cell? ⟨g6, m, none⟩ = some (.int .i64 sy) ∧ w'.cell? ⟨g7, m, none⟩ = some (.int .i64 sy)) _ := hs
          refine wp_region_held_drew (S := fun (w' : World) => Below wr.heap.size wr w' ∧ w'.cell? ⟨g6, m, none⟩ = some (.int .i64 sy) ∧ w'.cell? ⟨g7, m, none⟩ = some (.int .i64 sy)) (by kernel_rfl) hS (fun _ => ?_)
          simp only [List.size_toArray, List.length_cons, List.length_nil, Nat.reduceAdd]
          refine wpAnyH_takeD 0 (some 109) (v := ?vh3_0) rfl rfl (by kernel_rfl) (by kernel_rfl) (by kernel_rfl) (fun _ _ _ h => h) (.inl ⟨by kernel_rfl, ?hyh3_0⟩) hS ?resth3_0
          case hyh3_0 => (intro w hSw; (try dsimp only at hSw); go_simp; (try with_reducible rfl))
          (try simp only [Act.put, List.setIfInBounds_toArray, List.set_cons_zero, List.set_cons_succ])
          refine wpAnyH_takeD 1 (some 110) (v := ?vh3_1) rfl rfl (by kernel_rfl) (by kernel_rfl) (by kernel_rfl) (fun _ _ _ h => h) (.inl ⟨by kernel_rfl, ?hyh3_1⟩) hS ?resth3_1
          case hyh3_1 => (intro w hSw; (try dsimp only at hSw); go_simp; (try with_reducible rfl))
          (try simp only [Act.put, List.setIfInBounds_toArray, List.set_cons_zero, List.set_cons_succ])
          refine wpAnyH_takeD 2 (some 111) (v := ?vh3_2) rfl rfl (by kernel_rfl) (by kernel_rfl) (by kernel_rfl) (fun _ _ _ h => h) (.inl ⟨by kernel_rfl, ?hyh3_2⟩) hS ?resth3_2
          case hyh3_2 => (intro w hSw; (try dsimp only at hSw); go_simp; (try with_reducible rfl))
          (try simp only [Act.put, List.setIfInBounds_toArray, List.set_cons_zero, List.set_cons_succ])
          refine wpAnyH_takeD 3 (some 112) (v := ?vh3_3) rfl rfl (by kernel_rfl) (by kernel_rfl) (by kernel_rfl) (fun _ _ _ h => h) (.inl ⟨by kernel_rfl, ?hyh3_3⟩) hS ?resth3_3
          case hyh3_3 => (intro w hSw; (try dsimp only at hSw); go_simp; (try with_reducible rfl))
          (try simp only [Act.put, List.setIfInBounds_toArray, List.set_cons_zero, List.set_cons_succ])
          refine wpAnyH_takeD 4 (some 113) (v := ?vh3_4) rfl rfl (by kernel_rfl) (by kernel_rfl) (by kernel_rfl) (fun _ _ _ h => h) (.inl ⟨by kernel_rfl, ?hyh3_4⟩) hS ?resth3_4
          case hyh3_4 => (intro w hSw; (try dsimp only at hSw); go_simp; (try with_reducible rfl))
          (try simp only [Act.put, List.setIfInBounds_toArray, List.set_cons_zero, List.set_cons_succ])
          refine wpAnyH_takeD 5 (some 114) (v := ?vh3_5) rfl rfl (by kernel_rfl) (by kernel_rfl) (by kernel_rfl) (fun _ _ _ h => h) (.inl ⟨by kernel_rfl, ?hyh3_5⟩) hS ?resth3_5
          case hyh3_5 => (intro w hSw; (try dsimp only at hSw); go_simp; (try with_reducible rfl))
          (try simp only [Act.put, List.setIfInBounds_toArray, List.set_cons_zero, List.set_cons_succ])
          refine wpAnyH_takeD 6 (some 115) (v := ?vh3_6) rfl rfl (by kernel_rfl) (by kernel_rfl) (by kernel_rfl) (fun _ _ _ h => h) (.inl ⟨by kernel_rfl, ?hyh3_6⟩) hS ?resth3_6
          case hyh3_6 => (intro w hSw; (try dsimp only at hSw); go_simp; (try with_reducible rfl))
          (try simp only [Act.put, List.setIfInBounds_toArray, List.set_cons_zero, List.set_cons_succ])
          refine wpAnyH_takeD 7 (some 116) (v := ?vh3_7) rfl rfl (by kernel_rfl) (by kernel_rfl) (by kernel_rfl) (fun _ _ _ h => h) (.inl ⟨by kernel_rfl, ?hyh3_7⟩) hS ?resth3_7
          case hyh3_7 => (intro w hSw; (try dsimp only at hSw); go_simp; (try with_reducible rfl))
          (try simp only [Act.put, List.setIfInBounds_toArray, List.set_cons_zero, List.set_cons_succ])
          refine wpAnyH_takeD 8 (some 117) (v := ?vh3_8) rfl rfl (by kernel_rfl) (by kernel_rfl) (by kernel_rfl) (fun _ _ _ h => h) (.inl ⟨by kernel_rfl, ?hyh3_8⟩) hS ?resth3_8
          case hyh3_8 => (intro w hSw; (try dsimp only at hSw); go_simp; (try with_reducible rfl))
          (try simp only [Act.put, List.setIfInBounds_toArray, List.set_cons_zero, List.set_cons_succ])
          refine wpAnyH_takeD 9 (some 118) (v := ?vh3_9) rfl rfl (by kernel_rfl) (by kernel_rfl) (by kernel_rfl) (fun _ _ _ h => h) (.inl ⟨by kernel_rfl, ?hyh3_9⟩) hS ?resth3_9
          case hyh3_9 => (intro w hSw; (try dsimp only at hSw); go_simp; (try with_reducible rfl))
          (try simp only [Act.put, List.setIfInBounds_toArray, List.set_cons_zero, List.set_cons_succ])
          refine wpAnyH_takeD 10 (some 119) (v := ?vh3_10) rfl rfl (by kernel_rfl) (by kernel_rfl) (by kernel_rfl) (fun _ _ _ h => h) (.inl ⟨by kernel_rfl, ?hyh3_10⟩) hS ?resth3_10
          case hyh3_10 => (intro w hSw; (try dsimp only at hSw); go_simp; (try with_reducible rfl))
          (try simp only [Act.put, List.setIfInBounds_toArray, List.set_cons_zero, List.set_cons_succ])
          refine wpAnyH_takeD 11 (some 120) (v := ?vh3_11) rfl rfl (by kernel_rfl) (by kernel_rfl) (by kernel_rfl) (fun _ _ _ h => h) (.inl ⟨by kernel_rfl, ?hyh3_11⟩) hS ?resth3_11
          case hyh3_11 => (intro w hSw; (try dsimp only at hSw); go_simp; (try with_reducible rfl))
          (try simp only [Act.put, List.setIfInBounds_toArray, List.set_cons_zero, List.set_cons_succ])
          refine wpAnyH_takeD 12 (some 121) (v := ?vh3_12) rfl rfl (by kernel_rfl) (by kernel_rfl) (by kernel_rfl) (fun _ _ _ h => h) (.inl ⟨by kernel_rfl, ?hyh3_12⟩) hS ?resth3_12
          case hyh3_12 => (intro w hSw; (try dsimp only at hSw); go_simp; (try with_reducible rfl))
          (try simp only [Act.put, List.setIfInBounds_toArray, List.set_cons_zero, List.set_cons_succ])
          refine wpAnyH_takeD 13 (some 122) (v := ?vh3_13) rfl rfl (by kernel_rfl) (by kernel_rfl) (by kernel_rfl) (fun _ _ _ h => h) (.inl ⟨by kernel_rfl, ?hyh3_13⟩) hS ?resth3_13
          case hyh3_13 => (intro w hSw; (try dsimp only at hSw); go_simp; (try with_reducible rfl))
          (try simp only [Act.put, List.setIfInBounds_toArray, List.set_cons_zero, List.set_cons_succ])
          refine wpAnyH_takeD 14 (some 123) (v := undef) rfl rfl (by kernel_rfl) (by kernel_rfl) (by kernel_rfl) (fun _ _ _ h => h) (.inr ⟨by kernel_rfl, rfl⟩) hS ?_
          (try simp only [Act.put, List.setIfInBounds_toArray, List.set_cons_zero, List.set_cons_succ])
          refine wpAnyH_takeD 15 (some 124) (v := undef) rfl rfl (by kernel_rfl) (by kernel_rfl) (by kernel_rfl) (fun _ _ _ h => h) (.inr ⟨by kernel_rfl, rfl⟩) hS ?_
          (try simp only [Act.put, List.setIfInBounds_toArray, List.set_cons_zero, List.set_cons_succ])
          refine wpAnyH_takeD 16 (some 125) (v := undef) rfl rfl (by kernel_rfl) (by kernel_rfl) (by kernel_rfl) (fun _ _ _ h => h) (.inr ⟨by kernel_rfl, rfl⟩) hS ?_
          (try simp only [Act.put, List.setIfInBounds_toArray, List.set_cons_zero, List.set_cons_succ])
          refine wpAnyH_takeD 17 (some 126) (v := undef) rfl rfl (by kernel_rfl) (by kernel_rfl) (by kernel_rfl) (fun _ _ _ h => h) (.inr ⟨by kernel_rfl, rfl⟩) hS ?_
          (try simp only [Act.put, List.setIfInBounds_toArray, List.set_cons_zero, List.set_cons_succ])
          refine wpAnyH_takeD 18 (some 127) (v := undef) rfl rfl (by kernel_rfl) (by kernel_rfl) (by kernel_rfl) (fun _ _ _ h => h) (.inr ⟨by kernel_rfl, rfl⟩) hS ?_
          (try simp only [Act.put, List.setIfInBounds_toArray, List.set_cons_zero, List.set_cons_succ])
          refine wpAnyH_takeD 19 (some 128) (v := undef) rfl rfl (by kernel_rfl) (by kernel_rfl) (by kernel_rfl) (fun _ _ _ h => h) (.inr ⟨by kernel_rfl, rfl⟩) hS ?_
          (try simp only [Act.put, List.setIfInBounds_toArray, List.set_cons_zero, List.set_cons_succ])
          refine wpAnyH_takeD 20 (some 129) (v := undef) rfl rfl (by kernel_rfl) (by kernel_rfl) (by kernel_rfl) (fun _ _ _ h => h) (.inr ⟨by kernel_rfl, rfl⟩) hS ?_
          (try simp only [Act.put, List.setIfInBounds_toArray, List.set_cons_zero, List.set_cons_succ])
          refine wpAnyH_takeD 21 (some 130) (v := undef) rfl rfl (by kernel_rfl) (by kernel_rfl) (by kernel_rfl) (fun _ _ _ h => h) (.inr ⟨by kernel_rfl, rfl⟩) hS ?_
          (try simp only [Act.put, List.setIfInBounds_toArray, List.set_cons_zero, List.set_cons_succ])
          refine wpAnyH_takeD 22 (some 131) (v := undef) rfl rfl (by kernel_rfl) (by kernel_rfl) (by kernel_rfl) (fun _ _ _ h => h) (.inr ⟨by kernel_rfl, rfl⟩) hS ?_
          (try simp only [Act.put, List.setIfInBounds_toArray, List.set_cons_zero, List.set_cons_succ])
          refine wpAnyH_takeD 23 (some 132) (v := undef) rfl rfl (by kernel_rfl) (by kernel_rfl) (by kernel_rfl) (fun _ _ _ h => h) (.inr ⟨by kernel_rfl, rfl⟩) hS ?_
          (try simp only [Act.put, List.setIfInBounds_toArray, List.set_cons_zero, List.set_cons_succ])
          refine wpAnyH_takeD 24 (some 133) (v := undef) rfl rfl (by kernel_rfl) (by kernel_rfl) (by kernel_rfl) (fun _ _ _ h => h) (.inr ⟨by kernel_rfl, rfl⟩) hS ?_
          (try simp only [Act.put, List.setIfInBounds_toArray, List.set_cons_zero, List.set_cons_succ])
          refine wpAnyH_takeD 25 (some 134) (v := undef) rfl rfl (by kernel_rfl) (by kernel_rfl) (by kernel_rfl) (fun _ _ _ h => h) (.inr ⟨by kernel_rfl, rfl⟩) hS ?_
          (try simp only [Act.put, List.setIfInBounds_toArray, List.set_cons_zero, List.set_cons_succ])
          refine wpAnyH_takeD 26 (some 135) (v := undef) rfl rfl (by kernel_rfl) (by kernel_rfl) (by kernel_rfl) (fun _ _ _ h => h) (.inr ⟨by kernel_rfl, rfl⟩) hS ?_
          (try simp only [Act.put, List.setIfInBounds_toArray, List.set_cons_zero, List.set_cons_succ])
          refine wpAnyH_takeD 27 (some 136) (v := ?vh3_27) rfl rfl (by kernel_rfl) (by kernel_rfl) (by kernel_rfl) (fun _ _ _ h => h) (.inl ⟨by kernel_rfl, ?hyh3_27⟩) hS ?resth3_27
          case hyh3_27 => (intro w hSw; (try dsimp only at hSw); go_simp; (try with_reducible rfl))
          (try simp only [Act.put, List.setIfInBounds_toArray, List.set_cons_zero, List.set_cons_succ])
          refine wpAnyH_takeD 28 (some 137) (v := ?vh3_28) rfl rfl (by kernel_rfl) (by kernel_rfl) (by kernel_rfl) (fun _ _ _ h => h) (.inl ⟨by kernel_rfl, ?hyh3_28⟩) hS ?resth3_28
          case hyh3_28 => (intro w hSw; (try dsimp only at hSw); go_simp; (try with_reducible rfl))
          (try simp only [Act.put, List.setIfInBounds_toArray, List.set_cons_zero, List.set_cons_succ])
          refine wpAnyH_takeD 29 (some 138) (v := ?vh3_29) rfl rfl (by kernel_rfl) (by kernel_rfl) (by kernel_rfl) (fun _ _ _ h => h) (.inl ⟨by kernel_rfl, ?hyh3_29⟩) hS ?resth3_29
          case hyh3_29 => (intro w hSw; (try dsimp only at hSw); go_simp; (try with_reducible rfl))
          (try simp only [Act.put, List.setIfInBounds_toArray, List.set_cons_zero, List.set_cons_succ])
          refine wpAnyH_takeD 30 (some 139) (v := ?vh3_30) rfl rfl (by kernel_rfl) (by kernel_rfl) (by kernel_rfl) (fun _ _ _ h => h) (.inl ⟨by kernel_rfl, ?hyh3_30⟩) hS ?resth3_30
          case hyh3_30 => (intro w hSw; (try dsimp only at hSw); go_simp; (try with_reducible rfl))
          (try simp only [Act.put, List.setIfInBounds_toArray, List.set_cons_zero, List.set_cons_succ])
          refine wpAnyH_takeD 31 (some 140) (v := ?vh3_31) rfl rfl (by kernel_rfl) (by kernel_rfl) (by kernel_rfl) (fun _ _ _ h => h) (.inl ⟨by kernel_rfl, ?hyh3_31⟩) hS ?resth3_31
          case hyh3_31 => (intro w hSw; (try dsimp only at hSw); go_simp; (try with_reducible rfl))
          (try simp only [Act.put, List.setIfInBounds_toArray, List.set_cons_zero, List.set_cons_succ])
          refine wpAnyH_takeD 32 (some 141) (v := ?vh3_32) rfl rfl (by kernel_rfl) (by kernel_rfl) (by kernel_rfl) (fun _ _ _ h => h) (.inl ⟨by kernel_rfl, ?hyh3_32⟩) hS ?resth3_32
          case hyh3_32 => (intro w hSw; (try dsimp only at hSw); go_simp; (try with_reducible rfl))
          (try simp only [Act.put, List.setIfInBounds_toArray, List.set_cons_zero, List.set_cons_succ])
          refine wpAnyH_takeD 33 (some 142) (v := ?vh3_33) rfl rfl (by kernel_rfl) (by kernel_rfl) (by kernel_rfl) (fun _ _ _ h => h) (.inl ⟨by kernel_rfl, ?hyh3_33⟩) hS ?resth3_33
          case hyh3_33 => (intro w hSw; (try dsimp only at hSw); go_simp; (try with_reducible rfl))
          (try simp only [Act.put, List.setIfInBounds_toArray, List.set_cons_zero, List.set_cons_succ])
          refine wpAnyH_takeD 34 (some 143) (v := ?vh3_34) rfl rfl (by kernel_rfl) (by kernel_rfl) (by kernel_rfl) (fun _ _ _ h => h) (.inl ⟨by kernel_rfl, ?hyh3_34⟩) hS ?resth3_34
          case hyh3_34 => (intro w hSw; (try dsimp only at hSw); go_simp; (try with_reducible rfl))
          (try simp only [Act.put, List.setIfInBounds_toArray, List.set_cons_zero, List.set_cons_succ])
          refine wpAnyH_takeD 35 (some 144) (v := ?vh3_35) rfl rfl (by kernel_rfl) (by kernel_rfl) (by kernel_rfl) (fun _ _ _ h => h) (.inl ⟨by kernel_rfl, ?hyh3_35⟩) hS ?resth3_35
          case hyh3_35 => (intro w hSw; (try dsimp only at hSw); go_simp; (try with_reducible rfl))
          (try simp only [Act.put, List.setIfInBounds_toArray, List.set_cons_zero, List.set_cons_succ])
          refine wpAnyH_takeD 36 (some 145) (v := ?vh3_36) rfl rfl (by kernel_rfl) (by kernel_rfl) (by kernel_rfl) (fun _ _ _ h => h) (.inl ⟨by kernel_rfl, ?hyh3_36⟩) hS ?resth3_36
          case hyh3_36 => (intro w hSw; (try dsimp only at hSw); go_simp; (try with_reducible rfl))
          (try simp only [Act.put, List.setIfInBounds_toArray, List.set_cons_zero, List.set_cons_succ])
          refine wpAnyH_takeD 37 (some 146) (v := ?vh3_37) rfl rfl (by kernel_rfl) (by kernel_rfl) (by kernel_rfl) (fun _ _ _ h => h) (.inl ⟨by kernel_rfl, ?hyh3_37⟩) hS ?resth3_37
          case hyh3_37 => (intro w hSw; (try dsimp only at hSw); go_simp; (try with_reducible rfl))
          (try simp only [Act.put, List.setIfInBounds_toArray, List.set_cons_zero, List.set_cons_succ])
          refine wpAnyH_takeD 38 (some 147) (v := ?vh3_38) rfl rfl (by kernel_rfl) (by kernel_rfl) (by kernel_rfl) (fun _ _ _ h => h) (.inl ⟨by kernel_rfl, ?hyh3_38⟩) hS ?resth3_38
          case hyh3_38 => (intro w hSw; (try dsimp only at hSw); go_simp; (try with_reducible rfl))
          (try simp only [Act.put, List.setIfInBounds_toArray, List.set_cons_zero, List.set_cons_succ])
          refine wpAnyH_done (by kernel_rfl) ?_ _
          go_wp2
          go_meet
          case rel => exact ⟨rfl, hS.1⟩
      · have g1 : decide (sx ≤ day) = false := decide_eq_false h1
        by_cases h2 : sy ≤ day
        · have g2 : decide (sy ≤ day) = true := decide_eq_true h2
          obtain rfl : sy = 0 := by
            by_cases hz : sy = 0
            · exact hz
            · exact absurd (by rw [← HK2.out h2 hz]; exact h2) h1
          clear h1 h2
          go_wp2_with fail
          have hS : (fun (w' : World) => Below wr.heap.size wr w' ∧ w'.cell? ⟨g6, m, none⟩ = some (.int .i64 sx) ∧ w'.cell? ⟨g7, m, none⟩ = some (.int .i64 0)) _ := hs
          refine wp_region_held_drew (S := fun (w' : World) => Below wr.heap.size wr w' ∧ w'.cell? ⟨g6, m, none⟩ = some (.int .i64 sx) ∧ w'.cell? ⟨g7, m, none⟩ = some (.int .i64 0)) (by kernel_rfl) hS (fun _ => ?_)
          simp only [List.size_toArray, List.length_cons, List.length_nil, Nat.reduceAdd]
          refine wpAnyH_takeD 0 (some 109) (v := ?vh4_0) rfl rfl (by kernel_rfl) (by kernel_rfl) (by kernel_rfl) (fun _ _ _ h => h) (.inl ⟨by kernel_rfl, ?hyh4_0⟩) hS ?resth4_0
          case hyh4_0 => (intro w hSw; (try dsimp only at hSw); go_simp; (try with_reducible rfl))
          (try simp only [Act.put, List.setIfInBounds_toArray, List.set_cons_zero, List.set_cons_succ])
          refine wpAnyH_takeD 1 (some 110) (v := ?vh4_1) rfl rfl (by kernel_rfl) (by kernel_rfl) (by kernel_rfl) (fun _ _ _ h => h) (.inl ⟨by kernel_rfl, ?hyh4_1⟩) hS ?resth4_1
          case hyh4_1 => (intro w hSw; (try dsimp only at hSw); go_simp; (try with_reducible rfl))
          (try simp only [Act.put, List.setIfInBounds_toArray, List.set_cons_zero, List.set_cons_succ])
          refine wpAnyH_takeD 2 (some 111) (v := ?vh4_2) rfl rfl (by kernel_rfl) (by kernel_rfl) (by kernel_rfl) (fun _ _ _ h => h) (.inl ⟨by kernel_rfl, ?hyh4_2⟩) hS ?resth4_2
          case hyh4_2 => (intro w hSw; (try dsimp only at hSw); go_simp; (try with_reducible rfl))
          (try simp only [Act.put, List.setIfInBounds_toArray, List.set_cons_zero, List.set_cons_succ])
          refine wpAnyH_takeD 3 (some 112) (v := ?vh4_3) rfl rfl (by kernel_rfl) (by kernel_rfl) (by kernel_rfl) (fun _ _ _ h => h) (.inl ⟨by kernel_rfl, ?hyh4_3⟩) hS ?resth4_3
          case hyh4_3 => (intro w hSw; (try dsimp only at hSw); go_simp; (try with_reducible rfl))
          (try simp only [Act.put, List.setIfInBounds_toArray, List.set_cons_zero, List.set_cons_succ])
          refine wpAnyH_takeD 4 (some 113) (v := ?vh4_4) rfl rfl (by kernel_rfl) (by kernel_rfl) (by kernel_rfl) (fun _ _ _ h => h) (.inl ⟨by kernel_rfl, ?hyh4_4⟩) hS ?resth4_4
          case hyh4_4 => (intro w hSw; (try dsimp only at hSw); go_simp; (try with_reducible rfl))
          (try simp only [Act.put, List.setIfInBounds_toArray, List.set_cons_zero, List.set_cons_succ])
          refine wpAnyH_takeD 5 (some 114) (v := ?vh4_5) rfl rfl (by kernel_rfl) (by kernel_rfl) (by kernel_rfl) (fun _ _ _ h => h) (.inl ⟨by kernel_rfl, ?hyh4_5⟩) hS ?resth4_5
          case hyh4_5 => (intro w hSw; (try dsimp only at hSw); go_simp; (try with_reducible rfl))
          (try simp only [Act.put, List.setIfInBounds_toArray, List.set_cons_zero, List.set_cons_succ])
          refine wpAnyH_takeD 6 (some 115) (v := ?vh4_6) rfl rfl (by kernel_rfl) (by kernel_rfl) (by kernel_rfl) (fun _ _ _ h => h) (.inl ⟨by kernel_rfl, ?hyh4_6⟩) hS ?resth4_6
          case hyh4_6 => (intro w hSw; (try dsimp only at hSw); go_simp; (try with_reducible rfl))
          (try simp only [Act.put, List.setIfInBounds_toArray, List.set_cons_zero, List.set_cons_succ])
          refine wpAnyH_takeD 7 (some 116) (v := undef) rfl rfl (by kernel_rfl) (by kernel_rfl) (by kernel_rfl) (fun _ _ _ h => h) (.inr ⟨by kernel_rfl, rfl⟩) hS ?_
          (try simp only [Act.put, List.setIfInBounds_toArray, List.set_cons_zero, List.set_cons_succ])
          refine wpAnyH_takeD 8 (some 117) (v := undef) rfl rfl (by kernel_rfl) (by kernel_rfl) (by kernel_rfl) (fun _ _ _ h => h) (.inr ⟨by kernel_rfl, rfl⟩) hS ?_
          (try simp only [Act.put, List.setIfInBounds_toArray, List.set_cons_zero, List.set_cons_succ])
          refine wpAnyH_takeD 9 (some 118) (v := undef) rfl rfl (by kernel_rfl) (by kernel_rfl) (by kernel_rfl) (fun _ _ _ h => h) (.inr ⟨by kernel_rfl, rfl⟩) hS ?_
          (try simp only [Act.put, List.setIfInBounds_toArray, List.set_cons_zero, List.set_cons_succ])
          refine wpAnyH_takeD 10 (some 119) (v := undef) rfl rfl (by kernel_rfl) (by kernel_rfl) (by kernel_rfl) (fun _ _ _ h => h) (.inr ⟨by kernel_rfl, rfl⟩) hS ?_
          (try simp only [Act.put, List.setIfInBounds_toArray, List.set_cons_zero, List.set_cons_succ])
          refine wpAnyH_takeD 11 (some 120) (v := undef) rfl rfl (by kernel_rfl) (by kernel_rfl) (by kernel_rfl) (fun _ _ _ h => h) (.inr ⟨by kernel_rfl, rfl⟩) hS ?_
          (try simp only [Act.put, List.setIfInBounds_toArray, List.set_cons_zero, List.set_cons_succ])
          refine wpAnyH_takeD 12 (some 121) (v := ?vh4_12) rfl rfl (by kernel_rfl) (by kernel_rfl) (by kernel_rfl) (fun _ _ _ h => h) (.inl ⟨by kernel_rfl, ?hyh4_12⟩) hS ?resth4_12
          case hyh4_12 => (intro w hSw; (try dsimp only at hSw); go_simp; (try with_reducible rfl))
          (try simp only [Act.put, List.setIfInBounds_toArray, List.set_cons_zero, List.set_cons_succ])
          refine wpAnyH_takeD 13 (some 122) (v := ?vh4_13) rfl rfl (by kernel_rfl) (by kernel_rfl) (by kernel_rfl) (fun _ _ _ h => h) (.inl ⟨by kernel_rfl, ?hyh4_13⟩) hS ?resth4_13
          case hyh4_13 => (intro w hSw; (try dsimp only at hSw); go_simp; (try with_reducible rfl))
          (try simp only [Act.put, List.setIfInBounds_toArray, List.set_cons_zero, List.set_cons_succ])
          refine wpAnyH_takeD 14 (some 123) (v := ?vh4_14) rfl rfl (by kernel_rfl) (by kernel_rfl) (by kernel_rfl) (fun _ _ _ h => h) (.inl ⟨by kernel_rfl, ?hyh4_14⟩) hS ?resth4_14
          case hyh4_14 => (intro w hSw; (try dsimp only at hSw); go_simp; (try with_reducible rfl))
          (try simp only [Act.put, List.setIfInBounds_toArray, List.set_cons_zero, List.set_cons_succ])
          refine wpAnyH_takeD 15 (some 124) (v := ?vh4_15) rfl rfl (by kernel_rfl) (by kernel_rfl) (by kernel_rfl) (fun _ _ _ h => h) (.inl ⟨by kernel_rfl, ?hyh4_15⟩) hS ?resth4_15
          case hyh4_15 => (intro w hSw; (try dsimp only at hSw); go_simp; (try with_reducible rfl))
          (try simp only [Act.put, List.setIfInBounds_toArray, List.set_cons_zero, List.set_cons_succ])
          refine wpAnyH_takeD 16 (some 125) (v := ?vh4_16) rfl rfl (by kernel_rfl) (by kernel_rfl) (by kernel_rfl) (fun _ _ _ h => h) (.inl ⟨by kernel_rfl, ?hyh4_16⟩) hS ?resth4_16
          case hyh4_16 => (intro w hSw; (try dsimp only at hSw); go_simp; (try with_reducible rfl))
          (try simp only [Act.put, List.setIfInBounds_toArray, List.set_cons_zero, List.set_cons_succ])
          refine wpAnyH_takeD 17 (some 126) (v := ?vh4_17) rfl rfl (by kernel_rfl) (by kernel_rfl) (by kernel_rfl) (fun _ _ _ h => h) (.inl ⟨by kernel_rfl, ?hyh4_17⟩) hS ?resth4_17
          case hyh4_17 => (intro w hSw; (try dsimp only at hSw); go_simp; (try with_reducible rfl))
          (try simp only [Act.put, List.setIfInBounds_toArray, List.set_cons_zero, List.set_cons_succ])
          refine wpAnyH_takeD 18 (some 127) (v := ?vh4_18) rfl rfl (by kernel_rfl) (by kernel_rfl) (by kernel_rfl) (fun _ _ _ h => h) (.inl ⟨by kernel_rfl, ?hyh4_18⟩) hS ?resth4_18
          case hyh4_18 => (intro w hSw; (try dsimp only at hSw); go_simp; (try with_reducible rfl))
          (try simp only [Act.put, List.setIfInBounds_toArray, List.set_cons_zero, List.set_cons_succ])
          refine wpAnyH_takeD 19 (some 128) (v := ?vh4_19) rfl rfl (by kernel_rfl) (by kernel_rfl) (by kernel_rfl) (fun _ _ _ h => h) (.inl ⟨by kernel_rfl, ?hyh4_19⟩) hS ?resth4_19
          case hyh4_19 => (intro w hSw; (try dsimp only at hSw); go_simp; (try with_reducible rfl))
          (try simp only [Act.put, List.setIfInBounds_toArray, List.set_cons_zero, List.set_cons_succ])
          refine wpAnyH_takeD 20 (some 129) (v := ?vh4_20) rfl rfl (by kernel_rfl) (by kernel_rfl) (by kernel_rfl) (fun _ _ _ h => h) (.inl ⟨by kernel_rfl, ?hyh4_20⟩) hS ?resth4_20
          case hyh4_20 => (intro w hSw; (try dsimp only at hSw); go_simp; (try with_reducible rfl))
          (try simp only [Act.put, List.setIfInBounds_toArray, List.set_cons_zero, List.set_cons_succ])
          refine wpAnyH_takeD 21 (some 130) (v := ?vh4_21) rfl rfl (by kernel_rfl) (by kernel_rfl) (by kernel_rfl) (fun _ _ _ h => h) (.inl ⟨by kernel_rfl, ?hyh4_21⟩) hS ?resth4_21
          case hyh4_21 => (intro w hSw; (try dsimp only at hSw); go_simp; (try with_reducible rfl))
          (try simp only [Act.put, List.setIfInBounds_toArray, List.set_cons_zero, List.set_cons_succ])
          refine wpAnyH_takeD 22 (some 131) (v := ?vh4_22) rfl rfl (by kernel_rfl) (by kernel_rfl) (by kernel_rfl) (fun _ _ _ h => h) (.inl ⟨by kernel_rfl, ?hyh4_22⟩) hS ?resth4_22
          case hyh4_22 => (intro w hSw; (try dsimp only at hSw); go_simp; (try with_reducible rfl))
          (try simp only [Act.put, List.setIfInBounds_toArray, List.set_cons_zero, List.set_cons_succ])
          refine wpAnyH_takeD 23 (some 132) (v := ?vh4_23) rfl rfl (by kernel_rfl) (by kernel_rfl) (by kernel_rfl) (fun _ _ _ h => h) (.inl ⟨by kernel_rfl, ?hyh4_23⟩) hS ?resth4_23
          case hyh4_23 => (intro w hSw; (try dsimp only at hSw); go_simp; (try with_reducible rfl))
          (try simp only [Act.put, List.setIfInBounds_toArray, List.set_cons_zero, List.set_cons_succ])
          refine wpAnyH_takeD 24 (some 133) (v := ?vh4_24) rfl rfl (by kernel_rfl) (by kernel_rfl) (by kernel_rfl) (fun _ _ _ h => h) (.inl ⟨by kernel_rfl, ?hyh4_24⟩) hS ?resth4_24
          case hyh4_24 => (intro w hSw; (try dsimp only at hSw); go_simp; (try with_reducible rfl))
          (try simp only [Act.put, List.setIfInBounds_toArray, List.set_cons_zero, List.set_cons_succ])
          refine wpAnyH_takeD 25 (some 134) (v := ?vh4_25) rfl rfl (by kernel_rfl) (by kernel_rfl) (by kernel_rfl) (fun _ _ _ h => h) (.inl ⟨by kernel_rfl, ?hyh4_25⟩) hS ?resth4_25
          case hyh4_25 => (intro w hSw; (try dsimp only at hSw); go_simp; (try with_reducible rfl))
          (try simp only [Act.put, List.setIfInBounds_toArray, List.set_cons_zero, List.set_cons_succ])
          refine wpAnyH_takeD 26 (some 135) (v := ?vh4_26) rfl rfl (by kernel_rfl) (by kernel_rfl) (by kernel_rfl) (fun _ _ _ h => h) (.inl ⟨by kernel_rfl, ?hyh4_26⟩) hS ?resth4_26
          case hyh4_26 => (intro w hSw; (try dsimp only at hSw); go_simp; (try with_reducible rfl))
          (try simp only [Act.put, List.setIfInBounds_toArray, List.set_cons_zero, List.set_cons_succ])
          refine wpAnyH_takeD 27 (some 136) (v := ?vh4_27) rfl rfl (by kernel_rfl) (by kernel_rfl) (by kernel_rfl) (fun _ _ _ h => h) (.inl ⟨by kernel_rfl, ?hyh4_27⟩) hS ?resth4_27
          case hyh4_27 => (intro w hSw; (try dsimp only at hSw); go_simp; (try with_reducible rfl))
          (try simp only [Act.put, List.setIfInBounds_toArray, List.set_cons_zero, List.set_cons_succ])
          refine wpAnyH_takeD 28 (some 137) (v := ?vh4_28) rfl rfl (by kernel_rfl) (by kernel_rfl) (by kernel_rfl) (fun _ _ _ h => h) (.inl ⟨by kernel_rfl, ?hyh4_28⟩) hS ?resth4_28
          case hyh4_28 => (intro w hSw; (try dsimp only at hSw); go_simp; (try with_reducible rfl))
          (try simp only [Act.put, List.setIfInBounds_toArray, List.set_cons_zero, List.set_cons_succ])
          refine wpAnyH_takeD 29 (some 138) (v := undef) rfl rfl (by kernel_rfl) (by kernel_rfl) (by kernel_rfl) (fun _ _ _ h => h) (.inr ⟨by kernel_rfl, rfl⟩) hS ?_
          (try simp only [Act.put, List.setIfInBounds_toArray, List.set_cons_zero, List.set_cons_succ])
          refine wpAnyH_takeD 30 (some 139) (v := undef) rfl rfl (by kernel_rfl) (by kernel_rfl) (by kernel_rfl) (fun _ _ _ h => h) (.inr ⟨by kernel_rfl, rfl⟩) hS ?_
          (try simp only [Act.put, List.setIfInBounds_toArray, List.set_cons_zero, List.set_cons_succ])
          refine wpAnyH_takeD 31 (some 140) (v := undef) rfl rfl (by kernel_rfl) (by kernel_rfl) (by kernel_rfl) (fun _ _ _ h => h) (.inr ⟨by kernel_rfl, rfl⟩) hS ?_
          (try simp only [Act.put, List.setIfInBounds_toArray, List.set_cons_zero, List.set_cons_succ])
          refine wpAnyH_takeD 32 (some 141) (v := undef) rfl rfl (by kernel_rfl) (by kernel_rfl) (by kernel_rfl) (fun _ _ _ h => h) (.inr ⟨by kernel_rfl, rfl⟩) hS ?_
          (try simp only [Act.put, List.setIfInBounds_toArray, List.set_cons_zero, List.set_cons_succ])
          refine wpAnyH_takeD 33 (some 142) (v := undef) rfl rfl (by kernel_rfl) (by kernel_rfl) (by kernel_rfl) (fun _ _ _ h => h) (.inr ⟨by kernel_rfl, rfl⟩) hS ?_
          (try simp only [Act.put, List.setIfInBounds_toArray, List.set_cons_zero, List.set_cons_succ])
          refine wpAnyH_takeD 34 (some 143) (v := undef) rfl rfl (by kernel_rfl) (by kernel_rfl) (by kernel_rfl) (fun _ _ _ h => h) (.inr ⟨by kernel_rfl, rfl⟩) hS ?_
          (try simp only [Act.put, List.setIfInBounds_toArray, List.set_cons_zero, List.set_cons_succ])
          refine wpAnyH_takeD 35 (some 144) (v := undef) rfl rfl (by kernel_rfl) (by kernel_rfl) (by kernel_rfl) (fun _ _ _ h => h) (.inr ⟨by kernel_rfl, rfl⟩) hS ?_
          (try simp only [Act.put, List.setIfInBounds_toArray, List.set_cons_zero, List.set_cons_succ])
          refine wpAnyH_takeD 36 (some 145) (v := undef) rfl rfl (by kernel_rfl) (by kernel_rfl) (by kernel_rfl) (fun _ _ _ h => h) (.inr ⟨by kernel_rfl, rfl⟩) hS ?_
          (try simp only [Act.put, List.setIfInBounds_toArray, List.set_cons_zero, List.set_cons_succ])
          refine wpAnyH_takeD 37 (some 146) (v := undef) rfl rfl (by kernel_rfl) (by kernel_rfl) (by kernel_rfl) (fun _ _ _ h => h) (.inr ⟨by kernel_rfl, rfl⟩) hS ?_
          (try simp only [Act.put, List.setIfInBounds_toArray, List.set_cons_zero, List.set_cons_succ])
          refine wpAnyH_takeD 38 (some 147) (v := ?vh4_38) rfl rfl (by kernel_rfl) (by kernel_rfl) (by kernel_rfl) (fun _ _ _ h => h) (.inl ⟨by kernel_rfl, ?hyh4_38⟩) hS ?resth4_38
          case hyh4_38 => (intro w hSw; (try dsimp only at hSw); go_simp; (try with_reducible rfl))
          (try simp only [Act.put, List.setIfInBounds_toArray, List.set_cons_zero, List.set_cons_succ])
          refine wpAnyH_done (by kernel_rfl) ?_ _
          go_wp2
          go_meet
          case rel => exact ⟨rfl, hS.1⟩
        · have g2 : decide (sy ≤ day) = false := decide_eq_false h2
          clear h1 h2
          go_wp2_with fail
          have hS : (fun (w' : World) => Below wr.heap.size wr w' ∧ w'.cell? ⟨g6, m, none⟩ = some (.int .i64 sx) ∧ w'.cell? ⟨g7, m, none⟩ = some (.int .i64 sy)) _ := hs
          refine wp_region_held_drew (S := fun (w' : World) => Below wr.heap.size wr w' ∧ w'.cell? ⟨g6, m, none⟩ = some (.int .i64 sx) ∧ w'.cell? ⟨g7, m, none⟩ = some (.int .i64 sy)) (by kernel_rfl) hS (fun _ => ?_)
          simp only [List.size_toArray, List.length_cons, List.length_nil, Nat.reduceAdd]
          refine wpAnyH_takeD 0 (some 109) (v := ?vh5_0) rfl rfl (by kernel_rfl) (by kernel_rfl) (by kernel_rfl) (fun _ _ _ h => h) (.inl ⟨by kernel_rfl, ?hyh5_0⟩) hS ?resth5_0
          case hyh5_0 => (intro w hSw; (try dsimp only at hSw); go_simp; (try with_reducible rfl))
          (try simp only [Act.put, List.setIfInBounds_toArray, List.set_cons_zero, List.set_cons_succ])
          refine wpAnyH_takeD 1 (some 110) (v := ?vh5_1) rfl rfl (by kernel_rfl) (by kernel_rfl) (by kernel_rfl) (fun _ _ _ h => h) (.inl ⟨by kernel_rfl, ?hyh5_1⟩) hS ?resth5_1
          case hyh5_1 => (intro w hSw; (try dsimp only at hSw); go_simp; (try with_reducible rfl))
          (try simp only [Act.put, List.setIfInBounds_toArray, List.set_cons_zero, List.set_cons_succ])
          refine wpAnyH_takeD 2 (some 111) (v := ?vh5_2) rfl rfl (by kernel_rfl) (by kernel_rfl) (by kernel_rfl) (fun _ _ _ h => h) (.inl ⟨by kernel_rfl, ?hyh5_2⟩) hS ?resth5_2
          case hyh5_2 => (intro w hSw; (try dsimp only at hSw); go_simp; (try with_reducible rfl))
          (try simp only [Act.put, List.setIfInBounds_toArray, List.set_cons_zero, List.set_cons_succ])
          refine wpAnyH_takeD 3 (some 112) (v := ?vh5_3) rfl rfl (by kernel_rfl) (by kernel_rfl) (by kernel_rfl) (fun _ _ _ h => h) (.inl ⟨by kernel_rfl, ?hyh5_3⟩) hS ?resth5_3
          case hyh5_3 => (intro w hSw; (try dsimp only at hSw); go_simp; (try with_reducible rfl))
          (try simp only [Act.put, List.setIfInBounds_toArray, List.set_cons_zero, List.set_cons_succ])
          refine wpAnyH_takeD 4 (some 113) (v := ?vh5_4) rfl rfl (by kernel_rfl) (by kernel_rfl) (by kernel_rfl) (fun _ _ _ h => h) (.inl ⟨by kernel_rfl, ?hyh5_4⟩) hS ?resth5_4
          case hyh5_4 => (intro w hSw; (try dsimp only at hSw); go_simp; (try with_reducible rfl))
          (try simp only [Act.put, List.setIfInBounds_toArray, List.set_cons_zero, List.set_cons_succ])
          refine wpAnyH_takeD 5 (some 114) (v := ?vh5_5) rfl rfl (by kernel_rfl) (by kernel_rfl) (by kernel_rfl) (fun _ _ _ h => h) (.inl ⟨by kernel_rfl, ?hyh5_5⟩) hS ?resth5_5
          case hyh5_5 => (intro w hSw; (try dsimp only at hSw); go_simp; (try with_reducible rfl))
          (try simp only [Act.put, List.setIfInBounds_toArray, List.set_cons_zero, List.set_cons_succ])
          refine wpAnyH_takeD 6 (some 115) (v := ?vh5_6) rfl rfl (by kernel_rfl) (by kernel_rfl) (by kernel_rfl) (fun _ _ _ h => h) (.inl ⟨by kernel_rfl, ?hyh5_6⟩) hS ?resth5_6
          case hyh5_6 => (intro w hSw; (try dsimp only at hSw); go_simp; (try with_reducible rfl))
          (try simp only [Act.put, List.setIfInBounds_toArray, List.set_cons_zero, List.set_cons_succ])
          refine wpAnyH_takeD 7 (some 116) (v := undef) rfl rfl (by kernel_rfl) (by kernel_rfl) (by kernel_rfl) (fun _ _ _ h => h) (.inr ⟨by kernel_rfl, rfl⟩) hS ?_
          (try simp only [Act.put, List.setIfInBounds_toArray, List.set_cons_zero, List.set_cons_succ])
          refine wpAnyH_takeD 8 (some 117) (v := undef) rfl rfl (by kernel_rfl) (by kernel_rfl) (by kernel_rfl) (fun _ _ _ h => h) (.inr ⟨by kernel_rfl, rfl⟩) hS ?_
          (try simp only [Act.put, List.setIfInBounds_toArray, List.set_cons_zero, List.set_cons_succ])
          refine wpAnyH_takeD 9 (some 118) (v := undef) rfl rfl (by kernel_rfl) (by kernel_rfl) (by kernel_rfl) (fun _ _ _ h => h) (.inr ⟨by kernel_rfl, rfl⟩) hS ?_
          (try simp only [Act.put, List.setIfInBounds_toArray, List.set_cons_zero, List.set_cons_succ])
          refine wpAnyH_takeD 10 (some 119) (v := undef) rfl rfl (by kernel_rfl) (by kernel_rfl) (by kernel_rfl) (fun _ _ _ h => h) (.inr ⟨by kernel_rfl, rfl⟩) hS ?_
          (try simp only [Act.put, List.setIfInBounds_toArray, List.set_cons_zero, List.set_cons_succ])
          refine wpAnyH_takeD 11 (some 120) (v := undef) rfl rfl (by kernel_rfl) (by kernel_rfl) (by kernel_rfl) (fun _ _ _ h => h) (.inr ⟨by kernel_rfl, rfl⟩) hS ?_
          (try simp only [Act.put, List.setIfInBounds_toArray, List.set_cons_zero, List.set_cons_succ])
          refine wpAnyH_takeD 12 (some 121) (v := ?vh5_12) rfl rfl (by kernel_rfl) (by kernel_rfl) (by kernel_rfl) (fun _ _ _ h => h) (.inl ⟨by kernel_rfl, ?hyh5_12⟩) hS ?resth5_12
          case hyh5_12 => (intro w hSw; (try dsimp only at hSw); go_simp; (try with_reducible rfl))
          (try simp only [Act.put, List.setIfInBounds_toArray, List.set_cons_zero, List.set_cons_succ])
          refine wpAnyH_takeD 13 (some 122) (v := ?vh5_13) rfl rfl (by kernel_rfl) (by kernel_rfl) (by kernel_rfl) (fun _ _ _ h => h) (.inl ⟨by kernel_rfl, ?hyh5_13⟩) hS ?resth5_13
          case hyh5_13 => (intro w hSw; (try dsimp only at hSw); go_simp; (try with_reducible rfl))
          (try simp only [Act.put, List.setIfInBounds_toArray, List.set_cons_zero, List.set_cons_succ])
          refine wpAnyH_takeD 14 (some 123) (v := ?vh5_14) rfl rfl (by kernel_rfl) (by kernel_rfl) (by kernel_rfl) (fun _ _ _ h => h) (.inl ⟨by kernel_rfl, ?hyh5_14⟩) hS ?resth5_14
          case hyh5_14 => (intro w hSw; (try dsimp only at hSw); go_simp; (try with_reducible rfl))
          (try simp only [Act.put, List.setIfInBounds_toArray, List.set_cons_zero, List.set_cons_succ])
          refine wpAnyH_takeD 15 (some 124) (v := ?vh5_15) rfl rfl (by kernel_rfl) (by kernel_rfl) (by kernel_rfl) (fun _ _ _ h => h) (.inl ⟨by kernel_rfl, ?hyh5_15⟩) hS ?resth5_15
          case hyh5_15 => (intro w hSw; (try dsimp only at hSw); go_simp; (try with_reducible rfl))
          (try simp only [Act.put, List.setIfInBounds_toArray, List.set_cons_zero, List.set_cons_succ])
          refine wpAnyH_takeD 16 (some 125) (v := ?vh5_16) rfl rfl (by kernel_rfl) (by kernel_rfl) (by kernel_rfl) (fun _ _ _ h => h) (.inl ⟨by kernel_rfl, ?hyh5_16⟩) hS ?resth5_16
          case hyh5_16 => (intro w hSw; (try dsimp only at hSw); go_simp; (try with_reducible rfl))
          (try simp only [Act.put, List.setIfInBounds_toArray, List.set_cons_zero, List.set_cons_succ])
          refine wpAnyH_takeD 17 (some 126) (v := ?vh5_17) rfl rfl (by kernel_rfl) (by kernel_rfl) (by kernel_rfl) (fun _ _ _ h => h) (.inl ⟨by kernel_rfl, ?hyh5_17⟩) hS ?resth5_17
          case hyh5_17 => (intro w hSw; (try dsimp only at hSw); go_simp; (try with_reducible rfl))
          (try simp only [Act.put, List.setIfInBounds_toArray, List.set_cons_zero, List.set_cons_succ])
          refine wpAnyH_takeD 18 (some 127) (v := ?vh5_18) rfl rfl (by kernel_rfl) (by kernel_rfl) (by kernel_rfl) (fun _ _ _ h => h) (.inl ⟨by kernel_rfl, ?hyh5_18⟩) hS ?resth5_18
          case hyh5_18 => (intro w hSw; (try dsimp only at hSw); go_simp; (try with_reducible rfl))
          (try simp only [Act.put, List.setIfInBounds_toArray, List.set_cons_zero, List.set_cons_succ])
          refine wpAnyH_takeD 19 (some 128) (v := ?vh5_19) rfl rfl (by kernel_rfl) (by kernel_rfl) (by kernel_rfl) (fun _ _ _ h => h) (.inl ⟨by kernel_rfl, ?hyh5_19⟩) hS ?resth5_19
          case hyh5_19 => (intro w hSw; (try dsimp only at hSw); go_simp; (try with_reducible rfl))
          (try simp only [Act.put, List.setIfInBounds_toArray, List.set_cons_zero, List.set_cons_succ])
          refine wpAnyH_takeD 20 (some 129) (v := ?vh5_20) rfl rfl (by kernel_rfl) (by kernel_rfl) (by kernel_rfl) (fun _ _ _ h => h) (.inl ⟨by kernel_rfl, ?hyh5_20⟩) hS ?resth5_20
          case hyh5_20 => (intro w hSw; (try dsimp only at hSw); go_simp; (try with_reducible rfl))
          (try simp only [Act.put, List.setIfInBounds_toArray, List.set_cons_zero, List.set_cons_succ])
          refine wpAnyH_takeD 21 (some 130) (v := undef) rfl rfl (by kernel_rfl) (by kernel_rfl) (by kernel_rfl) (fun _ _ _ h => h) (.inr ⟨by kernel_rfl, rfl⟩) hS ?_
          (try simp only [Act.put, List.setIfInBounds_toArray, List.set_cons_zero, List.set_cons_succ])
          refine wpAnyH_takeD 22 (some 131) (v := undef) rfl rfl (by kernel_rfl) (by kernel_rfl) (by kernel_rfl) (fun _ _ _ h => h) (.inr ⟨by kernel_rfl, rfl⟩) hS ?_
          (try simp only [Act.put, List.setIfInBounds_toArray, List.set_cons_zero, List.set_cons_succ])
          refine wpAnyH_takeD 23 (some 132) (v := undef) rfl rfl (by kernel_rfl) (by kernel_rfl) (by kernel_rfl) (fun _ _ _ h => h) (.inr ⟨by kernel_rfl, rfl⟩) hS ?_
          (try simp only [Act.put, List.setIfInBounds_toArray, List.set_cons_zero, List.set_cons_succ])
          refine wpAnyH_takeD 24 (some 133) (v := undef) rfl rfl (by kernel_rfl) (by kernel_rfl) (by kernel_rfl) (fun _ _ _ h => h) (.inr ⟨by kernel_rfl, rfl⟩) hS ?_
          (try simp only [Act.put, List.setIfInBounds_toArray, List.set_cons_zero, List.set_cons_succ])
          refine wpAnyH_takeD 25 (some 134) (v := undef) rfl rfl (by kernel_rfl) (by kernel_rfl) (by kernel_rfl) (fun _ _ _ h => h) (.inr ⟨by kernel_rfl, rfl⟩) hS ?_
          (try simp only [Act.put, List.setIfInBounds_toArray, List.set_cons_zero, List.set_cons_succ])
          refine wpAnyH_takeD 26 (some 135) (v := ?vh5_26) rfl rfl (by kernel_rfl) (by kernel_rfl) (by kernel_rfl) (fun _ _ _ h => h) (.inl ⟨by kernel_rfl, ?hyh5_26⟩) hS ?resth5_26
          case hyh5_26 => (intro w hSw; (try dsimp only at hSw); go_simp; (try with_reducible rfl))
          (try simp only [Act.put, List.setIfInBounds_toArray, List.set_cons_zero, List.set_cons_succ])
          refine wpAnyH_takeD 27 (some 136) (v := ?vh5_27) rfl rfl (by kernel_rfl) (by kernel_rfl) (by kernel_rfl) (fun _ _ _ h => h) (.inl ⟨by kernel_rfl, ?hyh5_27⟩) hS ?resth5_27
          case hyh5_27 => (intro w hSw; (try dsimp only at hSw); go_simp; (try with_reducible rfl))
          (try simp only [Act.put, List.setIfInBounds_toArray, List.set_cons_zero, List.set_cons_succ])
          refine wpAnyH_takeD 28 (some 137) (v := ?vh5_28) rfl rfl (by kernel_rfl) (by kernel_rfl) (by kernel_rfl) (fun _ _ _ h => h) (.inl ⟨by kernel_rfl, ?hyh5_28⟩) hS ?resth5_28
          case hyh5_28 => (intro w hSw; (try dsimp only at hSw); go_simp; (try with_reducible rfl))
          (try simp only [Act.put, List.setIfInBounds_toArray, List.set_cons_zero, List.set_cons_succ])
          refine wpAnyH_takeD 29 (some 138) (v := undef) rfl rfl (by kernel_rfl) (by kernel_rfl) (by kernel_rfl) (fun _ _ _ h => h) (.inr ⟨by kernel_rfl, rfl⟩) hS ?_
          (try simp only [Act.put, List.setIfInBounds_toArray, List.set_cons_zero, List.set_cons_succ])
          refine wpAnyH_takeD 30 (some 139) (v := undef) rfl rfl (by kernel_rfl) (by kernel_rfl) (by kernel_rfl) (fun _ _ _ h => h) (.inr ⟨by kernel_rfl, rfl⟩) hS ?_
          (try simp only [Act.put, List.setIfInBounds_toArray, List.set_cons_zero, List.set_cons_succ])
          refine wpAnyH_takeD 31 (some 140) (v := undef) rfl rfl (by kernel_rfl) (by kernel_rfl) (by kernel_rfl) (fun _ _ _ h => h) (.inr ⟨by kernel_rfl, rfl⟩) hS ?_
          (try simp only [Act.put, List.setIfInBounds_toArray, List.set_cons_zero, List.set_cons_succ])
          refine wpAnyH_takeD 32 (some 141) (v := undef) rfl rfl (by kernel_rfl) (by kernel_rfl) (by kernel_rfl) (fun _ _ _ h => h) (.inr ⟨by kernel_rfl, rfl⟩) hS ?_
          (try simp only [Act.put, List.setIfInBounds_toArray, List.set_cons_zero, List.set_cons_succ])
          refine wpAnyH_takeD 33 (some 142) (v := undef) rfl rfl (by kernel_rfl) (by kernel_rfl) (by kernel_rfl) (fun _ _ _ h => h) (.inr ⟨by kernel_rfl, rfl⟩) hS ?_
          (try simp only [Act.put, List.setIfInBounds_toArray, List.set_cons_zero, List.set_cons_succ])
          refine wpAnyH_takeD 34 (some 143) (v := undef) rfl rfl (by kernel_rfl) (by kernel_rfl) (by kernel_rfl) (fun _ _ _ h => h) (.inr ⟨by kernel_rfl, rfl⟩) hS ?_
          (try simp only [Act.put, List.setIfInBounds_toArray, List.set_cons_zero, List.set_cons_succ])
          refine wpAnyH_takeD 35 (some 144) (v := undef) rfl rfl (by kernel_rfl) (by kernel_rfl) (by kernel_rfl) (fun _ _ _ h => h) (.inr ⟨by kernel_rfl, rfl⟩) hS ?_
          (try simp only [Act.put, List.setIfInBounds_toArray, List.set_cons_zero, List.set_cons_succ])
          refine wpAnyH_takeD 36 (some 145) (v := undef) rfl rfl (by kernel_rfl) (by kernel_rfl) (by kernel_rfl) (fun _ _ _ h => h) (.inr ⟨by kernel_rfl, rfl⟩) hS ?_
          (try simp only [Act.put, List.setIfInBounds_toArray, List.set_cons_zero, List.set_cons_succ])
          refine wpAnyH_takeD 37 (some 146) (v := undef) rfl rfl (by kernel_rfl) (by kernel_rfl) (by kernel_rfl) (fun _ _ _ h => h) (.inr ⟨by kernel_rfl, rfl⟩) hS ?_
          (try simp only [Act.put, List.setIfInBounds_toArray, List.set_cons_zero, List.set_cons_succ])
          refine wpAnyH_takeD 38 (some 147) (v := ?vh5_38) rfl rfl (by kernel_rfl) (by kernel_rfl) (by kernel_rfl) (fun _ _ _ h => h) (.inl ⟨by kernel_rfl, ?hyh5_38⟩) hS ?resth5_38
          case hyh5_38 => (intro w hSw; (try dsimp only at hSw); go_simp; (try with_reducible rfl))
          (try simp only [Act.put, List.setIfInBounds_toArray, List.set_cons_zero, List.set_cons_succ])
          refine wpAnyH_done (by kernel_rfl) ?_ _
          go_wp2
          go_meet
          case rel => exact ⟨rfl, hS.1⟩
    case rest =>
      obtain ⟨rfl, hbc⟩ := hcut
      have HBC := Lib.hid hbc
      have hs : (fun (w' : World) => SelH wr (.agg #[.bool (decide (p.num < 0)), .slice C1 (dg p.num.natAbs).length c1', .slice C2 (dg p.den).length c2']) (.agg #[.bool (decide (q.num < 0)), .slice E1 (dg q.num.natAbs).length f1, .slice E2 (dg q.den).length f2]) p q w' ∧ w'.cell? ⟨w.heap.size, 2, none⟩ = some (.slice (some ad) L.length c) ∧ w'.cell? ⟨(ad.add (m * 5)).block, (ad.add (m * 5)).off + 1, none⟩ = some (.int .i64 x.2.1) ∧ (w'.cell? ⟨g8, m * 3, none⟩ = some (.bool (decide (p.num < 0))) ∧ w'.cell? ⟨g8, m * 3 + 1, none⟩ = some (.slice C1 (dg p.num.natAbs).length c1') ∧ w'.cell? ⟨g8, m * 3 + 2, none⟩ = some (.slice C2 (dg p.den).length c2')) ∧ (w'.cell? ⟨g9, m * 3, none⟩ = some (.bool (decide (q.num < 0))) ∧ w'.cell? ⟨g9, m * 3 + 1, none⟩ = some (.slice E1 (dg q.num.natAbs).length f1) ∧ w'.cell? ⟨g9, m * 3 + 2, none⟩ = some (.slice E2 (dg q.den).length f2))) wc.drew := knh_next (bl_trans hbc (bl_drew wc)) H14.out
      have HBx := Lib.hid (bl_trans HB.out hbc)
      clear hbc
      by_cases hgo : x.2.1 ≤ day
      · have g1 : decide (x.2.1 ≤ day) = true := decide_eq_true hgo
        have hpq := HK3.out hgo
        have HPQ := Lib.hid (show decide (p = q) = true from decide_eq_true hpq)
        clear hgo hpq
        go_wp2_with fail
        have hS : (fun (w' : World) => SelH wr (.agg #[.bool (decide (p.num < 0)), .slice C1 (dg p.num.natAbs).length c1', .slice C2 (dg p.den).length c2']) (.agg #[.bool (decide (q.num < 0)), .slice E1 (dg q.num.natAbs).length f1, .slice E2 (dg q.den).length f2]) p q w' ∧ w'.cell? ⟨w.heap.size, 2, none⟩ = some (.slice (some ad) L.length c) ∧ w'.cell? ⟨(ad.add (m * 5)).block, (ad.add (m * 5)).off + 1, none⟩ = some (.int .i64 x.2.1) ∧ (w'.cell? ⟨g8, m * 3, none⟩ = some (.bool (decide (p.num < 0))) ∧ w'.cell? ⟨g8, m * 3 + 1, none⟩ = some (.slice C1 (dg p.num.natAbs).length c1') ∧ w'.cell? ⟨g8, m * 3 + 2, none⟩ = some (.slice C2 (dg p.den).length c2')) ∧ (w'.cell? ⟨g9, m * 3, none⟩ = some (.bool (decide (q.num < 0))) ∧ w'.cell? ⟨g9, m * 3 + 1, none⟩ = some (.slice E1 (dg q.num.natAbs).length f1) ∧ w'.cell? ⟨g9, m * 3 + 2, none⟩ = some (.slice E2 (dg q.den).length f2))) _ := hs
        refine wp_region_held_drew (S := fun (w' : World) => SelH wr (.agg #[.bool (decide (p.num < 0)), .slice C1 (dg p.num.natAbs).length c1', .slice C2 (dg p.den).length c2']) (.agg #[.bool (decide (q.num < 0)), .slice E1 (dg q.num.natAbs).length f1, .slice E2 (dg q.den).length f2]) p q w' ∧ w'.cell? ⟨w.heap.size, 2, none⟩ = some (.slice (some ad) L.length c) ∧ w'.cell? ⟨(ad.add (m * 5)).block, (ad.add (m * 5)).off + 1, none⟩ = some (.int .i64 x.2.1) ∧ (w'.cell? ⟨g8, m * 3, none⟩ = some (.bool (decide (p.num < 0))) ∧ w'.cell? ⟨g8, m * 3 + 1, none⟩ = some (.slice C1 (dg p.num.natAbs).length c1') ∧ w'.cell? ⟨g8, m * 3 + 2, none⟩ = some (.slice C2 (dg p.den).length c2')) ∧ (w'.cell? ⟨g9, m * 3, none⟩ = some (.bool (decide (q.num < 0))) ∧ w'.cell? ⟨g9, m * 3 + 1, none⟩ = some (.slice E1 (dg q.num.natAbs).length f1) ∧ w'.cell? ⟨g9, m * 3 + 2, none⟩ = some (.slice E2 (dg q.den).length f2))) (by kernel_rfl) hS (fun _ => ?_)
        simp only [List.size_toArray, List.length_cons, List.length_nil, Nat.reduceAdd]
        refine wpAnyH_takeD 0 (some 148) (v := ?vh6_0) rfl rfl (by kernel_rfl) (by kernel_rfl) (by kernel_rfl) (fun _ _ _ h => h) (.inl ⟨by kernel_rfl, ?hyh6_0⟩) hS ?resth6_0
        case hyh6_0 => (intro w hSw; (try dsimp only at hSw); go_simp; (try with_reducible rfl))
        (try simp only [Act.put, List.setIfInBounds_toArray, List.set_cons_zero, List.set_cons_succ])
        refine wpAnyH_takeD 1 (some 149) (v := ?vh6_1) rfl rfl (by kernel_rfl) (by kernel_rfl) (by kernel_rfl) (fun _ _ _ h => h) (.inl ⟨by kernel_rfl, ?hyh6_1⟩) hS ?resth6_1
        case hyh6_1 => (intro w hSw; (try dsimp only at hSw); go_simp; (try with_reducible rfl))
        (try simp only [Act.put, List.setIfInBounds_toArray, List.set_cons_zero, List.set_cons_succ])
        refine wpAnyH_takeD 2 (some 150) (v := ?vh6_2) rfl rfl (by kernel_rfl) (by kernel_rfl) (by kernel_rfl) (fun _ _ _ h => h) (.inl ⟨by kernel_rfl, ?hyh6_2⟩) hS ?resth6_2
        case hyh6_2 => (intro w hSw; (try dsimp only at hSw); go_simp; (try with_reducible rfl))
        (try simp only [Act.put, List.setIfInBounds_toArray, List.set_cons_zero, List.set_cons_succ])
        refine wpAnyH_takeD 3 (some 151) (v := ?vh6_3) rfl rfl (by kernel_rfl) (by kernel_rfl) (by kernel_rfl) (fun _ _ _ h => h) (.inl ⟨by kernel_rfl, ?hyh6_3⟩) hS ?resth6_3
        case hyh6_3 => (intro w hSw; (try dsimp only at hSw); go_simp; (try with_reducible rfl))
        (try simp only [Act.put, List.setIfInBounds_toArray, List.set_cons_zero, List.set_cons_succ])
        refine wpAnyH_takeD 4 (some 152) (v := ?vh6_4) rfl rfl (by kernel_rfl) (by kernel_rfl) (by kernel_rfl) (fun _ _ _ h => h) (.inl ⟨by kernel_rfl, ?hyh6_4⟩) hS ?resth6_4
        case hyh6_4 => (intro w hSw; (try dsimp only at hSw); go_simp; (try with_reducible rfl))
        (try simp only [Act.put, List.setIfInBounds_toArray, List.set_cons_zero, List.set_cons_succ])
        refine wpAnyH_takeD 5 (some 153) (v := ?vh6_5) rfl rfl (by kernel_rfl) (by kernel_rfl) (by kernel_rfl) (fun _ _ _ h => h) (.inl ⟨by kernel_rfl, ?hyh6_5⟩) hS ?resth6_5
        case hyh6_5 => (intro w hSw; (try dsimp only at hSw); go_simp; (try with_reducible rfl))
        (try simp only [Act.put, List.setIfInBounds_toArray, List.set_cons_zero, List.set_cons_succ])
        refine wpAnyH_takeD 6 (some 154) (v := ?vh6_6) rfl rfl (by kernel_rfl) (by kernel_rfl) (by kernel_rfl) (fun _ _ _ h => h) (.inl ⟨by kernel_rfl, ?hyh6_6⟩) hS ?resth6_6
        case hyh6_6 => (intro w hSw; (try dsimp only at hSw); go_simp; (try with_reducible rfl))
        (try simp only [Act.put, List.setIfInBounds_toArray, List.set_cons_zero, List.set_cons_succ])
        refine wpAnyH_takeD 7 (some 155) (v := ?vh6_7) rfl rfl (by kernel_rfl) (by kernel_rfl) (by kernel_rfl) (fun _ _ _ h => h) (.inl ⟨by kernel_rfl, ?hyh6_7⟩) hS ?resth6_7
        case hyh6_7 => (intro w hSw; (try dsimp only at hSw); go_simp; (try with_reducible rfl))
        (try simp only [Act.put, List.setIfInBounds_toArray, List.set_cons_zero, List.set_cons_succ])
        refine wpAnyH_takeD 8 (some 156) (v := ?vh6_8) rfl rfl (by kernel_rfl) (by kernel_rfl) (by kernel_rfl) (fun _ _ _ h => h) (.inl ⟨by kernel_rfl, ?hyh6_8⟩) hS ?resth6_8
        case hyh6_8 => (intro w hSw; (try dsimp only at hSw); go_simp; (try with_reducible rfl))
        (try simp only [Act.put, List.setIfInBounds_toArray, List.set_cons_zero, List.set_cons_succ])
        refine wpAnyH_takeD 9 (some 157) (v := ?vh6_9) rfl rfl (by kernel_rfl) (by kernel_rfl) (by kernel_rfl) (fun _ _ _ h => h) (.inl ⟨by kernel_rfl, ?hyh6_9⟩) hS ?resth6_9
        case hyh6_9 => (intro w hSw; (try dsimp only at hSw); go_simp; (try with_reducible rfl))
        (try simp only [Act.put, List.setIfInBounds_toArray, List.set_cons_zero, List.set_cons_succ])
        refine wpAnyH_takeD 10 (some 158) (v := ?vh6_10) rfl rfl (by kernel_rfl) (by kernel_rfl) (by kernel_rfl) (fun _ _ _ h => h) (.inl ⟨by kernel_rfl, ?hyh6_10⟩) hS ?resth6_10
        case hyh6_10 => (intro w hSw; (try dsimp only at hSw); go_simp; (try with_reducible rfl))
        (try simp only [Act.put, List.setIfInBounds_toArray, List.set_cons_zero, List.set_cons_succ])
        refine wpAnyH_takeD 11 (some 159) (v := ?vh6_11) rfl rfl (by kernel_rfl) (by kernel_rfl) (by kernel_rfl) (fun _ _ _ h => h) (.inl ⟨by kernel_rfl, ?hyh6_11⟩) hS ?resth6_11
        case hyh6_11 => (intro w hSw; (try dsimp only at hSw); go_simp; (try with_reducible rfl))
        (try simp only [Act.put, List.setIfInBounds_toArray, List.set_cons_zero, List.set_cons_succ])
        refine wpAnyH_takeD 12 (some 160) (v := ?vh6_12) rfl rfl (by kernel_rfl) (by kernel_rfl) (by kernel_rfl) (fun _ _ _ h => h) (.inl ⟨by kernel_rfl, ?hyh6_12⟩) hS ?resth6_12
        case hyh6_12 => (intro w hSw; (try dsimp only at hSw); go_simp; (try with_reducible rfl))
        (try simp only [Act.put, List.setIfInBounds_toArray, List.set_cons_zero, List.set_cons_succ])
        refine wpAnyH_takeD 13 (some 161) (v := ?vh6_13) rfl rfl (by kernel_rfl) (by kernel_rfl) (by kernel_rfl) (fun _ _ _ h => h) (.inl ⟨by kernel_rfl, ?hyh6_13⟩) hS ?resth6_13
        case hyh6_13 => (intro w hSw; (try dsimp only at hSw); go_simp; (try with_reducible rfl))
        (try simp only [Act.put, List.setIfInBounds_toArray, List.set_cons_zero, List.set_cons_succ])
        refine wpAnyH_takeD 14 (some 162) (v := ?vh6_14) rfl rfl (by kernel_rfl) (by kernel_rfl) (by kernel_rfl) (fun _ _ _ h => h) (.inl ⟨by kernel_rfl, ?hyh6_14⟩) hS ?resth6_14
        case hyh6_14 => (intro w hSw; (try dsimp only at hSw); go_simp; (try with_reducible rfl))
        (try simp only [Act.put, List.setIfInBounds_toArray, List.set_cons_zero, List.set_cons_succ])
        refine wpAnyH_takeD 15 (some 163) (v := ?vh6_15) rfl rfl (by kernel_rfl) (by kernel_rfl) (by kernel_rfl) (fun _ _ _ h => h) (.inl ⟨by kernel_rfl, ?hyh6_15⟩) hS ?resth6_15
        case hyh6_15 => (intro w hSw; (try dsimp only at hSw); go_simp; (try with_reducible rfl))
        (try simp only [Act.put, List.setIfInBounds_toArray, List.set_cons_zero, List.set_cons_succ])
        refine wpAnyH_takeD 16 (some 164) (v := ?vh6_16) rfl rfl (by kernel_rfl) (by kernel_rfl) (by kernel_rfl) (fun _ _ _ h => h) (.inl ⟨by kernel_rfl, ?hyh6_16⟩) hS ?resth6_16
        case hyh6_16 => (intro w hSw; (try dsimp only at hSw); go_simp; (try with_reducible rfl))
        (try simp only [Act.put, List.setIfInBounds_toArray, List.set_cons_zero, List.set_cons_succ])
        refine wpAnyH_ready (rs := [17]) (by kernel_rfl) (by simp) ?_
        refine AllReadyH.cons (o := { dst := some 165, op := Op.call { callee := Callee.value (Operand.func 29), args := #[Operand.tmp 160, Operand.tmp 164], argTypes := #[38, 38] }, type := 4, pos := "law.go:157", after := #[{ on := 12, ground := Ground.data }, { on := 16, ground := Ground.data }, { on := 8, ground := Ground.chain }, { on := 8, ground := Ground.guard }], guard := some (8, true) }) ?hoh6_17 ?hth6_17 ?hnh6_17
        case hoh6_17 => rfl
        case hnh6_17 => exact AllReadyH.nil
        intro K hK
        refine iteP (by kernel_rfl) ?_
        go_simp
        go_at_call 29
        with_reducible refine (same_q _ _ _ p q ?_ ?_).mono ?_
        exact SelH.a hS.1
        exact SelH.b hS.1
        rintro e w8 ⟨rfl, hb8⟩
        rw [HPQ.out]
        have hS8 := knh_next hb8 hS
        refine hK.out _ _ hS8 (fun _ => ?_)
        clear hS K hK
        have hS := hS8
        clear hS8
        (try simp only [Act.put, List.setIfInBounds_toArray, List.set_cons_zero, List.set_cons_succ])
        refine wpAnyH_takeD 18 (some 166) (v := ?vh6_18) rfl rfl (by kernel_rfl) (by kernel_rfl) (by kernel_rfl) (fun _ _ _ h => h) (.inl ⟨by kernel_rfl, ?hyh6_18⟩) hS ?resth6_18
        case hyh6_18 => (intro w hSw; (try dsimp only at hSw); go_simp; (try with_reducible rfl))
        (try simp only [Act.put, List.setIfInBounds_toArray, List.set_cons_zero, List.set_cons_succ])
        refine wpAnyH_takeD 19 (some 167) (v := ?vh6_19) rfl rfl (by kernel_rfl) (by kernel_rfl) (by kernel_rfl) (fun _ _ _ h => h) (.inl ⟨by kernel_rfl, ?hyh6_19⟩) hS ?resth6_19
        case hyh6_19 => (intro w hSw; (try dsimp only at hSw); go_simp; (try with_reducible rfl))
        (try simp only [Act.put, List.setIfInBounds_toArray, List.set_cons_zero, List.set_cons_succ])
        refine wpAnyH_done (by kernel_rfl) ?_ _
        go_wp2
        exact ⟨⟨m + 1, by omega, by go_num, bl_trans HB.out hS.1.1⟩, by simp [intOf]; omega⟩
      · have g1 : decide (x.2.1 ≤ day) = false := decide_eq_false hgo
        clear hgo
        go_wp2_with fail
        have hS : (fun (w' : World) => SelH wr (.agg #[.bool (decide (p.num < 0)), .slice C1 (dg p.num.natAbs).length c1', .slice C2 (dg p.den).length c2']) (.agg #[.bool (decide (q.num < 0)), .slice E1 (dg q.num.natAbs).length f1, .slice E2 (dg q.den).length f2]) p q w' ∧ w'.cell? ⟨w.heap.size, 2, none⟩ = some (.slice (some ad) L.length c) ∧ w'.cell? ⟨(ad.add (m * 5)).block, (ad.add (m * 5)).off + 1, none⟩ = some (.int .i64 x.2.1) ∧ (w'.cell? ⟨g8, m * 3, none⟩ = some (.bool (decide (p.num < 0))) ∧ w'.cell? ⟨g8, m * 3 + 1, none⟩ = some (.slice C1 (dg p.num.natAbs).length c1') ∧ w'.cell? ⟨g8, m * 3 + 2, none⟩ = some (.slice C2 (dg p.den).length c2')) ∧ (w'.cell? ⟨g9, m * 3, none⟩ = some (.bool (decide (q.num < 0))) ∧ w'.cell? ⟨g9, m * 3 + 1, none⟩ = some (.slice E1 (dg q.num.natAbs).length f1) ∧ w'.cell? ⟨g9, m * 3 + 2, none⟩ = some (.slice E2 (dg q.den).length f2))) _ := hs
        refine wp_region_held_drew (S := fun (w' : World) => SelH wr (.agg #[.bool (decide (p.num < 0)), .slice C1 (dg p.num.natAbs).length c1', .slice C2 (dg p.den).length c2']) (.agg #[.bool (decide (q.num < 0)), .slice E1 (dg q.num.natAbs).length f1, .slice E2 (dg q.den).length f2]) p q w' ∧ w'.cell? ⟨w.heap.size, 2, none⟩ = some (.slice (some ad) L.length c) ∧ w'.cell? ⟨(ad.add (m * 5)).block, (ad.add (m * 5)).off + 1, none⟩ = some (.int .i64 x.2.1) ∧ (w'.cell? ⟨g8, m * 3, none⟩ = some (.bool (decide (p.num < 0))) ∧ w'.cell? ⟨g8, m * 3 + 1, none⟩ = some (.slice C1 (dg p.num.natAbs).length c1') ∧ w'.cell? ⟨g8, m * 3 + 2, none⟩ = some (.slice C2 (dg p.den).length c2')) ∧ (w'.cell? ⟨g9, m * 3, none⟩ = some (.bool (decide (q.num < 0))) ∧ w'.cell? ⟨g9, m * 3 + 1, none⟩ = some (.slice E1 (dg q.num.natAbs).length f1) ∧ w'.cell? ⟨g9, m * 3 + 2, none⟩ = some (.slice E2 (dg q.den).length f2))) (by kernel_rfl) hS (fun _ => ?_)
        simp only [List.size_toArray, List.length_cons, List.length_nil, Nat.reduceAdd]
        refine wpAnyH_takeD 0 (some 148) (v := ?vh7_0) rfl rfl (by kernel_rfl) (by kernel_rfl) (by kernel_rfl) (fun _ _ _ h => h) (.inl ⟨by kernel_rfl, ?hyh7_0⟩) hS ?resth7_0
        case hyh7_0 => (intro w hSw; (try dsimp only at hSw); go_simp; (try with_reducible rfl))
        (try simp only [Act.put, List.setIfInBounds_toArray, List.set_cons_zero, List.set_cons_succ])
        refine wpAnyH_takeD 1 (some 149) (v := ?vh7_1) rfl rfl (by kernel_rfl) (by kernel_rfl) (by kernel_rfl) (fun _ _ _ h => h) (.inl ⟨by kernel_rfl, ?hyh7_1⟩) hS ?resth7_1
        case hyh7_1 => (intro w hSw; (try dsimp only at hSw); go_simp; (try with_reducible rfl))
        (try simp only [Act.put, List.setIfInBounds_toArray, List.set_cons_zero, List.set_cons_succ])
        refine wpAnyH_takeD 2 (some 150) (v := ?vh7_2) rfl rfl (by kernel_rfl) (by kernel_rfl) (by kernel_rfl) (fun _ _ _ h => h) (.inl ⟨by kernel_rfl, ?hyh7_2⟩) hS ?resth7_2
        case hyh7_2 => (intro w hSw; (try dsimp only at hSw); go_simp; (try with_reducible rfl))
        (try simp only [Act.put, List.setIfInBounds_toArray, List.set_cons_zero, List.set_cons_succ])
        refine wpAnyH_takeD 3 (some 151) (v := ?vh7_3) rfl rfl (by kernel_rfl) (by kernel_rfl) (by kernel_rfl) (fun _ _ _ h => h) (.inl ⟨by kernel_rfl, ?hyh7_3⟩) hS ?resth7_3
        case hyh7_3 => (intro w hSw; (try dsimp only at hSw); go_simp; (try with_reducible rfl))
        (try simp only [Act.put, List.setIfInBounds_toArray, List.set_cons_zero, List.set_cons_succ])
        refine wpAnyH_takeD 4 (some 152) (v := ?vh7_4) rfl rfl (by kernel_rfl) (by kernel_rfl) (by kernel_rfl) (fun _ _ _ h => h) (.inl ⟨by kernel_rfl, ?hyh7_4⟩) hS ?resth7_4
        case hyh7_4 => (intro w hSw; (try dsimp only at hSw); go_simp; (try with_reducible rfl))
        (try simp only [Act.put, List.setIfInBounds_toArray, List.set_cons_zero, List.set_cons_succ])
        refine wpAnyH_takeD 5 (some 153) (v := ?vh7_5) rfl rfl (by kernel_rfl) (by kernel_rfl) (by kernel_rfl) (fun _ _ _ h => h) (.inl ⟨by kernel_rfl, ?hyh7_5⟩) hS ?resth7_5
        case hyh7_5 => (intro w hSw; (try dsimp only at hSw); go_simp; (try with_reducible rfl))
        (try simp only [Act.put, List.setIfInBounds_toArray, List.set_cons_zero, List.set_cons_succ])
        refine wpAnyH_takeD 6 (some 154) (v := ?vh7_6) rfl rfl (by kernel_rfl) (by kernel_rfl) (by kernel_rfl) (fun _ _ _ h => h) (.inl ⟨by kernel_rfl, ?hyh7_6⟩) hS ?resth7_6
        case hyh7_6 => (intro w hSw; (try dsimp only at hSw); go_simp; (try with_reducible rfl))
        (try simp only [Act.put, List.setIfInBounds_toArray, List.set_cons_zero, List.set_cons_succ])
        refine wpAnyH_takeD 7 (some 155) (v := ?vh7_7) rfl rfl (by kernel_rfl) (by kernel_rfl) (by kernel_rfl) (fun _ _ _ h => h) (.inl ⟨by kernel_rfl, ?hyh7_7⟩) hS ?resth7_7
        case hyh7_7 => (intro w hSw; (try dsimp only at hSw); go_simp; (try with_reducible rfl))
        (try simp only [Act.put, List.setIfInBounds_toArray, List.set_cons_zero, List.set_cons_succ])
        refine wpAnyH_takeD 8 (some 156) (v := ?vh7_8) rfl rfl (by kernel_rfl) (by kernel_rfl) (by kernel_rfl) (fun _ _ _ h => h) (.inl ⟨by kernel_rfl, ?hyh7_8⟩) hS ?resth7_8
        case hyh7_8 => (intro w hSw; (try dsimp only at hSw); go_simp; (try with_reducible rfl))
        (try simp only [Act.put, List.setIfInBounds_toArray, List.set_cons_zero, List.set_cons_succ])
        refine wpAnyH_takeD 9 (some 157) (v := undef) rfl rfl (by kernel_rfl) (by kernel_rfl) (by kernel_rfl) (fun _ _ _ h => h) (.inr ⟨by kernel_rfl, rfl⟩) hS ?_
        (try simp only [Act.put, List.setIfInBounds_toArray, List.set_cons_zero, List.set_cons_succ])
        refine wpAnyH_takeD 10 (some 158) (v := undef) rfl rfl (by kernel_rfl) (by kernel_rfl) (by kernel_rfl) (fun _ _ _ h => h) (.inr ⟨by kernel_rfl, rfl⟩) hS ?_
        (try simp only [Act.put, List.setIfInBounds_toArray, List.set_cons_zero, List.set_cons_succ])
        refine wpAnyH_takeD 11 (some 159) (v := undef) rfl rfl (by kernel_rfl) (by kernel_rfl) (by kernel_rfl) (fun _ _ _ h => h) (.inr ⟨by kernel_rfl, rfl⟩) hS ?_
        (try simp only [Act.put, List.setIfInBounds_toArray, List.set_cons_zero, List.set_cons_succ])
        refine wpAnyH_takeD 12 (some 160) (v := undef) rfl rfl (by kernel_rfl) (by kernel_rfl) (by kernel_rfl) (fun _ _ _ h => h) (.inr ⟨by kernel_rfl, rfl⟩) hS ?_
        (try simp only [Act.put, List.setIfInBounds_toArray, List.set_cons_zero, List.set_cons_succ])
        refine wpAnyH_takeD 13 (some 161) (v := undef) rfl rfl (by kernel_rfl) (by kernel_rfl) (by kernel_rfl) (fun _ _ _ h => h) (.inr ⟨by kernel_rfl, rfl⟩) hS ?_
        (try simp only [Act.put, List.setIfInBounds_toArray, List.set_cons_zero, List.set_cons_succ])
        refine wpAnyH_takeD 14 (some 162) (v := undef) rfl rfl (by kernel_rfl) (by kernel_rfl) (by kernel_rfl) (fun _ _ _ h => h) (.inr ⟨by kernel_rfl, rfl⟩) hS ?_
        (try simp only [Act.put, List.setIfInBounds_toArray, List.set_cons_zero, List.set_cons_succ])
        refine wpAnyH_takeD 15 (some 163) (v := undef) rfl rfl (by kernel_rfl) (by kernel_rfl) (by kernel_rfl) (fun _ _ _ h => h) (.inr ⟨by kernel_rfl, rfl⟩) hS ?_
        (try simp only [Act.put, List.setIfInBounds_toArray, List.set_cons_zero, List.set_cons_succ])
        refine wpAnyH_takeD 16 (some 164) (v := undef) rfl rfl (by kernel_rfl) (by kernel_rfl) (by kernel_rfl) (fun _ _ _ h => h) (.inr ⟨by kernel_rfl, rfl⟩) hS ?_
        (try simp only [Act.put, List.setIfInBounds_toArray, List.set_cons_zero, List.set_cons_succ])
        refine wpAnyH_ready (rs := [17]) (by kernel_rfl) (by simp) ?_
        refine AllReadyH.cons (o := { dst := some 165, op := Op.call { callee := Callee.value (Operand.func 29), args := #[Operand.tmp 160, Operand.tmp 164], argTypes := #[38, 38] }, type := 4, pos := "law.go:157", after := #[{ on := 12, ground := Ground.data }, { on := 16, ground := Ground.data }, { on := 8, ground := Ground.chain }, { on := 8, ground := Ground.guard }], guard := some (8, true) }) ?hoh7_17 ?hth7_17 ?hnh7_17
        case hoh7_17 => rfl
        case hnh7_17 => exact AllReadyH.nil
        intro K hK
        refine iteN (by kernel_rfl) ?_
        refine hK.out _ _ hS (fun _ => ?_)
        clear hK K
        (try simp only [Act.put, List.setIfInBounds_toArray, List.set_cons_zero, List.set_cons_succ])
        refine wpAnyH_takeD 18 (some 166) (v := undef) rfl rfl (by kernel_rfl) (by kernel_rfl) (by kernel_rfl) (fun _ _ _ h => h) (.inr ⟨by kernel_rfl, rfl⟩) hS ?_
        (try simp only [Act.put, List.setIfInBounds_toArray, List.set_cons_zero, List.set_cons_succ])
        refine wpAnyH_takeD 19 (some 167) (v := ?vh7_19) rfl rfl (by kernel_rfl) (by kernel_rfl) (by kernel_rfl) (fun _ _ _ h => h) (.inl ⟨by kernel_rfl, ?hyh7_19⟩) hS ?resth7_19
        case hyh7_19 => (intro w hSw; (try dsimp only at hSw); go_simp; (try with_reducible rfl))
        (try simp only [Act.put, List.setIfInBounds_toArray, List.set_cons_zero, List.set_cons_succ])
        refine wpAnyH_done (by kernel_rfl) ?_ _
        go_wp2
        exact ⟨⟨m + 1, by omega, by go_num, bl_trans HB.out hS.1.1⟩, by simp [intOf]; omega⟩
end Go.Proofs.Ytajckdheecgceaa
