/- Tides: honesty of what is sold and paid, and what Wide tells. -/
import Derived.Test.YtajckdheecgceaaTd39
import Derived.Test.YtajckdheecgceaaTdw
set_option linter.unusedVariables false
set_option linter.unusedSimpArgs false
namespace Go.Proofs.Ytajckdheecgceaa
open Go.RowKit

theorem hasq_use (T : Td) (k D i : Nat) (v : Rat) : hasq v (T.sold k D i) (T.pay k D i) = T.use k D i v := by
  unfold hasq Td.use Td.pay
  by_cases h : T.sold k D i = 0
  · rw [if_pos h, if_pos h, if_pos h]; grind
  · rw [if_neg h, if_neg h, if_neg h]; grind
/-- What the reports of an agent bring. -/
def soldR (L : List VD) (K D i : Nat) (x : VD) : Int := (tdOf (L.set i x)).sold K D i
def payR (L : List VD) (K D i : Nat) (x : VD) : Rat := (tdOf (L.set i x)).pay K D i
theorem soldR_at {L : List VD} {K D i : Nat} {x : VD} (hi : i < L.length) : soldR L K D i x = 0 ∨ (1 ≤ soldR L K D i x ∧ x.1 ≤ soldR L K D i x ∧ soldR L K D i x ≤ x.2.1) := by
  have hdx : (L.set i x)[i]? = some x := by rw [List.getElem?_set_self hi]
  obtain ⟨s1, s2, s3⟩ := tdOf_at hdx
  unfold soldR
  rcases Td.sold_at (tdOf (L.set i x)) K i D with h | ⟨_, h1, _, h3, h4, _⟩
  · exact .inl h
  · rw [s1] at h3
    rw [s2] at h4
    exact .inr ⟨h1, h3, h4⟩
theorem soldR_nat {L : List VD} {K D i : Nat} {x : VD} (hi : i < L.length) : ((soldR L K D i x).toNat : Int) = soldR L K D i x := by
  rcases soldR_at (K := K) (D := D) (x := x) hi with h | ⟨h, _⟩ <;> omega
/-- What is sold and paid has no lie that gains. -/
theorem honest_none {L R : List VD} {K D i : Nat} (hi : i < L.length) (hR : R.length ≤ 12) (hr : ∀ x, x ∈ R → rightN (D : Int) (K : Int) (L.set i x) = 0) {dl : List Int} {qs : List Rat} (hd : dl = R.map (soldR L K D i)) (hq : qs = R.map (payR L K D i)) :
    okH R dl (qs.map dq) ∧ ∀ a, a < R.length → ∀ b, b < R.length → ¬ lieB (tdOf R) (pday dl) (ppay (qs.map dq)) a b := by
  have hx : ∀ a, a < R.length → ∃ x, R[a]? = some x ∧ x ∈ R := fun a ha => ⟨_, List.getElem?_eq_getElem ha, List.getElem_mem ha⟩
  have hdl : ∀ {a : Nat} {x : VD}, R[a]? = some x → pday dl a = soldR L K D i x := fun {a x} h => pday_at (by rw [hd, List.getElem?_map, h]; rfl)
  have hpl : ∀ {a : Nat} {x : VD}, R[a]? = some x → ppay (qs.map dq) a = payR L K D i x := fun {a x} h => by
    rw [ppay_at (p := dq (payR L K D i x)) (by rw [hq, List.getElem?_map, List.getElem?_map, h]; rfl), fqd_dq]
  have hgood : ∀ {x : VD}, x ∈ R → 1 ≤ x.1 ∧ x.1 ≤ x.2.1 ∧ x.2.1 ≤ (D : Int) ∧ 1 ≤ K := fun {x} h => by
    obtain ⟨z1, z2, z3⟩ := rightN_zero (hr x h)
    have g := bad_no (z3 i x (by rw [List.getElem?_set_self hi]))
    omega
  refine ⟨⟨hR, by rw [hd, List.length_map], by rw [List.length_map, hq, List.length_map], fun a ha hb => ?_⟩, fun a ha b hb hl => ?_⟩
  · obtain ⟨x, hx1, hm⟩ := hx a ha
    have g := hgood hm
    unfold badR at hb
    rw [(tdOf_at hx1).1, (tdOf_at hx1).2.1, hdl hx1] at hb
    rcases soldR_at (K := K) (D := D) (x := x) hi with h | ⟨h1, h2, h3⟩
    · rcases hb with h' | h' | h'
      · omega
      · omega
      · exact h'.1 h
    · rcases hb with h' | h' | h'
      · omega
      · omega
      · exact h'.2 ⟨h2, h3⟩
  · obtain ⟨x, hx1, hmx⟩ := hx a ha
    obtain ⟨y, hy1, hmy⟩ := hx b hb
    have gx := hgood hmx
    have gy := hgood hmy
    unfold lieB at hl
    obtain ⟨_, ⟨l1, l2⟩, l3⟩ := hl
    rw [(tdOf_at hx1).1, (tdOf_at hy1).1] at l1
    rw [(tdOf_at hx1).2.1, (tdOf_at hy1).2.1] at l2
    rw [(tdOf_at hx1).2.2, hdl hx1, hdl hy1, hpl hx1, hpl hy1] at l3
    unfold soldR payR at l3
    rw [hasq_use, hasq_use] at l3
    have sx : (L.set i x)[i]? = some x := by rw [List.getElem?_set_self hi]
    have sy : (L.set i y)[i]? = some y := by rw [List.getElem?_set_self hi]
    obtain ⟨t1, t2, t3⟩ := tdOf_at sx
    obtain ⟨s1, s2, s3⟩ := tdOf_at sy
    have hn : i < (tdOf (L.set i x)).n := by show i < (L.set i x).length; rw [List.length_set]; exact hi
    have h := Td.truth (T := tdOf (L.set i x)) (S := tdOf (L.set i y)) (k := K) (D := D) gx.2.2.2 hn (by rw [tdOf_set_wo, tdOf_set_wo]) (by rw [t1]; omega) (by rw [t1, t2]; omega) (by rw [t2]; omega) (by rw [s1]; omega) (by rw [s1, s2]; omega) (by rw [t1, s1]; exact l1) (by rw [t2, s2]; exact l2)
    rw [t3] at h
    grind
theorem IQ.il {w : World} {B : Nat} {v : Value} {Q : List Nat} (h : IQ w B v Q) : IL w v (Q.map (fun (n : Nat) => (n : Int))) := by
  rcases h with ⟨rfl, rfl⟩ | ⟨g, o, cap, cur, rfl, hb, hg, h1, h2, h3, h4, h5⟩
  · exact ⟨none, 0, rfl, by simp, by omega, fun h => absurd h (by simp)⟩
  · refine ⟨_, cap, by rw [List.length_map], by rw [List.length_map]; exact h2, by simp only [maxLen] at h3; omega, fun _ => ⟨_, rfl, fun i x hx => ?_⟩⟩
    rw [List.getElem?_map] at hx
    obtain ⟨q, hq, rfl⟩ := Option.map_eq_some_iff.1 hx
    have hc := h5 i q hq
    rw [addO, cell_of_row w g (o + i) cur _ _ hg]
    exact hc
/-- Another three values in a box: nothing else is changed. -/
theorem box3_fr {w : World} {g t : Nat} {x0 x1 x2 : Value} (h : Blk w g t #[x0, x1, x2]) (n0 : ∀ n, x0 ≠ .int .u32 n) (n1 : ∀ n, x1 ≠ .int .u32 n) (n2 : ∀ n, x2 ≠ .int .u32 n) (a b c : Value) : Fr (fun y => y = g) w (((w.setCell ⟨g, 0, none⟩ a).setCell ⟨g, 1, none⟩ b).setCell ⟨g, 2, none⟩ c) := by
  have k0 := Fr.set (h.cell 0) n0 a
  have h1 := h.set 0 a
  have k1 := Fr.set (h1.cell 1) n1 b
  have h2 := h1.set 1 b
  have k2 := Fr.set (h2.cell 2) n2 c
  exact (k0.trans k1).trans k2
/-- What is read in a block of three values is one of them. -/
theorem cell_of_three {w : World} {a : Addr} {t : Nat} {x0 x1 x2 v : Value} (K : Blk w a.block t #[x0, x1, x2]) (h : w.cell? a = some v) : v = x0 ∨ v = x1 ∨ v = x2 := by
  unfold World.cell? at h
  have K' : w.heap[a.block]? = some (.cells #[x0, x1, x2] t (0, 0)) := K
  rw [K'] at h
  simp only at h
  split at h
  · cases h
  · have hm := Array.mem_of_getElem? h
    simpa using hm
theorem cell_block_lt {w : World} {a : Addr} {v : Value} (h : w.cell? a = some v) : a.block < w.heap.size := by
  unfold World.cell? at h
  split at h
  · rename_i hh
    exact (Array.getElem?_eq_some_iff.1 hh).1
  · cases h
theorem add_block (a : Addr) (n : Nat) : (a.add n).block = a.block := by
  cases a; unfold Addr.add; split <;> rfl
/-- Visits stay when the cells of a box are changed. -/
theorem VL.box {w w' : World} {v : Value} {L : List VD} {g t : Nat} {p q : Int} {z : Value} (hz : ∀ b, z ≠ .bool b) (h : VL w v L) (K : Blk w g t #[.int .i64 p, .int .i64 q, z]) (k : Fr (fun y => y = g) w w') : VL w' v L := by
  obtain ⟨A, c, hv, h1, h2, h3⟩ := h
  refine ⟨A, c, hv, h1, h2, fun h0 => ?_⟩
  obtain ⟨ad, ha, hc⟩ := h3 h0
  have hne : ad.block ≠ g := by
    intro e
    obtain ⟨_, _, _, _, _, _, k2, _⟩ := hc 0 _ (List.getElem?_eq_getElem h0)
    have e2 : (ad.add (0 * 5)).block = g := by rw [add_block]; exact e
    rcases cell_of_three (a := ⟨(ad.add (0 * 5)).block, (ad.add (0 * 5)).off + 2, none⟩) (by show Blk w (ad.add (0 * 5)).block t _; rw [e2]; exact K) k2 with h | h | h
    · cases h
    · cases h
    · exact hz _ h.symm
  refine ⟨ad, ha, fun i d hd => ?_⟩
  obtain ⟨A1, c1, A2, c2, k0, k1, k2, k3, k4, hf⟩ := hc i d hd
  have nb : (ad.add (i * 5)).block ≠ g := by rw [add_block]; exact hne
  exact ⟨A1, c1, A2, c2, cell_fr k (cell_block_lt k0) nb k0, cell_fr k (cell_block_lt k1) nb k1, cell_fr k (cell_block_lt k2) nb k2, cell_fr k (cell_block_lt k3) nb k3, cell_fr k (cell_block_lt k4) nb k4, k.keep.fr hf⟩
open Go.ChangeShapes Go.WideShapes Go.ChangeAt Go.RowKit Go.Joins
set_option maxRecDepth 100000 in
/-- A table that is handed in. -/
theorem table_of_arg {H : Type} {enc : TypeId × Value → H} {W : World} {v : Value} {d : DataW H} {p : List MemPlace}
    (hv : Value.okWide Try.prog W .any 0 54 v) (h : DataW.Trod enc Try.prog W 0 (fun _ => true) true 54 v d p) : ∃ (vr vd vp : Value) (R : List VD) (dl : List Int) (P : List (Bool × List Int × List Int)), v = .agg #[vr, vd, vp] ∧ VL W vr R ∧ IL W vd dl ∧ FL W vp P ∧ ∀ B, (∀ n ∈ d.weights Try.prog 54, n ≤ B) → FewV B R ∧ FewD B P := by
  obtain ⟨c0, c1, c2, y0, y1, y2, m, rfl, rfl, rfl, hy0, hy1, hy2⟩ := open_agg3 Try.underlying54 (by kernel_rfl) (by kernel_rfl) hv h
  obtain ⟨R, hR, hB⟩ := vl_of_trod hy0
  obtain ⟨dl, hdl⟩ := il_of_trod hy1
  obtain ⟨P, hP, hB2⟩ := fl_of_trodB hy2
  refine ⟨c0, c1, c2, R, dl, P, rfl, hR, hdl, hP, fun B h => ⟨hB B (fun n hn => h n ?_), hB2 B (fun n hn => h n ?_)⟩⟩
  · simp [DataW.weights, DataW.weightsEach, Try.underlying54, hn]
  · simp [DataW.weights, DataW.weightsEach, Try.underlying54, hn]

set_option maxRecDepth 100000 in
set_option maxHeartbeats 16000000 in
theorem law_honest (w : World) (days each ag : Int) (va : Value) (L : List VD) (h : VL w va L) (hf : FewV 4611686018427387903 L) (vr : Value) (R : List VD) (hr : VL w vr R) (hf2 : FewV 4611686018427387903 R) (vd : Value) (dl : List Int) (hd : IL w vd dl) (vp : Value) (P : List (Bool × List Int × List Int)) (hp : FL w vp P) (hf3 : FewD 4611686018427387903 P) :
    Calls Try.prog 7 #[.agg #[.int .i64 days, .int .i64 each, va], .int .i64 ag, .agg #[vr, vd, vp]] w fun e w' => e = .returned (.bool true) ∧ Below w.heap.size w w' := by
  obtain ⟨A, c, rfl⟩ := h.shape
  obtain ⟨RA, rc, rfl⟩ := hr.shape
  obtain ⟨DA, dc, rfl⟩ := hd.shape
  obtain ⟨PA, pc, rfl⟩ := hp.shape
  have HV := Lib.hid h
  have HR := Lib.hid hr
  have HD := Lib.hid hd
  have HP := Lib.hid hp
  have hcc := h.bounds
  have hcr := hr.bounds
  have hcd := hd.bounds
  have hcp : P.length ≤ 9223372036854775807 := by obtain ⟨_, _, _, k1, k2, _⟩ := hp; omega
  have HFF := Lib.hid hf
  have HFG := Lib.hid hf2
  have HFP := Lib.hid hf3
  have HWD := Lib.hid h.wd
  have HWR := Lib.hid hr.wd
  have hfin : ∀ (wz : World), Below w.heap.size w wz → Calls Try.prog 24 #[] wz fun e w' => e = .returned (.bool true) ∧ Below w.heap.size w w' := fun wz hb => (tfixed_calls wz).mono (fun e w' h => ⟨h.1, bl_trans hb h.2⟩)
  have HFIN := Lib.hid hfin
  obtain ⟨wa, hwa⟩ : ∃ W, W = w.alloc (.cells #[.int .i64 days, .int .i64 each, .slice A L.length c] 24) := ⟨_, rfl⟩
  obtain ⟨wb, hwb⟩ : ∃ W, W = wa.alloc (.cells #[.slice RA R.length rc, .slice DA dl.length dc, .slice PA P.length pc] 54) := ⟨_, rfl⟩
  have sa : wa.heap.size = w.heap.size + 1 := by rw [hwa]; simp
  have ba : Below w.heap.size w wa := by rw [hwa]; exact below_alloc0 _ _
  have bb : Below wa.heap.size wa wb := by rw [hwb]; exact below_alloc0 _ _
  have KA : Blk wa w.heap.size 24 #[.int .i64 days, .int .i64 each, .slice A L.length c] := by rw [hwa]; exact Blk.new _ _ _
  have KB : Blk wb (w.heap.size + 1) 54 #[.slice RA R.length rc, .slice DA dl.length dc, .slice PA P.length pc] := by rw [hwb, ← sa]; exact Blk.new _ _ _
  have HB0 := Lib.hid (bl_trans ba bb)
  have HK0 := Lib.hid (KA.below bb)
  have HT0 := Lib.hid KB
  have HWB := Lib.hid (show (w.alloc (.cells #[.int .i64 days, .int .i64 each, .slice A L.length c] 24)).alloc (.cells #[.slice RA R.length rc, .slice DA dl.length dc, .slice PA P.length pc] 54) = wb by rw [hwb, hwa])
  clear h hr hd hp hf hf2 hf3 hfin hwa hwb sa ba bb KA KB
  have k0 := HK0.out.cell 0
  have k1 := HK0.out.cell 1
  have k2 := HK0.out.cell 2
  have o0 := HT0.out.cell 0
  have o1 := HT0.out.cell 1
  have o2 := HT0.out.cell 2
  go_enter Try.func7, Try.ntmps7
  go_upto_region 1 with fail
  rw [HWB.out]
  go_wp2_with fail
  refine (beyond_calls _ days each A c L (HV.out.below HB0.out) HFF.out).mono ?_
  rintro e w1 ⟨b, rfl, hbey, hb1⟩
  have HB1 := Lib.hid (bl_trans HB0.out hb1)
  have HK1 := Lib.hid (HK0.out.below hb1)
  have HT1 := Lib.hid (HT0.out.below hb1)
  clear hb1 k0 k1 k2 o0 o1 o2
  have k0 := HK1.out.cell 0
  have k1 := HK1.out.cell 1
  have k2 := HK1.out.cell 2
  have o0 := HT1.out.cell 0
  have o1 := HT1.out.cell 1
  have o2 := HT1.out.cell 2
  cases b
  case true =>
    clear hbey
    go_wp2
    go_ret
    exact ⟨rfl, HB1.out⟩
  obtain ⟨hL20, hF⟩ := hbey rfl
  have HF := Lib.hid hF
  clear hbey hF
  by_cases hR20 : 20 < R.length
  case pos =>
    have g1 : decide ((20 : Int) < (R.length : Int)) = true := decide_eq_true (by omega)
    have g2 : (20 : Int) < (R.length : Int) := by omega
    go_wp2
    go_ret
    exact ⟨rfl, HB1.out⟩
  have g1 : decide ((20 : Int) < (R.length : Int)) = false := decide_eq_false (by omega)
  have g2 : ¬ (20 : Int) < (R.length : Int) := by omega
  by_cases hD20 : 20 < dl.length
  case pos =>
    have g3 : decide ((20 : Int) < (dl.length : Int)) = true := decide_eq_true (by omega)
    have g4 : (20 : Int) < (dl.length : Int) := by omega
    go_wp2
    go_ret
    exact ⟨rfl, HB1.out⟩
  have g3 : decide ((20 : Int) < (dl.length : Int)) = false := decide_eq_false (by omega)
  have g4 : ¬ (20 : Int) < (dl.length : Int) := by omega
  by_cases hP20 : 20 < P.length
  case pos =>
    have g5 : decide ((20 : Int) < (P.length : Int)) = true := decide_eq_true (by omega)
    have g6 : (20 : Int) < (P.length : Int) := by omega
    go_wp2
    go_ret
    exact ⟨rfl, HB1.out⟩
  have g5 : decide ((20 : Int) < (P.length : Int)) = false := decide_eq_false (by omega)
  have g6 : ¬ (20 : Int) < (P.length : Int) := by omega
  go_wp2_with fail
  refine (wide_calls _ _ P (HP.out.below HB1.out) HFP.out).mono ?_
  rintro e w2 ⟨b, rfl, hbey, hb2⟩
  have HB2 := Lib.hid (bl_trans HB1.out hb2)
  have HK2 := Lib.hid (HK1.out.below hb2)
  have HT2 := Lib.hid (HT1.out.below hb2)
  clear hb2 g1 g2 g3 g4 g5 g6 k0 k1 k2 o0 o1 o2
  have k0 := HK2.out.cell 0
  have k1 := HK2.out.cell 1
  have k2 := HK2.out.cell 2
  have o0 := HT2.out.cell 0
  have o1 := HT2.out.cell 1
  have o2 := HT2.out.cell 2
  cases b
  case true =>
    clear hbey
    go_wp2
    go_ret
    exact ⟨rfl, HB2.out⟩
  have HP6 := Lib.hid (hbey rfl)
  clear hbey
  go_wp2_with fail
  refine (beyond_calls _ 0 0 RA rc R (HR.out.below HB2.out) HFG.out).mono ?_
  rintro e w3 ⟨b, rfl, hbey, hb3⟩
  have HB3 := Lib.hid (bl_trans HB2.out hb3)
  have HK3 := Lib.hid (HK2.out.below hb3)
  have HT3 := Lib.hid (HT2.out.below hb3)
  clear hb3 k0 k1 k2 o0 o1 o2
  have k0 := HK3.out.cell 0
  have k1 := HK3.out.cell 1
  have k2 := HK3.out.cell 2
  have o0 := HT3.out.cell 0
  have o1 := HT3.out.cell 1
  have o2 := HT3.out.cell 2
  cases b
  case true =>
    clear hbey
    go_wp2
    go_ret
    exact ⟨rfl, HB3.out⟩
  obtain ⟨_, hG⟩ := hbey rfl
  have HG := Lib.hid hG
  clear hbey hG
  go_wp2_with fail
  refine (rhonest_calls _ RA DA PA rc dc pc R dl P (HR.out.below HB3.out) (HD.out.below HB3.out) (HP.out.below HB3.out) (HG.out.mono (by omega)) (fun d hd => ⟨Nat.le_trans (HP6.out d hd).1 (by omega), Nat.le_trans (HP6.out d hd).2 (by omega)⟩)).mono ?_
  rintro e w4 ⟨x0, y0, b0, rfl, hH, hb4⟩
  have HH := Lib.hid hH
  have HB4 := Lib.hid (bl_trans HB3.out hb4)
  have HK4 := Lib.hid (HK3.out.below hb4)
  have HT4 := Lib.hid (HT3.out.below hb4)
  clear hb4 hH k0 k1 k2 o0 o1 o2
  have k0 := HK4.out.cell 0
  have k1 := HK4.out.cell 1
  have k2 := HK4.out.cell 2
  have o0 := HT4.out.cell 0
  have o1 := HT4.out.cell 1
  have o2 := HT4.out.cell 2
  go_wp2_with fail
  refine (thonest_calls _ RA DA PA rc dc pc R dl P (HR.out.below HB4.out) (HD.out.below HB4.out) (HP.out.below HB4.out) (HG.out.mono (by omega)) (fun d hd => ⟨Nat.le_trans (HP6.out d hd).1 (by omega), Nat.le_trans (HP6.out d hd).2 (by omega)⟩)).mono ?_
  rintro e w5 ⟨x, y, b, rfl, hH2, hb5⟩
  obtain ⟨rfl, rfl, rfl⟩ := hH2.det HH.out
  have HB5 := Lib.hid (bl_trans HB4.out hb5)
  have HK5 := Lib.hid (HK4.out.below hb5)
  have HT5 := Lib.hid (HT4.out.below hb5)
  clear hb5 hH2 HH k0 k1 k2 o0 o1 o2
  have k0 := HK5.out.cell 0
  have k1 := HK5.out.cell 1
  have k2 := HK5.out.cell 2
  have o0 := HT5.out.cell 0
  have o1 := HT5.out.cell 1
  have o2 := HT5.out.cell 2
  have g1 : ((x : Int) != x) = false := by simp
  have g2 : ((y : Int) != y) = false := by simp
  have g3 : ((b : Bool) != b) = false := by simp
  by_cases hneg : ag < 0
  case pos =>
    have g4 : decide (ag < 0) = true := decide_eq_true hneg
    skip
    go_wp2_with fail
    refine (HFIN.out _ HB5.out).mono ?_
    rintro e wf ⟨rfl, hbf⟩
    have HBF := Lib.hid hbf
    clear hbf
    go_wp2
    go_ret
    exact ⟨rfl, HBF.out⟩
  have g4 : decide (ag < 0) = false := decide_eq_false hneg
  obtain ⟨i, rfl⟩ : ∃ i : Nat, ag = (i : Int) := ⟨ag.toNat, by omega⟩
  by_cases hge : L.length ≤ i
  case pos =>
    have g5 : decide ((L.length : Int) ≤ (i : Int)) = true := decide_eq_true (by omega)
    have g6 : (L.length : Int) ≤ (i : Int) := by omega
    skip
    go_wp2_with fail
    refine (HFIN.out _ HB5.out).mono ?_
    rintro e wf ⟨rfl, hbf⟩
    have HBF := Lib.hid hbf
    clear hbf
    go_wp2
    go_ret
    exact ⟨rfl, HBF.out⟩
  have hi : i < L.length := by omega
  have g5 : decide ((L.length : Int) ≤ (i : Int)) = false := decide_eq_false (by omega)
  have g6 : (i : Int) < (L.length : Int) := by omega
  have g7 : (0 : Int) ≤ (i : Int) := by omega
  by_cases hR12 : 12 < R.length
  case pos =>
    have g8 : decide ((12 : Int) < (R.length : Int)) = true := decide_eq_true (by omega)
    have g9 : (12 : Int) < (R.length : Int) := by omega
    skip
    go_wp2_with fail
    refine (HFIN.out _ HB5.out).mono ?_
    rintro e wf ⟨rfl, hbf⟩
    have HBF := Lib.hid hbf
    clear hbf
    go_wp2
    go_ret
    exact ⟨rfl, HBF.out⟩
  have g8 : decide ((12 : Int) < (R.length : Int)) = false := decide_eq_false (by omega)
  have g9 : ¬ (12 : Int) < (R.length : Int) := by omega
  obtain ⟨ad, rfl⟩ : ∃ ad, A = some ad := by
    obtain ⟨ad, _, _, _, _, e, _⟩ := HV.out.at (List.getElem?_eq_getElem hi)
    exact ⟨ad, e⟩
  go_wp2
  clear g1 g2 g3 g4 g5 g8 g9 hneg hge k0 k1 k2 o0 o1 o2
  go_loopw [13, 14, 15] (fun vdd vpp iv wr => ∃ (k : Nat) (Q : List Nat) (qs : List Rat), k ≤ R.length ∧ iv = .int .i64 (k : Int) ∧ IQ wr (w.heap.size + 2) vdd Q ∧ OF wr (w.heap.size + 2) vpp (qs.map dq) ∧ (Below w.heap.size w wr ∧ Blk wr w.heap.size 24 #[.int .i64 days, .int .i64 each, .slice (some ad) L.length c] ∧ Blk wr (w.heap.size + 1) 54 #[.slice RA R.length rc, .slice DA dl.length dc, .slice PA P.length pc]) ∧ (∀ x, x ∈ R.take k → rightN days each (L.set i x) = 0) ∧ Q.map (fun (n : Nat) => (n : Int)) = (R.take k).map (soldR L each.toNat days.toNat i) ∧ qs = (R.take k).map (payR L each.toNat days.toNat i)) (fun _ _ iv _ => R.length - (intOf iv).toNat)
  case atStart => exact ⟨0, [], [], by omega, rfl, IQ.nil _ _, OF.nil _ _, ⟨HB5.out, HK5.out, HT5.out⟩, fun x hx => by simp at hx, by simp, by simp⟩
  case round =>
    obtain ⟨k, Q, qs, hk, rfl, hIQ, hOF, ⟨hb, hK, hT⟩, hgood, hQ, hqs⟩ := hrel
    have HB := Lib.hid hb
    have HK := Lib.hid hK
    have HT := Lib.hid hT
    have HIQ := Lib.hid hIQ
    have HOF := Lib.hid hOF
    have HGO := Lib.hid hgood
    have HQ := Lib.hid hQ
    have HQS := Lib.hid hqs
    have o0 := hT.cell 0
    by_cases hx : k < R.length
    case neg =>
      obtain rfl : k = R.length := by omega
      have q1 : ¬ (R.length : Int) < (R.length : Int) := by omega
      rw [List.take_length] at hgood hQ hqs
      have hDK : ∀ x, x ∈ R → rightN ((days.toNat : Nat) : Int) ((each.toNat : Nat) : Int) (L.set i x) = 0 := fun x hx => by
        have h := hgood x hx
        obtain ⟨z1, z2, _⟩ := rightN_zero h
        rw [show ((days.toNat : Nat) : Int) = days by omega, show ((each.toNat : Nat) : Int) = each by omega]
        exact h
      obtain ⟨hok, hnl⟩ := honest_none (L := L) (R := R) (K := each.toNat) (D := days.toNat) hi (by omega) hDK hQ hqs
      have hIL := hIQ.il
      obtain ⟨dl', hdl'⟩ : ∃ l, l = Q.map (fun (n : Nat) => (n : Int)) := ⟨_, rfl⟩
      obtain ⟨P', hP'⟩ : ∃ l, l = qs.map dq := ⟨_, rfl⟩
      rw [← hdl'] at hIL hok hnl
      rw [← hP'] at hok hnl hOF
      have hFL := hOF.fl
      obtain ⟨dA, dcc, rfl⟩ := hIL.shape
      obtain ⟨pA, pcc, rfl⟩ := hFL.shape
      have hfew : FewD 1000 P' := by
        rw [hP', hqs]
        refine dq_few (fun q hq => ?_)
        obtain ⟨x, hx, rfl⟩ := List.mem_map.1 hq
        have hfl : FewV 16 (L.set i x) := (HF.out.mono (by omega)).set i (Nat.le_trans (HG.out x hx).1 (by omega)) (Nat.le_trans (HG.out x hx).2 (by omega))
        have hwl : ∀ d ∈ L.set i x, Wd d.2.2.2.1 ∧ Wd d.2.2.2.2 := fun d hd => by
          rcases List.mem_or_eq_of_mem_set hd with h | rfl
          · exact HWD.out d h
          · exact HWR.out _ hx
        obtain ⟨z1, z2, _⟩ := rightN_zero (hDK x hx)
        exact (pay_szq (n := 16) (by omega) hfl hwl (by omega) days.toNat (by rw [List.length_set]; exact hi)).mono (by omega)
      have HIL := Lib.hid hIL
      have HFL := Lib.hid hFL
      have HFW := Lib.hid hfew
      have HOK := Lib.hid hok
      have HNL := Lib.hid hnl
      clear hb hK hT hIQ hOF hgood hQ hqs hDK hok hnl hIL hFL hfew hdl' hP'
      go_wp2_with fail
      refine (thonest_calls _ RA dA pA rc dcc pcc R dl' P' (HR.out.below HB.out) HIL.out HFL.out (HG.out.mono (by omega)) HFW.out).mono ?_
      rintro e w6 ⟨x2, y2, b2, rfl, hH2, hb6⟩
      obtain ⟨rfl, rfl, rfl⟩ := hH2.det (.inr ⟨HOK.out, .inr ⟨rfl, rfl, rfl, HNL.out⟩⟩)
      have HB6 := Lib.hid (bl_trans HB.out hb6)
      clear hb6 hH2 o0
      go_wp2_with fail
      refine (HFIN.out _ HB6.out).mono ?_
      rintro e wf ⟨rfl, hbf⟩
      have HBF := Lib.hid hbf
      clear hbf
      go_wp2
      go_ret
      exact ⟨rfl, HBF.out⟩
    obtain ⟨x, hx1⟩ : ∃ x, R[k]? = some x := ⟨_, List.getElem?_eq_getElem hx⟩
    obtain ⟨rd, X1, x1, X2, x2, rfl, e0, e1, e2, e3, e4, hfx⟩ := (HR.out.below hb).at hx1
    have q1 : (k : Int) < (R.length : Int) := by omega
    have hxm := List.mem_of_getElem? hx1
    have HTK := Lib.hid (show R.take (k + 1) = R.take k ++ [x] by rw [List.take_add_one, hx1]; rfl)
    have few := HG.out x hxm
    obtain ⟨M, hM⟩ : ∃ M, M = L.set i x := ⟨_, rfl⟩
    have HWITH : Hid (∀ W, Below wr.heap.size wr W → Calls Try.prog 26 #[.agg #[.int .i64 days, .int .i64 each, .slice (some ad) L.length c], .int .i64 (i : Int), .agg #[.int .i64 x.1, .int .i64 x.2.1, .bool x.2.2.1, .slice X1 x.2.2.2.1.length x1, .slice X2 x.2.2.2.2.length x2]] W (WithP days each M W)) := Lib.hid (fun W hw => by rw [hM]; exact with_calls W days each ad c i L (HV.out.below (bl_trans HB.out hw)) hi (by omega) x X1 x1 X2 x2 (hfx.below hw))
    have hs : (fun (w' : World) => Below wr.heap.size wr w' ∧ w'.cell? ⟨w.heap.size, 0, none⟩ = some (.int .i64 days) ∧ w'.cell? ⟨w.heap.size, 1, none⟩ = some (.int .i64 each) ∧ w'.cell? ⟨w.heap.size, 2, none⟩ = some (.slice (some ad) L.length c) ∧ w'.cell? ⟨w.heap.size + 1, 0, none⟩ = some (.slice (some rd) R.length rc) ∧ w'.cell? (rd.add (k * 5)) = some (.int .i64 x.1) ∧ w'.cell? ⟨(rd.add (k * 5)).block, (rd.add (k * 5)).off + 1, none⟩ = some (.int .i64 x.2.1) ∧ w'.cell? ⟨(rd.add (k * 5)).block, (rd.add (k * 5)).off + 2, none⟩ = some (.bool x.2.2.1) ∧ w'.cell? ⟨(rd.add (k * 5)).block, (rd.add (k * 5)).off + 3, none⟩ = some (.slice X1 x.2.2.2.1.length x1) ∧ w'.cell? ⟨(rd.add (k * 5)).block, (rd.add (k * 5)).off + 4, none⟩ = some (.slice X2 x.2.2.2.2.length x2)) wr.drew := tc9_next (bl_drew wr) ⟨Below.refl _ _, hK.cell 0, hK.cell 1, hK.cell 2, hT.cell 0, e0, e1, e2, e3, e4⟩
    have HS := Lib.hid hs
    have HML := Lib.hid (show M.length = L.length by rw [hM, List.length_set])
    have HFM := Lib.hid (show FewV 16 M by rw [hM]; exact (HF.out.mono (by omega)).set i (by omega) (by omega))
    have hsN := soldR_nat (L := L) (K := each.toNat) (D := days.toNat) (x := x) hi
    have HSR := Lib.hid (show soldR L each.toNat days.toNat i x = (tdOf M).sold each.toNat days.toNat i by rw [hM]; rfl)
    have HPR := Lib.hid (show payR L each.toNat days.toNat i x = (tdOf M).pay each.toNat days.toNat i by rw [hM]; rfl)
    have HMX := Lib.hid (show L.set i x = M from hM.symm)
    have HSN := Lib.hid hsN
    clear hb hK hT hIQ hOF hgood hQ hqs hx1 hfx hxm few hM hs hsN
    go_upto_region 14 with fail
    clear e0 e1 e2 e3 e4 o0
    go_cut [16] (fun t16 wx => ∃ g A4 c4, t16 = .pointer (some ⟨g, 0, none⟩) ∧ Below wr.heap.size wr wx ∧ Blk wx g 24 #[.int .i64 days, .int .i64 each, .slice A4 M.length c4] ∧ VL wx (.slice A4 M.length c4) M)
    case first =>
      have hS0 := HS.out
      refine wp_region_T (fun (w' : World) => Below wr.heap.size wr w' ∧ w'.cell? ⟨w.heap.size, 0, none⟩ = some (.int .i64 days) ∧ w'.cell? ⟨w.heap.size, 1, none⟩ = some (.int .i64 each) ∧ w'.cell? ⟨w.heap.size, 2, none⟩ = some (.slice (some ad) L.length c) ∧ w'.cell? ⟨w.heap.size + 1, 0, none⟩ = some (.slice (some rd) R.length rc) ∧ w'.cell? (rd.add (k * 5)) = some (.int .i64 x.1) ∧ w'.cell? ⟨(rd.add (k * 5)).block, (rd.add (k * 5)).off + 1, none⟩ = some (.int .i64 x.2.1) ∧ w'.cell? ⟨(rd.add (k * 5)).block, (rd.add (k * 5)).off + 2, none⟩ = some (.bool x.2.2.1) ∧ w'.cell? ⟨(rd.add (k * 5)).block, (rd.add (k * 5)).off + 3, none⟩ = some (.slice X1 x.2.2.2.1.length x1) ∧ w'.cell? ⟨(rd.add (k * 5)).block, (rd.add (k * 5)).off + 4, none⟩ = some (.slice X2 x.2.2.2.2.length x2)) 9 (by kernel_rfl) ?_
      have hS : (fun (w' : World) => Below wr.heap.size wr w' ∧ w'.cell? ⟨w.heap.size, 0, none⟩ = some (.int .i64 days) ∧ w'.cell? ⟨w.heap.size, 1, none⟩ = some (.int .i64 each) ∧ w'.cell? ⟨w.heap.size, 2, none⟩ = some (.slice (some ad) L.length c) ∧ w'.cell? ⟨w.heap.size + 1, 0, none⟩ = some (.slice (some rd) R.length rc) ∧ w'.cell? (rd.add (k * 5)) = some (.int .i64 x.1) ∧ w'.cell? ⟨(rd.add (k * 5)).block, (rd.add (k * 5)).off + 1, none⟩ = some (.int .i64 x.2.1) ∧ w'.cell? ⟨(rd.add (k * 5)).block, (rd.add (k * 5)).off + 2, none⟩ = some (.bool x.2.2.1) ∧ w'.cell? ⟨(rd.add (k * 5)).block, (rd.add (k * 5)).off + 3, none⟩ = some (.slice X1 x.2.2.2.1.length x1) ∧ w'.cell? ⟨(rd.add (k * 5)).block, (rd.add (k * 5)).off + 4, none⟩ = some (.slice X2 x.2.2.2.2.length x2)) _ := hS0
      simp only [List.size_toArray, List.length_cons, List.length_nil, Nat.reduceAdd]
      refine wpAnyT_take 0 (some 110) (v := ?vr1_0) rfl rfl (by kernel_rfl) (by kernel_rfl) (by kernel_rfl) (by kernel_rfl) (fun _ _ _ h => h) rfl ?hyr1_0 hS ?restr1_0
      case hyr1_0 => (intro w hSw; (try dsimp only at hSw); go_simp; (try with_reducible rfl))
      (try simp only [Act.put, List.setIfInBounds_toArray, List.set_cons_zero, List.set_cons_succ])
      refine wpAnyT_take 1 (some 111) (v := ?vr1_1) rfl rfl (by kernel_rfl) (by kernel_rfl) (by kernel_rfl) (by kernel_rfl) (fun _ _ _ h => h) rfl ?hyr1_1 hS ?restr1_1
      case hyr1_1 => (intro w hSw; (try dsimp only at hSw); go_simp; (try with_reducible rfl))
      (try simp only [Act.put, List.setIfInBounds_toArray, List.set_cons_zero, List.set_cons_succ])
      refine wpAnyT_take 2 (some 112) (v := ?vr1_2) rfl rfl (by kernel_rfl) (by kernel_rfl) (by kernel_rfl) (by kernel_rfl) (fun _ _ _ h => h) rfl ?hyr1_2 hS ?restr1_2
      case hyr1_2 => (intro w hSw; (try dsimp only at hSw); go_simp; (try with_reducible rfl))
      (try simp only [Act.put, List.setIfInBounds_toArray, List.set_cons_zero, List.set_cons_succ])
      refine wpAnyT_take 3 (some 113) (v := ?vr1_3) rfl rfl (by kernel_rfl) (by kernel_rfl) (by kernel_rfl) (by kernel_rfl) (fun _ _ _ h => h) rfl ?hyr1_3 hS ?restr1_3
      case hyr1_3 => (intro w hSw; (try dsimp only at hSw); go_simp; (try with_reducible rfl))
      (try simp only [Act.put, List.setIfInBounds_toArray, List.set_cons_zero, List.set_cons_succ])
      refine wpAnyT_take 4 (some 114) (v := ?vr1_4) rfl rfl (by kernel_rfl) (by kernel_rfl) (by kernel_rfl) (by kernel_rfl) (fun _ _ _ h => h) rfl ?hyr1_4 hS ?restr1_4
      case hyr1_4 => (intro w hSw; (try dsimp only at hSw); go_simp; (try with_reducible rfl))
      (try simp only [Act.put, List.setIfInBounds_toArray, List.set_cons_zero, List.set_cons_succ])
      refine wpAnyT_take 5 (some 115) (v := ?vr1_5) rfl rfl (by kernel_rfl) (by kernel_rfl) (by kernel_rfl) (by kernel_rfl) (fun _ _ _ h => h) rfl ?hyr1_5 hS ?restr1_5
      case hyr1_5 => (intro w hSw; (try dsimp only at hSw); go_simp; (try with_reducible rfl))
      (try simp only [Act.put, List.setIfInBounds_toArray, List.set_cons_zero, List.set_cons_succ])
      refine wpAnyT_take 6 (some 116) (v := ?vr1_6) rfl rfl (by kernel_rfl) (by kernel_rfl) (by kernel_rfl) (by kernel_rfl) (fun _ _ _ h => h) rfl ?hyr1_6 hS ?restr1_6
      case hyr1_6 => (intro w hSw; (try dsimp only at hSw); go_simp; (try with_reducible rfl))
      (try simp only [Act.put, List.setIfInBounds_toArray, List.set_cons_zero, List.set_cons_succ])
      refine wpAnyT_two (i := 7) (j := 8) rfl rfl (by kernel_rfl) rfl rfl (fun K hK => ?_) (fun K hK => ?_)
      · simp only [List.getElem_toArray, List.getElem_cons_succ, List.getElem_cons_zero]
        go_simp
        go_at_call 26
        with_reducible refine (HWITH.out _ ?_).mono ?_
        exact hS.1
        rintro e w8 ⟨A4, c4, rfl, hVM, hb8⟩
        have hS8 := tc9_next hb8 hS
        have al := below_alloc0 w8 (.cells #[.int .i64 0, .int .i64 0, .slice none 0 0] 24)
        have KO := Blk.new w8 24 #[.int .i64 0, .int .i64 0, .slice none 0 0]
        have m0 := KO.cell 0
        have m1 := KO.cell 1
        have m2 := KO.cell 2
        have mf := KO.free
        have hSA := tc9_next al hS8
        have al9 := below_alloc0 w8 (.cells #[.int .i64 days, .int .i64 each, .slice A4 M.length c4] 24)
        have HB9 := Lib.hid (bl_trans hS8.1 al9)
        have HV9 := Lib.hid (hVM.below al9)
        clear hVM hb8 al al9 KO
        refine hK.out _ _ (fun _ => hS8) ?_
        clear hS K hK
        have hS := hS8
        clear hS8
        (try simp only [Act.put, List.setIfInBounds_toArray, List.set_cons_zero, List.set_cons_succ])
        refine wpAnyT_one (i := 8) rfl (by kernel_rfl) rfl (fun K hK => ?_)
        simp only [List.getElem_toArray, List.getElem_cons_succ, List.getElem_cons_zero]
        go_simp
        refine hK.out _ _ (fun _ => hSA) ?_
        clear hS K hK
        have hS := hSA
        clear hSA
        (try simp only [Act.put, List.setIfInBounds_toArray, List.set_cons_zero, List.set_cons_succ])
        refine wpAnyT_one (i := 9) rfl (by kernel_rfl) rfl (fun K hK => ?_)
        simp only [List.getElem_toArray, List.getElem_cons_succ, List.getElem_cons_zero]
        go_simp
        refine hK.out _ _ (fun h => absurd rfl h) ?_
        clear hS K hK
        refine wpAnyT_done (by kernel_rfl) ?_ _
        clear m0 m1 m2 mf
        go_wp2
        go_meet
        case rel => exact ⟨_, A4, c4, rfl, HB9.out, Blk.new _ _ _, HV9.out⟩
      · simp only [List.getElem_toArray, List.getElem_cons_succ, List.getElem_cons_zero]
        go_simp
        have al := below_alloc0 wr.drew (.cells #[.int .i64 0, .int .i64 0, .slice none 0 0] 24)
        have KO := Lib.hid (show Blk (wr.drew.alloc (.cells #[.int .i64 0, .int .i64 0, .slice none 0 0] 24)) wr.heap.size 24 #[.int .i64 0, .int .i64 0, .slice none 0 0] from Blk.new wr.drew _ _)
        have hSA := tc9_next al hS
        refine hK.out _ _ (fun _ => hSA) ?_
        clear hS K hK al
        have hS := hSA
        clear hSA
        (try simp only [Act.put, List.setIfInBounds_toArray, List.set_cons_zero, List.set_cons_succ])
        refine wpAnyT_one (i := 7) rfl (by kernel_rfl) rfl (fun K hK => ?_)
        simp only [List.getElem_toArray, List.getElem_cons_succ, List.getElem_cons_zero]
        go_simp
        go_at_call 26
        with_reducible refine (HWITH.out _ ?_).mono ?_
        exact hS.1
        rintro e w8 ⟨A4, c4, rfl, hVM, hb8⟩
        have hS8 := tc9_next hb8 hS
        have K8 := KO.out.below hb8
        have m0 := K8.cell 0
        have m1 := K8.cell 1
        have m2 := K8.cell 2
        have mf := K8.free
        have F2 := box3_fr K8 (intne _) (intne _) (slne _ _ _) (.int .i64 days) (.int .i64 each) (.slice A4 M.length c4)
        have HB9 := Lib.hid (hS8.1.trans (F2.below hS8.1.size (fun y hy => by have e : y = wr.heap.size := hy; omega)))
        have HV9 := Lib.hid (VL.box (fun b h => by cases h) hVM K8 F2)
        have HK9 := Lib.hid (blk3 K8 (.int .i64 days) (.int .i64 each) (.slice A4 M.length c4))
        clear hVM hb8 F2 K8 KO
        refine hK.out _ _ (fun _ => hS8) ?_
        clear hS K hK
        have hS := hS8
        clear hS8
        (try simp only [Act.put, List.setIfInBounds_toArray, List.set_cons_zero, List.set_cons_succ])
        refine wpAnyT_one (i := 9) rfl (by kernel_rfl) rfl (fun K hK => ?_)
        simp only [List.getElem_toArray, List.getElem_cons_succ, List.getElem_cons_zero]
        go_simp
        refine hK.out _ _ (fun h => absurd rfl h) ?_
        clear hS K hK
        refine wpAnyT_done (by kernel_rfl) ?_ _
        clear m0 m1 m2 mf
        go_wp2
        go_meet
        case rel => exact ⟨_, A4, c4, rfl, HB9.out, HK9.out, HV9.out⟩
    case rest =>
    obtain ⟨g, A4, c4, rfl, hbc, hKM, hVM⟩ := hcut
    have HBc := Lib.hid (bl_trans HB.out hbc)
    have HKc := Lib.hid (HK.out.below hbc)
    have HTc := Lib.hid (HT.out.below hbc)
    have HIc := Lib.hid (HIQ.out.below hbc)
    have HOc := Lib.hid (HOF.out.below hbc)
    have HKM := Lib.hid hKM
    have HVM := Lib.hid hVM
    have m0 := hKM.cell 0
    have m1 := hKM.cell 1
    have m2 := hKM.cell 2
    clear hbc hKM hVM q1
    obtain ⟨r, hr⟩ : ∃ r, r = rightN days each M := ⟨_, rfl⟩
    have HRR := Lib.hid hr
    clear hr
    go_wp2_with fail
    refine (rtright_calls _ days each A4 c4 M HVM.out).mono ?_
    rintro e w6 ⟨rfl, hb6⟩
    rw [← HRR.out]
    have HB6 := Lib.hid (bl_trans HBc.out hb6)
    have HK6 := Lib.hid (HKc.out.below hb6)
    have HT6 := Lib.hid (HTc.out.below hb6)
    have HI6 := Lib.hid (HIc.out.below hb6)
    have HO6 := Lib.hid (HOc.out.below hb6)
    have HKM6 := Lib.hid (HKM.out.below hb6)
    have HVM6 := Lib.hid (HVM.out.below hb6)
    clear hb6 m0 m1 m2
    by_cases hr0 : r = 0
    case neg =>
      have g9 : ((r : Int) != 0) = true := bne_iff_ne.2 hr0
      clear hr0
      go_wp2_with fail
      refine (HFIN.out _ HB6.out).mono ?_
      rintro e wf ⟨rfl, hbf⟩
      have HBF := Lib.hid hbf
      clear hbf
      go_wp2
      go_ret
      exact ⟨rfl, HBF.out⟩
    obtain rfl : r = 0 := hr0
    have hrz := HRR.out.symm
    obtain ⟨z1, z2, z3⟩ := rightN_zero hrz
    have hDe : days = ((days.toNat : Nat) : Int) := by omega
    have hKe : each = ((each.toNat : Nat) : Int) := by omega
    have hrz2 : rightN ((days.toNat : Nat) : Int) ((each.toNat : Nat) : Int) M = 0 := by rw [← hDe, ← hKe]; exact hrz
    have hK1 : 1 ≤ each.toNat := by omega
    have HRZ := Lib.hid hrz2
    have HRZ0 := Lib.hid hrz
    have HDE := Lib.hid hDe
    have HKE := Lib.hid hKe
    clear z1 z2 z3 hrz hrz2 hDe hKe
    have m0 := HKM6.out.cell 0
    have m1 := HKM6.out.cell 1
    have m2 := HKM6.out.cell 2
    go_wp2_with fail
    refine (sell_calls _ _ _ A4 c4 M HVM6.out (HFM.out.mono (by omega))).mono ?_
    intro e w7 hpo
    rw [HDE.out, HKE.out] at hpo
    obtain ⟨g7, rfl, hT7, hb7⟩ := hpo.yes HRZ.out
    have HS7 := Lib.hid hT7
    have HB7 := Lib.hid (bl_trans HB6.out hb7)
    have HK7 := Lib.hid (HK6.out.below hb7)
    have HT7 := Lib.hid (HT6.out.below hb7)
    have HI7 := Lib.hid (HI6.out.below hb7)
    have HO7 := Lib.hid (HO6.out.below hb7)
    have HKM7 := Lib.hid (HKM6.out.below hb7)
    have HVM7 := Lib.hid (HVM6.out.below hb7)
    clear hpo hT7 hb7 m0 m1 m2
    have m0 := HKM7.out.cell 0
    have m1 := HKM7.out.cell 1
    have m2 := HKM7.out.cell 2
    go_wp2_with fail
    refine (pays_calls _ _ _ A4 c4 M HVM7.out HFM.out).mono ?_
    intro e w8 hpo
    rw [HDE.out, HKE.out] at hpo
    obtain ⟨g8, rfl, hP8, hb8⟩ := hpo.yes HRZ.out
    have HP8 := Lib.hid hP8
    have HS8 := Lib.hid (HS7.out.fr (Fr.of_below (S := fun _ => False) hb8) (fun h => h))
    have HB8 := Lib.hid (bl_trans HB7.out hb8)
    have HK8 := Lib.hid (HK7.out.below hb8)
    have HT8 := Lib.hid (HT7.out.below hb8)
    have HI8 := Lib.hid (HI7.out.below hb8)
    have HO8 := Lib.hid (HO7.out.below hb8)
    clear hpo hP8 hb8 m0 m1 m2
    rw [HML.out]
    have hiM : i < M.length := by rw [HML.out]; exact hi
    have s0 := HS8.out.cell (i := i) hiM
    obtain ⟨sN, hsN⟩ : ∃ n : Nat, (tdOf M).sold each.toNat days.toNat i = (n : Int) := ⟨(soldR L each.toNat days.toNat i x).toNat, by rw [HSN.out, HSR.out]⟩
    rw [hsN] at s0
    have hO8 := HO8.out
    have hI8 := HI8.out
    have hsz := HB8.out.size
    have k2 := HK8.out.cell 2
    have hTlt := HT8.out.lt
    have al := below_alloc0 w8 (.cells #[.int .i64 (sN : Int)] 3)
    have KX := Blk.new w8 3 #[.int .i64 (sN : Int)]
    have hQl : Q.length ≤ 1000000 := by
      have h := congrArg List.length HQ.out
      rw [List.length_map, List.length_map, List.length_take] at h
      omega
    have hql : qs.length ≤ 1000000 := by
      have h := congrArg List.length HQS.out
      rw [List.length_map, List.length_take] at h
      omega
    have hsa := al.size
    obtain ⟨v1, w9, hrun, hI9, hfr9, hown9⟩ := IQ.push (hI8.below al) (by omega) KX hQl
    have hP9 := ((HP8.out.below al).fr hfr9 (fun e => by
      obtain ⟨cs, h1, _⟩ := HP8.out.below al
      obtain ⟨es, he⟩ := (hI8.below al).typ e
      exact blk_ne h1 he (by decide) rfl))
    have hO9 := (hO8.below al).fr hfr9 (fun g hg e => by
      obtain ⟨cs, h1⟩ := (hO8.below al).typ hg
      obtain ⟨es, he⟩ := (hI8.below al).typ e
      exact blk_ne h1 he (by decide) rfl)
    have hB9 := (bl_trans HB8.out al).trans (hfr9.below (bl_trans HB8.out al).size (fun y hy => by have := (hI8.below al).block hy; omega))
    have hK9 := hfr9.blk (HK8.out.below al) (fun e => by have := (hI8.below al).block e; omega)
    have hT9 := hfr9.blk (HT8.out.below al) (fun e => by have := (hI8.below al).block e; omega)
    have hpl := hP9.fl
    rw [pays_list] at hpl
    obtain ⟨p, hp⟩ : ∃ p, p = (tdOf M).pay each.toNat days.toNat i := ⟨_, rfl⟩
    obtain ⟨ad', cc, C1, c1', C2, c2', hvl, _, _, f0, f1, f2, hfp⟩ := hpl.atq (k := i) (q := p) (by rw [hp]; unfold payL; rw [List.getElem?_map, List.getElem?_range hiM]; rfl)
    obtain rfl : ⟨g8, 0, none⟩ = ad' := by simpa using (by simpa using hvl : (some (⟨g8, 0, none⟩ : Addr) = some ad') ∧ _).1
    rw [add_row] at f0 f1 f2
    have al2 := below_alloc0 w9 (.cells #[.bool (decide (p.num < 0)), .slice C1 (dg p.num.natAbs).length c1', .slice C2 (dg p.den).length c2'] 38)
    have KY := Blk.new w9 38 #[.bool (decide (p.num < 0)), .slice C1 (dg p.num.natAbs).length c1', .slice C2 (dg p.den).length c2']
    have hs9 := hB9.size
    have hsa2 := al2.size
    have hT9lt := hT9.lt
    obtain ⟨v2, w10, hrun2, hO10, hfr10, hown10⟩ := OF.push (d := dq p) (hO9.below al2) (by omega) KY (FrIn.below hfp al2) (by rw [List.length_map]; exact hql)
    have hI10 := (hI9.below al2).fr hfr10 (fun g hg e => by
      obtain ⟨es, he⟩ := (hI9.below al2).typ hg
      obtain ⟨cs, h1⟩ := (hO9.below al2).typ e
      exact blk_ne he h1 (by decide) rfl)
    have hB10 := (bl_trans hB9 al2).trans (hfr10.below (bl_trans hB9 al2).size (fun y hy => by have := (hO9.below al2).block hy; omega))
    have hK10 := hfr10.blk (hK9.below al2) (fun e => by have := (hO9.below al2).block e; omega)
    have hT10 := hfr10.blk (hT9.below al2) (fun e => by have := (hO9.below al2).block e; omega)
    have HRUN := Lib.hid hrun
    have HRUN2 := Lib.hid hrun2
    have HI10 := Lib.hid hI10
    have HO10 := Lib.hid (show OF w10 (w.heap.size + 2) v2 ((qs ++ [p]).map dq) by rw [List.map_append]; exact hO10)
    have HX10 := Lib.hid (⟨hB10, hK10, hT10⟩ : Below w.heap.size w w10 ∧ Blk w10 w.heap.size 24 #[.int .i64 days, .int .i64 each, .slice (some ad) L.length c] ∧ Blk w10 (w.heap.size + 1) 54 #[.slice (some rd) R.length rc, .slice DA dl.length dc, .slice PA P.length pc])
    have HNQ := Lib.hid (show (Q ++ [sN]).map (fun (n : Nat) => (n : Int)) = (R.take (k + 1)).map (soldR L each.toNat days.toNat i) by
      rw [HTK.out, List.map_append, List.map_append, HQ.out]
      show _ ++ [(sN : Int)] = _ ++ [soldR L each.toNat days.toNat i x]
      rw [HSR.out, hsN])
    have HNP := Lib.hid (show qs ++ [p] = (R.take (k + 1)).map (payR L each.toNat days.toNat i) by
      rw [HTK.out, List.map_append, HQS.out]
      show _ ++ [p] = _ ++ [payR L each.toNat days.toNat i x]
      rw [HPR.out, hp])
    have HNG := Lib.hid (show ∀ z, z ∈ R.take (k + 1) → rightN days each (L.set i z) = 0 from fun z hz => by
      rw [HTK.out] at hz
      rcases List.mem_append.1 hz with h | h
      · exact HGO.out z h
      · rw [List.mem_singleton.1 h, HMX.out]; exact HRZ0.out)
    clear hiM hsN hO8 hI8 hsz hTlt al KX hQl hql hsa hrun hI9 hfr9 hown9 hP9 hO9 hB9 hK9 hT9 hpl hp hvl hfp al2 KY hs9 hsa2 hT9lt hrun2 hO10 hfr10 hown10 hI10 hB10 hK10 hT10
    go_wp2_with (first
      | (at_builtin; refine wpList_append_run _ rfl _ _ 28 rfl _ _ rfl rfl ⟨v1, w9, HRUN.out, ?_⟩)
      | (at_builtin; refine wpList_append_run _ rfl _ _ 31 rfl _ _ rfl rfl ⟨v2, w10, HRUN2.out, ?_⟩)
      | go_in)
    exact ⟨⟨k + 1, Q ++ [sN], qs ++ [p], by omega, by go_num, HI10.out, HO10.out, HX10.out, HNG.out, HNQ.out, HNP.out⟩, by simp [intOf]; omega⟩
end Go.Proofs.Ytajckdheecgceaa
