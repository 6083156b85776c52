/- Tides: whether two tides are alike up to a day. -/
import Derived.Test.YtajckdheecgceaaTd28
set_option linter.unusedVariables false
set_option linter.unusedSimpArgs false
namespace Go.Proofs.Ytajckdheecgceaa
open Go.RowKit

/-- Two visits are alike up to a day. -/
def AlV (day : Int) (x y : VD) : Prop := (x.1 ≤ day ↔ y.1 ≤ day) ∧ (x.1 ≤ day → x.1 = y.1 ∧ x.2.1 = y.2.1 ∧ fqd x.2.2 = fqd y.2.2)
/-- The first visits of two tides are alike. -/
def AlN (day : Int) (L M : List VD) (k : Nat) : Prop := ∀ j x y, j < k → L[j]? = some x → M[j]? = some y → AlV day x y
/-- What alike tells. -/
def AlikeP (day days each days2 each2 : Int) (L M : List VD) (w : World) (e : Ending) (w' : World) : Prop := ∃ b : Bool, e = .returned (.bool b) ∧ (b = true → days = days2 ∧ each = each2 ∧ L.length = M.length ∧ AlN day L M L.length) ∧ Below w.heap.size w w'
theorem AlN.next {day : Int} {L M : List VD} {k : Nat} {x y : VD} (h : AlN day L M k) (hx : L[k]? = some x) (hy : M[k]? = some y) (hv : AlV day x y) : AlN day L M (k + 1) := fun j x' y' hj h1 h2 => by
  by_cases hjk : j = k
  · subst hjk
    rw [hx] at h1
    rw [hy] at h2
    cases h1
    cases h2
    exact hv
  · exact h j x' y' (by omega) h1 h2
set_option maxRecDepth 100000 in
set_option maxHeartbeats 8000000 in
theorem alike_calls (w : World) (days each days2 each2 day : Int) (A B : Option Addr) (c c2 : Nat) (L M : List VD) (h : VL w (.slice A L.length c) L) (g : VL w (.slice B M.length c2) M) (hL : L.length ≤ 4096) (hf : FewV 2000 L) (hf2 : FewV 2000 M) :
    Calls Try.prog 28 #[.agg #[.int .i64 days, .int .i64 each, .slice A L.length c], .agg #[.int .i64 days2, .int .i64 each2, .slice B M.length c2], .int .i64 day] w (AlikeP day days each days2 each2 L M w) := by
  have HV := Lib.hid h
  have HU := Lib.hid g
  have hcc := h.bounds
  have hcd := g.bounds
  have HF := Lib.hid hf
  have HF2 := Lib.hid hf2
  obtain ⟨wa, hwa⟩ : ∃ W, W = w.alloc (.cells #[.int .i64 days, .int .i64 each, .slice A L.length c] 24) := ⟨_, rfl⟩
  obtain ⟨wb, hwb⟩ : ∃ W, W = wa.alloc (.cells #[.int .i64 days2, .int .i64 each2, .slice B M.length c2] 24) := ⟨_, rfl⟩
  have sa : wa.heap.size = w.heap.size + 1 := by rw [hwa]; simp
  have ba : Below w.heap.size w wa := by rw [hwa]; exact below_alloc0 _ _
  have bb : Below wa.heap.size wa wb := by rw [hwb]; exact below_alloc0 _ _
  have KA : Blk wa w.heap.size 24 #[.int .i64 days, .int .i64 each, .slice A L.length c] := by rw [hwa]; exact Blk.new _ _ _
  have KB : Blk wb (w.heap.size + 1) 24 #[.int .i64 days2, .int .i64 each2, .slice B M.length c2] := by rw [hwb, ← sa]; exact Blk.new _ _ _
  have HB0 := Lib.hid (bl_trans ba bb)
  have HK0 := Lib.hid (KA.below bb)
  have HT0 := Lib.hid KB
  have HWB := Lib.hid (show (w.alloc (.cells #[.int .i64 days, .int .i64 each, .slice A L.length c] 24)).alloc (.cells #[.int .i64 days2, .int .i64 each2, .slice B M.length c2] 24) = wb by rw [hwb, hwa])
  have k0 := HK0.out.cell 0
  have k1 := HK0.out.cell 1
  have k2 := HK0.out.cell 2
  have o0 := HT0.out.cell 0
  have o1 := HT0.out.cell 1
  have o2 := HT0.out.cell 2
  clear h g hf hf2 hwa hwb sa ba bb KA KB
  go_enter Try.func28, Try.ntmps28
  go_upto_region 1 with fail
  rw [HWB.out]
  by_cases hdays : days = days2
  case neg =>
    have g1 : ((days : Int) != days2) = true := bne_iff_ne.2 hdays
    go_wp2
    go_ret
    exact ⟨false, rfl, fun h => by simp at h, HB0.out⟩
  have g1 : ((days : Int) != days2) = false := by rw [hdays]; simp
  by_cases heach : each = each2
  case neg =>
    have g2 : ((each : Int) != each2) = true := bne_iff_ne.2 heach
    go_wp2
    go_ret
    exact ⟨false, rfl, fun h => by simp at h, HB0.out⟩
  have g2 : ((each : Int) != each2) = false := by rw [heach]; simp
  by_cases hlen : L.length = M.length
  case neg =>
    have g3 : ((L.length : Int) != (M.length : Int)) = true := bne_iff_ne.2 (by omega)
    go_wp2
    go_ret
    exact ⟨false, rfl, fun h => by simp at h, HB0.out⟩
  have g3 : ((L.length : Int) != (M.length : Int)) = false := by rw [hlen]; simp
  have HDAYS := Lib.hid hdays
  have HEACH := Lib.hid heach
  have HLEN := Lib.hid hlen
  clear hdays heach hlen
  go_wp2
  clear k0 k1 k2 o0 o1 o2 g1 g2 g3
  go_loopw [7] (fun i wr => ∃ k : Nat, k ≤ L.length ∧ i = .int .i64 (k : Int) ∧ Below w.heap.size w wr ∧ Blk wr w.heap.size 24 #[.int .i64 days, .int .i64 each, .slice A L.length c] ∧ Blk wr (w.heap.size + 1) 24 #[.int .i64 days2, .int .i64 each2, .slice B M.length c2] ∧ AlN day L M k) (fun i _ => L.length - (intOf i).toNat)
  case atStart => exact ⟨0, by omega, rfl, HB0.out, HK0.out, HT0.out, fun j x y hj => by omega⟩
  case round =>
    obtain ⟨k, hk, rfl, hb, hK, hT, hal⟩ := hrel
    have HB := Lib.hid hb
    have HK := Lib.hid hK
    have HT := Lib.hid hT
    have HAL := Lib.hid hal
    have k2 := hK.cell 2
    have o2 := hT.cell 2
    by_cases hx : k < L.length
    · obtain ⟨x, hx1⟩ : ∃ x, L[k]? = some x := ⟨_, List.getElem?_eq_getElem hx⟩
      obtain ⟨y, hy1⟩ : ∃ y, M[k]? = some y := ⟨_, List.getElem?_eq_getElem (by have := HLEN.out; omega)⟩
      have fewx := HF.out x (List.mem_of_getElem? hx1)
      have fewy := HF2.out y (List.mem_of_getElem? hy1)
      obtain ⟨ad, A1, a1, A2, a2, rfl, e0, e1, e2, e3, e4, hfx⟩ := (HV.out.below hb).at hx1
      obtain ⟨bd, B1, b1, B2, b2, rfl, d0, d1, d2, d3, d4, hfy⟩ := (HU.out.below hb).at hy1
      have q1 : (k : Int) < (L.length : Int) := by omega
      have q2 : (k : Int) < (M.length : Int) := by have := HLEN.out; omega
      have alx := below_alloc0 wr (.cells #[.int .i64 x.1, .int .i64 x.2.1, .bool x.2.2.1, .slice A1 x.2.2.2.1.length a1, .slice A2 x.2.2.2.2.length a2] 40)
      have KX := Blk.new wr 40 #[.int .i64 x.1, .int .i64 x.2.1, .bool x.2.2.1, .slice A1 x.2.2.2.1.length a1, .slice A2 x.2.2.2.2.length a2]
      obtain ⟨wx, hwx⟩ : ∃ W, W = wr.alloc (.cells #[.int .i64 x.1, .int .i64 x.2.1, .bool x.2.2.1, .slice A1 x.2.2.2.1.length a1, .slice A2 x.2.2.2.2.length a2] 40) := ⟨_, rfl⟩
      obtain ⟨gx, hgx⟩ : ∃ g, g = wr.heap.size := ⟨_, rfl⟩
      have HX1 := Lib.hid hx1
      have HY1 := Lib.hid hy1
      have HFX := Lib.hid (hfx.below alx)
      have HB6 := Lib.hid (bl_trans hb alx)
      have HK6 := Lib.hid (hK.below alx)
      have HT6 := Lib.hid (hT.below alx)
      have hfy6 := hfy.below alx
      have f0 := cell_below alx d0
      have f1 := cell_below alx d1
      have f2 := cell_below alx d2
      have f3 := cell_below alx d3
      have f4 := cell_below alx d4
      rw [← hwx] at alx KX HFX HB6 HK6 HT6 hfy6 f0 f1 f2 f3 f4
      rw [← hgx] at KX
      have HKX6 := Lib.hid KX
      have HWX := Lib.hid hwx
      have HGX := Lib.hid hgx
      clear hb hK hT hal hx1 hy1 hfx hfy d0 d1 d2 d3 d4 alx KX hwx hgx
      go_upto_region 7 with fail
      rw [← HWX.out, ← HGX.out]
      clear k2 o2 e0 e1 e2 e3 e4
      have o2 := HT6.out.cell 2
      have aly := below_alloc0 wx (.cells #[.int .i64 y.1, .int .i64 y.2.1, .bool y.2.2.1, .slice B1 y.2.2.2.1.length b1, .slice B2 y.2.2.2.2.length b2] 40)
      have KY := Blk.new wx 40 #[.int .i64 y.1, .int .i64 y.2.1, .bool y.2.2.1, .slice B1 y.2.2.2.1.length b1, .slice B2 y.2.2.2.2.length b2]
      obtain ⟨wy, hwy⟩ : ∃ W, W = wx.alloc (.cells #[.int .i64 y.1, .int .i64 y.2.1, .bool y.2.2.1, .slice B1 y.2.2.2.1.length b1, .slice B2 y.2.2.2.2.length b2] 40) := ⟨_, rfl⟩
      obtain ⟨gy, hgy⟩ : ∃ g, g = wx.heap.size := ⟨_, rfl⟩
      have HFX7 := Lib.hid (HFX.out.below aly)
      have HFY7 := Lib.hid (hfy6.below aly)
      have HB7 := Lib.hid (bl_trans HB6.out aly)
      have HK7 := Lib.hid (HK6.out.below aly)
      have HT7 := Lib.hid (HT6.out.below aly)
      have HKX7 := Lib.hid (HKX6.out.below aly)
      rw [← hwy] at KY HFX7 HFY7 HB7 HK7 HT7 HKX7
      rw [← hgy] at KY
      have HKY7 := Lib.hid KY
      have HWY := Lib.hid hwy
      have HGY := Lib.hid hgy
      clear aly KY hwy hgy hfy6
      go_upto_region 8 with fail
      rw [← HWY.out, ← HGY.out]
      clear o2 f0 f1 f2 f3 f4
      have x0 := HKX7.out.cell 0
      have x1 := HKX7.out.cell 1
      have x2 := HKX7.out.cell 2
      have x3 := HKX7.out.cell 3
      have x4 := HKX7.out.cell 4
      have y0 := HKY7.out.cell 0
      have y1 := HKY7.out.cell 1
      have y2 := HKY7.out.cell 2
      have y3 := HKY7.out.cell 3
      have y4 := HKY7.out.cell 4
      by_cases hd1 : x.1 ≤ day
      · have g1 : decide (x.1 ≤ day) = true := decide_eq_true hd1
        by_cases hd2 : y.1 ≤ day
        · have g2 : decide (y.1 ≤ day) = true := decide_eq_true hd2
          by_cases hc : x.1 = y.1
          · have g3 : ((x.1 : Int) != y.1) = false := by rw [hc]; simp
            by_cases hg : x.2.1 = y.2.1
            · have g4 : ((x.2.1 : Int) != y.2.1) = false := by rw [hg]; simp
              have HD1 := Lib.hid hd1
              have HD2 := Lib.hid hd2
              have HC := Lib.hid hc
              have HG := Lib.hid hg
              clear hd1 hd2 hc hg
              go_wp2_with fail
              refine (same_q _ _ _ (fqd x.2.2) (fqd y.2.2) ⟨_, _, _, HFX7.out, by omega, rfl⟩ ⟨_, _, _, HFY7.out, by omega, rfl⟩).mono ?_
              rintro e w8 ⟨rfl, hb8⟩
              have HB8 := Lib.hid (bl_trans HB7.out hb8)
              have HK8 := Lib.hid (HK7.out.below hb8)
              have HT8 := Lib.hid (HT7.out.below hb8)
              clear hb8
              by_cases hq : fqd x.2.2 = fqd y.2.2
              · have g5 : decide (fqd x.2.2 = fqd y.2.2) = true := decide_eq_true hq
                have HQ := Lib.hid hq
                clear hq
                go_wp2
                exact ⟨⟨k + 1, by omega, by go_num, HB8.out, HK8.out, HT8.out, HAL.out.next HX1.out HY1.out ⟨⟨fun _ => HD2.out, fun _ => HD1.out⟩, fun _ => ⟨HC.out, HG.out, HQ.out⟩⟩⟩, by simp [intOf]; omega⟩
              · have g5 : decide (fqd x.2.2 = fqd y.2.2) = false := decide_eq_false hq
                clear hq
                go_wp2
                go_ret
                exact ⟨false, rfl, fun h => by simp at h, HB8.out⟩
            · have g4 : ((x.2.1 : Int) != y.2.1) = true := bne_iff_ne.2 hg
              clear hg
              go_wp2
              go_ret
              exact ⟨false, rfl, fun h => by simp at h, HB7.out⟩
          · have g3 : ((x.1 : Int) != y.1) = true := bne_iff_ne.2 hc
            clear hc
            go_wp2
            go_ret
            exact ⟨false, rfl, fun h => by simp at h, HB7.out⟩
        · have g2 : decide (y.1 ≤ day) = false := decide_eq_false hd2
          clear hd2
          go_wp2
          go_ret
          exact ⟨false, rfl, fun h => by simp at h, HB7.out⟩
      · have g1 : decide (x.1 ≤ day) = false := decide_eq_false hd1
        by_cases hd2 : y.1 ≤ day
        · have g2 : decide (y.1 ≤ day) = true := decide_eq_true hd2
          clear hd2
          go_wp2
          go_ret
          exact ⟨false, rfl, fun h => by simp at h, HB7.out⟩
        · have g2 : decide (y.1 ≤ day) = false := decide_eq_false hd2
          have HD1 := Lib.hid hd1
          have HD2 := Lib.hid hd2
          clear hd1 hd2
          go_wp2
          exact ⟨⟨k + 1, by omega, by go_num, HB7.out, HK7.out, HT7.out, HAL.out.next HX1.out HY1.out ⟨⟨fun h => absurd h HD1.out, fun h => absurd h HD2.out⟩, fun h => absurd h HD1.out⟩⟩, by simp [intOf]; omega⟩
    · obtain rfl : k = L.length := by omega
      have q1 : ¬ (L.length : Int) < (L.length : Int) := by omega
      clear hb hK hT hal
      go_wp2
      go_ret
      exact ⟨true, rfl, fun _ => ⟨HDAYS.out, HEACH.out, HLEN.out, HAL.out⟩, HB.out⟩
/-- Tides that are alike. -/
theorem alike_of {L M : List VD} {day : Int} (hl : L.length = M.length) (h : AlN day L M L.length) : (tdOf L).alike (tdOf M) day := ⟨hl, fun i hi => by
  obtain ⟨x, hx⟩ : ∃ x, L[i]? = some x := ⟨_, List.getElem?_eq_getElem hi⟩
  obtain ⟨y, hy⟩ : ∃ y, M[i]? = some y := ⟨_, List.getElem?_eq_getElem (by rw [← hl]; exact hi)⟩
  obtain ⟨t1, t2, t3⟩ := tdOf_at hx
  obtain ⟨s1, s2, s3⟩ := tdOf_at hy
  rw [t1, t2, t3, s1, s2, s3]
  exact h i x y hi hx hy⟩
end Go.Proofs.Ytajckdheecgceaa
