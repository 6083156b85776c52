/- Tides: the statements' own tests: the same numbers, few words. -/
import Derived.Test.YtajckdheecgceaaArg
import Derived.Test.YtajckdheecgceaaTd10
set_option linter.unusedVariables false
set_option linter.unusedSimpArgs false
namespace Go.Proofs.Ytajckdheecgceaa
open Go.RowKit

theorem rcmp_eq0 (a b : Rat) : rcmp a b = 0 ↔ a = b := by
  unfold rcmp; grind
set_option maxRecDepth 100000 in
theorem same_q (w : World) (va vb : Value) (a b : Rat) (ha : FrQ w va a) (hb : FrQ w vb b) : Calls Try.prog 29 #[va, vb] w fun e w' => e = .returned (.bool (decide (a = b))) ∧ Below w.heap.size w w' := by
  have hqa := Lib.hid ha
  have hqb := Lib.hid hb
  obtain ⟨n1, l1, d1, h1, s1, _⟩ := ha
  obtain ⟨n2, l2, d2, h2, s2, _⟩ := hb
  obtain ⟨A, c, A2, c2, rfl, _, _, _, _⟩ := FrIn.shape h1
  obtain ⟨B, e, B2, e2, rfl, _, _, _, _⟩ := FrIn.shape h2
  have al := below_alloc0 w (.cells #[.bool n1, .slice A l1.length c, .slice A2 d1.length c2] 38)
  have al2 := below_alloc0 (w.alloc (.cells #[.bool n1, .slice A l1.length c, .slice A2 d1.length c2] 38)) (.cells #[.bool n2, .slice B l2.length e, .slice B2 d2.length e2] 38)
  have K := (Blk.new w 38 #[.bool n1, .slice A l1.length c, .slice A2 d1.length c2]).below al2
  have K2 := Blk.new (w.alloc (.cells #[.bool n1, .slice A l1.length c, .slice A2 d1.length c2] 38)) 38 #[.bool n2, .slice B l2.length e, .slice B2 d2.length e2]
  have k0 := K.cell 0
  have k1 := K.cell 1
  have k2 := K.cell 2
  have j0 := K2.cell 0
  have j1 := K2.cell 1
  have j2 := K2.cell 2
  have hal := Lib.hid (bl_trans al al2)
  have hc : (((rcmp a b : Int)) == 0) = decide (a = b) := by
    rw [Bool.eq_iff_iff, beq_iff_eq, decide_eq_true_iff]
    exact rcmp_eq0 a b
  have HC := Lib.hid hc
  clear h1 h2 al al2 K K2 hc
  go_enter Try.func29, Try.ntmps29
  go_wp2_with fail
  refine (rcmpq _ _ _ a b (FrQ.below hqa.out hal.out) (FrQ.below hqb.out hal.out)).mono ?_
  rintro x w2 ⟨rfl, hb2⟩
  have HB2 := Lib.hid (bl_trans hal.out hb2)
  clear hb2 k0 k1 k2 j0 j1 j2
  go_wp2
  go_ret
  exact ⟨by rw [← HC.out]; rfl, HB2.out⟩
set_option maxRecDepth 100000 in
set_option maxHeartbeats 4000000 in
theorem samenums_calls (w : World) (va vb : Value) (L M : List (Bool × List Int × List Int)) (ha : FL w va L) (hb : FL w vb M) (hf : FewD 2000 L) (hf2 : FewD 2000 M) (hlen : L.length = M.length) (heq : L.map fqd = M.map fqd) :
    Calls Try.prog 21 #[va, vb] w fun e w' => e = .returned (.bool true) ∧ Below w.heap.size w w' := by
  have HA := Lib.hid ha
  have HB := Lib.hid hb
  have HEQ := Lib.hid heq
  obtain ⟨A, c, rfl⟩ := ha.shape
  obtain ⟨B, cb, rfl⟩ := hb.shape
  have q0 : ((L.length : Int) != (M.length : Int)) = false := by rw [hlen]; simp
  have hL : L.length ≤ 9223372036854775807 := by obtain ⟨_, _, _, k1, k2, _⟩ := ha; omega
  have HL := Lib.hid hlen
  clear ha hb heq hlen
  go_enter Try.func21, Try.ntmps21
  go_wp2
  go_loopw [5] (fun i wr => ∃ k : Nat, k ≤ L.length ∧ i = .int .i64 (k : Int) ∧ Below w.heap.size w wr) (fun i _ => L.length - (intOf i).toNat)
  case atStart => exact ⟨0, by omega, rfl, Below.refl _ _⟩
  case round =>
    obtain ⟨k, hk, rfl, hbl⟩ := hrel
    have HBL := Lib.hid hbl
    by_cases hx : k < L.length
    · obtain ⟨x, hx1⟩ : ∃ x, L[k]? = some x := ⟨_, List.getElem?_eq_getElem hx⟩
      obtain ⟨y, hy1⟩ : ∃ y, M[k]? = some y := ⟨_, List.getElem?_eq_getElem (by have := HL.out; omega)⟩
      have hxy : fqd x = fqd y := by
        have h := congrArg (fun l => l[k]?) HEQ.out
        simp only [List.getElem?_map, hx1, hy1, Option.map_some] at h
        exact Option.some.inj h
      have fewx := hf x (List.mem_of_getElem? hx1)
      have fewy := hf2 y (List.mem_of_getElem? hy1)
      obtain ⟨ad, c', A1, a1, A2, a2, hsl, _, _, e0, e1, e2, hfr⟩ := HA.out.at hx1
      obtain ⟨rfl, rfl⟩ : A = some ad ∧ c = c' := by simpa using hsl
      obtain ⟨ad2, c2', A3, a3, A4, a4, hsl2, _, _, e3, e4, e5, hfr2⟩ := HB.out.at hy1
      obtain ⟨rfl, rfl⟩ : B = some ad2 ∧ cb = c2' := by simpa using hsl2
      have hs := holdff_next (bl_drew wr) ⟨(⟨hbl, ⟨x.1, x.2.1, x.2.2, hfr.below hbl, by omega, rfl⟩, ⟨y.1, y.2.1, y.2.2, hfr2.below hbl, by omega, rfl⟩⟩ : HoldFF w _ _ (fqd x) (fqd y) wr), ⟨cell_below hbl e0, cell_below hbl e1, cell_below hbl e2⟩, ⟨cell_below hbl e3, cell_below hbl e4, cell_below hbl e5⟩⟩
      have q1 : (k : Int) < (L.length : Int) := by omega
      have q2 : (k : Int) < (M.length : Int) := by have := HL.out; omega
      have HD := Lib.hid (show decide (fqd x = fqd y) = true from decide_eq_true hxy)
      clear hbl hfr hfr2 hsl hsl2 e0 e1 e2 e3 e4 e5 hx1 hy1 hxy
      go_wp2_with fail
      go_region_held3 (fun w' => HoldFF w (.agg #[.bool x.1, .slice A1 x.2.1.length a1, .slice A2 x.2.2.length a2]) (.agg #[.bool y.1, .slice A3 y.2.1.length a3, .slice A4 y.2.2.length a4]) (fqd x) (fqd y) w' ∧ (w'.cell? (ad.add (k * 3)) = some (.bool x.1) ∧ w'.cell? ⟨(ad.add (k * 3)).block, (ad.add (k * 3)).off + 1, none⟩ = some (.slice A1 x.2.1.length a1) ∧ w'.cell? ⟨(ad.add (k * 3)).block, (ad.add (k * 3)).off + 2, none⟩ = some (.slice A2 x.2.2.length a2)) ∧ (w'.cell? (ad2.add (k * 3)) = some (.bool y.1) ∧ w'.cell? ⟨(ad2.add (k * 3)).block, (ad2.add (k * 3)).off + 1, none⟩ = some (.slice A3 y.2.1.length a3) ∧ w'.cell? ⟨(ad2.add (k * 3)).block, (ad2.add (k * 3)).off + 2, none⟩ = some (.slice A4 y.2.2.length a4)))
        ((first | exact hs | exact holdff_next hbN (by assumption)))
        (first
          | (go_at_call 29; (with_reducible refine (same_q _ _ _ (fqd x) (fqd y) ?_ ?_).mono ?_); (exact HoldFF.t1 (And.left (by assumption))); (exact HoldFF.t2 (And.left (by assumption))); (rintro e w' ⟨rfl, hbN⟩); (rw [HD.out]); (have H1 := HoldFF.next hbN (And.left (by assumption)))))
      go_wp2
      exact ⟨⟨k + 1, by omega, by go_num, H1.1⟩, by simp [intOf]; omega⟩
    · obtain rfl : k = L.length := by omega
      clear hbl
      go_wp2
      go_ret
      exact ⟨rfl, HBL.out⟩
set_option maxRecDepth 100000 in
set_option maxHeartbeats 4000000 in
theorem sameints_calls (w : World) (g1 g2 n : Nat) (st : Nat → Int) (h1 : Tb w g1 3 n n (fun j => .int .i64 (st j))) (h2 : Tb w g2 3 n n (fun j => .int .i64 (st j))) (hn : n ≤ 4096) :
    Calls Try.prog 20 #[.slice (some ⟨g1, 0, none⟩) n n, .slice (some ⟨g2, 0, none⟩) n n] w fun e w' => e = .returned (.bool true) ∧ Below w.heap.size w w' := by
  have H1 := Lib.hid h1
  have H2 := Lib.hid h2
  have q0 : ((n : Int) != (n : Int)) = false := by simp
  clear h1 h2
  go_enter Try.func20, Try.ntmps20
  go_wp2
  go_loopw [5] (fun i wr => ∃ k : Nat, k ≤ n ∧ i = .int .i64 (k : Int) ∧ Below w.heap.size w wr) (fun i _ => n - (intOf i).toNat)
  case atStart => exact ⟨0, by omega, rfl, Below.refl _ _⟩
  case round =>
    obtain ⟨k, hk, rfl, hbl⟩ := hrel
    have HBL := Lib.hid hbl
    by_cases hx : k < n
    · have e1 := cell_below hbl (H1.out.cell hx)
      have e2 := cell_below hbl (H2.out.cell hx)
      have q1 : (k : Int) < (n : Int) := by omega
      have q2 : ((st k : Int) != st k) = false := by simp
      clear hbl
      go_wp2_with fail
      go_quiet (fail)
      go_wp2
      exact ⟨⟨k + 1, by omega, by go_num, bl_trans HBL.out (bl_drewN _ _)⟩, by simp [intOf]; omega⟩
    · obtain rfl : k = n := by omega
      clear hbl
      go_wp2
      go_ret
      exact ⟨rfl, HBL.out⟩
set_option maxRecDepth 100000 in
theorem sameints_nil (w : World) : Calls Try.prog 20 #[.slice none 0 0, .slice none 0 0] w fun e w' => e = .returned (.bool true) ∧ Below w.heap.size w w' := by
  go_enter Try.func20, Try.ntmps20
  go_wp2
  go_loopw [5] (fun i wr => i = .int .i64 0 ∧ wr = w) (fun _ _ => 0)
  case atStart => exact ⟨rfl, rfl⟩
  case round =>
    obtain ⟨rfl, rfl⟩ := hrel
    go_wp2
    go_ret
    exact ⟨rfl, Below.refl _ _⟩
set_option maxRecDepth 100000 in
theorem big_calls (w : World) (b : Bool) (A1 A2 : Option Addr) (l1 c1 l2 c2 : Nat) (h1 : l1 ≤ 4611686018427387903) (h2 : l2 ≤ 4611686018427387903) :
    Calls Try.prog 25 #[.agg #[.bool b, .slice A1 l1 c1, .slice A2 l2 c2]] w fun e w' => e = .returned (.int .i64 ((l1 + l2 : Nat) : Int)) ∧ Below w.heap.size w w' := by
  have al := below_alloc0 w (.cells #[.bool b, .slice A1 l1 c1, .slice A2 l2 c2] 38)
  have K := Blk.new w 38 #[.bool b, .slice A1 l1 c1, .slice A2 l2 c2]
  have k1 := K.cell 1
  have k2 := K.cell 2
  have HAL := Lib.hid al
  clear al K
  go_enter Try.func25, Try.ntmps25
  go_wp2
  go_ret
  exact ⟨by simp, HAL.out⟩

/-- What beyond tells. -/
def BeyP (L : List VD) (w : World) (e : Ending) (w' : World) : Prop := ∃ b : Bool, e = .returned (.bool b) ∧ (b = false → L.length ≤ 20 ∧ FewV 6 L) ∧ Below w.heap.size w w'
set_option maxRecDepth 100000 in
set_option maxHeartbeats 4000000 in
theorem beyond_calls (w : World) (days each : Int) (A : Option Addr) (c : Nat) (L : List VD) (h : VL w (.slice A L.length c) L) (hf : FewV 4611686018427387903 L) :
    Calls Try.prog 11 #[.agg #[.int .i64 days, .int .i64 each, .slice A L.length c]] w (BeyP L w) := by
  have HV := Lib.hid h
  have hcc := h.bounds
  have HF := Lib.hid hf
  have al := below_alloc0 w (.cells #[.int .i64 days, .int .i64 each, .slice A L.length c] 24)
  have KB := Blk.new w 24 #[.int .i64 days, .int .i64 each, .slice A L.length c]
  have k2 := KB.cell 2
  have HAL := Lib.hid al
  have HK := Lib.hid KB
  clear h hf al KB
  by_cases h20 : 20 < L.length
  · have g1 : decide ((20 : Int) < (L.length : Int)) = true := decide_eq_true (by omega)
    go_enter Try.func11, Try.ntmps11
    go_wp2
    go_ret
    exact ⟨true, rfl, fun h => by simp at h, HAL.out⟩
  · have g1 : decide ((20 : Int) < (L.length : Int)) = false := decide_eq_false (by omega)
    have g2 : ¬ (20 : Int) < (L.length : Int) := by omega
    go_enter Try.func11, Try.ntmps11
    go_wp2
    go_loopw [3] (fun i wr => ∃ k : Nat, k ≤ L.length ∧ i = .int .i64 (k : Int) ∧ Below w.heap.size w wr ∧ Blk wr w.heap.size 24 #[.int .i64 days, .int .i64 each, .slice A L.length c] ∧ FewV 6 (L.take k)) (fun i _ => L.length - (intOf i).toNat)
    case atStart => exact ⟨0, by omega, rfl, HAL.out, HK.out, fun d hd => by simp at hd⟩
    case round =>
      clear k2
      obtain ⟨k, hk, rfl, hb, hK, hfew⟩ := hrel
      have HB := Lib.hid hb
      have HKr := Lib.hid hK
      have HFEW := Lib.hid hfew
      have b2 := hK.cell 2
      by_cases hx : k < L.length
      · obtain ⟨x, hx1⟩ : ∃ x, L[k]? = some x := ⟨_, List.getElem?_eq_getElem hx⟩
        obtain ⟨ad, A1, a1, A2, a2, rfl, e0, e1, e2, e3, e4, hfx⟩ := (HV.out.below hb).at hx1
        have few := HF.out x (List.mem_of_getElem? hx1)
        have q1 : (k : Int) < (L.length : Int) := by omega
        have HTK := Lib.hid (show L.take (k + 1) = L.take k ++ [x] by rw [List.take_add_one, hx1]; rfl)
        clear hb hK hfew hx1 hfx e0 e1
        go_wp2_with fail
        refine (big_calls _ _ _ _ _ _ _ _ few.1 few.2).mono ?_
        rintro e w5 ⟨rfl, hb5⟩
        have HB5 := Lib.hid (bl_trans HB.out hb5)
        have HK5 := Lib.hid (HKr.out.below hb5)
        by_cases h6 : x.2.2.2.1.length + x.2.2.2.2.length ≤ 6
        · have g3 : decide ((6 : Int) < ((x.2.2.2.1.length + x.2.2.2.2.length : Nat) : Int)) = false := decide_eq_false (by omega)
          have g4 : decide ((6 : Int) < (x.2.2.2.1.length : Int) + (x.2.2.2.2.length : Int)) = false := decide_eq_false (by omega)
          have g5 : ¬ 6 < x.2.2.2.1.length + x.2.2.2.2.length := by omega
          have HN := Lib.hid (show FewV 6 (L.take (k + 1)) from fun d hd => by
            rw [HTK.out] at hd
            rcases List.mem_append.1 hd with h | h
            · exact HFEW.out d h
            · rw [List.mem_singleton.1 h]; omega)
          clear hb5 e2 e3 e4
          go_wp2
          exact ⟨⟨k + 1, by omega, by go_num, HB5.out, HK5.out, HN.out⟩, by simp [intOf]; omega⟩
        · have g3 : decide ((6 : Int) < ((x.2.2.2.1.length + x.2.2.2.2.length : Nat) : Int)) = true := decide_eq_true (by omega)
          have g4 : decide ((6 : Int) < (x.2.2.2.1.length : Int) + (x.2.2.2.2.length : Int)) = true := decide_eq_true (by omega)
          have g5 : 6 < x.2.2.2.1.length + x.2.2.2.2.length := by omega
          clear hb5 e2 e3 e4
          go_wp2
          go_ret
          exact ⟨true, rfl, fun h => by simp at h, HB5.out⟩
      · obtain rfl : k = L.length := by omega
        rw [List.take_length] at hfew
        have HFEW2 := Lib.hid hfew
        have q1 : ¬ (L.length : Int) < (L.length : Int) := by omega
        clear hb hK hfew
        go_wp2
        go_ret
        exact ⟨false, rfl, fun _ => ⟨by omega, HFEW2.out⟩, HB.out⟩

/-- Fractions in a block of their own. -/
def FB (w : World) (g c n : Nat) (f : Nat → Bool × List Int × List Int) : Prop := ∃ cs : Array Value, w.heap[g]? = some (.cells cs 38 (0, 0)) ∧ cs.size = 3 * c ∧ n ≤ c ∧ c ≤ 9223372036854775807 ∧ NoU cs ∧
  ∀ j, j < n → ∃ v1 v2, cs[j * 3]? = some (.bool (f j).1) ∧ cs[j * 3 + 1]? = some v1 ∧ cs[j * 3 + 2]? = some v2 ∧ FrIn w (.agg #[.bool (f j).1, v1, v2]) (f j).1 (f j).2.1 (f j).2.2
theorem FB.lt {w : World} {g c n : Nat} {f : Nat → Bool × List Int × List Int} (h : FB w g c n f) : g < w.heap.size := by
  obtain ⟨cs, h1, _⟩ := h
  exact (Array.getElem?_eq_some_iff.1 h1).1
theorem FB.fr {S : Nat → Prop} {w w1 : World} (k : Fr S w w1) {g c n : Nat} {f : Nat → Bool × List Int × List Int} (h : FB w g c n f) (hg : ¬ S g) : FB w1 g c n f := by
  obtain ⟨cs, h1, h2, h3, h3', h4, h5⟩ := h
  refine ⟨cs, (k.block g (Array.getElem?_eq_some_iff.1 h1).1 hg).trans h1, h2, h3, h3', h4, fun j hj => ?_⟩
  obtain ⟨v1, v2, k0, k1, k2, m1⟩ := h5 j hj
  exact ⟨v1, v2, k0, k1, k2, k.keep.fr m1⟩
theorem FB.below {w w1 : World} {g c n : Nat} {f : Nat → Bool × List Int × List Int} (h : FB w g c n f) (hb : Below w.heap.size w w1) : FB w1 g c n f := FB.fr (Fr.of_below (S := fun _ => False) hb) h (fun h => h)
theorem FB.free {w : World} {g c n : Nat} {f : Nat → Bool × List Int × List Int} (h : FB w g c n f) (j : Nat) : w.frozen? ⟨g, j, none⟩ = false := by
  obtain ⟨cs, h1, _⟩ := h
  exact frozen_of_row w g j cs _ h1
theorem FB.there {w : World} {g c n : Nat} {f : Nat → Bool × List Int × List Int} (h : FB w g c n f) {j : Nat} (hj : j < 3 * n) : ∃ x, w.cell? ⟨g, j, none⟩ = some x ∧ ∀ n, x ≠ .int .u32 n := by
  obtain ⟨cs, h1, h2, h3, _, h4, _⟩ := h
  exact ⟨cs[j]'(by omega), by rw [cell_of_row w g j cs _ _ h1, Array.getElem?_eq_getElem (by omega)], h4 j _ (Array.getElem?_eq_getElem (by omega))⟩
theorem FB.congr {w : World} {g c n : Nat} {f f' : Nat → Bool × List Int × List Int} (h : FB w g c n f) (e : ∀ j, j < n → f j = f' j) : FB w g c n f' := by
  obtain ⟨cs, h1, h2, h3, h3', h4, h5⟩ := h
  exact ⟨cs, h1, h2, h3, h3', h4, fun j hj => by rw [← e j hj]; exact h5 j hj⟩
theorem FB.bounds {w : World} {g c n : Nat} {f : Nat → Bool × List Int × List Int} (h : FB w g c n f) : n ≤ c ∧ c ≤ 9223372036854775807 := by
  obtain ⟨cs, h1, h2, h3, h3', _⟩ := h
  exact ⟨h3, h3'⟩
theorem FB.set {w : World} {g c n : Nat} {f : Nat → Bool × List Int × List Int} (h : FB w g c n f) {j : Nat} (hj : j < n) {d : Bool × List Int × List Int} {A A2 : Option Addr} {e e2 : Nat} (hx : FrIn w (.agg #[.bool d.1, .slice A d.2.1.length e, .slice A2 d.2.2.length e2]) d.1 d.2.1 d.2.2) :
    FB (put3 w g j (.bool d.1) (.slice A d.2.1.length e) (.slice A2 d.2.2.length e2)) g c n (upd f j d) ∧ Fr (fun y => y = g) w (put3 w g j (.bool d.1) (.slice A d.2.1.length e) (.slice A2 d.2.2.length e2)) := by
  obtain ⟨x0, c0, n0⟩ := h.there (j := j * 3) (by omega)
  obtain ⟨x1, c1, n1⟩ := h.there (j := j * 3 + 1) (by omega)
  obtain ⟨x2, c2, n2⟩ := h.there (j := j * 3 + 2) (by omega)
  have hfr := put3_fr c0 c1 c2 n0 n1 n2 (.bool d.1) (.slice A d.2.1.length e) (.slice A2 d.2.2.length e2)
  refine ⟨?_, hfr⟩
  obtain ⟨cs, h1, h2, h3, h3', h4, h5⟩ := h
  have s1 := heap_setCell_same w g (j * 3) cs 38 (.bool d.1) h1
  have s2 := heap_setCell_same _ g (j * 3 + 1) _ 38 (.slice A d.2.1.length e) s1
  have s3 := heap_setCell_same _ g (j * 3 + 2) _ 38 (.slice A2 d.2.2.length e2) s2
  refine ⟨_, s3, by simpa using h2, h3, h3', ((h4.set _ (boolne _)).set _ (slne _ _ _)).set _ (slne _ _ _), fun i hi => ?_⟩
  by_cases q : i = j
  · subst q
    rw [upd_at]
    refine ⟨.slice A d.2.1.length e, .slice A2 d.2.2.length e2, ?_, ?_, ?_, hfr.keep.fr hx⟩
    · rw [Array.getElem?_setIfInBounds_ne (by omega), Array.getElem?_setIfInBounds_ne (by omega), Array.getElem?_setIfInBounds_self_of_lt (by omega)]
    · rw [Array.getElem?_setIfInBounds_ne (by omega), Array.getElem?_setIfInBounds_self_of_lt (by simp; omega)]
    · rw [Array.getElem?_setIfInBounds_self_of_lt (by simp; omega)]
  · rw [upd_ne q]
    obtain ⟨u1, u2, k0, k1, k2, l1⟩ := h5 i hi
    refine ⟨u1, u2, ?_, ?_, ?_, hfr.keep.fr l1⟩
    · rw [Array.getElem?_setIfInBounds_ne (by omega), Array.getElem?_setIfInBounds_ne (by omega), Array.getElem?_setIfInBounds_ne (by omega)]; exact k0
    · rw [Array.getElem?_setIfInBounds_ne (by omega), Array.getElem?_setIfInBounds_ne (by omega), Array.getElem?_setIfInBounds_ne (by omega)]; exact k1
    · rw [Array.getElem?_setIfInBounds_ne (by omega), Array.getElem?_setIfInBounds_ne (by omega), Array.getElem?_setIfInBounds_ne (by omega)]; exact k2
theorem FB.fl {w : World} {g c n : Nat} {f : Nat → Bool × List Int × List Int} (h : FB w g c n f) : FL w (.slice (some ⟨g, 0, none⟩) n c) ((List.range n).map f) := by
  obtain ⟨cs, h1, h2, h3, h3', h4, h5⟩ := h
  refine ⟨some ⟨g, 0, none⟩, c, by simp, by simpa using h3, h3', fun _ => ⟨_, rfl, fun i d hd => ?_⟩⟩
  have hi : i < n := by have := (List.getElem?_eq_some_iff.1 hd).1; simpa using this
  obtain rfl : f i = d := by simpa [hi] using hd
  obtain ⟨v1, v2, k0, k1, k2, l1⟩ := h5 i hi
  rw [add_row]
  exact ⟨v1, v2, by rw [cell_of_row w g _ cs _ _ h1, k0], by rw [cell_of_row w g _ cs _ _ h1, k1], by rw [cell_of_row w g _ cs _ _ h1, k2], l1⟩
theorem mk_fracs (n : Nat) (h : n ≤ 4096) (w : World) : (Instr.makeSlice 31 (.int .i64 (n : Int)) (.int .i64 (n : Int))).run Try.prog w = .ok (.slice (some ⟨w.heap.size, 0, none⟩) n n) (w.alloc (.cells (madeCells #[.bool false, .slice none 0 0, .slice none 0 0] (n * 3)) 38)) := by
  obtain ⟨i0, hi, hz0, hz1, hz2⟩ := info_parts info_frac
  have hr := run_make (P := Try.prog) w 31 38 i0 _ Try.underlying31 hi hz0 .i64 .i64 (n : Int) (n : Int) (by omega) (by omega) (by rw [hz2]; omega) (by omega)
  simp only [Int.toNat_natCast, hz1] at hr
  exact hr
theorem FrIn.none (w : World) : FrIn w (.agg #[.bool false, .slice none 0 0, .slice none 0 0]) false [] [] := ⟨_, _, rfl, RdI.nil _ _, RdI.nil _ _, Wd_nil, Wd_nil⟩
theorem FB.new (w : World) (n : Nat) (hn : n ≤ 4096) : FB (w.alloc (.cells (madeCells #[.bool false, .slice none 0 0, .slice none 0 0] (n * 3)) 38)) w.heap.size n n (fun _ => (false, [], [])) := by
  have hm : ∀ j, j < n * 3 → (madeCells #[Value.bool false, .slice none 0 0, .slice none 0 0] (n * 3))[j]? = some ((#[Value.bool false, .slice none 0 0, .slice none 0 0] : Array Value)[j % 3]!) := by
    intro j hj
    simp only [madeCells, Array.getElem?_map, Array.getElem?_range]
    rw [if_pos hj]
    rfl
  refine ⟨_, heap_alloc_new w _, by rw [size_madeCells]; omega, Nat.le_refl _, by omega, fun j x hx => ?_, fun j hj => ⟨.slice none 0 0, .slice none 0 0, ?_, ?_, ?_, FrIn.none _⟩⟩
  · have hj : j < n * 3 := by
      have := (Array.getElem?_eq_some_iff.1 hx).1
      rw [size_madeCells] at this
      exact this
    rw [hm j hj] at hx
    obtain rfl := Option.some.inj hx
    have h3 : j % 3 = 0 ∨ j % 3 = 1 ∨ j % 3 = 2 := by omega
    intro n
    rcases h3 with h | h | h <;> rw [h] <;> intro hh <;> cases hh
  · rw [hm _ (by omega), show j * 3 % 3 = 0 by omega]; rfl
  · rw [hm _ (by omega), show (j * 3 + 1) % 3 = 1 by omega]; rfl
  · rw [hm _ (by omega), show (j * 3 + 2) % 3 = 2 by omega]; rfl
/-- An element of a list of exact fractions. -/
theorem FL.atq {w : World} {v : Value} {qs : List Rat} (h : FL w v (qs.map dq)) {k : Nat} {q : Rat} (hq : qs[k]? = some q) : ∃ ad c A1 c1 A2 c2, v = .slice (some ad) qs.length c ∧ qs.length ≤ c ∧ c ≤ 9223372036854775807 ∧ w.cell? (ad.add (k * 3)) = some (.bool (decide (q.num < 0))) ∧ w.cell? ⟨(ad.add (k * 3)).block, (ad.add (k * 3)).off + 1, none⟩ = some (.slice A1 (dg q.num.natAbs).length c1) ∧
    w.cell? ⟨(ad.add (k * 3)).block, (ad.add (k * 3)).off + 2, none⟩ = some (.slice A2 (dg q.den).length c2) ∧ FrV w (.agg #[.bool (decide (q.num < 0)), .slice A1 (dg q.num.natAbs).length c1, .slice A2 (dg q.den).length c2]) q := by
  have hd : (qs.map dq)[k]? = some (dq q) := by rw [List.getElem?_map, hq]; rfl
  obtain ⟨ad, c, A1, c1, A2, c2, hv, h1, h2, e0, e1, e2, hf⟩ := h.at hd
  rw [List.length_map] at hv h1
  exact ⟨ad, c, A1, c1, A2, c2, hv, h1, h2, e0, e1, e2, hf⟩
set_option maxRecDepth 100000 in
theorem zero_calls (w : World) : Calls Try.prog 59 #[] w fun e w' => ∃ v, e = .returned v ∧ FrV w' v 0 ∧ Below w.heap.size w w' := by
  have al := below_alloc0 w (.cells #[.bool false, .slice none 0 0, .slice none 0 0] 38)
  have KB := Blk.new w 38 #[.bool false, .slice none 0 0, .slice none 0 0]
  have HAL := Lib.hid al
  have HKB := Lib.hid KB
  clear al KB
  go_enter Try.func59, Try.ntmps59
  go_wp2_with fail
  refine (sum_calls _ _ [] ⟨none, 0, rfl, by simp, by omega, fun h => absurd h (by simp)⟩ (by simp) (fun d hd => by simp at hd)).mono ?_
  rintro e w2 ⟨v, rfl, hv, hb⟩
  obtain ⟨q, hq⟩ : ∃ q : Rat, q = 0 := ⟨_, rfl⟩
  have hv : FrV w2 v q := by rw [hq]; exact hv
  have HQ := Lib.hid hq
  obtain ⟨P1, p1, P2, p2, rfl, _, _, _, _⟩ := FrIn.shape hv
  have HV := Lib.hid hv
  have HB := Lib.hid (bl_trans HAL.out hb)
  have K2 := HKB.out.below hb
  have k0 := K2.cell 0
  have k1 := K2.cell 1
  have k2 := K2.cell 2
  have kf := K2.free
  have HK2 := Lib.hid K2
  clear hq hv hb K2
  go_wp2
  refine bodyPost_ret (results_cell_row rfl _ _ w.heap.size 38 _ (0, 0) _ rfl (blk3 HK2.out _ _ _) Try.underlying38 rfl (by kernel_rfl)) rfl ⟨_, rfl, ?_, three_below HB.out (Nat.le_refl _) _ _ _⟩
  rw [← HQ.out]
  exact (FBox.fr HK2.out (boolne _) (slne _ _ _) (slne _ _ _) _ _ _).keep.fr HV.out
end Go.Proofs.Ytajckdheecgceaa
