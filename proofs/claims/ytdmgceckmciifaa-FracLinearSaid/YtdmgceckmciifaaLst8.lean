/- Lists of fractions: the law's walk, and what lists that are handed in read as. -/
import Derived.Test.YtdmgceckmciifaaLst
import Derived.Test.YtdmgceckmciifaaHalf
import Derived.Test.YtdmgceckmciifaaArg
import Derived.Test.YtdmgceckmciifaaFew
import Derived.Deep.Slices
import Derived.Deep.Strs
set_option linter.unusedVariables false
set_option linter.unusedSimpArgs false
namespace Go.Proofs.Ytdmgceckmciifaa
open Go.ChangeShapes Go.WideShapes Go.ChangeAt Go.RowKit Go.Joins

instance (k : Nat) (L : List (Bool × List Int × List Int)) : Decidable (FewD k L) := by unfold FewD; infer_instance
theorem few_none (w : World) (k : Int) (A : Option Addr) (c : Nat) : Calls Try.prog 17 #[.int .i64 k, .slice A 0 c] w fun e w' => e = .returned (.bool true) ∧ Below w.heap.size w w' := by
  go_enter Try.func17, Try.ntmps17
  go_wp2
  go_loop [5] (fun s => s = .int .i64 0) (fun s => 0)
  case atStart => rfl
  case round =>
    obtain rfl := hrel
    go_wp2
    go_ret
    exact ⟨rfl, Below.refl _ _⟩
theorem few_fl (w : World) (v : Value) (L : List (Bool × List Int × List Int)) (k : Nat) (h : FL w v L) : Calls Try.prog 17 #[.int .i64 (k : Int), v] w fun e w' => e = .returned (.bool (decide (FewD k L))) ∧ Below w.heap.size w w' := by
  obtain ⟨A, c, rfl, h1, h2, h3⟩ := h
  rcases Nat.eq_zero_or_pos L.length with h0 | h0
  · have hL : L = [] := List.length_eq_zero_iff.1 h0
    subst hL
    refine (few_none w k A c).mono ?_
    rintro e w' ⟨rfl, hb⟩
    exact ⟨by rw [decide_eq_true (show FewD k [] from fun d hd => by cases hd)], hb⟩
  · obtain ⟨ad, rfl, hc⟩ := h3 h0
    refine (few_calls w k ad L.length c (fun i => ((L.getD i (false, [], [])).2.1.length, (L.getD i (false, [], [])).2.2.length)) h1 h2 ?_).mono ?_
    · intro i hi
      obtain ⟨v1, v2, _, e1, e2, hf⟩ := hc i _ (List.getElem?_eq_getElem hi)
      obtain ⟨A1, c1, A2, c2, hsh, _⟩ := FrIn.shape hf
      obtain ⟨rfl, rfl⟩ : v1 = _ ∧ v2 = _ := by simpa using hsh
      refine ⟨A1, c1, A2, c2, ?_, ?_⟩
      · rw [e1]; simp [List.getD_eq_getElem?_getD, List.getElem?_eq_getElem hi]
      · rw [e2]; simp [List.getD_eq_getElem?_getD, List.getElem?_eq_getElem hi]
    · rintro e w' ⟨rfl, hb⟩
      refine ⟨?_, hb⟩
      congr 2
      apply decide_eq_decide.2
      constructor
      · intro h d hd
        obtain ⟨i, hi, rfl⟩ := List.mem_iff_getElem.1 hd
        have := h i hi
        simp only [List.getD_eq_getElem?_getD, List.getElem?_eq_getElem hi, Option.getD_some] at this
        omega
      · intro h i hi
        have := h L[i] (List.getElem_mem hi)
        simp only [List.getD_eq_getElem?_getD, List.getElem?_eq_getElem hi, Option.getD_some]
        omega
theorem few6_fl (w : World) (v : Value) (L : List (Bool × List Int × List Int)) (h : FL w v L) : Calls Try.prog 17 #[.int .i64 6, v] w fun e w' => e = .returned (.bool (decide (FewD 6 L))) ∧ Below w.heap.size w w' := few_fl w v L 6 h
theorem FewD.mono {L : List (Bool × List Int × List Int)} {k m : Nat} (h : FewD k L) (hk : k ≤ m) : FewD m L := fun d hd => ⟨Nat.le_trans (h d hd).1 hk, Nat.le_trans (h d hd).2 hk⟩
set_option maxRecDepth 100000 in
/-- A list of fractions that is handed in. -/
theorem fl_of_arg {H : Type} {enc : TypeId × Value → H} {W : World} {v : Value} {d : DataW H} {p : List MemPlace}
    (hv : Value.okWide Try.prog W .any 0 32 v) (h : DataW.Trod enc Try.prog W 0 (fun _ => true) true 32 v d p) : ∃ L, FL W v L := by
  obtain ⟨a, l, c, rfl⟩ := okWide_slice Try.underlying32 hv
  obtain ⟨fuel, hf⟩ := h
  rcases Deep.open_slice Try.underlying32 hf with ⟨hcs, _⟩ | ⟨ad, len, cap, m, n, D, Pl, hcs, _, hl, hm, hmm, _, hx⟩
  · obtain ⟨rfl, rfl, rfl⟩ : a = none ∧ l = 0 ∧ c = 0 := by simpa [Value.cells] using hcs
    exact ⟨[], none, 0, rfl, by simp, by omega, fun h => absurd h (by simp)⟩
  · obtain ⟨rfl, rfl, rfl⟩ : a = some ad ∧ l = len ∧ c = cap := by simpa [Value.cells] using hcs
    have hc3 : Program.cellsOf Try.prog 24 = 3 := by kernel_rfl
    have el : ∀ i, i < l → ∃ x : Bool × List Int × List Int, ∃ v1 v2, W.cell? (ad.add (i * 3)) = some (.bool x.1) ∧ W.cell? ⟨(ad.add (i * 3)).block, (ad.add (i * 3)).off + 1, none⟩ = some v1 ∧ W.cell? ⟨(ad.add (i * 3)).block, (ad.add (i * 3)).off + 2, none⟩ = some v2 ∧ FrIn W (.agg #[.bool x.1, v1, v2]) x.1 x.2.1 x.2.2 := by
      intro i hi
      obtain ⟨cs', h1, h2⟩ := hx i (by simp [hmm]; omega)
      rw [hc3] at h1
      obtain ⟨_, hlen, hat⟩ := World.cells?_some h1
      obtain ⟨y0, y1, y2, n', _, _, k0, k1, k2⟩ := Deep.trod_struct3 Try.underlying24 h2
      have b1 : Program.cellsOf Try.prog 4 = 1 := by kernel_rfl
      have b2 : Program.cellsOf Try.prog 22 = 1 := by kernel_rfl
      match cs', hlen with
      | [c0, c1, c2], _ =>
        have k0' : DataW.trod enc Try.prog W 0 (fun _ => true) true n' 4 [c0] = some y0 := by simpa [b1] using k0
        have k1' : DataW.trod enc Try.prog W 0 (fun _ => true) true n' 22 [c1] = some y1 := by simpa [b2] using k1
        have k2' : DataW.trod enc Try.prog W 0 (fun _ => true) true n' 22 [c2] = some y2 := by simpa [b2] using k2
        obtain ⟨b, hb, _⟩ := DataW.trod_bool Try.underlying4 k0'
        obtain rfl : c0 = .bool b := by simpa using hb
        obtain ⟨ln, r1, w1⟩ := row_of_arg k1'
        obtain ⟨ld, r2, w2⟩ := row_of_arg k2'
        refine ⟨(b, ln, ld), c1, c2, ?_, ?_, ?_, c1, c2, rfl, r1, r2, w1, w2⟩
        · have := hat 0 (by omega); simpa [Addr.add] using this
        · have := hat 1 (by omega); simpa [Addr.add] using this
        · have := hat 2 (by omega); simpa [Addr.add] using this
    obtain ⟨f, hfx⟩ := Deep.choose_lt el
    refine ⟨(List.range l).map f, some ad, c, by simp, by simpa using hl, by unfold maxLen at hm; omega, fun _ => ⟨ad, rfl, fun i d hd => ?_⟩⟩
    obtain ⟨hi, rfl⟩ : i < l ∧ f i = d := by
      rw [List.getElem?_map] at hd
      rcases Nat.lt_or_ge i l with h | h
      · rw [List.getElem?_range h] at hd
        exact ⟨h, by simpa using hd⟩
      · rw [List.getElem?_eq_none (by simpa using h)] at hd
        cases hd
    exact hfx i hi
set_option maxRecDepth 100000 in
set_option maxHeartbeats 4000000 in
theorem law_lists (w : World) (va vb : Value) (L M : List (Bool × List Int × List Int)) (ha : FL w va L) (hb : FL w vb M) :
    Calls Try.prog 8 #[va, vb] w fun e w' => e = .returned (.bool true) ∧ Below w.heap.size w w' := by
  have HA := Lib.hid ha
  have HB := Lib.hid hb
  obtain ⟨A, c, rfl, cl1, cl2, _⟩ := ha
  obtain ⟨A2, c2, rfl, cm1, cm2, _⟩ := hb
  go_enter Try.func8, Try.ntmps8
  by_cases hL : L.length ≤ 12
  · by_cases hM : M.length ≤ 12
    · have g1 : decide ((L.length : Int) > 12) = false := decide_eq_false (by omega)
      have g2 : decide ((M.length : Int) > 12) = false := decide_eq_false (by omega)
      have g3 : ¬ 12 < L.length := by omega
      have g4 : ¬ 12 < M.length := by omega
      go_wp2_with fail
      refine (few6_fl _ _ L HA.out).mono ?_
      rintro e w1 ⟨rfl, hb1⟩
      by_cases hf1 : FewD 6 L
      · rw [decide_eq_true hf1]
        have HA1 := Lib.hid (HA.out.below hb1)
        have HB1 := Lib.hid (HB.out.below hb1)
        have W1 := Lib.hid hb1
        have F1 := Lib.hid hf1
        clear hb1 hf1 HA HB
        go_wp2_with fail
        refine (few6_fl _ _ M HB1.out).mono ?_
        rintro e w2 ⟨rfl, hb2⟩
        by_cases hf2 : FewD 6 M
        · rw [decide_eq_true hf2]
          have HA2 := Lib.hid (HA1.out.below hb2)
          have HB2 := Lib.hid (HB1.out.below hb2)
          have W2 := Lib.hid (bl_trans W1.out hb2)
          have F2 := Lib.hid hf2
          clear hb2 hf2 HA1 HB1 W1
          go_wp2_with fail
          refine (copyfracs_calls _ _ L HA2.out (by omega) (F1.out.mono (by omega))).mono ?_
          rintro e w3 ⟨va3, rfl, ha3, hb3⟩
          obtain ⟨A3, c3, rfl⟩ := ha3.shape
          have HC3 := Lib.hid ha3
          have HA3 := Lib.hid (HA2.out.below hb3)
          have HB3 := Lib.hid (HB2.out.below hb3)
          have W3 := Lib.hid (bl_trans W2.out hb3)
          clear ha3 hb3 HA2 HB2 W2
          go_wp2_with fail
          refine (copyfracs_calls _ _ M HB3.out (by omega) (F2.out.mono (by omega))).mono ?_
          rintro e w4 ⟨vb4, rfl, hb4, bl4⟩
          obtain ⟨A4, c4, rfl⟩ := hb4.shape
          have HD4 := Lib.hid hb4
          have HC4 := Lib.hid (HC3.out.below bl4)
          have HA4 := Lib.hid (HA3.out.below bl4)
          have HB4 := Lib.hid (HB3.out.below bl4)
          have W4 := Lib.hid (bl_trans W3.out bl4)
          clear hb4 bl4 HA3 HB3 HC3 W3
          go_wp2_with fail
          refine (sum_calls _ _ L HC4.out (by omega) (F1.out.mono (by omega))).mono ?_
          rintro e w5 ⟨v5, rfl, hv5, bl5⟩
          go_wp2_with fail
          refine (rsuml_calls _ _ L (HA4.out.below bl5) (by omega) (F1.out.mono (by omega))).mono ?_
          rintro e w6 ⟨v6, rfl, hv6, bl6⟩
          have S1 := (psum_szq (few_szq (by omega) F1.out (FL.wd HA4.out)) L.length).short (by omega)
          go_wp2_with fail
          refine (same_calls _ _ _ _ (FrV.below hv5 bl6) hv6 S1).mono ?_
          rintro e w7 ⟨rfl, bl7⟩
          have b57 := bl_trans (bl_trans bl5 bl6) bl7
          have HD7 := Lib.hid (HD4.out.below b57)
          have HC7 := Lib.hid (HC4.out.below b57)
          have HA7 := Lib.hid (HA4.out.below b57)
          have HB7 := Lib.hid (HB4.out.below b57)
          have W7 := Lib.hid (bl_trans W4.out b57)
          clear bl5 bl6 bl7 b57 hv5 hv6 S1 HD4 HC4 HA4 HB4 W4
          go_wp2_with fail
          refine (dot_calls _ _ _ L M HC7.out HD7.out (by omega) (by omega) (F1.out.mono (by omega)) (F2.out.mono (by omega))).mono ?_
          rintro e w8 ⟨v8, rfl, hv8, bl8⟩
          go_wp2_with fail
          refine (rdot_calls _ _ _ L M (HA7.out.below bl8) (HB7.out.below bl8) (by omega) (by omega) (F1.out.mono (by omega)) (F2.out.mono (by omega))).mono ?_
          rintro e w9 ⟨v9, rfl, hv9, bl9⟩
          have S2 := (psum_szq (dots_szq (by omega) F1.out F2.out (FL.wd HA7.out) (FL.wd HB7.out)) (min L.length M.length)).short (by omega)
          go_wp2_with fail
          refine (same_calls _ _ _ _ (FrV.below hv8 bl9) hv9 S2).mono ?_
          rintro e wa ⟨rfl, bla⟩
          have b8a := bl_trans (bl_trans bl8 bl9) bla
          have HCa := Lib.hid (HC7.out.below b8a)
          have HAa := Lib.hid (HA7.out.below b8a)
          have Wa := Lib.hid (bl_trans W7.out b8a)
          clear bl8 bl9 bla b8a hv8 hv9 S2 HD7 HC7 HA7 HB7 W7
          go_wp2_with fail
          refine (least_calls _ _ L HCa.out (by omega) (F1.out.mono (by omega))).mono ?_
          rintro e wb ⟨rfl, blb⟩
          go_wp2_with fail
          refine (rleast_calls _ _ L (HAa.out.below blb) (by omega) (F1.out.mono (by omega))).mono ?_
          rintro e wc ⟨rfl, blc⟩
          have bbc := bl_trans blb blc
          have HCc := Lib.hid (HCa.out.below bbc)
          have HAc := Lib.hid (HAa.out.below bbc)
          have Wc := Lib.hid (bl_trans Wa.out bbc)
          clear blb blc bbc HCa HAa Wa
          go_wp2_with fail
          refine (most_calls _ _ L HCc.out (by omega) (F1.out.mono (by omega))).mono ?_
          rintro e wd ⟨rfl, bld⟩
          go_wp2_with fail
          refine (rmost_calls _ _ L (HAc.out.below bld) (by omega) (F1.out.mono (by omega))).mono ?_
          rintro e we ⟨rfl, ble⟩
          have We := Lib.hid (bl_trans Wc.out (bl_trans bld ble))
          clear bld ble HCc HAc Wc
          go_wp2_with fail
          refine (half_calls _).mono ?_
          rintro e wf ⟨rfl, blf⟩
          have Wf := Lib.hid (bl_trans We.out blf)
          clear blf We
          go_wp2
          go_ret
          exact ⟨rfl, Wf.out⟩
        · rw [decide_eq_false hf2]
          have W2 := Lib.hid (bl_trans W1.out hb2)
          clear hb2 W1
          go_wp2
          go_ret
          exact ⟨rfl, W2.out⟩
      · rw [decide_eq_false hf1]
        have W1 := Lib.hid hb1
        clear hb1
        go_wp2
        go_ret
        exact ⟨rfl, W1.out⟩
    · have g1 : decide ((L.length : Int) > 12) = false := decide_eq_false (by omega)
      have g2 : decide ((M.length : Int) > 12) = true := decide_eq_true (by omega)
      have g3 : ¬ 12 < L.length := by omega
      have g4 : 12 < M.length := by omega
      go_wp2
      go_ret
      exact ⟨rfl, Below.refl _ _⟩
  · have g1 : decide ((L.length : Int) > 12) = true := decide_eq_true (by omega)
    have g3 : 12 < L.length := by omega
    go_wp2
    go_ret
    exact ⟨rfl, Below.refl _ _⟩
end Go.Proofs.Ytdmgceckmciifaa
