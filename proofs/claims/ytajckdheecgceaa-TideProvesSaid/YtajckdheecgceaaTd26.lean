/- TideSells: the law's walk. -/
import Derived.Test.YtajckdheecgceaaTd23
set_option linter.unusedVariables false
set_option linter.unusedSimpArgs false
namespace Go.Proofs.Ytajckdheecgceaa
open Go.RowKit

theorem FL.none0 (w : World) : FL w (.slice none 0 0) [] := ⟨none, 0, rfl, by simp, by omega, fun h => absurd h (by simp)⟩
theorem bars_list (K D : Nat) (L : List VD) (m : Nat) : (List.range m).map (fun (j : Nat) => dq ((tdOf L).bar K ((tdOf L).sold K D) ((j : Int) + 1))) = (barL K D L m).map dq := by
  unfold barL; rw [List.map_map]; rfl
theorem pays_list (K D : Nat) (L : List VD) (m : Nat) : (List.range m).map (fun (j : Nat) => dq ((tdOf L).pay K D j)) = (payL K D L m).map dq := by
  unfold payL; rw [List.map_map]; rfl
theorem sw_szq {L : List VD} {n : Nat} (hn : 1 ≤ n) (hf : FewV n L) (hw : ∀ d ∈ L, Wd d.2.2.2.1 ∧ Wd d.2.2.2.2) : ∀ i, i < (tdOf L).n → Szq n ((tdOf L).q i) := fun i hi => fqd_szq16 hn hf hw (List.getElem?_eq_getElem (l := L) (i := i) hi)
theorem pay_szq {L : List VD} {n : Nat} (hn : 1 ≤ n) (hf : FewV n L) (hw : ∀ d ∈ L, Wd d.2.2.2.1 ∧ Wd d.2.2.2.2) {K : Nat} (hK : 1 ≤ K) (D : Nat) {i : Nat} (hi : i < L.length) : Szq n ((tdOf L).pay K D i) := by
  unfold Td.pay
  split
  · exact szq_zero _ hn
  · exact lmin_szq (fun j => bar_szq hn hK (fun r hr => sw_szq hn hf hw (sk i r) ((sk_bound (i := i) (n := L.length) hi).2 hr))) _ _
theorem SellP.no {days each : Int} {L : List VD} {w w' : World} {e : Ending} (h : SellP days each L w e w') (hr : rightN days each L ≠ 0) : e = .returned (.tuple #[.slice none 0 0, .int .i64 (rightN days each L)]) ∧ Below w.heap.size w w' := by
  obtain ⟨hb, ⟨_, he⟩ | ⟨hz, _⟩⟩ := h
  · exact ⟨he, hb⟩
  · exact absurd hz hr
theorem BarsP.no {days each : Int} {L : List VD} {w w' : World} {e : Ending} (h : BarsP days each L w e w') (hr : rightN days each L ≠ 0) : e = .returned (.tuple #[.slice none 0 0, .int .i64 (rightN days each L)]) ∧ Below w.heap.size w w' := by
  obtain ⟨hb, ⟨_, he⟩ | ⟨hz, _⟩⟩ := h
  · exact ⟨he, hb⟩
  · exact absurd hz hr
theorem BarsQ.no {days each : Int} {L : List VD} {w w' : World} {e : Ending} (h : BarsQ days each L w e w') (hr : rightN days each L ≠ 0) : e = .returned (.tuple #[.slice none 0 0, .int .i64 (rightN days each L)]) ∧ Below w.heap.size w w' := by
  obtain ⟨hb, ⟨_, he⟩ | ⟨hz, _⟩⟩ := h
  · exact ⟨he, hb⟩
  · exact absurd hz hr
theorem PaysP.no {days each : Int} {L : List VD} {w w' : World} {e : Ending} (h : PaysP days each L w e w') (hr : rightN days each L ≠ 0) : e = .returned (.tuple #[.slice none 0 0, .int .i64 (rightN days each L)]) ∧ Below w.heap.size w w' := by
  obtain ⟨hb, ⟨_, he⟩ | ⟨hz, _⟩⟩ := h
  · exact ⟨he, hb⟩
  · exact absurd hz hr
theorem PaysQ.no {days each : Int} {L : List VD} {w w' : World} {e : Ending} (h : PaysQ days each L w e w') (hr : rightN days each L ≠ 0) : e = .returned (.tuple #[.slice none 0 0, .int .i64 (rightN days each L)]) ∧ Below w.heap.size w w' := by
  obtain ⟨hb, ⟨_, he⟩ | ⟨hz, _⟩⟩ := h
  · exact ⟨he, hb⟩
  · exact absurd hz hr
theorem SellP.yes {D K : Nat} {L : List VD} {w w' : World} {e : Ending} (h : SellP (D : Int) (K : Int) L w e w') (hr : rightN (D : Int) (K : Int) L = 0) : ∃ g, e = .returned (.tuple #[.slice (some ⟨g, 0, none⟩) L.length L.length, .int .i64 0]) ∧ Tb w' g 3 L.length L.length (fun j => .int .i64 ((tdOf L).sold K D j)) ∧ Below w.heap.size w w' := by
  obtain ⟨hb, ⟨hz, _⟩ | ⟨_, g, he, _, hT⟩⟩ := h
  · exact absurd hr hz
  · exact ⟨g, he, by simpa using hT, hb⟩
theorem BarsP.yes {D K : Nat} {L : List VD} {w w' : World} {e : Ending} (h : BarsP (D : Int) (K : Int) L w e w') (hr : rightN (D : Int) (K : Int) L = 0) : ∃ v, e = .returned (.tuple #[v, .int .i64 0]) ∧ FL w' v ((barL K D L D).map dq) ∧ Below w.heap.size w w' := by
  obtain ⟨hb, ⟨hz, _⟩ | ⟨_, v, he, hO⟩⟩ := h
  · exact absurd hr hz
  · exact ⟨v, he, by simpa using hO.fl, hb⟩
theorem PaysP.yes {D K : Nat} {L : List VD} {w w' : World} {e : Ending} (h : PaysP (D : Int) (K : Int) L w e w') (hr : rightN (D : Int) (K : Int) L = 0) : ∃ v, e = .returned (.tuple #[v, .int .i64 0]) ∧ FL w' v ((payL K D L L.length).map dq) ∧ Below w.heap.size w w' := by
  obtain ⟨hb, ⟨hz, _⟩ | ⟨_, v, he, hO⟩⟩ := h
  · exact absurd hr hz
  · exact ⟨v, he, by simpa using hO.fl, hb⟩
theorem BarsQ.yes {D K : Nat} {L : List VD} {w w' : World} {e : Ending} (h : BarsQ (D : Int) (K : Int) L w e w') (hr : rightN (D : Int) (K : Int) L = 0) : ∃ g, e = .returned (.tuple #[.slice (some ⟨g, 0, none⟩) D D, .int .i64 0]) ∧ FB w' g D D (fun j => dq ((tdOf L).bar K ((tdOf L).sold K D) ((j : Int) + 1))) ∧ Below w.heap.size w w' := by
  obtain ⟨hb, ⟨hz, _⟩ | ⟨_, g, he, _, hT⟩⟩ := h
  · exact absurd hr hz
  · exact ⟨g, by simpa using he, by simpa using hT, hb⟩
theorem PaysQ.yes {D K : Nat} {L : List VD} {w w' : World} {e : Ending} (h : PaysQ (D : Int) (K : Int) L w e w') (hr : rightN (D : Int) (K : Int) L = 0) : ∃ g, e = .returned (.tuple #[.slice (some ⟨g, 0, none⟩) L.length L.length, .int .i64 0]) ∧ FB w' g L.length L.length (fun j => dq ((tdOf L).pay K D j)) ∧ Below w.heap.size w w' := by
  obtain ⟨hb, ⟨hz, _⟩ | ⟨_, g, he, _, hT⟩⟩ := h
  · exact absurd hr hz
  · exact ⟨g, he, by simpa using hT, hb⟩
theorem barL_len (K D : Nat) (L : List VD) (m : Nat) : ((barL K D L m).map dq).length = m := by simp [barL]
theorem payL_len (K D : Nat) (L : List VD) (m : Nat) : ((payL K D L m).map dq).length = m := by simp [payL]
section
variable {P : Program} {ops : Array Oper} {Q : Exit → Act → World → Prop} {md : Region.Mode} {S : World → Prop}
theorem wpAnyH_takeD (i : Nat) (dst : Option Tmp) {oi : Oper} {v : Value} {fuel : Nat} {listed : Array Bool} {a : Act} {w : World} (hi : ops[i]? = some oi) (hd : oi.dst = dst)
    (hs : Region.noSelect ops = true) (hf : Region.free md ops listed i = true) (hr : (Region.ready md ops listed).contains i = true)
    (hQ : ∀ c a w, Q (.panic c) (a.put dst v) w → Q (.panic c) a w) (hy : YieldsIf P ops S oi v a) (hS : S w)
    (h : wpAnyH P md ops Q S fuel (listed.setIfInBounds i true) (a.put dst v) w) : wpAnyH P md ops Q S (fuel + 1) listed a w := by
  subst hd
  exact wpAnyH_take hi hs hf hr hQ hy hS h
end
theorem iteP {b : Bool} {A B : Prop} (h : b = true) (a : A) : if b = true then A else B := by rw [if_pos h]; exact a
theorem iteN {b : Bool} {A B : Prop} (h : b = false) (x : B) : if b = true then A else B := by rw [if_neg (by rw [h]; exact Bool.false_ne_true)]; exact x
/-- What the law's loop holds on to. -/
def SelH (w : World) (v1 v2 : Value) (p q : Rat) (w' : World) : Prop := Below w.heap.size w w' ∧ FrQ w' v1 p ∧ FrQ w' v2 q
theorem SelH.next {w w1 w2 : World} {v1 v2 : Value} {p q : Rat} (hb : Below w1.heap.size w1 w2) (h : SelH w v1 v2 p q w1) : SelH w v1 v2 p q w2 := ⟨bl_trans h.1 hb, FrQ.below h.2.1 hb, FrQ.below h.2.2 hb⟩
theorem SelH.a {w w1 : World} {v1 v2 : Value} {p q : Rat} (h : SelH w v1 v2 p q w1) : FrQ w1 v1 p := h.2.1
theorem SelH.b {w w1 : World} {v1 v2 : Value} {p q : Rat} (h : SelH w v1 v2 p q w1) : FrQ w1 v2 q := h.2.2
theorem selh_next {w w1 w2 : World} {v1 v2 : Value} {p q : Rat} {a0 a1 a2 a3 a4 a5 a6 : Addr} {x0 x1 x2 x3 x4 x5 x6 : Value} (hb : Below w1.heap.size w1 w2)
    (h : SelH w v1 v2 p q w1 ∧ w1.cell? a0 = some x0 ∧ (w1.cell? a1 = some x1 ∧ w1.cell? a2 = some x2 ∧ w1.cell? a3 = some x3) ∧ (w1.cell? a4 = some x4 ∧ w1.cell? a5 = some x5 ∧ w1.cell? a6 = some x6)) :
    SelH w v1 v2 p q w2 ∧ w2.cell? a0 = some x0 ∧ (w2.cell? a1 = some x1 ∧ w2.cell? a2 = some x2 ∧ w2.cell? a3 = some x3) ∧ (w2.cell? a4 = some x4 ∧ w2.cell? a5 = some x5 ∧ w2.cell? a6 = some x6) := by
  obtain ⟨h0, e0, ⟨e1, e2, e3⟩, ⟨e4, e5, e6⟩⟩ := h
  exact ⟨h0.next hb, cell_below hb e0, ⟨cell_below hb e1, cell_below hb e2, cell_below hb e3⟩, ⟨cell_below hb e4, cell_below hb e5, cell_below hb e6⟩⟩
set_option maxRecDepth 100000 in
set_option maxHeartbeats 16000000 in
theorem law_sells (w : World) (days each : Int) (va : Value) (L : List VD) (h : VL w va L) (hf : FewV 4611686018427387903 L) :
    Calls Try.prog 3 #[.agg #[.int .i64 days, .int .i64 each, va]] w fun e w' => e = .returned (.bool true) ∧ Below w.heap.size w w' := by
  obtain ⟨A, c, rfl⟩ := h.shape
  have HV := Lib.hid h
  have hcc := h.bounds
  have al := below_alloc0 w (.cells #[.int .i64 days, .int .i64 each, .slice A L.length c] 24)
  have KB := Blk.new w 24 #[.int .i64 days, .int .i64 each, .slice A L.length c]
  have k0 := KB.cell 0
  have k1 := KB.cell 1
  have k2 := KB.cell 2
  have HAL := Lib.hid al
  have HK := Lib.hid KB
  have HFF := Lib.hid hf
  have HWD := Lib.hid h.wd
  clear h al KB hf
  go_enter Try.func3, Try.ntmps3
  go_wp2_with fail
  refine (beyond_calls _ days each A c L (HV.out.below HAL.out) HFF.out).mono ?_
  rintro e w1 ⟨b, rfl, hbey, hb1⟩
  have HB1 := Lib.hid (bl_trans HAL.out hb1)
  have HK1 := Lib.hid (HK.out.below hb1)
  cases b
  case true =>
    clear hb1 hbey
    go_wp2
    go_ret
    exact ⟨rfl, HB1.out⟩
  obtain ⟨hL20, hF⟩ := hbey rfl
  have HF := Lib.hid hF
  clear hb1 hbey hF k0 k1 k2
  obtain ⟨r, hr⟩ : ∃ r, r = rightN days each L := ⟨_, rfl⟩
  have HR := Lib.hid hr
  clear hr
  have k0 := HK1.out.cell 0
  have k1 := HK1.out.cell 1
  have k2 := HK1.out.cell 2
  go_wp2_with fail
  refine (rtright_calls _ days each A c L (HV.out.below HB1.out)).mono ?_
  rintro e w2 ⟨rfl, hb2⟩
  rw [← HR.out]
  have HB2 := Lib.hid (bl_trans HB1.out hb2)
  have HK2 := Lib.hid (HK1.out.below hb2)
  clear hb2 k0 k1 k2
  have k0 := HK2.out.cell 0
  have k1 := HK2.out.cell 1
  have k2 := HK2.out.cell 2
  go_wp2_with fail
  by_cases hr0 : r = 0
  · obtain ⟨z1, z2, z3⟩ := rightN_zero (HR.out.symm.trans hr0)
    obtain ⟨D, hD⟩ : ∃ D : Nat, days = (D : Int) := ⟨days.toNat, by omega⟩
    obtain ⟨K, hKe⟩ : ∃ K : Nat, each = (K : Int) := ⟨each.toNat, by omega⟩
    subst hD
    subst hKe
    have hD12 : D ≤ 12 := by omega
    have hK4 : K ≤ 4 := by omega
    have hK1 : 1 ≤ K := by omega
    have hL12 : L.length ≤ 12 := by omega
    have HR0 := Lib.hid (HR.out.symm.trans hr0)
    have HZ3 := Lib.hid z3
    subst hr0
    clear z1 z2 z3
    refine (rsell_calls _ _ _ A c L (HV.out.below HB2.out) (HF.out.mono (by omega))).mono ?_
    intro e w3 hpo
    obtain ⟨g3, rfl, hT3, hb3⟩ := hpo.yes HR0.out
    clear k0 k1 k2
    have HT3 := Lib.hid hT3
    have HB3 := Lib.hid (bl_trans HB2.out hb3)
    have HK3 := Lib.hid (HK2.out.below hb3)
    have k0 := HK3.out.cell 0
    have k1 := HK3.out.cell 1
    have k2 := HK3.out.cell 2
    clear hT3 hb3
    go_wp2_with fail
    refine (rbars2_calls _ _ _ A c L (HV.out.below HB3.out) (HF.out.mono (by omega))).mono ?_
    intro e w4 hpo
    obtain ⟨v4, rfl, hF4, hb4⟩ := hpo.yes HR0.out
    clear k0 k1 k2
    obtain ⟨A4, c4, rfl⟩ := hF4.shape
    rw [barL_len] at hF4 ⊢
    have HF4 := Lib.hid hF4
    have HT4 := Lib.hid (HT3.out.fr (Fr.of_below (S := fun _ => False) hb4) (fun h => h))
    have HB4 := Lib.hid (bl_trans HB3.out hb4)
    have HK4 := Lib.hid (HK3.out.below hb4)
    have k0 := HK4.out.cell 0
    have k1 := HK4.out.cell 1
    have k2 := HK4.out.cell 2
    clear hF4 hb4 HT3
    go_wp2_with fail
    refine (rpays_calls _ _ _ A c L (HV.out.below HB4.out) (HF.out.mono (by omega))).mono ?_
    intro e w5 hpo
    obtain ⟨v5, rfl, hF5, hb5⟩ := hpo.yes HR0.out
    clear k0 k1 k2
    obtain ⟨A5, c5, rfl⟩ := hF5.shape
    rw [payL_len] at hF5 ⊢
    have HP5 := Lib.hid hF5
    have HF5 := Lib.hid (HF4.out.below hb5)
    have HT5 := Lib.hid (HT4.out.fr (Fr.of_below (S := fun _ => False) hb5) (fun h => h))
    have HB5 := Lib.hid (bl_trans HB4.out hb5)
    have HK5 := Lib.hid (HK4.out.below hb5)
    have k0 := HK5.out.cell 0
    have k1 := HK5.out.cell 1
    have k2 := HK5.out.cell 2
    clear hF5 hb5 HT4 HF4
    go_wp2_with fail
    refine (sell_calls _ _ _ A c L (HV.out.below HB5.out) (HF.out.mono (by omega))).mono ?_
    intro e w6 hpo
    obtain ⟨g6, rfl, hT6, hb6⟩ := hpo.yes HR0.out
    clear k0 k1 k2
    have HS6 := Lib.hid hT6
    have HP6 := Lib.hid (HP5.out.below hb6)
    have HF6 := Lib.hid (HF5.out.below hb6)
    have HT6 := Lib.hid (HT5.out.fr (Fr.of_below (S := fun _ => False) hb6) (fun h => h))
    have HB6 := Lib.hid (bl_trans HB5.out hb6)
    have HK6 := Lib.hid (HK5.out.below hb6)
    have k0 := HK6.out.cell 0
    have k1 := HK6.out.cell 1
    have k2 := HK6.out.cell 2
    clear hT6 hb6 HT5 HF5 HP5
    go_wp2_with fail
    refine (bars_calls _ _ _ A c L (HV.out.below HB6.out) (HF.out.mono (by omega))).mono ?_
    intro e w7 hpo
    obtain ⟨g7, rfl, hB7, hb7⟩ := hpo.yes HR0.out
    clear k0 k1 k2
    have HG7 := Lib.hid hB7
    have HS7 := Lib.hid (HS6.out.fr (Fr.of_below (S := fun _ => False) hb7) (fun h => h))
    have HP7 := Lib.hid (HP6.out.below hb7)
    have HF7 := Lib.hid (HF6.out.below hb7)
    have HT7 := Lib.hid (HT6.out.fr (Fr.of_below (S := fun _ => False) hb7) (fun h => h))
    have HB7 := Lib.hid (bl_trans HB6.out hb7)
    have HK7 := Lib.hid (HK6.out.below hb7)
    have k0 := HK7.out.cell 0
    have k1 := HK7.out.cell 1
    have k2 := HK7.out.cell 2
    clear hB7 hb7 HT6 HF6 HP6 HS6
    go_wp2_with fail
    refine (pays_calls _ _ _ A c L (HV.out.below HB7.out) (HF.out.mono (by omega))).mono ?_
    intro e w8 hpo
    obtain ⟨g8, rfl, hB8, hb8⟩ := hpo.yes HR0.out
    clear k0 k1 k2
    have HQ8 := Lib.hid hB8
    have HG8 := Lib.hid (HG7.out.below hb8)
    have HS8 := Lib.hid (HS7.out.fr (Fr.of_below (S := fun _ => False) hb8) (fun h => h))
    have HP8 := Lib.hid (HP7.out.below hb8)
    have HF8 := Lib.hid (HF7.out.below hb8)
    have HT8 := Lib.hid (HT7.out.fr (Fr.of_below (S := fun _ => False) hb8) (fun h => h))
    have HB8 := Lib.hid (bl_trans HB7.out hb8)
    have HK8 := Lib.hid (HK7.out.below hb8)
    have k0 := HK8.out.cell 0
    have k1 := HK8.out.cell 1
    have k2 := HK8.out.cell 2
    clear hB8 hb8 HT7 HF7 HP7 HS7 HG7
    go_wp2_with fail
    refine (tright_calls _ _ _ A c L (HV.out.below HB8.out)).mono ?_
    rintro e w9 ⟨rfl, hb9⟩
    rw [HR0.out]
    have HB9 := Lib.hid (bl_trans HB8.out hb9)
    have HK9 := Lib.hid (HK8.out.below hb9)
    have HQ9 := Lib.hid (HQ8.out.below hb9)
    have HG9 := Lib.hid (HG8.out.below hb9)
    have HS9 := Lib.hid (HS8.out.fr (Fr.of_below (S := fun _ => False) hb9) (fun h => h))
    have HP9 := Lib.hid (HP8.out.below hb9)
    have HF9 := Lib.hid (HF8.out.below hb9)
    have HT9 := Lib.hid (HT8.out.fr (Fr.of_below (S := fun _ => False) hb9) (fun h => h))
    clear hb9 HT8 HF8 HP8 HS8 HG8 HQ8 k0 k1 k2
    go_wp2_with fail
    refine (sameints_calls _ g6 g3 L.length (fun j => (tdOf L).sold K D j) HS9.out HT9.out (by omega)).mono ?_
    rintro e w10 ⟨rfl, hb10⟩
    have HB10 := Lib.hid (bl_trans HB9.out hb10)
    have HK10 := Lib.hid (HK9.out.below hb10)
    have HQ10 := Lib.hid (HQ9.out.below hb10)
    have HG10 := Lib.hid (HG9.out.below hb10)
    have HS10 := Lib.hid (HS9.out.fr (Fr.of_below (S := fun _ => False) hb10) (fun h => h))
    have HP10 := Lib.hid (HP9.out.below hb10)
    have HF10 := Lib.hid (HF9.out.below hb10)
    clear hb10 HT9 HF9 HP9 HS9 HG9 HQ9
    go_wp2_with fail
    have hbf : FewD 2000 ((barL K D L D).map dq) := dq_few (fun q hq => by
      obtain ⟨j, _, rfl⟩ := List.mem_map.1 hq
      exact bar_szq (by omega) hK1 (sw_szq (by omega) (HF.out.mono (by omega)) HWD.out))
    have hpf : FewD 2000 ((payL K D L L.length).map dq) := dq_few (fun q hq => by
      obtain ⟨j, hj, rfl⟩ := List.mem_map.1 hq
      exact pay_szq (by omega) (HF.out.mono (by omega)) HWD.out hK1 D (List.mem_range.1 hj))
    have hg10 := HG10.out.fl
    rw [bars_list] at hg10
    have hq10 := HQ10.out.fl
    rw [pays_list] at hq10
    have HPF := Lib.hid hpf
    have HQL := Lib.hid hq10
    refine (samenums_calls _ _ _ _ _ hg10 HF10.out hbf hbf rfl rfl).mono ?_
    rintro e w11 ⟨rfl, hb11⟩
    have HB11 := Lib.hid (bl_trans HB10.out hb11)
    have HK11 := Lib.hid (HK10.out.below hb11)
    have HQ11 := Lib.hid (HQ10.out.below hb11)
    have HQL11 := Lib.hid (HQL.out.below hb11)
    have HG11 := Lib.hid (HG10.out.below hb11)
    have HS11 := Lib.hid (HS10.out.fr (Fr.of_below (S := fun _ => False) hb11) (fun h => h))
    have HP11 := Lib.hid (HP10.out.below hb11)
    clear hb11 HF10 HP10 HS10 HG10 HQ10 hg10 hq10 hbf hpf HQL
    go_wp2_with fail
    refine (samenums_calls _ _ _ _ _ HQL11.out HP11.out HPF.out HPF.out rfl rfl).mono ?_
    rintro e w12 ⟨rfl, hb12⟩
    have HB12 := Lib.hid (bl_trans HB11.out hb12)
    have HK12 := Lib.hid (HK11.out.below hb12)
    have HQ12 := Lib.hid (HQ11.out.below hb12)
    have HG12 := Lib.hid (HG11.out.below hb12)
    have HS12 := Lib.hid (HS11.out.fr (Fr.of_below (S := fun _ => False) hb12) (fun h => h))
    clear hb12 HP11 HS11 HG11 HQ11 HQL11 HPF
    go_wp2
    go_loopw [16] (fun iv wr => ∃ m : Nat, m ≤ L.length ∧ iv = .int .i64 (m : Int) ∧ Below w12.heap.size w12 wr) (fun iv _ => L.length - (intOf iv).toNat)
    case atStart => exact ⟨0, by omega, rfl, Below.refl _ _⟩
    case round =>
      obtain ⟨m, hm, rfl, hb⟩ := hrel
      have HB := Lib.hid hb
      have HBw := Lib.hid (bl_trans HB12.out hb)
      by_cases hx : m < L.length
      · obtain ⟨x, hx1⟩ : ∃ x, L[m]? = some x := ⟨_, List.getElem?_eq_getElem hx⟩
        have q1 : (m : Int) < (L.length : Int) := by omega
        have hgd := bad_no (HZ3.out m x hx1)
        obtain ⟨a, ha⟩ : ∃ a : Nat, x.1 = (a : Int) + 1 := ⟨x.1.toNat - 1, by omega⟩
        obtain ⟨b, hbE⟩ : ∃ b : Nat, x.2.1 = (b : Int) := ⟨x.2.1.toNat, by omega⟩
        obtain ⟨ad, A1, a1, A2, a2, rfl, e0, e1, e2, e3, e4, hfx⟩ := (HV.out.below HBw.out).at hx1
        have tc := (tdOf_at hx1).1
        have tg := (tdOf_at hx1).2.1
        have tq := (tdOf_at hx1).2.2
        rw [ha] at e0 tc
        rw [hbE] at e1 tg
        rw [ha, hbE] at hgd
        have few := HF.out x (List.mem_of_getElem? hx1)
        have kb := HK12.out.below hb
        have b2 := kb.cell 2
        have al := below_alloc0 wr (.cells #[.int .i64 ((a : Int) + 1), .int .i64 (b : Int), .bool x.2.2.1, .slice A1 x.2.2.2.1.length a1, .slice A2 x.2.2.2.2.length a2] 40)
        have KV := Blk.new wr 40 #[.int .i64 ((a : Int) + 1), .int .i64 (b : Int), .bool x.2.2.1, .slice A1 x.2.2.2.1.length a1, .slice A2 x.2.2.2.2.length a2]
        obtain ⟨wv, hwv⟩ : ∃ W, W = wr.alloc (.cells #[.int .i64 ((a : Int) + 1), .int .i64 (b : Int), .bool x.2.2.1, .slice A1 x.2.2.2.1.length a1, .slice A2 x.2.2.2.2.length a2] 40) := ⟨_, rfl⟩
        obtain ⟨gv, hgv⟩ : ∃ g, g = wr.heap.size := ⟨_, rfl⟩
        have HWV := Lib.hid hwv
        have HGV := Lib.hid hgv
        rw [← hwv] at al KV
        rw [← hgv] at KV
        have hbv := bl_trans hb al
        have HBV := Lib.hid hbv
        have hs0 := ((HS12.out.fr (Fr.of_below (S := fun _ => False) hbv) (fun h => h))).cell hx
        obtain ⟨sm, hsm⟩ : ∃ s, s = (tdOf L).sold K D m := ⟨_, rfl⟩
        rw [← hsm] at hs0
        obtain ⟨p, hp⟩ : ∃ p, p = (tdOf L).pay K D m := ⟨_, rfl⟩
        obtain ⟨qx, hqx⟩ : ∃ q, q = fqd x.2.2 := ⟨_, rfl⟩
        rw [← hqx] at tq
        have hql := (HQ12.out.below hbv).fl
        rw [pays_list] at hql
        obtain ⟨ad', cc, C1, c1, C2, c2, hvl, _, _, m0, m1, m2, hfp⟩ := hql.atq (k := m) (q := p) (by rw [hp]; unfold payL; rw [List.getElem?_map, List.getElem?_range hx]; rfl)
        obtain rfl : ⟨g8, 0, none⟩ = ad' := by simpa using (by simpa using hvl : (some (⟨g8, 0, none⟩ : Addr) = some ad') ∧ _).1
        rw [add_row] at m0 m1 m2
        have hpsh : Short p := by rw [hp]; exact (pay_szq (n := 2000) (by omega) (HF.out.mono (by omega)) HWD.out hK1 D hx).short (by omega)
        have hqp : FrQ wv (.agg #[.bool (decide (p.num < 0)), .slice C1 (dg p.num.natAbs).length c1, .slice C2 (dg p.den).length c2]) p := FrV.q hfp hpsh
        have hqw : FrQ wv (.agg #[.bool x.2.2.1, .slice A1 x.2.2.2.1.length a1, .slice A2 x.2.2.2.2.length a2]) qx := ⟨_, _, _, hfx.below al, by omega, hqx.symm⟩
        have hs : (fun w' => SelH wv (.agg #[.bool (decide (p.num < 0)), .slice C1 (dg p.num.natAbs).length c1, .slice C2 (dg p.den).length c2]) (.agg #[.bool x.2.2.1, .slice A1 x.2.2.2.1.length a1, .slice A2 x.2.2.2.2.length a2]) p qx w' ∧ w'.cell? ⟨g6, m, none⟩ = some (.int .i64 sm) ∧ (w'.cell? ⟨g8, m * 3, none⟩ = some (.bool (decide (p.num < 0))) ∧ w'.cell? ⟨g8, m * 3 + 1, none⟩ = some (.slice C1 (dg p.num.natAbs).length c1) ∧ w'.cell? ⟨g8, m * 3 + 2, none⟩ = some (.slice C2 (dg p.den).length c2)) ∧ (w'.cell? ⟨gv, 2, none⟩ = some (.bool x.2.2.1) ∧ w'.cell? ⟨gv, 3, none⟩ = some (.slice A1 x.2.2.2.1.length a1) ∧ w'.cell? ⟨gv, 4, none⟩ = some (.slice A2 x.2.2.2.2.length a2))) wv.drew := selh_next (bl_drew wv) ⟨(⟨Below.refl _ _, hqp, hqw⟩ : SelH wv _ _ p qx wv), hs0, ⟨m0, m1, m2⟩, ⟨KV.cell 2, KV.cell 3, KV.cell 4⟩⟩
        have HS := Lib.hid hs
        have hm3 : m < (tdOf L).n := hx
        have t1 : 1 ≤ (tdOf L).come m := by rw [tc]; omega
        have t2 : (tdOf L).come m ≤ (tdOf L).go m := by rw [tc, tg]; omega
        have hpos : 0 ≤ p := by rw [hp]; exact Td.pay_nonneg hK1 t1 t2
        have hple : sm ≠ 0 → p ≤ qx := fun h => by rw [hp, ← tq]; exact Td.pay_le hK1 hm3 t1 t2 (by rw [← hsm]; exact h)
        have hpz : sm = 0 → p = 0 := fun h => by rw [hp]; exact if_pos (by rw [← hsm]; exact h)
        have hbar : sm = 0 → ∀ k : Nat, a ≤ k → k < b → qx ≤ (tdOf L).bar K ((tdOf L).sold K D) ((k : Int) + 1) := fun h k h1 h2 => by
          rw [← tq]
          have h3 := Td.none_bar (T := tdOf L) (k := K) (E := D) (i := m) (D := k + 1) hK1 hm3 (by rw [← hsm]; exact h) (by omega) (by omega) (by rw [tc]; omega) (by rw [tg]; omega)
          rwa [show ((k + 1 : Nat) : Int) = (k : Int) + 1 by omega] at h3
        obtain ⟨sg, hsg⟩ : ∃ s, s = p.num.sign := ⟨_, rfl⟩
        have HSG := Lib.hid hsg
        have HSM := Lib.hid hsm
        have hsg0 : ¬ sg < 0 := by rw [hsg, sign_rcmp]; unfold rcmp; grind
        obtain ⟨cp, hcp⟩ : ∃ c, c = rcmp p qx := ⟨_, rfl⟩
        have HCP := Lib.hid hcp
        have hab : a < b := by omega
        have hbD : b ≤ D := by omega
        have HPZ := Lib.hid hpz
        have HPL := Lib.hid hple
        have HBAR := Lib.hid hbar
        have HKV := Lib.hid KV
        have HQX := Lib.hid hqw
        have g1 : decide (sg < 0) = false := decide_eq_false hsg0
        clear hb hx1 hgd ha hbE hfx tc tg tq kb al KV hwv hgv hbv hsm hp hqx hql hvl m0 m1 m2 hfp hpsh hqp hqw hs t1 t2 hpos hple hpz hbar hsg hsg0 hcp hs0 few
        go_upto_region 16 with fail
        rw [← HWV.out, ← HGV.out]
        clear e0 e1 e2 e3 e4 b2
        go_cut [138] (fun t138 wx => t138 = .bool false ∧ Below wv.heap.size wv wx)
        case first =>
          have hs := HS.out
          by_cases hz : sm = 0
          · have g4 : ((sg : Int) != 0) = false := by
              rw [HSG.out, HPZ.out hz]; rfl
            subst hz
            go_wp2_with fail
            have hS : (fun (w' : World) => SelH wv (.agg #[.bool (decide (p.num < 0)), .slice C1 (dg p.num.natAbs).length c1, .slice C2 (dg p.den).length c2]) (.agg #[.bool x.2.2.1, .slice A1 x.2.2.2.1.length a1, .slice A2 x.2.2.2.2.length a2]) p qx w' ∧ w'.cell? ⟨g6, m, none⟩ = some (.int .i64 0) ∧ (w'.cell? ⟨g8, m * 3, none⟩ = some (.bool (decide (p.num < 0))) ∧ w'.cell? ⟨g8, m * 3 + 1, none⟩ = some (.slice C1 (dg p.num.natAbs).length c1) ∧ w'.cell? ⟨g8, m * 3 + 2, none⟩ = some (.slice C2 (dg p.den).length c2)) ∧ (w'.cell? ⟨gv, 2, none⟩ = some (.bool x.2.2.1) ∧ w'.cell? ⟨gv, 3, none⟩ = some (.slice A1 x.2.2.2.1.length a1) ∧ w'.cell? ⟨gv, 4, none⟩ = some (.slice A2 x.2.2.2.2.length a2))) _ := hs
            refine wp_region_held_drew (S := fun (w' : World) => SelH wv (.agg #[.bool (decide (p.num < 0)), .slice C1 (dg p.num.natAbs).length c1, .slice C2 (dg p.den).length c2]) (.agg #[.bool x.2.2.1, .slice A1 x.2.2.2.1.length a1, .slice A2 x.2.2.2.2.length a2]) p qx w' ∧ w'.cell? ⟨g6, m, none⟩ = some (.int .i64 0) ∧ (w'.cell? ⟨g8, m * 3, none⟩ = some (.bool (decide (p.num < 0))) ∧ w'.cell? ⟨g8, m * 3 + 1, none⟩ = some (.slice C1 (dg p.num.natAbs).length c1) ∧ w'.cell? ⟨g8, m * 3 + 2, none⟩ = some (.slice C2 (dg p.den).length c2)) ∧ (w'.cell? ⟨gv, 2, none⟩ = some (.bool x.2.2.1) ∧ w'.cell? ⟨gv, 3, none⟩ = some (.slice A1 x.2.2.2.1.length a1) ∧ w'.cell? ⟨gv, 4, none⟩ = some (.slice A2 x.2.2.2.2.length a2))) (by kernel_rfl) hS (fun _ => ?_)
            simp only [List.size_toArray, List.length_cons, List.length_nil, Nat.reduceAdd]
            refine wpAnyH_takeD 0 (some 101) (v := ?vh1_0) rfl rfl (by kernel_rfl) (by kernel_rfl) (by kernel_rfl) (fun _ _ _ h => h) (.inl ⟨by kernel_rfl, ?hyh1_0⟩) hS ?resth1_0
            case hyh1_0 => (intro w hSw; (try dsimp only at hSw); go_simp; (try with_reducible rfl))
            (try simp only [Act.put, List.setIfInBounds_toArray, List.set_cons_zero, List.set_cons_succ])
            refine wpAnyH_takeD 1 (some 102) (v := ?vh1_1) rfl rfl (by kernel_rfl) (by kernel_rfl) (by kernel_rfl) (fun _ _ _ h => h) (.inl ⟨by kernel_rfl, ?hyh1_1⟩) hS ?resth1_1
            case hyh1_1 => (intro w hSw; (try dsimp only at hSw); go_simp; (try with_reducible rfl))
            (try simp only [Act.put, List.setIfInBounds_toArray, List.set_cons_zero, List.set_cons_succ])
            refine wpAnyH_takeD 2 (some 103) (v := ?vh1_2) rfl rfl (by kernel_rfl) (by kernel_rfl) (by kernel_rfl) (fun _ _ _ h => h) (.inl ⟨by kernel_rfl, ?hyh1_2⟩) hS ?resth1_2
            case hyh1_2 => (intro w hSw; (try dsimp only at hSw); go_simp; (try with_reducible rfl))
            (try simp only [Act.put, List.setIfInBounds_toArray, List.set_cons_zero, List.set_cons_succ])
            refine wpAnyH_takeD 3 (some 104) (v := ?vh1_3) rfl rfl (by kernel_rfl) (by kernel_rfl) (by kernel_rfl) (fun _ _ _ h => h) (.inl ⟨by kernel_rfl, ?hyh1_3⟩) hS ?resth1_3
            case hyh1_3 => (intro w hSw; (try dsimp only at hSw); go_simp; (try with_reducible rfl))
            (try simp only [Act.put, List.setIfInBounds_toArray, List.set_cons_zero, List.set_cons_succ])
            refine wpAnyH_ready (rs := [4]) (by kernel_rfl) (by simp) ?_
            refine AllReadyH.cons (o := { dst := some 105, op := Op.call { callee := Callee.value (Operand.func 22), args := #[Operand.tmp 104], argTypes := #[38] }, type := 3, pos := "law.go:72", after := #[{ on := 3, ground := Ground.data }], guard := none }) ?hoh1_4 ?hth1_4 ?hnh1_4
            case hoh1_4 => rfl
            case hnh1_4 => exact AllReadyH.nil
            intro K hK
            refine iteP (by kernel_rfl) ?_
            go_simp
            go_at_call 22
            with_reducible refine (rsignq _ _ p ?_).mono ?_
            exact SelH.a hS.1
            rintro e w8 ⟨rfl, hb8⟩
            rw [← HSG.out]
            have hS8 := selh_next hb8 hS
            refine hK.out _ _ hS8 (fun _ => ?_)
            clear hS K hK
            have hS := hS8
            clear hS8
            (try simp only [Act.put, List.setIfInBounds_toArray, List.set_cons_zero, List.set_cons_succ])
            refine wpAnyH_takeD 5 (some 106) (v := ?vh1_5) rfl rfl (by kernel_rfl) (by kernel_rfl) (by kernel_rfl) (fun _ _ _ h => h) (.inl ⟨by kernel_rfl, ?hyh1_5⟩) hS ?resth1_5
            case hyh1_5 => (intro w hSw; (try dsimp only at hSw); go_simp; (try with_reducible rfl))
            (try simp only [Act.put, List.setIfInBounds_toArray, List.set_cons_zero, List.set_cons_succ])
            refine wpAnyH_takeD 6 (some 107) (v := ?vh1_6) rfl rfl (by kernel_rfl) (by kernel_rfl) (by kernel_rfl) (fun _ _ _ h => h) (.inl ⟨by kernel_rfl, ?hyh1_6⟩) hS ?resth1_6
            case hyh1_6 => (intro w hSw; (try dsimp only at hSw); go_simp; (try with_reducible rfl))
            (try simp only [Act.put, List.setIfInBounds_toArray, List.set_cons_zero, List.set_cons_succ])
            refine wpAnyH_takeD 7 (some 108) (v := ?vh1_7) rfl rfl (by kernel_rfl) (by kernel_rfl) (by kernel_rfl) (fun _ _ _ h => h) (.inl ⟨by kernel_rfl, ?hyh1_7⟩) hS ?resth1_7
            case hyh1_7 => (intro w hSw; (try dsimp only at hSw); go_simp; (try with_reducible rfl))
            (try simp only [Act.put, List.setIfInBounds_toArray, List.set_cons_zero, List.set_cons_succ])
            refine wpAnyH_takeD 8 (some 109) (v := ?vh1_8) rfl rfl (by kernel_rfl) (by kernel_rfl) (by kernel_rfl) (fun _ _ _ h => h) (.inl ⟨by kernel_rfl, ?hyh1_8⟩) hS ?resth1_8
            case hyh1_8 => (intro w hSw; (try dsimp only at hSw); go_simp; (try with_reducible rfl))
            (try simp only [Act.put, List.setIfInBounds_toArray, List.set_cons_zero, List.set_cons_succ])
            refine wpAnyH_takeD 9 (some 110) (v := ?vh1_9) rfl rfl (by kernel_rfl) (by kernel_rfl) (by kernel_rfl) (fun _ _ _ h => h) (.inl ⟨by kernel_rfl, ?hyh1_9⟩) hS ?resth1_9
            case hyh1_9 => (intro w hSw; (try dsimp only at hSw); go_simp; (try with_reducible rfl))
            (try simp only [Act.put, List.setIfInBounds_toArray, List.set_cons_zero, List.set_cons_succ])
            refine wpAnyH_takeD 10 (some 111) (v := ?vh1_10) rfl rfl (by kernel_rfl) (by kernel_rfl) (by kernel_rfl) (fun _ _ _ h => h) (.inl ⟨by kernel_rfl, ?hyh1_10⟩) hS ?resth1_10
            case hyh1_10 => (intro w hSw; (try dsimp only at hSw); go_simp; (try with_reducible rfl))
            (try simp only [Act.put, List.setIfInBounds_toArray, List.set_cons_zero, List.set_cons_succ])
            refine wpAnyH_takeD 11 (some 112) (v := ?vh1_11) rfl rfl (by kernel_rfl) (by kernel_rfl) (by kernel_rfl) (fun _ _ _ h => h) (.inl ⟨by kernel_rfl, ?hyh1_11⟩) hS ?resth1_11
            case hyh1_11 => (intro w hSw; (try dsimp only at hSw); go_simp; (try with_reducible rfl))
            (try simp only [Act.put, List.setIfInBounds_toArray, List.set_cons_zero, List.set_cons_succ])
            refine wpAnyH_takeD 12 (some 113) (v := ?vh1_12) rfl rfl (by kernel_rfl) (by kernel_rfl) (by kernel_rfl) (fun _ _ _ h => h) (.inl ⟨by kernel_rfl, ?hyh1_12⟩) hS ?resth1_12
            case hyh1_12 => (intro w hSw; (try dsimp only at hSw); go_simp; (try with_reducible rfl))
            (try simp only [Act.put, List.setIfInBounds_toArray, List.set_cons_zero, List.set_cons_succ])
            refine wpAnyH_takeD 13 (some 114) (v := ?vh1_13) rfl rfl (by kernel_rfl) (by kernel_rfl) (by kernel_rfl) (fun _ _ _ h => h) (.inl ⟨by kernel_rfl, ?hyh1_13⟩) hS ?resth1_13
            case hyh1_13 => (intro w hSw; (try dsimp only at hSw); go_simp; (try with_reducible rfl))
            (try simp only [Act.put, List.setIfInBounds_toArray, List.set_cons_zero, List.set_cons_succ])
            refine wpAnyH_takeD 14 (some 115) (v := ?vh1_14) rfl rfl (by kernel_rfl) (by kernel_rfl) (by kernel_rfl) (fun _ _ _ h => h) (.inl ⟨by kernel_rfl, ?hyh1_14⟩) hS ?resth1_14
            case hyh1_14 => (intro w hSw; (try dsimp only at hSw); go_simp; (try with_reducible rfl))
            (try simp only [Act.put, List.setIfInBounds_toArray, List.set_cons_zero, List.set_cons_succ])
            refine wpAnyH_takeD 15 (some 116) (v := ?vh1_15) rfl rfl (by kernel_rfl) (by kernel_rfl) (by kernel_rfl) (fun _ _ _ h => h) (.inl ⟨by kernel_rfl, ?hyh1_15⟩) hS ?resth1_15
            case hyh1_15 => (intro w hSw; (try dsimp only at hSw); go_simp; (try with_reducible rfl))
            (try simp only [Act.put, List.setIfInBounds_toArray, List.set_cons_zero, List.set_cons_succ])
            refine wpAnyH_takeD 16 (some 117) (v := ?vh1_16) rfl rfl (by kernel_rfl) (by kernel_rfl) (by kernel_rfl) (fun _ _ _ h => h) (.inl ⟨by kernel_rfl, ?hyh1_16⟩) hS ?resth1_16
            case hyh1_16 => (intro w hSw; (try dsimp only at hSw); go_simp; (try with_reducible rfl))
            (try simp only [Act.put, List.setIfInBounds_toArray, List.set_cons_zero, List.set_cons_succ])
            refine wpAnyH_ready (rs := [17]) (by kernel_rfl) (by simp) ?_
            refine AllReadyH.cons (o := { dst := some 118, op := Op.call { callee := Callee.value (Operand.func 22), args := #[Operand.tmp 117], argTypes := #[38] }, type := 3, pos := "law.go:72", after := #[{ on := 16, ground := Ground.data }, { on := 12, ground := Ground.chain }, { on := 12, ground := Ground.guard }], guard := some (12, true) }) ?hoh1_17 ?hth1_17 ?hnh1_17
            case hoh1_17 => rfl
            case hnh1_17 => exact AllReadyH.nil
            intro K hK
            refine iteP (by kernel_rfl) ?_
            go_simp
            go_at_call 22
            with_reducible refine (rsignq _ _ p ?_).mono ?_
            exact SelH.a hS.1
            rintro e w8 ⟨rfl, hb8⟩
            rw [← HSG.out]
            have hS8 := selh_next hb8 hS
            refine hK.out _ _ hS8 (fun _ => ?_)
            clear hS K hK
            have hS := hS8
            clear hS8
            (try simp only [Act.put, List.setIfInBounds_toArray, List.set_cons_zero, List.set_cons_succ])
            refine wpAnyH_takeD 18 (some 119) (v := ?vh1_18) rfl rfl (by kernel_rfl) (by kernel_rfl) (by kernel_rfl) (fun _ _ _ h => h) (.inl ⟨by kernel_rfl, ?hyh1_18⟩) hS ?resth1_18
            case hyh1_18 => (intro w hSw; (try dsimp only at hSw); go_simp; (try with_reducible rfl))
            (try simp only [Act.put, List.setIfInBounds_toArray, List.set_cons_zero, List.set_cons_succ])
            refine wpAnyH_takeD 19 (some 120) (v := ?vh1_19) rfl rfl (by kernel_rfl) (by kernel_rfl) (by kernel_rfl) (fun _ _ _ h => h) (.inl ⟨by kernel_rfl, ?hyh1_19⟩) hS ?resth1_19
            case hyh1_19 => (intro w hSw; (try dsimp only at hSw); go_simp; (try with_reducible rfl))
            (try simp only [Act.put, List.setIfInBounds_toArray, List.set_cons_zero, List.set_cons_succ])
            refine wpAnyH_takeD 20 (some 121) (v := ?vh1_20) rfl rfl (by kernel_rfl) (by kernel_rfl) (by kernel_rfl) (fun _ _ _ h => h) (.inl ⟨by kernel_rfl, ?hyh1_20⟩) hS ?resth1_20
            case hyh1_20 => (intro w hSw; (try dsimp only at hSw); go_simp; (try with_reducible rfl))
            (try simp only [Act.put, List.setIfInBounds_toArray, List.set_cons_zero, List.set_cons_succ])
            refine wpAnyH_takeD 21 (some 122) (v := ?vh1_21) rfl rfl (by kernel_rfl) (by kernel_rfl) (by kernel_rfl) (fun _ _ _ h => h) (.inl ⟨by kernel_rfl, ?hyh1_21⟩) hS ?resth1_21
            case hyh1_21 => (intro w hSw; (try dsimp only at hSw); go_simp; (try with_reducible rfl))
            (try simp only [Act.put, List.setIfInBounds_toArray, List.set_cons_zero, List.set_cons_succ])
            refine wpAnyH_takeD 22 (some 123) (v := ?vh1_22) rfl rfl (by kernel_rfl) (by kernel_rfl) (by kernel_rfl) (fun _ _ _ h => h) (.inl ⟨by kernel_rfl, ?hyh1_22⟩) hS ?resth1_22
            case hyh1_22 => (intro w hSw; (try dsimp only at hSw); go_simp; (try with_reducible rfl))
            (try simp only [Act.put, List.setIfInBounds_toArray, List.set_cons_zero, List.set_cons_succ])
            refine wpAnyH_takeD 23 (some 124) (v := ?vh1_23) rfl rfl (by kernel_rfl) (by kernel_rfl) (by kernel_rfl) (fun _ _ _ h => h) (.inl ⟨by kernel_rfl, ?hyh1_23⟩) hS ?resth1_23
            case hyh1_23 => (intro w hSw; (try dsimp only at hSw); go_simp; (try with_reducible rfl))
            (try simp only [Act.put, List.setIfInBounds_toArray, List.set_cons_zero, List.set_cons_succ])
            refine wpAnyH_takeD 24 (some 125) (v := ?vh1_24) rfl rfl (by kernel_rfl) (by kernel_rfl) (by kernel_rfl) (fun _ _ _ h => h) (.inl ⟨by kernel_rfl, ?hyh1_24⟩) hS ?resth1_24
            case hyh1_24 => (intro w hSw; (try dsimp only at hSw); go_simp; (try with_reducible rfl))
            (try simp only [Act.put, List.setIfInBounds_toArray, List.set_cons_zero, List.set_cons_succ])
            refine wpAnyH_takeD 25 (some 126) (v := ?vh1_25) rfl rfl (by kernel_rfl) (by kernel_rfl) (by kernel_rfl) (fun _ _ _ h => h) (.inl ⟨by kernel_rfl, ?hyh1_25⟩) hS ?resth1_25
            case hyh1_25 => (intro w hSw; (try dsimp only at hSw); go_simp; (try with_reducible rfl))
            (try simp only [Act.put, List.setIfInBounds_toArray, List.set_cons_zero, List.set_cons_succ])
            refine wpAnyH_takeD 26 (some 127) (v := ?vh1_26) rfl rfl (by kernel_rfl) (by kernel_rfl) (by kernel_rfl) (fun _ _ _ h => h) (.inl ⟨by kernel_rfl, ?hyh1_26⟩) hS ?resth1_26
            case hyh1_26 => (intro w hSw; (try dsimp only at hSw); go_simp; (try with_reducible rfl))
            (try simp only [Act.put, List.setIfInBounds_toArray, List.set_cons_zero, List.set_cons_succ])
            refine wpAnyH_takeD 27 (some 128) (v := ?vh1_27) rfl rfl (by kernel_rfl) (by kernel_rfl) (by kernel_rfl) (fun _ _ _ h => h) (.inl ⟨by kernel_rfl, ?hyh1_27⟩) hS ?resth1_27
            case hyh1_27 => (intro w hSw; (try dsimp only at hSw); go_simp; (try with_reducible rfl))
            (try simp only [Act.put, List.setIfInBounds_toArray, List.set_cons_zero, List.set_cons_succ])
            refine wpAnyH_takeD 28 (some 129) (v := undef) rfl rfl (by kernel_rfl) (by kernel_rfl) (by kernel_rfl) (fun _ _ _ h => h) (.inr ⟨by kernel_rfl, rfl⟩) hS ?_
            (try simp only [Act.put, List.setIfInBounds_toArray, List.set_cons_zero, List.set_cons_succ])
            refine wpAnyH_takeD 29 (some 130) (v := undef) rfl rfl (by kernel_rfl) (by kernel_rfl) (by kernel_rfl) (fun _ _ _ h => h) (.inr ⟨by kernel_rfl, rfl⟩) hS ?_
            (try simp only [Act.put, List.setIfInBounds_toArray, List.set_cons_zero, List.set_cons_succ])
            refine wpAnyH_takeD 30 (some 131) (v := undef) rfl rfl (by kernel_rfl) (by kernel_rfl) (by kernel_rfl) (fun _ _ _ h => h) (.inr ⟨by kernel_rfl, rfl⟩) hS ?_
            (try simp only [Act.put, List.setIfInBounds_toArray, List.set_cons_zero, List.set_cons_succ])
            refine wpAnyH_takeD 31 (some 132) (v := undef) rfl rfl (by kernel_rfl) (by kernel_rfl) (by kernel_rfl) (fun _ _ _ h => h) (.inr ⟨by kernel_rfl, rfl⟩) hS ?_
            (try simp only [Act.put, List.setIfInBounds_toArray, List.set_cons_zero, List.set_cons_succ])
            refine wpAnyH_takeD 32 (some 133) (v := undef) rfl rfl (by kernel_rfl) (by kernel_rfl) (by kernel_rfl) (fun _ _ _ h => h) (.inr ⟨by kernel_rfl, rfl⟩) hS ?_
            (try simp only [Act.put, List.setIfInBounds_toArray, List.set_cons_zero, List.set_cons_succ])
            refine wpAnyH_takeD 33 (some 134) (v := undef) rfl rfl (by kernel_rfl) (by kernel_rfl) (by kernel_rfl) (fun _ _ _ h => h) (.inr ⟨by kernel_rfl, rfl⟩) hS ?_
            (try simp only [Act.put, List.setIfInBounds_toArray, List.set_cons_zero, List.set_cons_succ])
            refine wpAnyH_ready (rs := [34]) (by kernel_rfl) (by simp) ?_
            refine AllReadyH.cons (o := { dst := some 135, op := Op.call { callee := Callee.value (Operand.func 23), args := #[Operand.tmp 132, Operand.tmp 134], argTypes := #[38, 38] }, type := 3, pos := "law.go:72", after := #[{ on := 31, ground := Ground.data }, { on := 33, ground := Ground.data }, { on := 27, ground := Ground.chain }, { on := 27, ground := Ground.guard }], guard := some (27, true) }) ?hoh1_34 ?hth1_34 ?hnh1_34
            case hoh1_34 => rfl
            case hnh1_34 => exact AllReadyH.nil
            intro K hK
            refine iteN (by kernel_rfl) ?_
            refine hK.out _ _ hS (fun _ => ?_)
            clear hK K
            (try simp only [Act.put, List.setIfInBounds_toArray, List.set_cons_zero, List.set_cons_succ])
            refine wpAnyH_takeD 35 (some 136) (v := undef) rfl rfl (by kernel_rfl) (by kernel_rfl) (by kernel_rfl) (fun _ _ _ h => h) (.inr ⟨by kernel_rfl, rfl⟩) hS ?_
            (try simp only [Act.put, List.setIfInBounds_toArray, List.set_cons_zero, List.set_cons_succ])
            refine wpAnyH_takeD 36 (some 137) (v := ?vh1_36) rfl rfl (by kernel_rfl) (by kernel_rfl) (by kernel_rfl) (fun _ _ _ h => h) (.inl ⟨by kernel_rfl, ?hyh1_36⟩) hS ?resth1_36
            case hyh1_36 => (intro w hSw; (try dsimp only at hSw); go_simp; (try with_reducible rfl))
            (try simp only [Act.put, List.setIfInBounds_toArray, List.set_cons_zero, List.set_cons_succ])
            refine wpAnyH_takeD 37 (some 138) (v := ?vh1_37) rfl rfl (by kernel_rfl) (by kernel_rfl) (by kernel_rfl) (fun _ _ _ h => h) (.inl ⟨by kernel_rfl, ?hyh1_37⟩) hS ?resth1_37
            case hyh1_37 => (intro w hSw; (try dsimp only at hSw); go_simp; (try with_reducible rfl))
            (try simp only [Act.put, List.setIfInBounds_toArray, List.set_cons_zero, List.set_cons_succ])
            refine wpAnyH_done (by kernel_rfl) ?_ _
            go_wp2
            go_meet
            case rel => exact ⟨rfl, hS.1.1⟩
          · have g2 : ((sm : Int) == 0) = false := beq_eq_false_iff_ne.2 hz
            have g3 : ((sm : Int) != 0) = true := bne_iff_ne.2 hz
            have g4 : decide (0 < cp) = false := decide_eq_false (by rw [HCP.out]; have := HPL.out hz; unfold rcmp; grind)
            clear hz
            go_wp2_with fail
            have hS : (fun (w' : World) => SelH wv (.agg #[.bool (decide (p.num < 0)), .slice C1 (dg p.num.natAbs).length c1, .slice C2 (dg p.den).length c2]) (.agg #[.bool x.2.2.1, .slice A1 x.2.2.2.1.length a1, .slice A2 x.2.2.2.2.length a2]) p qx w' ∧ w'.cell? ⟨g6, m, none⟩ = some (.int .i64 sm) ∧ (w'.cell? ⟨g8, m * 3, none⟩ = some (.bool (decide (p.num < 0))) ∧ w'.cell? ⟨g8, m * 3 + 1, none⟩ = some (.slice C1 (dg p.num.natAbs).length c1) ∧ w'.cell? ⟨g8, m * 3 + 2, none⟩ = some (.slice C2 (dg p.den).length c2)) ∧ (w'.cell? ⟨gv, 2, none⟩ = some (.bool x.2.2.1) ∧ w'.cell? ⟨gv, 3, none⟩ = some (.slice A1 x.2.2.2.1.length a1) ∧ w'.cell? ⟨gv, 4, none⟩ = some (.slice A2 x.2.2.2.2.length a2))) _ := hs
            refine wp_region_held_drew (S := fun (w' : World) => SelH wv (.agg #[.bool (decide (p.num < 0)), .slice C1 (dg p.num.natAbs).length c1, .slice C2 (dg p.den).length c2]) (.agg #[.bool x.2.2.1, .slice A1 x.2.2.2.1.length a1, .slice A2 x.2.2.2.2.length a2]) p qx w' ∧ w'.cell? ⟨g6, m, none⟩ = some (.int .i64 sm) ∧ (w'.cell? ⟨g8, m * 3, none⟩ = some (.bool (decide (p.num < 0))) ∧ w'.cell? ⟨g8, m * 3 + 1, none⟩ = some (.slice C1 (dg p.num.natAbs).length c1) ∧ w'.cell? ⟨g8, m * 3 + 2, none⟩ = some (.slice C2 (dg p.den).length c2)) ∧ (w'.cell? ⟨gv, 2, none⟩ = some (.bool x.2.2.1) ∧ w'.cell? ⟨gv, 3, none⟩ = some (.slice A1 x.2.2.2.1.length a1) ∧ w'.cell? ⟨gv, 4, none⟩ = some (.slice A2 x.2.2.2.2.length a2))) (by kernel_rfl) hS (fun _ => ?_)
            simp only [List.size_toArray, List.length_cons, List.length_nil, Nat.reduceAdd]
            refine wpAnyH_takeD 0 (some 101) (v := ?vh2_0) rfl rfl (by kernel_rfl) (by kernel_rfl) (by kernel_rfl) (fun _ _ _ h => h) (.inl ⟨by kernel_rfl, ?hyh2_0⟩) hS ?resth2_0
            case hyh2_0 => (intro w hSw; (try dsimp only at hSw); go_simp; (try with_reducible rfl))
            (try simp only [Act.put, List.setIfInBounds_toArray, List.set_cons_zero, List.set_cons_succ])
            refine wpAnyH_takeD 1 (some 102) (v := ?vh2_1) rfl rfl (by kernel_rfl) (by kernel_rfl) (by kernel_rfl) (fun _ _ _ h => h) (.inl ⟨by kernel_rfl, ?hyh2_1⟩) hS ?resth2_1
            case hyh2_1 => (intro w hSw; (try dsimp only at hSw); go_simp; (try with_reducible rfl))
            (try simp only [Act.put, List.setIfInBounds_toArray, List.set_cons_zero, List.set_cons_succ])
            refine wpAnyH_takeD 2 (some 103) (v := ?vh2_2) rfl rfl (by kernel_rfl) (by kernel_rfl) (by kernel_rfl) (fun _ _ _ h => h) (.inl ⟨by kernel_rfl, ?hyh2_2⟩) hS ?resth2_2
            case hyh2_2 => (intro w hSw; (try dsimp only at hSw); go_simp; (try with_reducible rfl))
            (try simp only [Act.put, List.setIfInBounds_toArray, List.set_cons_zero, List.set_cons_succ])
            refine wpAnyH_takeD 3 (some 104) (v := ?vh2_3) rfl rfl (by kernel_rfl) (by kernel_rfl) (by kernel_rfl) (fun _ _ _ h => h) (.inl ⟨by kernel_rfl, ?hyh2_3⟩) hS ?resth2_3
            case hyh2_3 => (intro w hSw; (try dsimp only at hSw); go_simp; (try with_reducible rfl))
            (try simp only [Act.put, List.setIfInBounds_toArray, List.set_cons_zero, List.set_cons_succ])
            refine wpAnyH_ready (rs := [4]) (by kernel_rfl) (by simp) ?_
            refine AllReadyH.cons (o := { dst := some 105, op := Op.call { callee := Callee.value (Operand.func 22), args := #[Operand.tmp 104], argTypes := #[38] }, type := 3, pos := "law.go:72", after := #[{ on := 3, ground := Ground.data }], guard := none }) ?hoh2_4 ?hth2_4 ?hnh2_4
            case hoh2_4 => rfl
            case hnh2_4 => exact AllReadyH.nil
            intro K hK
            refine iteP (by kernel_rfl) ?_
            go_simp
            go_at_call 22
            with_reducible refine (rsignq _ _ p ?_).mono ?_
            exact SelH.a hS.1
            rintro e w8 ⟨rfl, hb8⟩
            rw [← HSG.out]
            have hS8 := selh_next hb8 hS
            refine hK.out _ _ hS8 (fun _ => ?_)
            clear hS K hK
            have hS := hS8
            clear hS8
            (try simp only [Act.put, List.setIfInBounds_toArray, List.set_cons_zero, List.set_cons_succ])
            refine wpAnyH_takeD 5 (some 106) (v := ?vh2_5) rfl rfl (by kernel_rfl) (by kernel_rfl) (by kernel_rfl) (fun _ _ _ h => h) (.inl ⟨by kernel_rfl, ?hyh2_5⟩) hS ?resth2_5
            case hyh2_5 => (intro w hSw; (try dsimp only at hSw); go_simp; (try with_reducible rfl))
            (try simp only [Act.put, List.setIfInBounds_toArray, List.set_cons_zero, List.set_cons_succ])
            refine wpAnyH_takeD 6 (some 107) (v := ?vh2_6) rfl rfl (by kernel_rfl) (by kernel_rfl) (by kernel_rfl) (fun _ _ _ h => h) (.inl ⟨by kernel_rfl, ?hyh2_6⟩) hS ?resth2_6
            case hyh2_6 => (intro w hSw; (try dsimp only at hSw); go_simp; (try with_reducible rfl))
            (try simp only [Act.put, List.setIfInBounds_toArray, List.set_cons_zero, List.set_cons_succ])
            refine wpAnyH_takeD 7 (some 108) (v := ?vh2_7) rfl rfl (by kernel_rfl) (by kernel_rfl) (by kernel_rfl) (fun _ _ _ h => h) (.inl ⟨by kernel_rfl, ?hyh2_7⟩) hS ?resth2_7
            case hyh2_7 => (intro w hSw; (try dsimp only at hSw); go_simp; (try with_reducible rfl))
            (try simp only [Act.put, List.setIfInBounds_toArray, List.set_cons_zero, List.set_cons_succ])
            refine wpAnyH_takeD 8 (some 109) (v := ?vh2_8) rfl rfl (by kernel_rfl) (by kernel_rfl) (by kernel_rfl) (fun _ _ _ h => h) (.inl ⟨by kernel_rfl, ?hyh2_8⟩) hS ?resth2_8
            case hyh2_8 => (intro w hSw; (try dsimp only at hSw); go_simp; (try with_reducible rfl))
            (try simp only [Act.put, List.setIfInBounds_toArray, List.set_cons_zero, List.set_cons_succ])
            refine wpAnyH_takeD 9 (some 110) (v := ?vh2_9) rfl rfl (by kernel_rfl) (by kernel_rfl) (by kernel_rfl) (fun _ _ _ h => h) (.inl ⟨by kernel_rfl, ?hyh2_9⟩) hS ?resth2_9
            case hyh2_9 => (intro w hSw; (try dsimp only at hSw); go_simp; (try with_reducible rfl))
            (try simp only [Act.put, List.setIfInBounds_toArray, List.set_cons_zero, List.set_cons_succ])
            refine wpAnyH_takeD 10 (some 111) (v := ?vh2_10) rfl rfl (by kernel_rfl) (by kernel_rfl) (by kernel_rfl) (fun _ _ _ h => h) (.inl ⟨by kernel_rfl, ?hyh2_10⟩) hS ?resth2_10
            case hyh2_10 => (intro w hSw; (try dsimp only at hSw); go_simp; (try with_reducible rfl))
            (try simp only [Act.put, List.setIfInBounds_toArray, List.set_cons_zero, List.set_cons_succ])
            refine wpAnyH_takeD 11 (some 112) (v := ?vh2_11) rfl rfl (by kernel_rfl) (by kernel_rfl) (by kernel_rfl) (fun _ _ _ h => h) (.inl ⟨by kernel_rfl, ?hyh2_11⟩) hS ?resth2_11
            case hyh2_11 => (intro w hSw; (try dsimp only at hSw); go_simp; (try with_reducible rfl))
            (try simp only [Act.put, List.setIfInBounds_toArray, List.set_cons_zero, List.set_cons_succ])
            refine wpAnyH_takeD 12 (some 113) (v := ?vh2_12) rfl rfl (by kernel_rfl) (by kernel_rfl) (by kernel_rfl) (fun _ _ _ h => h) (.inl ⟨by kernel_rfl, ?hyh2_12⟩) hS ?resth2_12
            case hyh2_12 => (intro w hSw; (try dsimp only at hSw); go_simp; (try with_reducible rfl))
            (try simp only [Act.put, List.setIfInBounds_toArray, List.set_cons_zero, List.set_cons_succ])
            refine wpAnyH_takeD 13 (some 114) (v := undef) rfl rfl (by kernel_rfl) (by kernel_rfl) (by kernel_rfl) (fun _ _ _ h => h) (.inr ⟨by kernel_rfl, rfl⟩) hS ?_
            (try simp only [Act.put, List.setIfInBounds_toArray, List.set_cons_zero, List.set_cons_succ])
            refine wpAnyH_takeD 14 (some 115) (v := undef) rfl rfl (by kernel_rfl) (by kernel_rfl) (by kernel_rfl) (fun _ _ _ h => h) (.inr ⟨by kernel_rfl, rfl⟩) hS ?_
            (try simp only [Act.put, List.setIfInBounds_toArray, List.set_cons_zero, List.set_cons_succ])
            refine wpAnyH_takeD 15 (some 116) (v := undef) rfl rfl (by kernel_rfl) (by kernel_rfl) (by kernel_rfl) (fun _ _ _ h => h) (.inr ⟨by kernel_rfl, rfl⟩) hS ?_
            (try simp only [Act.put, List.setIfInBounds_toArray, List.set_cons_zero, List.set_cons_succ])
            refine wpAnyH_takeD 16 (some 117) (v := undef) rfl rfl (by kernel_rfl) (by kernel_rfl) (by kernel_rfl) (fun _ _ _ h => h) (.inr ⟨by kernel_rfl, rfl⟩) hS ?_
            (try simp only [Act.put, List.setIfInBounds_toArray, List.set_cons_zero, List.set_cons_succ])
            refine wpAnyH_ready (rs := [17]) (by kernel_rfl) (by simp) ?_
            refine AllReadyH.cons (o := { dst := some 118, op := Op.call { callee := Callee.value (Operand.func 22), args := #[Operand.tmp 117], argTypes := #[38] }, type := 3, pos := "law.go:72", after := #[{ on := 16, ground := Ground.data }, { on := 12, ground := Ground.chain }, { on := 12, ground := Ground.guard }], guard := some (12, true) }) ?hoh2_17 ?hth2_17 ?hnh2_17
            case hoh2_17 => rfl
            case hnh2_17 => exact AllReadyH.nil
            intro K hK
            refine iteN (by kernel_rfl) ?_
            refine hK.out _ _ hS (fun _ => ?_)
            clear hK K
            (try simp only [Act.put, List.setIfInBounds_toArray, List.set_cons_zero, List.set_cons_succ])
            refine wpAnyH_takeD 18 (some 119) (v := undef) rfl rfl (by kernel_rfl) (by kernel_rfl) (by kernel_rfl) (fun _ _ _ h => h) (.inr ⟨by kernel_rfl, rfl⟩) hS ?_
            (try simp only [Act.put, List.setIfInBounds_toArray, List.set_cons_zero, List.set_cons_succ])
            refine wpAnyH_takeD 19 (some 120) (v := ?vh2_19) rfl rfl (by kernel_rfl) (by kernel_rfl) (by kernel_rfl) (fun _ _ _ h => h) (.inl ⟨by kernel_rfl, ?hyh2_19⟩) hS ?resth2_19
            case hyh2_19 => (intro w hSw; (try dsimp only at hSw); go_simp; (try with_reducible rfl))
            (try simp only [Act.put, List.setIfInBounds_toArray, List.set_cons_zero, List.set_cons_succ])
            refine wpAnyH_takeD 20 (some 121) (v := ?vh2_20) rfl rfl (by kernel_rfl) (by kernel_rfl) (by kernel_rfl) (fun _ _ _ h => h) (.inl ⟨by kernel_rfl, ?hyh2_20⟩) hS ?resth2_20
            case hyh2_20 => (intro w hSw; (try dsimp only at hSw); go_simp; (try with_reducible rfl))
            (try simp only [Act.put, List.setIfInBounds_toArray, List.set_cons_zero, List.set_cons_succ])
            refine wpAnyH_takeD 21 (some 122) (v := ?vh2_21) rfl rfl (by kernel_rfl) (by kernel_rfl) (by kernel_rfl) (fun _ _ _ h => h) (.inl ⟨by kernel_rfl, ?hyh2_21⟩) hS ?resth2_21
            case hyh2_21 => (intro w hSw; (try dsimp only at hSw); go_simp; (try with_reducible rfl))
            (try simp only [Act.put, List.setIfInBounds_toArray, List.set_cons_zero, List.set_cons_succ])
            refine wpAnyH_takeD 22 (some 123) (v := ?vh2_22) rfl rfl (by kernel_rfl) (by kernel_rfl) (by kernel_rfl) (fun _ _ _ h => h) (.inl ⟨by kernel_rfl, ?hyh2_22⟩) hS ?resth2_22
            case hyh2_22 => (intro w hSw; (try dsimp only at hSw); go_simp; (try with_reducible rfl))
            (try simp only [Act.put, List.setIfInBounds_toArray, List.set_cons_zero, List.set_cons_succ])
            refine wpAnyH_takeD 23 (some 124) (v := ?vh2_23) rfl rfl (by kernel_rfl) (by kernel_rfl) (by kernel_rfl) (fun _ _ _ h => h) (.inl ⟨by kernel_rfl, ?hyh2_23⟩) hS ?resth2_23
            case hyh2_23 => (intro w hSw; (try dsimp only at hSw); go_simp; (try with_reducible rfl))
            (try simp only [Act.put, List.setIfInBounds_toArray, List.set_cons_zero, List.set_cons_succ])
            refine wpAnyH_takeD 24 (some 125) (v := ?vh2_24) rfl rfl (by kernel_rfl) (by kernel_rfl) (by kernel_rfl) (fun _ _ _ h => h) (.inl ⟨by kernel_rfl, ?hyh2_24⟩) hS ?resth2_24
            case hyh2_24 => (intro w hSw; (try dsimp only at hSw); go_simp; (try with_reducible rfl))
            (try simp only [Act.put, List.setIfInBounds_toArray, List.set_cons_zero, List.set_cons_succ])
            refine wpAnyH_takeD 25 (some 126) (v := ?vh2_25) rfl rfl (by kernel_rfl) (by kernel_rfl) (by kernel_rfl) (fun _ _ _ h => h) (.inl ⟨by kernel_rfl, ?hyh2_25⟩) hS ?resth2_25
            case hyh2_25 => (intro w hSw; (try dsimp only at hSw); go_simp; (try with_reducible rfl))
            (try simp only [Act.put, List.setIfInBounds_toArray, List.set_cons_zero, List.set_cons_succ])
            refine wpAnyH_takeD 26 (some 127) (v := ?vh2_26) rfl rfl (by kernel_rfl) (by kernel_rfl) (by kernel_rfl) (fun _ _ _ h => h) (.inl ⟨by kernel_rfl, ?hyh2_26⟩) hS ?resth2_26
            case hyh2_26 => (intro w hSw; (try dsimp only at hSw); go_simp; (try with_reducible rfl))
            (try simp only [Act.put, List.setIfInBounds_toArray, List.set_cons_zero, List.set_cons_succ])
            refine wpAnyH_takeD 27 (some 128) (v := ?vh2_27) rfl rfl (by kernel_rfl) (by kernel_rfl) (by kernel_rfl) (fun _ _ _ h => h) (.inl ⟨by kernel_rfl, ?hyh2_27⟩) hS ?resth2_27
            case hyh2_27 => (intro w hSw; (try dsimp only at hSw); go_simp; (try with_reducible rfl))
            (try simp only [Act.put, List.setIfInBounds_toArray, List.set_cons_zero, List.set_cons_succ])
            refine wpAnyH_takeD 28 (some 129) (v := ?vh2_28) rfl rfl (by kernel_rfl) (by kernel_rfl) (by kernel_rfl) (fun _ _ _ h => h) (.inl ⟨by kernel_rfl, ?hyh2_28⟩) hS ?resth2_28
            case hyh2_28 => (intro w hSw; (try dsimp only at hSw); go_simp; (try with_reducible rfl))
            (try simp only [Act.put, List.setIfInBounds_toArray, List.set_cons_zero, List.set_cons_succ])
            refine wpAnyH_takeD 29 (some 130) (v := ?vh2_29) rfl rfl (by kernel_rfl) (by kernel_rfl) (by kernel_rfl) (fun _ _ _ h => h) (.inl ⟨by kernel_rfl, ?hyh2_29⟩) hS ?resth2_29
            case hyh2_29 => (intro w hSw; (try dsimp only at hSw); go_simp; (try with_reducible rfl))
            (try simp only [Act.put, List.setIfInBounds_toArray, List.set_cons_zero, List.set_cons_succ])
            refine wpAnyH_takeD 30 (some 131) (v := ?vh2_30) rfl rfl (by kernel_rfl) (by kernel_rfl) (by kernel_rfl) (fun _ _ _ h => h) (.inl ⟨by kernel_rfl, ?hyh2_30⟩) hS ?resth2_30
            case hyh2_30 => (intro w hSw; (try dsimp only at hSw); go_simp; (try with_reducible rfl))
            (try simp only [Act.put, List.setIfInBounds_toArray, List.set_cons_zero, List.set_cons_succ])
            refine wpAnyH_takeD 31 (some 132) (v := ?vh2_31) rfl rfl (by kernel_rfl) (by kernel_rfl) (by kernel_rfl) (fun _ _ _ h => h) (.inl ⟨by kernel_rfl, ?hyh2_31⟩) hS ?resth2_31
            case hyh2_31 => (intro w hSw; (try dsimp only at hSw); go_simp; (try with_reducible rfl))
            (try simp only [Act.put, List.setIfInBounds_toArray, List.set_cons_zero, List.set_cons_succ])
            refine wpAnyH_takeD 32 (some 133) (v := ?vh2_32) rfl rfl (by kernel_rfl) (by kernel_rfl) (by kernel_rfl) (fun _ _ _ h => h) (.inl ⟨by kernel_rfl, ?hyh2_32⟩) hS ?resth2_32
            case hyh2_32 => (intro w hSw; (try dsimp only at hSw); go_simp; (try with_reducible rfl))
            (try simp only [Act.put, List.setIfInBounds_toArray, List.set_cons_zero, List.set_cons_succ])
            refine wpAnyH_takeD 33 (some 134) (v := ?vh2_33) rfl rfl (by kernel_rfl) (by kernel_rfl) (by kernel_rfl) (fun _ _ _ h => h) (.inl ⟨by kernel_rfl, ?hyh2_33⟩) hS ?resth2_33
            case hyh2_33 => (intro w hSw; (try dsimp only at hSw); go_simp; (try with_reducible rfl))
            (try simp only [Act.put, List.setIfInBounds_toArray, List.set_cons_zero, List.set_cons_succ])
            refine wpAnyH_ready (rs := [34]) (by kernel_rfl) (by simp) ?_
            refine AllReadyH.cons (o := { dst := some 135, op := Op.call { callee := Callee.value (Operand.func 23), args := #[Operand.tmp 132, Operand.tmp 134], argTypes := #[38, 38] }, type := 3, pos := "law.go:72", after := #[{ on := 31, ground := Ground.data }, { on := 33, ground := Ground.data }, { on := 27, ground := Ground.chain }, { on := 27, ground := Ground.guard }], guard := some (27, true) }) ?hoh2_34 ?hth2_34 ?hnh2_34
            case hoh2_34 => rfl
            case hnh2_34 => exact AllReadyH.nil
            intro K hK
            refine iteP (by kernel_rfl) ?_
            go_simp
            go_at_call 23
            with_reducible refine (rcmpq _ _ _ p qx ?_ ?_).mono ?_
            exact SelH.a hS.1
            exact SelH.b hS.1
            rintro e w8 ⟨rfl, hb8⟩
            rw [← HCP.out]
            have hS8 := selh_next hb8 hS
            refine hK.out _ _ hS8 (fun _ => ?_)
            clear hS K hK
            have hS := hS8
            clear hS8
            (try simp only [Act.put, List.setIfInBounds_toArray, List.set_cons_zero, List.set_cons_succ])
            refine wpAnyH_takeD 35 (some 136) (v := ?vh2_35) rfl rfl (by kernel_rfl) (by kernel_rfl) (by kernel_rfl) (fun _ _ _ h => h) (.inl ⟨by kernel_rfl, ?hyh2_35⟩) hS ?resth2_35
            case hyh2_35 => (intro w hSw; (try dsimp only at hSw); go_simp; (try with_reducible rfl))
            (try simp only [Act.put, List.setIfInBounds_toArray, List.set_cons_zero, List.set_cons_succ])
            refine wpAnyH_takeD 36 (some 137) (v := ?vh2_36) rfl rfl (by kernel_rfl) (by kernel_rfl) (by kernel_rfl) (fun _ _ _ h => h) (.inl ⟨by kernel_rfl, ?hyh2_36⟩) hS ?resth2_36
            case hyh2_36 => (intro w hSw; (try dsimp only at hSw); go_simp; (try with_reducible rfl))
            (try simp only [Act.put, List.setIfInBounds_toArray, List.set_cons_zero, List.set_cons_succ])
            refine wpAnyH_takeD 37 (some 138) (v := ?vh2_37) rfl rfl (by kernel_rfl) (by kernel_rfl) (by kernel_rfl) (fun _ _ _ h => h) (.inl ⟨by kernel_rfl, ?hyh2_37⟩) hS ?resth2_37
            case hyh2_37 => (intro w hSw; (try dsimp only at hSw); go_simp; (try with_reducible rfl))
            (try simp only [Act.put, List.setIfInBounds_toArray, List.set_cons_zero, List.set_cons_succ])
            refine wpAnyH_done (by kernel_rfl) ?_ _
            go_wp2
            go_meet
            case rel => exact ⟨rfl, hS.1.1⟩
        case rest =>
          obtain ⟨rfl, hbc⟩ := hcut
          have HBC := Lib.hid hbc
          have hbx := bl_trans HBV.out hbc
          have HBX := Lib.hid hbx
          have KC := HKV.out.below hbc
          have v0 := KC.cell 0
          have v1 := KC.cell 1
          have HKC := Lib.hid KC
          have hs0 := ((HS12.out.fr (Fr.of_below (S := fun _ => False) hbx) (fun h => h))).cell hx
          rw [← HSM.out] at hs0
          by_cases hz : sm = 0
          · subst hz
            clear hbc hbx KC
            go_wp2
            go_loopw [18] (fun iv wy => ∃ k : Nat, a ≤ k ∧ k ≤ b ∧ iv = .int .i64 ((k : Int) + 1) ∧ Below wc.heap.size wc wy) (fun iv _ => b + 1 - (intOf iv).toNat)
            case atStart => exact ⟨a, by omega, by omega, rfl, Below.refl _ _⟩
            case round =>
              obtain ⟨k, hka, hkb, rfl, hby⟩ := hrel
              have HBY := Lib.hid (bl_trans HBX.out hby)
              have HBYC := Lib.hid hby
              have KY := HKC.out.below hby
              have hs0 := cell_below hby hs0
              clear v0 v1
              have v0 := KY.cell 0
              have v1 := KY.cell 1
              by_cases hk : k < b
              · have q3 : (k : Int) + 1 ≤ (b : Int) := by omega
                have q4 : decide ((k : Int) + 1 ≤ (b : Int)) = true := decide_eq_true q3
                have q5 : IntKind.i64.wrap (k : Int) = (k : Int) := IntWalk.i64_in _ (by omega)
                have q6 : (0 : Int) ≤ (k : Int) := by omega
                have q7 : (k : Int) < (D : Int) := by omega
                obtain ⟨bk, hbk⟩ : ∃ q, q = (tdOf L).bar K ((tdOf L).sold K D) ((k : Int) + 1) := ⟨_, rfl⟩
                have hble : qx ≤ bk := by rw [hbk]; exact HBAR.out trivial k hka hk
                have hbl := (HG12.out.below HBY.out).fl
                rw [bars_list] at hbl
                obtain ⟨ad', cc, E1, n1, E2, n2, hvl, _, _, m0, m1, m2, hfb⟩ := hbl.atq (k := k) (q := bk) (by rw [hbk]; unfold barL; rw [List.getElem?_map, List.getElem?_range (by omega)]; rfl)
                obtain rfl : ⟨g7, 0, none⟩ = ad' := by simpa using (by simpa using hvl : (some (⟨g7, 0, none⟩ : Addr) = some ad') ∧ _).1
                rw [add_row] at m0 m1 m2
                have hbsh : Short bk := by rw [hbk]; exact (bar_szq (n := 2000) (by omega) hK1 (sw_szq (by omega) (HF.out.mono (by omega)) HWD.out)).short (by omega)
                have hs := selh_next (bl_drew wr) ⟨(⟨Below.refl _ _, FrQ.below (FrQ.below HQX.out HBC.out) hby, FrV.q hfb hbsh⟩ : SelH wr (.agg #[.bool x.2.2.1, .slice A1 x.2.2.2.1.length a1, .slice A2 x.2.2.2.2.length a2]) (.agg #[.bool (decide (bk.num < 0)), .slice E1 (dg bk.num.natAbs).length n1, .slice E2 (dg bk.den).length n2]) qx bk wr), hs0, ⟨m0, m1, m2⟩, ⟨KY.cell 2, KY.cell 3, KY.cell 4⟩⟩
                obtain ⟨cb, hcb⟩ : ∃ c, c = rcmp qx bk := ⟨_, rfl⟩
                have g9 : decide (0 < cb) = false := decide_eq_false (by rw [hcb]; unfold rcmp; grind)
                have HCB := Lib.hid hcb
                have HS2 := Lib.hid hs
                clear hby KY hbk hble hbl hvl m0 m1 m2 hfb hbsh hs hcb
                go_upto_region 21 with fail
                go_cut [162] (fun t162 wz => t162 = .bool false ∧ Below wr.heap.size wr wz)
                case first =>
                  have hs := HS2.out
                  clear v0 v1 hs0
                  go_wp2_with fail
                  go_region_held3 (fun w' => SelH wr (.agg #[.bool x.2.2.1, .slice A1 x.2.2.2.1.length a1, .slice A2 x.2.2.2.2.length a2]) (.agg #[.bool (decide (bk.num < 0)), .slice E1 (dg bk.num.natAbs).length n1, .slice E2 (dg bk.den).length n2]) qx bk w' ∧ w'.cell? ⟨g6, m, none⟩ = some (.int .i64 0) ∧ (w'.cell? ⟨g7, k * 3, none⟩ = some (.bool (decide (bk.num < 0))) ∧ w'.cell? ⟨g7, k * 3 + 1, none⟩ = some (.slice E1 (dg bk.num.natAbs).length n1) ∧ w'.cell? ⟨g7, k * 3 + 2, none⟩ = some (.slice E2 (dg bk.den).length n2)) ∧ (w'.cell? ⟨gv, 2, none⟩ = some (.bool x.2.2.1) ∧ w'.cell? ⟨gv, 3, none⟩ = some (.slice A1 x.2.2.2.1.length a1) ∧ w'.cell? ⟨gv, 4, none⟩ = some (.slice A2 x.2.2.2.2.length a2)))
                    ((first | exact hs | exact selh_next hbN (by assumption)))
                    (first
                      | (go_at_call 23; (with_reducible refine (rcmpq _ _ _ qx bk ?_ ?_).mono ?_); (exact SelH.a (And.left (by assumption))); (exact SelH.b (And.left (by assumption))); (rintro e w' ⟨rfl, hbN⟩); (rw [← HCB.out]); (have H1 := SelH.next hbN (And.left (by assumption)))))
                  go_wp2
                  all_goals go_meet
                  case rel => exact ⟨rfl, H1.1⟩
                case rest =>
                  obtain ⟨rfl, hbz⟩ := hcut
                  have HBZ := Lib.hid hbz
                  clear v0 v1 hs0 hbz
                  go_wp2
                  exact ⟨⟨k + 1, by omega, by omega, by go_num, bl_trans HBYC.out HBZ.out⟩, by simp [intOf]; omega⟩
              · obtain rfl : k = b := by omega
                have q3 : ¬ (k : Int) + 1 ≤ (k : Int) := by omega
                have q4 : decide ((k : Int) + 1 ≤ (k : Int)) = false := decide_eq_false q3
                clear hby KY
                go_wp2
                exact ⟨⟨m + 1, by omega, by go_num, HBY.out⟩, by simp [intOf]; omega⟩
          · have g2 : ((sm : Int) == 0) = false := beq_eq_false_iff_ne.2 hz
            have q4 : decide ((a : Int) + 1 ≤ (b : Int)) = true := decide_eq_true (by omega)
            have q3 : (a : Int) + 1 ≤ (b : Int) := by omega
            clear hbc hbx KC
            go_wp2
            go_loopw [18] (fun iv wy => iv = .int .i64 ((a : Int) + 1) ∧ wy = wc) (fun _ _ => 0)
            case atStart => exact ⟨rfl, rfl⟩
            case round =>
              obtain ⟨rfl, rfl⟩ := hrel
              go_wp2
              exact ⟨⟨m + 1, by omega, by go_num, HBX.out⟩, by simp [intOf]; omega⟩
      · obtain rfl : m = L.length := by omega
        have q1 : ¬ (L.length : Int) < (L.length : Int) := by omega
        clear hb
        go_wp2_with fail
        refine (tfixed_calls _).mono ?_
        rintro e w13 ⟨rfl, hb13⟩
        have HB13 := Lib.hid (bl_trans HBw.out hb13)
        clear hb13
        go_wp2
        go_ret
        exact ⟨rfl, HB13.out⟩
  · have HRN := Lib.hid (show rightN days each L ≠ 0 by rw [← HR.out]; exact hr0)
    have g0 : ((r : Int) != r) = false := by simp
    clear hr0
    refine (rsell_calls _ days each A c L (HV.out.below HB2.out) (HF.out.mono (by omega))).mono ?_
    intro e w3 hpo
    obtain ⟨rfl, hb3⟩ := hpo.no HRN.out
    rw [← HR.out]
    have HB3 := Lib.hid (bl_trans HB2.out hb3)
    have HK3 := Lib.hid (HK2.out.below hb3)
    clear hb3 k0 k1 k2
    have k0 := HK3.out.cell 0
    have k1 := HK3.out.cell 1
    have k2 := HK3.out.cell 2
    go_wp2_with fail
    refine (rbars2_calls _ days each A c L (HV.out.below HB3.out) (HF.out.mono (by omega))).mono ?_
    intro e w4 hpo
    obtain ⟨rfl, hb4⟩ := hpo.no HRN.out
    rw [← HR.out]
    have HB4 := Lib.hid (bl_trans HB3.out hb4)
    have HK4 := Lib.hid (HK3.out.below hb4)
    clear hb4 k0 k1 k2
    have k0 := HK4.out.cell 0
    have k1 := HK4.out.cell 1
    have k2 := HK4.out.cell 2
    go_wp2_with fail
    refine (rpays_calls _ days each A c L (HV.out.below HB4.out) (HF.out.mono (by omega))).mono ?_
    intro e w5 hpo
    obtain ⟨rfl, hb5⟩ := hpo.no HRN.out
    rw [← HR.out]
    have HB5 := Lib.hid (bl_trans HB4.out hb5)
    have HK5 := Lib.hid (HK4.out.below hb5)
    clear hb5 k0 k1 k2
    have k0 := HK5.out.cell 0
    have k1 := HK5.out.cell 1
    have k2 := HK5.out.cell 2
    go_wp2_with fail
    refine (sell_calls _ days each A c L (HV.out.below HB5.out) (HF.out.mono (by omega))).mono ?_
    intro e w6 hpo
    obtain ⟨rfl, hb6⟩ := hpo.no HRN.out
    rw [← HR.out]
    have HB6 := Lib.hid (bl_trans HB5.out hb6)
    have HK6 := Lib.hid (HK5.out.below hb6)
    clear hb6 k0 k1 k2
    have k0 := HK6.out.cell 0
    have k1 := HK6.out.cell 1
    have k2 := HK6.out.cell 2
    go_wp2_with fail
    refine (bars_calls _ days each A c L (HV.out.below HB6.out) (HF.out.mono (by omega))).mono ?_
    intro e w7 hpo
    obtain ⟨rfl, hb7⟩ := hpo.no HRN.out
    rw [← HR.out]
    have HB7 := Lib.hid (bl_trans HB6.out hb7)
    have HK7 := Lib.hid (HK6.out.below hb7)
    clear hb7 k0 k1 k2
    have k0 := HK7.out.cell 0
    have k1 := HK7.out.cell 1
    have k2 := HK7.out.cell 2
    go_wp2_with fail
    refine (pays_calls _ days each A c L (HV.out.below HB7.out) (HF.out.mono (by omega))).mono ?_
    intro e w8 hpo
    obtain ⟨rfl, hb8⟩ := hpo.no HRN.out
    rw [← HR.out]
    have HB8 := Lib.hid (bl_trans HB7.out hb8)
    have HK8 := Lib.hid (HK7.out.below hb8)
    clear hb8 k0 k1 k2
    have k0 := HK8.out.cell 0
    have k1 := HK8.out.cell 1
    have k2 := HK8.out.cell 2
    go_wp2_with fail
    refine (tright_calls _ days each A c L (HV.out.below HB8.out)).mono ?_
    rintro e w9 ⟨rfl, hb9⟩
    rw [← HR.out]
    have HB9 := Lib.hid (bl_trans HB8.out hb9)
    clear hb9 k0 k1 k2
    go_wp2_with fail
    refine (sameints_nil _).mono ?_
    rintro e w10 ⟨rfl, hb10⟩
    have HB10 := Lib.hid (bl_trans HB9.out hb10)
    clear hb10
    go_wp2_with fail
    refine (samenums_calls _ _ _ [] [] (FL.none0 _) (FL.none0 _) (fun d hd => by simp at hd) (fun d hd => by simp at hd) rfl rfl).mono ?_
    rintro e w11 ⟨rfl, hb11⟩
    have HB11 := Lib.hid (bl_trans HB10.out hb11)
    clear hb11
    go_wp2_with fail
    refine (samenums_calls _ _ _ [] [] (FL.none0 _) (FL.none0 _) (fun d hd => by simp at hd) (fun d hd => by simp at hd) rfl rfl).mono ?_
    rintro e w12 ⟨rfl, hb12⟩
    have HB12 := Lib.hid (bl_trans HB11.out hb12)
    clear hb12
    go_wp2
    go_loopw [16] (fun iv wr => iv = .int .i64 0 ∧ wr = w12) (fun _ _ => 0)
    case atStart => exact ⟨rfl, rfl⟩
    case round =>
      obtain ⟨rfl, rfl⟩ := hrel
      go_wp2_with fail
      refine (tfixed_calls _).mono ?_
      rintro e w13 ⟨rfl, hb13⟩
      have HB13 := Lib.hid (bl_trans HB12.out hb13)
      clear hb13
      go_wp2
      go_ret
      exact ⟨rfl, HB13.out⟩
end Go.Proofs.Ytajckdheecgceaa
