/- Tides: the program's Pays. -/
import Derived.Test.YtajckdheecgceaaTd16
set_option linter.unusedVariables false
set_option linter.unusedSimpArgs false
namespace Go.Proofs.Ytajckdheecgceaa
open Go.RowKit

theorem FL.part {w : World} {ad : Addr} {n c : Nat} {L : List (Bool × List Int × List Int)} (h : FL w (.slice (some ad) n c) L) {a b : Nat} (hab : a ≤ b) (hb : b ≤ n) : FL w (.slice (some (ad.add (a * 3))) (b - a) (c - a)) ((L.take b).drop a) := by
  obtain ⟨A', c', hv, h1, h2, h3⟩ := h
  obtain ⟨rfl, rfl, rfl⟩ : some ad = A' ∧ n = L.length ∧ c = c' := by simpa using hv
  have hl : ((L.take b).drop a).length = b - a := by rw [List.length_drop, List.length_take]; omega
  refine ⟨_, c - a, by rw [hl], by omega, by omega, fun h0 => ?_⟩
  obtain ⟨ad', ha, hc⟩ := h3 (by omega)
  obtain rfl := Option.some.inj ha
  refine ⟨_, rfl, fun j d hd => ?_⟩
  rw [List.getElem?_drop] at hd
  have hj : a + j < b := by
    have := (List.getElem?_eq_some_iff.1 hd).1
    rw [List.length_take] at this
    omega
  rw [List.getElem?_take_of_lt hj] at hd
  have e : (ad.add (a * 3)).add (j * 3) = ad.add ((a + j) * 3) := by
    unfold Addr.add
    by_cases h1 : a * 3 = 0
    · rw [if_pos h1]
      have : (a + j) * 3 = j * 3 := by omega
      rw [this]
    · by_cases h2 : j * 3 = 0
      · rw [if_pos h2, if_neg h1, if_neg (by omega)]
        have : (a + j) * 3 = a * 3 := by omega
        rw [this]
      · rw [if_neg h2, if_neg h1, if_neg (by omega)]
        have : (a + j) * 3 = a * 3 + j * 3 := by omega
        rw [this]
        simp only [Nat.add_assoc]
  rw [e]
  exact hc _ d hd
theorem addO (g o k : Nat) : (⟨g, o, none⟩ : Addr).add k = ⟨g, o + k, none⟩ := by
  unfold Addr.add
  split
  · rename_i h; rw [h]; rfl
  · rfl
theorem part_range (f : Nat → Rat) (D a b : Nat) (hab : a ≤ b) (hb : b ≤ D) : ((((List.range D).map (fun j => dq (f j))).take b).drop a) = ((List.range' a (b - a)).map f).map dq := by
  rw [List.map_map, ← List.map_take, ← List.map_drop, List.take_range, Nat.min_eq_left hb, List.range_eq_range', List.drop_range']
  simp only [Nat.mul_one, Nat.one_mul, Nat.zero_add]
  rfl
theorem pk_lmin (f : Nat → Rat) (a n : Nat) (hn : 0 < n) : ∃ j : Nat, pk (-1) ((List.range' a n).map f) n = (j : Int) ∧ j < n ∧ ((List.range' a n).map f)[j]? = some (lmin f a n) := by
  obtain ⟨j, x, h1, h2, h3, h4⟩ := pk_least (qs := (List.range' a n).map f) n hn (by simp)
  refine ⟨j, h1, h2, ?_⟩
  rw [h3]
  congr 1
  have hat : ∀ i, i < n → ((List.range' a n).map f)[i]? = some (f (a + i)) := fun i hi => by
    rw [List.getElem?_map, List.getElem?_range' hi]
    simp
  obtain ⟨⟨j0, g1, g2⟩, g3⟩ := lmin_spec f a n hn
  have k1 := h4 j0 _ g1 (hat j0 g1)
  rw [hat j h2] at h3
  have k2 := g3 j h2
  rw [Option.some.inj h3] at k2
  rw [← g2] at k1
  exact Rat.le_antisymm k1 k2
theorem bar_szq {n : Nat} (hn : 1 ≤ n) {T : Td} {k : Nat} {st : Nat → Int} {d : Int} (hk : 1 ≤ k) (h : ∀ i, i < T.n → Szq n (T.q i)) : Szq n (T.bar k st d) := by
  unfold Td.bar
  split
  · exact szq_zero _ hn
  · obtain ⟨⟨j, h1, _, h3⟩, _⟩ := Td.lq_spec (T := T) (st := st) (d := d) T.n (by omega)
    rw [h3]
    exact h j h1
theorem mem_erase {L : List VD} {i : Nat} {d : VD} (h : d ∈ L.eraseIdx i) : d ∈ L := (List.eraseIdx_sublist L i).subset h
theorem FewV.erase {n : Nat} {L : List VD} (h : FewV n L) (i : Nat) : FewV n (L.eraseIdx i) := fun d hd => h d (mem_erase hd)
theorem rightN_erase {days each : Int} {L : List VD} (h : rightN days each L = 0) (i : Nat) : rightN days each (L.eraseIdx i) = 0 := by
  obtain ⟨h1, h2, h3⟩ := rightN_zero h
  have hl : (L.eraseIdx i).length ≤ L.length := (List.eraseIdx_sublist L i).length_le
  refine rightN_ok (by omega) h2 (fun j d hd => ?_)
  obtain ⟨j', hj'⟩ := List.mem_iff_getElem?.1 (mem_erase (List.mem_of_getElem? hd))
  exact h3 j' d hj'
/-- What the program's Pays tells. -/
def PaysQ (days each : Int) (L : List VD) (w : World) (e : Ending) (w' : World) : Prop := Below w.heap.size w w' ∧
  ((rightN days each L ≠ 0 ∧ e = .returned (.tuple #[.slice none 0 0, .int .i64 (rightN days each L)])) ∨
   (rightN days each L = 0 ∧ ∃ g, e = .returned (.tuple #[.slice (some ⟨g, 0, none⟩) L.length L.length, .int .i64 0]) ∧ w.heap.size ≤ g ∧ FB w' g L.length L.length (fun j => dq ((tdOf L).pay each.toNat days.toNat j))))
set_option maxRecDepth 100000 in
set_option maxHeartbeats 16000000 in
theorem pays_calls (w : World) (days each : Int) (A : Option Addr) (c : Nat) (L : List VD) (h : VL w (.slice A L.length c) L) (hf : FewV 16 L) :
    Calls Try.prog 18 #[.agg #[.int .i64 days, .int .i64 each, .slice A L.length c]] w (PaysQ days each L w) := by
  have HV := Lib.hid h
  have hcc := h.bounds
  have HF := Lib.hid hf
  have HW := Lib.hid h.wd
  have al := below_alloc0 w (.cells #[.int .i64 days, .int .i64 each, .slice A L.length c] 24)
  have KB := Blk.new w 24 #[.int .i64 days, .int .i64 each, .slice A L.length c]
  have k0 := KB.cell 0
  have k1 := KB.cell 1
  have k2 := KB.cell 2
  have HAL := Lib.hid al
  have HK := Lib.hid KB
  clear h hf al KB
  obtain ⟨r, hr⟩ : ∃ r, r = rightN days each L := ⟨_, rfl⟩
  have HR := Lib.hid hr
  go_enter Try.func18, Try.ntmps18
  go_wp2_with fail
  refine (sell_calls _ days each A c L (HV.out.below HAL.out) (HF.out.mono (by omega))).mono ?_
  rintro e w1 ⟨hb1, ⟨hrn, rfl⟩ | ⟨hr0, g, rfl, hg, hT⟩⟩
  · have hrn : r ≠ 0 := by rw [hr]; exact hrn
    have HRN := Lib.hid hrn
    rw [← HR.out]
    have g0 : ((r : Int) != 0) = true := bne_iff_ne.2 hrn
    have HB1 := Lib.hid (bl_trans HAL.out hb1)
    clear hr hb1 hrn
    go_wp2
    go_ret2
    exact ⟨HB1.out, .inl ⟨by rw [← HR.out]; exact HRN.out, by rw [← HR.out]; rfl⟩⟩
  · obtain ⟨z1, z2, z3⟩ := rightN_zero hr0
    obtain ⟨D, hD⟩ : ∃ D : Nat, days = (D : Int) := ⟨days.toNat, by omega⟩
    obtain ⟨K, hKe⟩ : ∃ K : Nat, each = (K : Int) := ⟨each.toNat, by omega⟩
    subst hD
    subst hKe
    have hD12 : D ≤ 12 := by omega
    have hK4 : K ≤ 4 := by omega
    have hK1 : 1 ≤ K := by omega
    have hL12 : L.length ≤ 12 := by omega
    have HR0 := Lib.hid hr0
    have HZ3 := Lib.hid z3
    simp only [Int.toNat_natCast] at hT
    have hmk := mk_fracs L.length (by omega)
    have HT := Lib.hid hT
    have HK1 := Lib.hid (HK.out.below hb1)
    have kb := HK1.out
    have b0 := kb.cell 0
    have b1 := kb.cell 1
    have b2 := kb.cell 2
    have HB1 := Lib.hid (bl_trans HAL.out hb1)
    have HV1 := Lib.hid (HV.out.below HB1.out)
    have hsz1 := HB1.out.size
    have hltw : w.heap.size < w1.heap.size := HK1.out.lt
    have hltg : g < w1.heap.size := HT.out.lt
    have HFN := Lib.hid (FB.new w1 L.length (by omega))
    have HBN := Lib.hid (below_alloc0 w1 (.cells (madeCells #[.bool false, .slice none 0 0, .slice none 0 0] (L.length * 3)) 38))
    have hgw : w.heap.size < g := by simp at hg; omega
    clear z1 z2 z3 hr hr0 hT hb1 hg k0 k1 k2 kb
    go_wp2
    go_loopw [25] (fun i wr => ∃ m : Nat, m ≤ L.length ∧ i = .int .i64 (m : Int) ∧ FB wr w1.heap.size L.length L.length (fun j => if j < m then dq ((tdOf L).pay K D j) else (false, [], [])) ∧ Below w1.heap.size w1 wr)
      (fun i _ => L.length - (intOf i).toNat)
    case atStart => exact ⟨0, by omega, rfl, HFN.out.congr (fun j _ => by simp), HBN.out⟩
    case round =>
      clear HFN HBN hmk b0 b1 b2
      obtain ⟨m, hm, rfl, hF, hb⟩ := hrel
      have HFO := Lib.hid hF
      have HB := Lib.hid hb
      have HKr := Lib.hid (HK1.out.below hb)
      have tb := HT.out.fr (Fr.of_below (S := fun _ => False) hb) (fun h => h)
      have hszr := hb.size
      by_cases hx : m < L.length
      · obtain ⟨x, hx1⟩ : ∃ x, L[m]? = some x := ⟨_, List.getElem?_eq_getElem hx⟩
        have q1 : (m : Int) < (L.length : Int) := by omega
        have s0 := tb.cell hx
        have HX1 := Lib.hid hx1
        clear hF hb tb hx1
        go_wp2_with fail
        refine (zero_calls _).mono ?_
        rintro e w6 ⟨v6, rfl, hv6, hb6⟩
        obtain ⟨q, hq⟩ : ∃ q : Rat, q = 0 := ⟨_, rfl⟩
        have hv6 : FrV w6 v6 q := by rw [hq]; exact hv6
        have HQ := Lib.hid hq
        obtain ⟨P1, p1, P2, p2, rfl, _, _, _, _⟩ := FrIn.shape hv6
        have hF6 := HFO.out.below hb6
        obtain ⟨x0, t0, _⟩ := hF6.there (j := m * 3) (by omega)
        obtain ⟨x1, t1, _⟩ := hF6.there (j := m * 3 + 1) (by omega)
        obtain ⟨x2, t2, _⟩ := hF6.there (j := m * 3 + 2) (by omega)
        have ff := hF6.free
        have hst := FB.set (d := dq q) hF6 hx hv6
        have HF7 := Lib.hid hst.1
        have HR7 := Lib.hid hst.2
        have HK6 := Lib.hid (HKr.out.below hb6)
        have HB6 := Lib.hid (bl_trans HB.out hb6)
        clear hq hv6 hb6 hst hF6
        go_upto_region 9 with fail
        obtain ⟨w7, hw7⟩ : ∃ W, W = put3 w6 w1.heap.size m (.bool (dq q).1) (.slice P1 (dq q).2.1.length p1) (.slice P2 (dq q).2.2.length p2) := ⟨_, rfl⟩
        rw [← hw7] at HF7 HR7
        have hw8 : w7 = (((w6.setCell ⟨w1.heap.size, m * 3, none⟩ (.bool (decide (q.num < 0)))).setCell ⟨w1.heap.size, m * 3 + 1, none⟩ (.slice P1 (dg q.num.natAbs).length p1)).setCell ⟨w1.heap.size, m * 3 + 2, none⟩ (.slice P2 (dg q.den).length p2)) := hw7
        rw [← hw8]
        have HB7 := Lib.hid (Below.trans HB6.out (HR7.out.below HB6.out.size (fun y hy => by have e : y = w1.heap.size := hy; omega)))
        have HK7 := Lib.hid (HR7.out.blk HK6.out (fun e => by have e' : w.heap.size = w1.heap.size := e; omega))
        clear hw7 hw8 t0 t1 t2 ff
        obtain ⟨sm, hsm⟩ : ∃ s, s = (tdOf L).sold K D m := ⟨_, rfl⟩
        have HSM := Lib.hid hsm
        rw [← hsm]
        clear hsm s0
        by_cases hs : sm = 0
        · have g1 : ((sm : Int) == 0) = true := by rw [hs]; rfl
          have HP := Lib.hid (show (tdOf L).pay K D m = 0 from if_pos (by rw [← HSM.out]; exact hs))
          clear hs
          go_wp2
          refine ⟨⟨m + 1, by omega, by go_num, HF7.out.congr (fun i hi => ?_), HB7.out⟩, by simp [intOf]; omega⟩
          by_cases e : i = m
          · rw [e, upd_at, if_pos (by omega), HP.out, HQ.out]
          · rw [upd_ne e]
            by_cases e2 : i < m
            · rw [if_pos e2, if_pos (by omega)]
            · rw [if_neg e2, if_neg (by omega)]
        · have g1 : ((sm : Int) == 0) = false := beq_eq_false_iff_ne.2 hs
          have HP := Lib.hid (show (tdOf L).pay K D m = (tdOf L).price K D m from if_neg (by rw [← HSM.out]; exact hs))
          have HBw7 := Lib.hid (bl_trans HB1.out HB7.out)
          have hV7 := HV.out.below HBw7.out
          obtain ⟨ad, A1, a1, A2, a2, rfl, e0, e1, _, _, _, _⟩ := hV7.at HX1.out
          have hgood := bad_no (HZ3.out m x HX1.out)
          obtain ⟨a, ha⟩ : ∃ a : Nat, x.1 = (a : Int) + 1 := ⟨x.1.toNat - 1, by omega⟩
          obtain ⟨b, hbE⟩ : ∃ b : Nat, x.2.1 = (b : Int) := ⟨x.2.1.toNat, by omega⟩
          rw [ha, hbE] at hgood
          rw [ha] at e0
          rw [hbE] at e1
          have hab : a < b := by omega
          have hbD : b ≤ D := by omega
          have HE0 := Lib.hid e0
          have HE1 := Lib.hid e1
          have HV7 := Lib.hid hV7
          have b0 := HK7.out.cell 0
          have b1 := HK7.out.cell 1
          have b2 := HK7.out.cell 2
          have hpr : (tdOf L).price K D m = lmin (((tdOf L).wo m).bars K D) a (b - a) := by
            unfold Td.price
            rw [(tdOf_at HX1.out).1, (tdOf_at HX1.out).2.1, ha, hbE, show ((a : Int) + 1).toNat - 1 = a by omega, show (b : Int).toNat + 1 - ((a : Int) + 1).toNat = b - a by omega]
          have HPR := Lib.hid (HP.out.trans hpr)
          clear hs e0 e1 hV7 ha hbE hgood hpr
          go_wp2_with fail
          refine (without_calls _ _ _ ad c m L HV7.out hx (by omega)).mono ?_
          rintro e w8 ⟨A8, c8, rfl, hv8, hb8⟩
          have HB8 := Lib.hid hb8
          have HV8 := Lib.hid hv8
          clear hb8 hv8 b0 b1 b2
          go_wp2_with fail
          refine (bars_calls _ _ _ A8 c8 (L.eraseIdx m) HV8.out (HF.out.erase m)).mono ?_
          rintro e w9 ⟨hb9, ⟨hrn, _⟩ | ⟨_, gb, rfl, hgb, hFB⟩⟩
          · exact absurd (rightN_erase HR0.out m) hrn
          rw [tdOf_erase hx] at hFB
          simp only [Int.toNat_natCast] at hFB
          have hsz : ∀ j, Szq 16 (((tdOf L).wo m).bars K D j) := fun j => bar_szq (by omega) hK1 (fun i hi => fqd_szq16 (by omega) HF.out HW.out (List.getElem?_eq_getElem (l := L) (i := sk m i) ((sk_bound hx).2 hi)))
          obtain ⟨f, hf⟩ : ∃ f, f = ((tdOf L).wo m).bars K D := ⟨_, rfl⟩
          have hFB : FB w9 gb D D (fun j => dq (f j)) := by rw [hf]; exact hFB
          rw [← hf] at hsz HPR
          have hb89 := bl_trans HB8.out hb9
          have K9 := HK7.out.below hb89
          have b2 := K9.cell 2
          have e0 := cell_below hb89 HE0.out
          have e1 := cell_below hb89 HE1.out
          have hpart := hFB.fl.part (a := a) (b := b) (by omega) hbD
          rw [part_range f D a b (by omega) hbD, add_row] at hpart
          obtain ⟨j, hpk, hj, hat⟩ := pk_lmin f a (b - a) (by omega)
          obtain ⟨pr, hpr⟩ : ∃ r, r = lmin f a (b - a) := ⟨_, rfl⟩
          rw [← hpr] at hat HPR
          have hfew : FewD 16 (((List.range' a (b - a)).map f).map dq) := dq_few (fun q hq => by
            obtain ⟨y, _, rfl⟩ := List.mem_map.1 hq
            exact hsz y)
          have hDa : ¬ D = a := by omega
          have hD3 : (0 : Int) ≤ (a : Int) := by omega
          have q3 : (a : Int) ≤ (b : Int) := by omega
          have q4 : (b : Int) ≤ (D : Int) := by omega
          have HPA := Lib.hid hpart
          have HFEW := Lib.hid hfew
          have HPK := Lib.hid hpk
          have HAT := Lib.hid hat
          have HB89 := Lib.hid hb89
          clear hpart hfew hpk hat hb89 hb9 hFB hf hpr hsz K9 hgb
          go_wp2_with fail
          go_quiet (fail)
          go_wp2_with fail
          have hlen : (((List.range' a (b - a)).map f).map dq).length = b - a := by simp
          refine (least_calls _ _ (((List.range' a (b - a)).map f).map dq) (HPA.out.below (bl_drewN _ _)) (by rw [hlen]; omega) HFEW.out).mono ?_
          rintro e w10 ⟨rfl, hb10⟩
          rw [dq_fqd, hlen, HPK.out]
          have hb10 : Below w9.heap.size w9 w10 := bl_trans (bl_drewN _ _) hb10
          have hp10 := HPA.out.below hb10
          obtain ⟨ad', cb', C1, e1', C2, e2', hv, _, _, m0, m1, m2, hfl⟩ := hp10.atq HAT.out
          have hq : (((List.range' a (b - a)).map f)).length = b - a := by simp
          rw [hq] at hv
          obtain ⟨rfl, rfl⟩ : ⟨gb, a * 3, none⟩ = ad' ∧ D - a = cb' := by simpa using hv
          rw [addO] at m0 m1 m2
          have hB7x := bl_trans HB89.out hb10
          have hF10 := HF7.out.below hB7x
          obtain ⟨x0, t0, _⟩ := hF10.there (j := m * 3) (by omega)
          obtain ⟨x1, t1, _⟩ := hF10.there (j := m * 3 + 1) (by omega)
          obtain ⟨x2, t2, _⟩ := hF10.there (j := m * 3 + 2) (by omega)
          have ff := hF10.free
          have hst := FB.set (d := dq pr) hF10 hx hfl
          have HF11 := Lib.hid hst.1
          have HR11 := Lib.hid hst.2
          have HB10 := Lib.hid (bl_trans HB7.out hB7x)
          have q5 : (j : Int) < (b : Int) - (a : Int) := by omega
          have q6 : (j : Int) < ((b - a : Nat) : Int) := by omega
          clear hv hfl hF10 hst hb10 hp10 hB7x hq hlen e0 e1 b2
          go_wp2
          refine ⟨⟨m + 1, by omega, by go_num, HF11.out.congr (fun i hi => ?_), Below.trans HB10.out (HR11.out.below HB10.out.size (fun y hy => by have e : y = w1.heap.size := hy; omega))⟩, by simp [intOf]; omega⟩
          by_cases e : i = m
          · rw [e, upd_at, if_pos (by omega), HPR.out]
          · rw [upd_ne e, upd_ne e]
            by_cases e2 : i < m
            · rw [if_pos e2, if_pos (by omega)]
            · rw [if_neg e2, if_neg (by omega)]
      · obtain rfl : m = L.length := by omega
        have q1 : ¬ (L.length : Int) < (L.length : Int) := by omega
        clear hF hb tb
        go_wp2
        go_ret2
        refine ⟨bl_trans HB1.out HB.out, .inr ⟨HR0.out, w1.heap.size, by simp, by omega, ?_⟩⟩
        have h := HFO.out
        simp only [Int.toNat_natCast]
        exact h.congr (fun j hj => by rw [if_pos hj])

/-- What the loop of Without holds on to. -/
structure WI (w0 : World) (days each : Int) (ad : Addr) (c i : Nat) (L : List VD) (m : Nat) (wr : World) : Prop where
  box : Blk wr w0.heap.size 24 #[.int .i64 days, .int .i64 each, .slice (some ad) L.length c]
  ret : Blk wr (w0.heap.size + 1) 24 #[.int .i64 0, .int .i64 0, .slice none 0 0]
  out : ∃ v, Blk wr (w0.heap.size + 2) 24 #[.int .i64 days, .int .i64 each, v] ∧ OV wr (w0.heap.size + 3) v ((L.take m).eraseIdx i)
  bel : Below w0.heap.size w0 wr
  siz : w0.heap.size + 3 ≤ wr.heap.size
theorem erase_snoc {L : List VD} {m : Nat} {x : VD} (hx : L[m]? = some x) (i : Nat) : (L.take (m + 1)).eraseIdx i = if m = i then (L.take m).eraseIdx i else (L.take m).eraseIdx i ++ [x] := by
  have hm := (List.getElem?_eq_some_iff.1 hx).1
  have hl : (L.take m).length = m := by rw [List.length_take]; omega
  have ht : L.take (m + 1) = L.take m ++ [x] := by rw [List.take_add_one, hx]; rfl
  rw [ht]
  by_cases e : m = i
  · rw [if_pos e, List.eraseIdx_append_of_length_le (by omega), List.eraseIdx_of_length_le (l := L.take m) (by omega), hl, show i - m = 0 by omega]
    simp
  · rw [if_neg e]
    by_cases e2 : i < m
    · rw [List.eraseIdx_append_of_lt_length (by omega)]
    · rw [List.eraseIdx_of_length_le (by simp; omega), List.eraseIdx_of_length_le (by omega)]
set_option maxRecDepth 100000 in
set_option maxHeartbeats 4000000 in
theorem rwithout_calls (w : World) (days each : Int) (ad : Addr) (c i : Nat) (L : List VD) (h : VL w (.slice (some ad) L.length c) L) (hi : i < L.length) (hL : L.length ≤ 4096) :
    Calls Try.prog 88 #[.agg #[.int .i64 days, .int .i64 each, .slice (some ad) L.length c], .int .i64 (i : Int)] w fun e w' => ∃ A' c', e = .returned (.agg #[.int .i64 days, .int .i64 each, .slice A' (L.eraseIdx i).length c']) ∧ VL w' (.slice A' (L.eraseIdx i).length c') (L.eraseIdx i) ∧ Below w.heap.size w w' := by
  have hcc := h.bounds
  have HV0 := Lib.hid h
  have KB := Blk.new w 24 #[.int .i64 days, .int .i64 each, .slice (some ad) L.length c]
  have k0 := KB.cell 0
  have k1 := KB.cell 1
  have k2 := KB.cell 2
  have hst : WI w days each ad c i L 0 (((w.alloc (.cells #[.int .i64 days, .int .i64 each, .slice (some ad) L.length c] 24)).alloc (.cells #[.int .i64 0, .int .i64 0, .slice none 0 0] 24)).alloc (.cells #[.int .i64 days, .int .i64 each, .slice none 0 0] 24)) := by
    have al1 := below_alloc0 w (.cells #[.int .i64 days, .int .i64 each, .slice (some ad) L.length c] 24)
    have al2 := below_alloc0 (w.alloc (.cells #[.int .i64 days, .int .i64 each, .slice (some ad) L.length c] 24)) (.cells #[.int .i64 0, .int .i64 0, .slice none 0 0] 24)
    have al3 := below_alloc0 ((w.alloc (.cells #[.int .i64 days, .int .i64 each, .slice (some ad) L.length c] 24)).alloc (.cells #[.int .i64 0, .int .i64 0, .slice none 0 0] 24)) (.cells #[.int .i64 days, .int .i64 each, .slice none 0 0] 24)
    have K2 := Blk.new (w.alloc (.cells #[.int .i64 days, .int .i64 each, .slice (some ad) L.length c] 24)) 24 #[.int .i64 0, .int .i64 0, .slice none 0 0]
    have K3 := Blk.new ((w.alloc (.cells #[.int .i64 days, .int .i64 each, .slice (some ad) L.length c] 24)).alloc (.cells #[.int .i64 0, .int .i64 0, .slice none 0 0] 24)) 24 #[.int .i64 days, .int .i64 each, .slice none 0 0]
    have e1 : (w.alloc (.cells #[.int .i64 days, .int .i64 each, .slice (some ad) L.length c] 24)).heap.size = w.heap.size + 1 := by simp
    have e2 : ((w.alloc (.cells #[.int .i64 days, .int .i64 each, .slice (some ad) L.length c] 24)).alloc (.cells #[.int .i64 0, .int .i64 0, .slice none 0 0] 24)).heap.size = w.heap.size + 2 := by simp
    rw [e1] at K2
    rw [e2] at K3
    exact ⟨(KB.below al2).below al3, K2.below al3, ⟨_, K3, by simpa using OV.nil _ _⟩, bl_trans (bl_trans al1 al2) al3, by simp⟩
  have HST := Lib.hid hst
  clear h KB hst
  go_enter Try.func88, Try.ntmps88
  go_wp2
  rw [show w.heap.size + 1 + 1 = w.heap.size + 2 from rfl]
  clear k0 k1 k2
  go_loopw [6] (fun iv wr => ∃ m : Nat, m ≤ L.length ∧ iv = .int .i64 (m : Int) ∧ WI w days each ad c i L m wr) (fun iv _ => L.length - (intOf iv).toNat)
  case atStart => exact ⟨0, by omega, rfl, HST.out⟩
  case round =>
    clear HST
    obtain ⟨m, hm, rfl, hW⟩ := hrel
    have HW := Lib.hid hW
    obtain ⟨v, kv, hO⟩ := hW.out
    have hv := HV0.out.below hW.bel
    have b2 := hW.box.cell 2
    have k2 : wr.cell? ⟨w.heap.size + 2, 2, none⟩ = some v := kv.cell 2
    by_cases hx : m < L.length
    · have q1 : (m : Int) < (L.length : Int) := by omega
      obtain ⟨x, hx1⟩ : ∃ x, L[m]? = some x := ⟨_, List.getElem?_eq_getElem hx⟩
      have hsn := erase_snoc hx1 i
      by_cases hmi : m = i
      · have q2 : ((m : Int) != (i : Int)) = false := by rw [hmi]; simp
        rw [if_pos hmi] at hsn
        have HSN := Lib.hid hsn
        have HO := Lib.hid hO
        have HKV := Lib.hid kv
        clear hsn hx1 hv hO kv hW hmi
        go_wp2
        exact ⟨⟨m + 1, by omega, by go_num, HW.out.box, HW.out.ret, ⟨v, HKV.out, by rw [HSN.out]; exact HO.out⟩, HW.out.bel, HW.out.siz⟩, by simp [intOf]; omega⟩
      · have q2 : ((m : Int) != (i : Int)) = true := bne_iff_ne.2 (by omega)
        rw [if_neg hmi] at hsn
        obtain ⟨ad', A1, a1, A2, a2, had, E0, E1, E2, E3, E4, hfx⟩ := HV0.out.at hx1
        obtain rfl := Option.some.inj had
        have e0 := cell_below hW.bel E0
        have e1 := cell_below hW.bel E1
        have e2 := cell_below hW.bel E2
        have e3 := cell_below hW.bel E3
        have e4 := cell_below hW.bel E4
        have hfx := hfx.below hW.bel
        have bd := bl_drew wr
        have al := below_alloc0 wr.drew (.cells #[.int .i64 x.1, .int .i64 x.2.1, .bool x.2.2.1, .slice A1 x.2.2.2.1.length a1, .slice A2 x.2.2.2.2.length a2] 40)
        have bda := bl_trans bd al
        have KX := Blk.new wr.drew 40 #[.int .i64 x.1, .int .i64 x.2.1, .bool x.2.2.1, .slice A1 x.2.2.2.1.length a1, .slice A2 x.2.2.2.2.length a2]
        have hle : ((L.take m).eraseIdx i).length ≤ 1000000 := by
          have h1 := (List.eraseIdx_sublist (L.take m) i).length_le
          rw [List.length_take] at h1
          omega
        have hszr := hW.siz
        obtain ⟨v8, w8, hrun, hO8, hf8, hob8⟩ := OV.push (hO.below bda) (by have := al.size; have : wr.drew.heap.size = wr.heap.size := rfl; omega) KX (hfx.below bda) hle
        rw [← hsn] at hO8
        have hnb : ∀ g, v.ownBlock = some g → w.heap.size + 3 ≤ g := fun g hg => hO.block hg
        have hb8 : Below w.heap.size w w8 := (bl_trans hW.bel bda).trans (hf8.below (bl_trans hW.bel bda).size (fun y hy => by have := hnb y hy; omega))
        have kbox := hf8.blk (hW.box.below bda) (fun e => by have := hnb _ e; omega)
        have kret := hf8.blk (hW.ret.below bda) (fun e => by have := hnb _ e; omega)
        have kout := hf8.blk (kv.below bda) (fun e => by have := hnb _ e; omega)
        obtain ⟨Av, cv, hve, _, _⟩ := hO.shape
        obtain ⟨Av8, cv8, hve8, _, _⟩ := hO8.shape
        have e0d := cell_below bd e0
        have hS0 : (fun (w' : World) => w'.cell? ⟨w.heap.size, 2, none⟩ = some (.slice (some ad) L.length c) ∧ w'.cell? ⟨w.heap.size + 2, 2, none⟩ = some v ∧ w'.cell? (ad.add (m * 5)) = some (.int .i64 x.1) ∧ w'.cell? ⟨(ad.add (m * 5)).block, (ad.add (m * 5)).off + 1, none⟩ = some (.int .i64 x.2.1) ∧ w'.cell? ⟨(ad.add (m * 5)).block, (ad.add (m * 5)).off + 2, none⟩ = some (.bool x.2.2.1) ∧ w'.cell? ⟨(ad.add (m * 5)).block, (ad.add (m * 5)).off + 3, none⟩ = some (.slice A1 x.2.2.2.1.length a1) ∧ w'.cell? ⟨(ad.add (m * 5)).block, (ad.add (m * 5)).off + 4, none⟩ = some (.slice A2 x.2.2.2.2.length a2)) wr.drew := ⟨cell_below bd b2, cell_below bd k2, cell_below bd e0, cell_below bd e1, cell_below bd e2, cell_below bd e3, cell_below bd e4⟩
        have hSA : (fun (w' : World) => w'.cell? ⟨w.heap.size, 2, none⟩ = some (.slice (some ad) L.length c) ∧ w'.cell? ⟨w.heap.size + 2, 2, none⟩ = some v ∧ w'.cell? (ad.add (m * 5)) = some (.int .i64 x.1) ∧ w'.cell? ⟨(ad.add (m * 5)).block, (ad.add (m * 5)).off + 1, none⟩ = some (.int .i64 x.2.1) ∧ w'.cell? ⟨(ad.add (m * 5)).block, (ad.add (m * 5)).off + 2, none⟩ = some (.bool x.2.2.1) ∧ w'.cell? ⟨(ad.add (m * 5)).block, (ad.add (m * 5)).off + 3, none⟩ = some (.slice A1 x.2.2.2.1.length a1) ∧ w'.cell? ⟨(ad.add (m * 5)).block, (ad.add (m * 5)).off + 4, none⟩ = some (.slice A2 x.2.2.2.2.length a2)) (wr.drew.alloc (.cells #[.int .i64 x.1, .int .i64 x.2.1, .bool x.2.2.1, .slice A1 x.2.2.2.1.length a1, .slice A2 x.2.2.2.2.length a2] 40)) := ⟨cell_below bda b2, cell_below bda k2, cell_below bda e0, cell_below bda e1, cell_below bda e2, cell_below bda e3, cell_below bda e4⟩
        have hSB : (fun (w' : World) => w'.cell? ⟨w.heap.size, 2, none⟩ = some (.slice (some ad) L.length c) ∧ w'.cell? ⟨w.heap.size + 2, 2, none⟩ = some v ∧ w'.cell? (ad.add (m * 5)) = some (.int .i64 x.1) ∧ w'.cell? ⟨(ad.add (m * 5)).block, (ad.add (m * 5)).off + 1, none⟩ = some (.int .i64 x.2.1) ∧ w'.cell? ⟨(ad.add (m * 5)).block, (ad.add (m * 5)).off + 2, none⟩ = some (.bool x.2.2.1) ∧ w'.cell? ⟨(ad.add (m * 5)).block, (ad.add (m * 5)).off + 3, none⟩ = some (.slice A1 x.2.2.2.1.length a1) ∧ w'.cell? ⟨(ad.add (m * 5)).block, (ad.add (m * 5)).off + 4, none⟩ = some (.slice A2 x.2.2.2.2.length a2)) w8 := ⟨kbox.cell 2, kout.cell 2, cell_below hb8 E0, cell_below hb8 E1, cell_below hb8 E2, cell_below hb8 E3, cell_below hb8 E4⟩
        have hF9 : Fr (fun y => y = w.heap.size + 2) w8 (w8.setCell ⟨w.heap.size + 2, 2, none⟩ v8) := Fr.set (kout.cell 2) (by rw [hve]; exact slne _ _ _) v8
        have HEND : Hid (WI w days each ad c i L (m + 1) (w8.setCell ⟨w.heap.size + 2, 2, none⟩ v8)) := Lib.hid ⟨hF9.blk kbox (fun e => by have e' : w.heap.size = w.heap.size + 2 := e; omega), hF9.blk kret (fun e => by have e' : w.heap.size + 1 = w.heap.size + 2 := e; omega), ⟨v8, kout.set 2 v8, hO8.fr hF9 (fun g hg e => by have e' : g = w.heap.size + 2 := e; have := hO8.block hg; omega)⟩, hb8.trans (hF9.below hb8.size (fun y hy => by have e : y = w.heap.size + 2 := hy; omega)), by have := hf8.size; have := al.size; have : wr.drew.heap.size = wr.heap.size := rfl; simp; omega⟩
        have kf := kout.free 2
        subst hve
        subst hve8
        clear bd al bda KX hle hO8 hf8 hob8 hnb hb8 kbox kret hF9 hsn hx1 hfx E0 E1 E2 E3 E4 e0 e1 e2 e3 e4 e0d hv hO kv hW hszr
        go_upto_region 6 with fail
        refine wp_region_T (fun (w' : World) => w'.cell? ⟨w.heap.size, 2, none⟩ = some (.slice (some ad) L.length c) ∧ w'.cell? ⟨w.heap.size + 2, 2, none⟩ = some (.slice Av ((L.take m).eraseIdx i).length cv) ∧ w'.cell? (ad.add (m * 5)) = some (.int .i64 x.1) ∧ w'.cell? ⟨(ad.add (m * 5)).block, (ad.add (m * 5)).off + 1, none⟩ = some (.int .i64 x.2.1) ∧ w'.cell? ⟨(ad.add (m * 5)).block, (ad.add (m * 5)).off + 2, none⟩ = some (.bool x.2.2.1) ∧ w'.cell? ⟨(ad.add (m * 5)).block, (ad.add (m * 5)).off + 3, none⟩ = some (.slice A1 x.2.2.2.1.length a1) ∧ w'.cell? ⟨(ad.add (m * 5)).block, (ad.add (m * 5)).off + 4, none⟩ = some (.slice A2 x.2.2.2.2.length a2)) 10 (by kernel_rfl) ?_
        have hS : (fun (w' : World) => w'.cell? ⟨w.heap.size, 2, none⟩ = some (.slice (some ad) L.length c) ∧ w'.cell? ⟨w.heap.size + 2, 2, none⟩ = some (.slice Av ((L.take m).eraseIdx i).length cv) ∧ w'.cell? (ad.add (m * 5)) = some (.int .i64 x.1) ∧ w'.cell? ⟨(ad.add (m * 5)).block, (ad.add (m * 5)).off + 1, none⟩ = some (.int .i64 x.2.1) ∧ w'.cell? ⟨(ad.add (m * 5)).block, (ad.add (m * 5)).off + 2, none⟩ = some (.bool x.2.2.1) ∧ w'.cell? ⟨(ad.add (m * 5)).block, (ad.add (m * 5)).off + 3, none⟩ = some (.slice A1 x.2.2.2.1.length a1) ∧ w'.cell? ⟨(ad.add (m * 5)).block, (ad.add (m * 5)).off + 4, none⟩ = some (.slice A2 x.2.2.2.2.length a2)) _ := hS0
        simp only [List.size_toArray, List.length_cons, List.length_nil, Nat.reduceAdd]
        refine wpAnyT_take 0 (some 22) (v := ?vr1_0) rfl rfl (by kernel_rfl) (by kernel_rfl) (by kernel_rfl) (by kernel_rfl) (fun _ _ _ h => h) rfl ?hyr1_0 hS ?restr1_0
        case hyr1_0 => (intro w hSw; (try dsimp only at hSw); go_simp; (try with_reducible rfl))
        (try simp only [Act.put, List.setIfInBounds_toArray, List.set_cons_zero, List.set_cons_succ])
        refine wpAnyT_take 1 (some 23) (v := ?vr1_1) rfl rfl (by kernel_rfl) (by kernel_rfl) (by kernel_rfl) (by kernel_rfl) (fun _ _ _ h => h) rfl ?hyr1_1 hS ?restr1_1
        case hyr1_1 => (intro w hSw; (try dsimp only at hSw); go_simp; (try with_reducible rfl))
        (try simp only [Act.put, List.setIfInBounds_toArray, List.set_cons_zero, List.set_cons_succ])
        refine wpAnyT_take 2 (some 24) (v := ?vr1_2) rfl rfl (by kernel_rfl) (by kernel_rfl) (by kernel_rfl) (by kernel_rfl) (fun _ _ _ h => h) rfl ?hyr1_2 hS ?restr1_2
        case hyr1_2 => (intro w hSw; (try dsimp only at hSw); go_simp; (try with_reducible rfl))
        (try simp only [Act.put, List.setIfInBounds_toArray, List.set_cons_zero, List.set_cons_succ])
        refine wpAnyT_take 3 (some 25) (v := ?vr1_3) rfl rfl (by kernel_rfl) (by kernel_rfl) (by kernel_rfl) (by kernel_rfl) (fun _ _ _ h => h) rfl ?hyr1_3 hS ?restr1_3
        case hyr1_3 => (intro w hSw; (try dsimp only at hSw); go_simp; (try with_reducible rfl))
        (try simp only [Act.put, List.setIfInBounds_toArray, List.set_cons_zero, List.set_cons_succ])
        refine wpAnyT_take 4 (some 26) (v := ?vr1_4) rfl rfl (by kernel_rfl) (by kernel_rfl) (by kernel_rfl) (by kernel_rfl) (fun _ _ _ h => h) rfl ?hyr1_4 hS ?restr1_4
        case hyr1_4 => (intro w hSw; (try dsimp only at hSw); go_simp; (try with_reducible rfl))
        (try simp only [Act.put, List.setIfInBounds_toArray, List.set_cons_zero, List.set_cons_succ])
        refine wpAnyT_take 5 (some 27) (v := ?vr1_5) rfl rfl (by kernel_rfl) (by kernel_rfl) (by kernel_rfl) (by kernel_rfl) (fun _ _ _ h => h) rfl ?hyr1_5 hS ?restr1_5
        case hyr1_5 => (intro w hSw; (try dsimp only at hSw); go_simp; (try with_reducible rfl))
        (try simp only [Act.put, List.setIfInBounds_toArray, List.set_cons_zero, List.set_cons_succ])
        refine wpAnyT_take 6 (some 28) (v := ?vr1_6) rfl rfl (by kernel_rfl) (by kernel_rfl) (by kernel_rfl) (by kernel_rfl) (fun _ _ _ h => h) rfl ?hyr1_6 hS ?restr1_6
        case hyr1_6 => (intro w hSw; (try dsimp only at hSw); go_simp; (try with_reducible rfl))
        (try simp only [Act.put, List.setIfInBounds_toArray, List.set_cons_zero, List.set_cons_succ])
        refine wpAnyT_one (i := 7) rfl (by kernel_rfl) rfl (fun K hK => ?_)
        simp only [List.getElem_toArray, List.getElem_cons_succ, List.getElem_cons_zero]
        go_simp
        refine hK.out _ _ (fun _ => hSA) ?_
        clear hS K hK
        have hS := hSA
        (try simp only [Act.put, List.setIfInBounds_toArray, List.set_cons_zero, List.set_cons_succ])
        refine wpAnyT_one (i := 8) rfl (by kernel_rfl) rfl (fun K hK => ?_)
        simp only [List.getElem_toArray, List.getElem_cons_succ, List.getElem_cons_zero]
        refine wp_append_run _ (.tmp 23) (.tmp 29) 22 _ _ rfl rfl rfl ⟨_, _, hrun, ?_⟩
        refine hK.out _ _ (fun _ => hSB) ?_
        clear hS K hK
        have hS := hSB
        (try simp only [Act.put, List.setIfInBounds_toArray, List.set_cons_zero, List.set_cons_succ])
        refine wpAnyT_take 9 (some 31) (v := ?vr1_9) rfl rfl (by kernel_rfl) (by kernel_rfl) (by kernel_rfl) (by kernel_rfl) (fun _ _ _ h => h) rfl ?hyr1_9 hS ?restr1_9
        case hyr1_9 => (intro w hSw; (try dsimp only at hSw); go_simp; (try with_reducible rfl))
        (try simp only [Act.put, List.setIfInBounds_toArray, List.set_cons_zero, List.set_cons_succ])
        refine wpAnyT_one (i := 10) rfl (by kernel_rfl) rfl (fun K hK => ?_)
        simp only [List.getElem_toArray, List.getElem_cons_succ, List.getElem_cons_zero]
        go_simp
        refine hK.out _ _ (fun h => absurd rfl h) ?_
        refine wpAnyT_done (by kernel_rfl) ?_ _
        clear hK K hS hSA hSB hS0 hrun
        go_wp2
        exact ⟨⟨m + 1, by omega, by go_num, HEND.out⟩, by simp [intOf]; omega⟩
    · obtain rfl : m = L.length := by omega
      have q1 : ¬ (L.length : Int) < (L.length : Int) := by omega
      have hl : (L.take L.length).eraseIdx i = L.eraseIdx i := by rw [List.take_length]
      rw [hl] at hO
      have r0 := hW.ret.cell 0
      have r1 := hW.ret.cell 1
      have r2 := hW.ret.cell 2
      have rf := hW.ret.free
      have v0 := kv.cell 0
      have v1 := kv.cell 1
      obtain ⟨Av, cv, rfl, _, _⟩ := hO.shape
      have HO := Lib.hid hO
      clear hW kv hO hv hl
      go_wp2
      have F2 := (FTide.fr HW.out.ret (intne _) (intne _) (slne _ _ _) (.int .i64 days) (.int .i64 each) (.slice Av (L.eraseIdx i).length cv))
      refine bodyPost_ret (results_cell_row rfl _ _ (w.heap.size + 1) 24 _ (0, 0) _ rfl (blk3 HW.out.ret _ _ _) Try.underlying24 rfl (by kernel_rfl)) rfl ⟨Av, cv, rfl, ?_, ?_⟩
      · exact (HO.out.fr F2 (fun g hg e => by have e' : g = w.heap.size + 1 := e; have := HO.out.block hg; omega)).vl
      · exact HW.out.bel.trans (F2.below HW.out.bel.size (fun y hy => by have e : y = w.heap.size + 1 := hy; omega))

theorem barL_erase (K D : Nat) {L : List VD} {i : Nat} (hi : i < L.length) : barL K D (L.eraseIdx i) D = (List.range D).map (((tdOf L).wo i).bars K D) := by
  unfold barL
  rw [tdOf_erase hi]
  rfl
theorem lmin_szq {n : Nat} {f : Nat → Rat} (h : ∀ j, Szq n (f j)) (a : Nat) : ∀ m, Szq n (lmin f a m) := by
  intro m
  induction m with
  | zero => exact h a
  | succ m ih =>
    show Szq n (if f (a + m) < lmin f a m then f (a + m) else lmin f a m)
    split
    · exact h _
    · exact ih
set_option maxRecDepth 100000 in
set_option maxHeartbeats 16000000 in
theorem rprice_calls (w : World) (D K : Nat) (ad : Addr) (c i : Nat) (L : List VD) (h : VL w (.slice (some ad) L.length c) L) (hf : FewV 2000 L) (hD12 : D ≤ 12) (hK4 : K ≤ 4) (hK1 : 1 ≤ K) (hL12 : L.length ≤ 12) (hi : i < L.length) {x : VD} (hx : L[i]? = some x) (hgood : badV (D : Int) x = false) :
    Calls Try.prog 53 #[.agg #[.int .i64 (D : Int), .int .i64 (K : Int), .slice (some ad) L.length c], .int .i64 (i : Int)] w fun e w' => ∃ v, e = .returned v ∧ FrV w' v ((tdOf L).price K D i) ∧ Below w.heap.size w w' := by
  have HV := Lib.hid h
  have hcc := h.bounds
  have HF := Lib.hid hf
  have HW := Lib.hid h.wd
  have al := below_alloc0 w (.cells #[.int .i64 (D : Int), .int .i64 (K : Int), .slice (some ad) L.length c] 24)
  have al2 := below_alloc0 (w.alloc (.cells #[.int .i64 (D : Int), .int .i64 (K : Int), .slice (some ad) L.length c] 24)) (.cells #[.bool false, .slice none 0 0, .slice none 0 0] 38)
  have KB := (Blk.new w 24 #[.int .i64 (D : Int), .int .i64 (K : Int), .slice (some ad) L.length c]).below al2
  have KR := Blk.new (w.alloc (.cells #[.int .i64 (D : Int), .int .i64 (K : Int), .slice (some ad) L.length c] 24)) 38 #[.bool false, .slice none 0 0, .slice none 0 0]
  have e1 : (w.alloc (.cells #[.int .i64 (D : Int), .int .i64 (K : Int), .slice (some ad) L.length c] 24)).heap.size = w.heap.size + 1 := by simp
  rw [e1] at KR
  have k0 := KB.cell 0
  have k1 := KB.cell 1
  have k2 := KB.cell 2
  have HB2 := Lib.hid (bl_trans al al2)
  have HKB := Lib.hid KB
  have HKR := Lib.hid KR
  have hgd := bad_no hgood
  obtain ⟨a, ha⟩ : ∃ a : Nat, x.1 = (a : Int) + 1 := ⟨x.1.toNat - 1, by omega⟩
  obtain ⟨b, hbE⟩ : ∃ b : Nat, x.2.1 = (b : Int) := ⟨x.2.1.toNat, by omega⟩
  have hpr : (tdOf L).price K D i = lmin (((tdOf L).wo i).bars K D) a (b - a) := by
    unfold Td.price
    rw [(tdOf_at hx).1, (tdOf_at hx).2.1, ha, hbE, show ((a : Int) + 1).toNat - 1 = a by omega, show (b : Int).toNat + 1 - ((a : Int) + 1).toNat = b - a by omega]
  rw [ha, hbE] at hgd
  obtain ⟨ad', A1, a1, A2, a2, had, E0, E1, E2, E3, E4, hfx⟩ := h.at hx
  obtain rfl := Option.some.inj had
  rw [ha] at E0
  rw [hbE] at E1
  have hab : a < b := by omega
  have hbD : b ≤ D := by omega
  have hsz : ∀ j, Szq 2000 (((tdOf L).wo i).bars K D j) := fun j => bar_szq (by omega) hK1 (fun r hr => fqd_szq2 HF.out HW.out (List.getElem?_eq_getElem (l := L) (i := sk i r) ((sk_bound hi).2 hr)))
  have hrl := barL_erase K D hi
  obtain ⟨f, hfe⟩ : ∃ f, f = ((tdOf L).wo i).bars K D := ⟨_, rfl⟩
  rw [← hfe] at hsz hpr hrl
  have HPR := Lib.hid hpr
  have HSZ := Lib.hid hsz
  have HRL := Lib.hid hrl
  have HE0 := Lib.hid E0
  have HE1 := Lib.hid E1
  have HE2 := Lib.hid E2
  have HE3 := Lib.hid E3
  have HE4 := Lib.hid E4
  have HX := Lib.hid hx
  clear h hf al al2 KB KR e1 hgood hgd ha hbE hpr had E0 E1 E2 E3 E4 hfx hsz hrl hfe hx
  go_enter Try.func53, Try.ntmps53
  go_wp2_with fail
  refine (rwithout_calls _ _ _ ad c i L (HV.out.below HB2.out) hi (by omega)).mono ?_
  rintro e w3 ⟨A8, c8, rfl, hv8, hb8⟩
  have HV8 := Lib.hid hv8
  have hle : (L.eraseIdx i).length ≤ 12 := by have := (List.eraseIdx_sublist L i).length_le; omega
  have HB8 := Lib.hid (bl_trans HB2.out hb8)
  have HK8 := Lib.hid (HKB.out.below hb8)
  have HR8 := Lib.hid (HKR.out.below hb8)
  clear hv8 hb8 k0 k1 k2
  go_wp2_with fail
  refine (rbars_calls _ D K A8 c8 (L.eraseIdx i) HV8.out (FewV.erase HF.out i) hD12 hK4 hle).mono ?_
  rintro e w4 ⟨vl, rfl, hO, hb9⟩
  rw [HRL.out] at hO
  have HOF := Lib.hid hO
  have hlt : ∀ y, vl.ownBlock = some y → y < w4.heap.size := fun y hy => by
    obtain ⟨ds, hd⟩ := hO.typ hy
    exact (Array.getElem?_eq_some_iff.1 hd).1
  have HLT := Lib.hid hlt
  have hO := hO.fl
  obtain ⟨Al, cl, rfl⟩ := hO.shape
  rw [List.length_map, List.length_map, List.length_range] at hO HOF HLT ⊢
  have hb4 := bl_trans HB8.out hb9
  have b2 := (HK8.out.below hb9).cell 2
  have e0 := cell_below hb4 HE0.out
  have e1 := cell_below hb4 HE1.out
  have e2 := cell_below hb4 HE2.out
  have e3 := cell_below hb4 HE3.out
  have e4 := cell_below hb4 HE4.out
  have HO := Lib.hid hO
  have HB4 := Lib.hid hb4
  have HR4 := Lib.hid (HR8.out.below hb9)
  have q1 : (i : Int) < (L.length : Int) := by omega
  clear hO hb4 hb9 hlt
  go_upto_region 3 with fail
  have al5 := below_alloc0 w4 (.cells #[.int .i64 ((a : Int) + 1), .int .i64 (b : Int), .bool x.2.2.1, .slice A1 x.2.2.2.1.length a1, .slice A2 x.2.2.2.2.length a2] 40)
  have K5 := Blk.new w4 40 #[.int .i64 ((a : Int) + 1), .int .i64 (b : Int), .bool x.2.2.1, .slice A1 x.2.2.2.1.length a1, .slice A2 x.2.2.2.2.length a2]
  obtain ⟨w5, hw5⟩ : ∃ W, W = w4.alloc (.cells #[.int .i64 ((a : Int) + 1), .int .i64 (b : Int), .bool x.2.2.1, .slice A1 x.2.2.2.1.length a1, .slice A2 x.2.2.2.2.length a2] 40) := ⟨_, rfl⟩
  have hs5 : w5.heap.size = w4.heap.size + 1 := by rw [hw5]; simp
  rw [← hw5] at al5 K5 ⊢
  have hat : ∀ k, k < D → ((List.range D).map f)[k]? = some (f k) := fun k hk => by rw [List.getElem?_map, List.getElem?_range hk]; rfl
  have HAT := Lib.hid hat
  obtain ⟨adl, cl', C1, c1, C2, c2, hvl, _, _, m0, m1, m2, hfa⟩ := (HO.out.below al5).atq (hat a (by omega))
  rw [List.length_map, List.length_range] at hvl
  obtain ⟨rfl, rfl⟩ : Al = some adl ∧ cl = cl' := by simpa using hvl
  have HO5 := Lib.hid (HO.out.below al5)
  have HB5 := Lib.hid (bl_trans HB4.out al5)
  have HR5 := Lib.hid (HR4.out.below al5)
  have HK5 := Lib.hid K5
  have v0 := K5.cell 0
  have v1 := K5.cell 1
  have q2 : (a : Int) < (D : Int) := by omega
  obtain ⟨q0, hq0⟩ : ∃ q, q = f a := ⟨_, rfl⟩
  rw [← hq0] at m0 m1 m2 hfa
  have HFA := Lib.hid hfa
  have HQ0 := Lib.hid hq0
  clear K5 hw5 hat hvl hfa hq0 b2 e0 e1 e2 e3 e4
  go_upto_region 4 with fail
  have al6 := below_alloc0 w5 (.cells #[.bool (decide (q0.num < 0)), .slice C1 (dg q0.num.natAbs).length c1, .slice C2 (dg q0.den).length c2] 38)
  have K6 := Blk.new w5 38 #[.bool (decide (q0.num < 0)), .slice C1 (dg q0.num.natAbs).length c1, .slice C2 (dg q0.den).length c2]
  obtain ⟨w6, hw6⟩ : ∃ W, W = w5.alloc (.cells #[.bool (decide (q0.num < 0)), .slice C1 (dg q0.num.natAbs).length c1, .slice C2 (dg q0.den).length c2] 38) := ⟨_, rfl⟩
  rw [← hw6] at al6 K6 ⊢
  have HFB := Lib.hid (show FBox w6 w5.heap.size (f a) from by rw [← HQ0.out]; exact ⟨_, _, _, _, K6, FrV.below HFA.out al6⟩)
  have HO6 := Lib.hid ((HOF.out.below al5).below al6)
  have HB6 := Lib.hid (bl_trans HB5.out al6)
  have HR6 := Lib.hid (HR5.out.below al6)
  have HK6 := Lib.hid (HK5.out.below al6)
  have v0 := HK6.out.cell 0
  have v1 := HK6.out.cell 1
  rw [hs5] at HFB
  obtain ⟨gl, hgl⟩ : ∃ g, g = w4.heap.size + 1 := ⟨_, rfl⟩
  rw [← hgl] at HFB
  have HGL := Lib.hid hgl
  clear hgl al5 al6 K6 hw6 m0 m1 m2
  go_wp2_with fail
  rw [← HGL.out]
  go_loopw [8] (fun iv wy => ∃ k : Nat, a ≤ k ∧ k ≤ b ∧ iv = .int .i64 ((k : Int) + 1) ∧ FBox wy gl (lmin f a (k - a)) ∧ Fr (fun y => y = gl) w6 wy) (fun iv _ => b + 1 - (intOf iv).toNat)
  case atStart => exact ⟨a, by omega, by omega, rfl, by rw [show a - a = 0 by omega]; exact HFB.out, Fr.refl _ _⟩
  case round =>
    clear v0 v1
    obtain ⟨k, hka, hkb, rfl, hFB, hfr⟩ := hrel
    obtain ⟨G1, g1, G2, g2, KS, hsr⟩ := hFB
    have KV := hfr.blk HK6.out (fun e => by have e' : w4.heap.size = gl := e; have := HGL.out; omega)
    have v0 := KV.cell 0
    have v1 := KV.cell 1
    have HFR := Lib.hid hfr
    have HKV := Lib.hid KV
    have HKS := Lib.hid KS
    obtain ⟨lq, hlq⟩ : ∃ q, q = lmin f a (k - a) := ⟨_, rfl⟩
    rw [← hlq] at KS hsr HKS
    have HSR := Lib.hid hsr
    have HLQ := Lib.hid hlq
    by_cases hx : k < b
    · have q3 : (k : Int) + 1 ≤ (b : Int) := by omega
      have hOr := HO6.out.fr hfr (fun y hy e => by have e' : y = gl := e; have := HLT.out y hy; have := HGL.out; omega)
      obtain ⟨adl', cl', C1, c1, C2, c2, hvl, _, _, m0, m1, m2, hfa⟩ := hOr.fl.atq (HAT.out k (by omega))
      rw [List.length_map, List.length_range] at hvl
      obtain ⟨rfl, rfl⟩ : adl = adl' ∧ cl = cl' := by simpa using hvl
      obtain ⟨qk, hqk⟩ : ∃ q, q = f k := ⟨_, rfl⟩
      rw [← hqk] at m0 m1 m2 hfa
      have HQK := Lib.hid hqk
      have HFK := Lib.hid hfa
      have hsk : Short qk := by rw [hqk]; exact (HSZ.out k).short (by omega)
      have hsl : Short lq := by rw [hlq]; exact (lmin_szq HSZ.out a _).short (by omega)
      have q4 : (k : Int) < (D : Int) := by omega
      have q5 : IntKind.i64.wrap (k : Int) = (k : Int) := IntWalk.i64_in _ (by omega)
      have q6 : (0 : Int) ≤ (k : Int) := by omega
      have hs := holdff_next (bl_drew wr) ⟨(⟨Below.refl _ _, FrV.q hfa hsk, FrV.q hsr hsl⟩ : HoldFF wr _ _ qk lq wr), ⟨m0, m1, m2⟩, ⟨KS.cell 0, KS.cell 1, KS.cell 2⟩⟩
      have HS := Lib.hid hs
      have hnx : lmin f a (k + 1 - a) = if qk < lq then qk else lq := by
        rw [show k + 1 - a = (k - a) + 1 by omega, hqk, hlq]
        show (if f (a + (k - a)) < _ then f (a + (k - a)) else _) = _
        rw [show a + (k - a) = k by omega]
      have HNX := Lib.hid hnx
      obtain ⟨p, hp0⟩ : ∃ p, p = rcmp qk lq := ⟨_, rfl⟩
      have HP := Lib.hid hp0
      have hcmp : (p < 0) ↔ qk < lq := by rw [hp0]; unfold rcmp; grind
      have HCMP := Lib.hid hcmp
      have M0 := Lib.hid m0
      have M1 := Lib.hid m1
      have M2 := Lib.hid m2
      clear hfr KV KS hsr hlq hvl hqk hfa hsk hsl hnx hp0 hcmp hOr v0 v1 m0 m1 m2
      have v0 := HKV.out.cell 0
      have v1 := HKV.out.cell 1
      go_upto_region 7 with fail
      go_cut [39] (fun t39 wx => t39 = .bool (decide (p < 0)) ∧ Below wr.heap.size wr wx)
      case first =>
        have hs := HS.out
        clear v0 v1
        go_wp2_with fail
        go_region_held3 (fun (w' : World) => HoldFF wr (.agg #[.bool (decide (qk.num < 0)), .slice C1 (dg qk.num.natAbs).length c1, .slice C2 (dg qk.den).length c2]) (.agg #[.bool (decide (lq.num < 0)), .slice G1 (dg lq.num.natAbs).length g1, .slice G2 (dg lq.den).length g2]) qk lq w' ∧ (w'.cell? (adl.add (k * 3)) = some (.bool (decide (qk.num < 0))) ∧ w'.cell? ⟨(adl.add (k * 3)).block, (adl.add (k * 3)).off + 1, none⟩ = some (.slice C1 (dg qk.num.natAbs).length c1) ∧ w'.cell? ⟨(adl.add (k * 3)).block, (adl.add (k * 3)).off + 2, none⟩ = some (.slice C2 (dg qk.den).length c2)) ∧ (w'.cell? ⟨gl, 0, none⟩ = some (.bool (decide (lq.num < 0))) ∧ w'.cell? ⟨gl, 1, none⟩ = some (.slice G1 (dg lq.num.natAbs).length g1) ∧ w'.cell? ⟨gl, 2, none⟩ = some (.slice G2 (dg lq.den).length g2)))
          ((first | exact hs | exact holdff_next hbN (by assumption)))
          (first
            | (go_at_call 23; (with_reducible refine (rcmpq _ _ _ qk lq ?_ ?_).mono ?_); (exact HoldFF.t1 (And.left (by assumption))); (exact HoldFF.t2 (And.left (by assumption))); (rintro e w' ⟨rfl, hbN⟩); (rw [← HP.out]); (have H1 := HoldFF.next hbN (And.left (by assumption)))))
        go_wp2
        all_goals go_meet
        case rel => exact ⟨rfl, H1.1⟩
      case rest =>
        obtain ⟨rfl, hbc⟩ := hcut
        have HBC := Lib.hid hbc
        have HFC := Lib.hid (HFR.out.trans (Fr.of_below hbc))
        have KC := HKS.out.below hbc
        have HKC := Lib.hid KC
        clear v0 v1
        by_cases hp : p < 0
        · have g3 : decide (p < 0) = true := decide_eq_true hp
          have HN := Lib.hid (HNX.out.trans (if_pos (HCMP.out.1 hp)))
          have m0 := cell_below hbc M0.out
          have m1 := cell_below hbc M1.out
          have m2 := cell_below hbc M2.out
          have k0 := KC.cell 0
          have k1 := KC.cell 1
          have k2 := KC.cell 2
          have kf := KC.free
          have HFK' := Lib.hid (FrV.below HFK.out hbc)
          clear hbc KC
          go_wp2
          exact ⟨⟨k + 1, by omega, by omega, by go_num, by rw [HN.out]; exact FBox.set HKC.out (boolne _) (slne _ _ _) (slne _ _ _) HFK'.out, HFC.out.trans (FBox.fr HKC.out (boolne _) (slne _ _ _) (slne _ _ _) _ _ _)⟩, by simp [intOf]; omega⟩
        · have g3 : decide (p < 0) = false := decide_eq_false hp
          have HN := Lib.hid (HNX.out.trans (if_neg (fun h => hp (HCMP.out.2 h))))
          have HSC := Lib.hid (FrV.below HSR.out hbc)
          clear hbc KC
          go_wp2
          exact ⟨⟨k + 1, by omega, by omega, by go_num, by rw [HN.out]; exact ⟨G1, g1, G2, g2, HKC.out, HSC.out⟩, HFC.out⟩, by simp [intOf]; omega⟩
    · obtain rfl : k = b := by omega
      have q3 : ¬ (k : Int) + 1 ≤ (k : Int) := by omega
      have R1 := hfr.blk HR6.out (fun e => by have e' : w.heap.size + 1 = gl := e; have := HGL.out; have h1 := HB4.out.size; have h2 := HR4.out.lt; omega)
      have k0 := KS.cell 0
      have k1 := KS.cell 1
      have k2 := KS.cell 2
      have r0 := R1.cell 0
      have r1 := R1.cell 1
      have r2 := R1.cell 2
      have rf := R1.free
      have HRR := Lib.hid R1
      have h1 := HB4.out.size
      have HBW := Lib.hid (HB6.out.trans (hfr.below HB6.out.size (fun y hy => by have e : y = gl := hy; have := HGL.out; omega)))
      clear hfr KV KS hsr hlq R1
      go_wp2
      have F2 := FBox.fr HRR.out (boolne _) (slne _ _ _) (slne _ _ _) (.bool (decide (lq.num < 0))) (.slice G1 (dg lq.num.natAbs).length g1) (.slice G2 (dg lq.den).length g2)
      refine bodyPost_ret (results_cell_row rfl _ _ (w.heap.size + 1) 38 _ (0, 0) _ rfl (blk3 HRR.out _ _ _) Try.underlying38 rfl (by kernel_rfl)) rfl ⟨_, rfl, ?_, ?_⟩
      · rw [HPR.out, ← HLQ.out]
        exact F2.keep.fr HSR.out
      · exact HBW.out.trans (F2.below HBW.out.size (fun y hy => by have e : y = w.heap.size + 1 := hy; omega))

/-- The payments of the first agents. -/
def payL (K D : Nat) (L : List VD) (m : Nat) : List Rat := (List.range m).map (fun j => (tdOf L).pay K D j)
theorem payL_snoc (K D : Nat) (L : List VD) (m : Nat) : payL K D L (m + 1) = payL K D L m ++ [(tdOf L).pay K D m] := by
  unfold payL; rw [List.range_succ, List.map_append]; rfl
/-- What the reference's Pays tells. -/
def PaysP (days each : Int) (L : List VD) (w : World) (e : Ending) (w' : World) : Prop := Below w.heap.size w w' ∧
  ((rightN days each L ≠ 0 ∧ e = .returned (.tuple #[.slice none 0 0, .int .i64 (rightN days each L)])) ∨
   (rightN days each L = 0 ∧ ∃ v, e = .returned (.tuple #[v, .int .i64 0]) ∧ OF w' w.heap.size v ((payL each.toNat days.toNat L L.length).map dq)))
set_option maxRecDepth 100000 in
set_option maxHeartbeats 4000000 in
theorem rpays_calls (w : World) (days each : Int) (A : Option Addr) (c : Nat) (L : List VD) (h : VL w (.slice A L.length c) L) (hf : FewV 2000 L) :
    Calls Try.prog 15 #[.agg #[.int .i64 days, .int .i64 each, .slice A L.length c]] w (PaysP days each L w) := by
  have HV := Lib.hid h
  have hcc := h.bounds
  have HF := Lib.hid hf
  have al := below_alloc0 w (.cells #[.int .i64 days, .int .i64 each, .slice A L.length c] 24)
  have KB := Blk.new w 24 #[.int .i64 days, .int .i64 each, .slice A L.length c]
  have k0 := KB.cell 0
  have k1 := KB.cell 1
  have k2 := KB.cell 2
  have HAL := Lib.hid al
  have HK := Lib.hid KB
  clear h hf al KB
  obtain ⟨r, hr⟩ : ∃ r, r = rightN days each L := ⟨_, rfl⟩
  have HR := Lib.hid hr
  by_cases hr0 : r = 0
  · obtain ⟨z1, z2, z3⟩ := rightN_zero (hr.symm.trans hr0)
    obtain ⟨D, hD⟩ : ∃ D : Nat, days = (D : Int) := ⟨days.toNat, by omega⟩
    obtain ⟨K, hKe⟩ : ∃ K : Nat, each = (K : Int) := ⟨each.toNat, by omega⟩
    subst hD
    subst hKe
    have hD12 : D ≤ 12 := by omega
    have hK4 : K ≤ 4 := by omega
    have hK1 : 1 ≤ K := by omega
    have hL12 : L.length ≤ 12 := by omega
    have HR0 := Lib.hid hr0
    have HZ3 := Lib.hid z3
    clear z1 z2 z3 hr hr0
    go_enter Try.func15, Try.ntmps15
    go_wp2_with fail
    refine (rtright_calls _ _ _ A c L (HV.out.below HAL.out)).mono ?_
    rintro e w1 ⟨rfl, hb1⟩
    rw [← HR.out, HR0.out]
    have K1 := HK.out.below hb1
    have k0 := K1.cell 0
    have k1 := K1.cell 1
    have k2 := K1.cell 2
    have HB1 := Lib.hid (bl_trans HAL.out hb1)
    have HK1 := Lib.hid K1
    clear hb1 K1
    go_wp2_with fail
    refine (rsold_calls _ D K A c L (HV.out.below HB1.out) HF.out hD12 hK4 hL12).mono ?_
    rintro e w2 ⟨g, rfl, hg, hT, hb2⟩
    have hsz := HB1.out.size
    have HT := Lib.hid hT
    have HB2 := Lib.hid (bl_trans HB1.out hb2)
    have HK2 := Lib.hid (HK1.out.below hb2)
    have hsz2 := hb2.size
    clear hT hb2 hg k0 k1 k2
    go_wp2
    go_loopw [7, 6] (fun iv v wx => ∃ m : Nat, m ≤ L.length ∧ iv = .int .i64 (m : Int) ∧ OF wx w2.heap.size v ((payL K D L m).map dq) ∧ Below w2.heap.size w2 wx)
      (fun iv _ _ => L.length - (intOf iv).toNat)
    case atStart => exact ⟨0, by omega, rfl, OF.nil _ _, Below.refl _ _⟩
    case round =>
      obtain ⟨m, hm, rfl, hO, hb⟩ := hrel
      have HO := Lib.hid hO
      have HB := Lib.hid hb
      by_cases hx : m < L.length
      · obtain ⟨x, hx1⟩ : ∃ x, L[m]? = some x := ⟨_, List.getElem?_eq_getElem hx⟩
        have q1 : (m : Int) < (L.length : Int) := by omega
        have tb := HT.out.fr (Fr.of_below (S := fun _ => False) hb) (fun h => h)
        have s0 := tb.cell hx
        have kb := HK2.out.below hb
        have b0 := kb.cell 0
        have b1 := kb.cell 1
        have b2 := kb.cell 2
        obtain ⟨sm, hsm⟩ : ∃ s, s = (tdOf L).sold K D m := ⟨_, rfl⟩
        have HSM := Lib.hid hsm
        rw [← hsm] at s0
        have hbl : (payL K D L m).length ≤ 1000000 := by simp [payL]; omega
        have HN := Lib.hid (payL_snoc K D L m)
        have HX := Lib.hid hx1
        clear hO hb tb hsm kb hx1
        by_cases hs : sm = 0
        · have g1 : ((sm : Int) == 0) = true := by rw [hs]; rfl
          have HP := Lib.hid (show (tdOf L).pay K D m = 0 from if_pos (by rw [← HSM.out]; exact hs))
          clear hs b0 b1 b2
          go_wp2_with fail
          refine (rint_calls _ 0 (by omega) (by omega)).mono ?_
          rintro e w6 ⟨v6, rfl, hv6, hb6⟩
          obtain ⟨q, hq⟩ : ∃ q : Rat, q = 0 := ⟨_, rfl⟩
          have hv6 : FrV w6 v6 q := by rw [hq]; exact hv6
          have HQ := Lib.hid hq
          obtain ⟨P1, p1, P2, p2, rfl, _, _, _, _⟩ := FrIn.shape hv6
          obtain ⟨v8, w8, hrun, hO8, hb8, _⟩ := push_fv (W0 := w2) (acc := payL K D L m) (HO.out.below hb6) (bl_trans HB.out hb6) hv6 hbl
          have HRUN := Lib.hid hrun
          have HO8 := Lib.hid hO8
          have HB8 := Lib.hid hb8
          clear hq hv6 hb6 hrun hO8 hb8
          go_wp2_with (first
            | (at_builtin; refine wpList_append_run _ rfl _ _ 31 rfl _ _ rfl rfl ⟨v8, w8, HRUN.out, ?_⟩)
            | go_in)
          exact ⟨⟨m + 1, by omega, by go_num, by rw [HN.out, HP.out, ← HQ.out]; exact HO8.out, HB8.out⟩, by simp [intOf]; omega⟩
        · have g1 : ((sm : Int) == 0) = false := beq_eq_false_iff_ne.2 hs
          have HP := Lib.hid (show (tdOf L).pay K D m = (tdOf L).price K D m from if_neg (by rw [← HSM.out]; exact hs))
          have HBw := Lib.hid (bl_trans HB2.out HB.out)
          obtain ⟨ad, A1, a1, A2, a2, rfl, _, _, _, _, _, _⟩ := (HV.out.below HBw.out).at HX.out
          clear hs
          go_wp2_with fail
          refine (rprice_calls _ D K ad c m L (HV.out.below HBw.out) HF.out hD12 hK4 hK1 hL12 hx HX.out (HZ3.out m x HX.out)).mono ?_
          rintro e w6 ⟨v6, rfl, hv6, hb6⟩
          obtain ⟨q, hq⟩ : ∃ q : Rat, q = (tdOf L).price K D m := ⟨_, rfl⟩
          have hv6 : FrV w6 v6 q := by rw [hq]; exact hv6
          have HQ := Lib.hid hq
          obtain ⟨P1, p1, P2, p2, rfl, _, _, _, _⟩ := FrIn.shape hv6
          obtain ⟨v8, w8, hrun, hO8, hb8, _⟩ := push_fv (W0 := w2) (acc := payL K D L m) (HO.out.below hb6) (bl_trans HB.out hb6) hv6 hbl
          have HRUN := Lib.hid hrun
          have HO8 := Lib.hid hO8
          have HB8 := Lib.hid hb8
          clear hq hv6 hb6 hrun hO8 hb8 b0 b1 b2 s0
          go_wp2_with (first
            | (at_builtin; refine wpList_append_run _ rfl _ _ 31 rfl _ _ rfl rfl ⟨v8, w8, HRUN.out, ?_⟩)
            | go_in)
          exact ⟨⟨m + 1, by omega, by go_num, by rw [HN.out, HP.out, ← HQ.out]; exact HO8.out, HB8.out⟩, by simp [intOf]; omega⟩
      · obtain rfl : m = L.length := by omega
        have q1 : ¬ (L.length : Int) < (L.length : Int) := by omega
        clear hO hb
        go_wp2
        go_ret2
        refine ⟨bl_trans HB2.out HB.out, .inr ⟨by rw [← HR.out]; exact HR0.out, _, rfl, ?_⟩⟩
        have h := HO.out.mono (Nat.le_trans hsz hsz2)
        simpa using h
  · have HRN := Lib.hid (show r ≠ 0 from hr0)
    have g0 : ((r : Int) != 0) = true := bne_iff_ne.2 hr0
    clear hr hr0
    go_enter Try.func15, Try.ntmps15
    go_wp2_with fail
    refine (rtright_calls _ _ _ A c L (HV.out.below HAL.out)).mono ?_
    rintro e w1 ⟨rfl, hb1⟩
    rw [← HR.out]
    have HB1 := Lib.hid (bl_trans HAL.out hb1)
    clear hb1
    go_wp2
    go_ret2
    exact ⟨HB1.out, .inl ⟨by rw [← HR.out]; exact HRN.out, by rw [← HR.out]; rfl⟩⟩
end Go.Proofs.Ytajckdheecgceaa
