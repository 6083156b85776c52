/- Tides: the program's Bars. -/
import Derived.Test.YtajckdheecgceaaTd13
set_option linter.unusedVariables false
set_option linter.unusedSimpArgs false
namespace Go.Proofs.Ytajckdheecgceaa
open Go.RowKit

/-- What those are worth that get one on a day, of the first m agents. -/
def Td.wl (T : Td) (st : Nat → Int) (d : Int) : Nat → List Rat
  | 0 => []
  | m + 1 => if st m = d then Td.wl T st d m ++ [T.q m] else Td.wl T st d m
theorem Td.wl_yes {T : Td} {st : Nat → Int} {d : Int} {m : Nat} (h : st m = d) : T.wl st d (m + 1) = T.wl st d m ++ [T.q m] := if_pos h
theorem Td.wl_no {T : Td} {st : Nat → Int} {d : Int} {m : Nat} (h : ¬ st m = d) : T.wl st d (m + 1) = T.wl st d m := if_neg h
theorem Td.wl_len (T : Td) (st : Nat → Int) (d : Int) : ∀ m, (T.wl st d m).length = cntD st d m := by
  intro m
  induction m with
  | zero => rfl
  | succ m ih =>
    show _ = cntD st d m + (if st m = d then 1 else 0)
    by_cases h : st m = d
    · rw [Td.wl_yes h, if_pos h, List.length_append, ih]; rfl
    · rw [Td.wl_no h, if_neg h, ih]; rfl
theorem Td.wl_mem {T : Td} {st : Nat → Int} {d : Int} {x : Rat} : ∀ m, x ∈ T.wl st d m ↔ ∃ j, j < m ∧ st j = d ∧ T.q j = x := by
  intro m
  induction m with
  | zero => simp [Td.wl]
  | succ m ih =>
    by_cases h : st m = d
    · rw [Td.wl_yes h, List.mem_append, ih, List.mem_singleton]
      constructor
      · rintro (⟨j, h1, h2⟩ | rfl)
        · exact ⟨j, by omega, h2⟩
        · exact ⟨m, by omega, h, rfl⟩
      · rintro ⟨j, h1, h2, h3⟩
        by_cases e : j = m
        · subst e; exact .inr h3.symm
        · exact .inl ⟨j, by omega, h2, h3⟩
    · rw [Td.wl_no h, ih]
      constructor
      · rintro ⟨j, h1, h2⟩; exact ⟨j, by omega, h2⟩
      · rintro ⟨j, h1, h2, h3⟩
        by_cases e : j = m
        · subst e; exact absurd h2 h
        · exact ⟨j, by omega, h2, h3⟩
/-- The first least one is one of them and no more than any. -/
theorem pk_least {qs : List Rat} : ∀ k, 0 < k → k ≤ qs.length → ∃ (j : Nat) (a : Rat), pk (-1) qs k = (j : Int) ∧ j < k ∧ qs[j]? = some a ∧ ∀ i b, i < k → qs[i]? = some b → a ≤ b := by
  intro k
  induction k with
  | zero => intro h; omega
  | succ k ih =>
    intro _ hk
    by_cases h0 : k = 0
    · subst h0
      refine ⟨0, qs[0], pk_one _ _, by omega, List.getElem?_eq_getElem (by omega), fun i b hi hb => ?_⟩
      obtain rfl : i = 0 := by omega
      rw [List.getElem?_eq_getElem (by omega)] at hb
      rw [Option.some.inj hb]; exact Rat.le_refl
    · obtain ⟨j, a, h1, h2, h3, h4⟩ := ih (by omega) (by omega)
      have hx : qs[k]? = some qs[k] := List.getElem?_eq_getElem (by omega)
      by_cases hr : rcmp qs[k] a = -1
      · have hlt : qs[k] < a := by unfold rcmp at hr; grind
        refine ⟨k, qs[k], pk_yes h1 hx h3 hr, by omega, hx, fun i b hi hb => ?_⟩
        by_cases e : i = k
        · subst e; rw [hx] at hb; rw [Option.some.inj hb]; exact Rat.le_refl
        · have := h4 i b (by omega) hb; grind
      · have hle : a ≤ qs[k] := by unfold rcmp at hr; grind
        refine ⟨j, a, pk_no h1 hx h3 hr, by omega, h3, fun i b hi hb => ?_⟩
        by_cases e : i = k
        · subst e; rw [hx] at hb; rw [← Option.some.inj hb]; exact hle
        · exact h4 i b (by omega) hb
theorem Td.wl_least {T : Td} {st : Nat → Int} {d : Int} {m : Nat} (h : 0 < cntD st d m) : ∃ j : Nat, pk (-1) (T.wl st d m) (T.wl st d m).length = (j : Int) ∧ j < (T.wl st d m).length ∧ (T.wl st d m)[j]? = some (T.lq st d m) := by
  obtain ⟨j, a, h1, h2, h3, h4⟩ := pk_least (qs := T.wl st d m) (T.wl st d m).length (by rw [Td.wl_len]; exact h) (Nat.le_refl _)
  refine ⟨j, h1, h2, ?_⟩
  rw [h3]
  congr 1
  obtain ⟨⟨j0, g1, g2, g3⟩, g4⟩ := Td.lq_spec (T := T) m h
  obtain ⟨j1, e1, e2, e3⟩ := (Td.wl_mem m).1 (List.mem_of_getElem? h3)
  have k1 := g4 j1 e1 e2
  have hm : T.lq st d m ∈ T.wl st d m := (Td.wl_mem m).2 ⟨j0, g1, g2, g3.symm⟩
  obtain ⟨i, hi, hie⟩ := List.mem_iff_getElem.1 hm
  have k2 := h4 i _ hi (List.getElem?_eq_getElem hi)
  rw [hie] at k2
  rw [e3] at k1
  exact Rat.le_antisymm k2 k1
theorem Td.sold_cnt {T : Td} {k D d : Nat} (h1 : 1 ≤ d) (h : d ≤ D) : cntD (T.sold k D) (d : Int) T.n ≤ k := by
  rw [cntD_congr T.n (fun j _ => Td.sold_day (T := T) (k := k) (j := j) h1 h)]
  obtain ⟨d, rfl⟩ : ∃ e, d = e + 1 := ⟨d - 1, by omega⟩
  exact (T.selln_cnt (d := ((d + 1 : Nat) : Int)) (st := T.sold k d) (by omega) (fun j _ => Td.sold_before j) k).1
theorem fqd_szq16 {L : List VD} {n : Nat} (hn : 1 ≤ n) (hf : FewV n L) (hw : ∀ d ∈ L, Wd d.2.2.2.1 ∧ Wd d.2.2.2.2) {i : Nat} {d : VD} (h : L[i]? = some d) : Szq n ((tdOf L).q i) := by
  rw [(tdOf_at h).2.2]
  have hm := List.mem_of_getElem? h
  exact szq_fix (hw d hm).1 (hw d hm).2 (hf d hm).1 (hf d hm).2 hn
theorem FewV.mono {m n : Nat} {L : List VD} (h : FewV m L) (hm : m ≤ n) : FewV n L := fun d hd => ⟨Nat.le_trans (h d hd).1 hm, Nat.le_trans (h d hd).2 hm⟩
theorem dq_few {n : Nat} {qs : List Rat} (h : ∀ q ∈ qs, Szq n q) : FewD n (qs.map dq) := by
  intro d hd
  obtain ⟨q, hq, rfl⟩ := List.mem_map.1 hd
  exact h q hq
theorem dq_fqd (qs : List Rat) : (qs.map dq).map fqd = qs := by
  rw [List.map_map]
  conv => rhs; rw [← List.map_id qs]
  exact List.map_congr_left (fun q _ => fixq_of q)
/-- What the program's Bars tells. -/
def BarsQ (days each : Int) (L : List VD) (w : World) (e : Ending) (w' : World) : Prop := Below w.heap.size w w' ∧
  ((rightN days each L ≠ 0 ∧ e = .returned (.tuple #[.slice none 0 0, .int .i64 (rightN days each L)])) ∨
   (rightN days each L = 0 ∧ ∃ g, e = .returned (.tuple #[.slice (some ⟨g, 0, none⟩) days.toNat days.toNat, .int .i64 0]) ∧ w.heap.size ≤ g ∧ FB w' g days.toNat days.toNat (fun j => dq ((tdOf L).bar each.toNat ((tdOf L).sold each.toNat days.toNat) ((j : Int) + 1)))))
set_option maxRecDepth 100000 in
set_option maxHeartbeats 16000000 in
theorem bars_calls (w : World) (days each : Int) (A : Option Addr) (c : Nat) (L : List VD) (h : VL w (.slice A L.length c) L) (hf : FewV 16 L) :
    Calls Try.prog 17 #[.agg #[.int .i64 days, .int .i64 each, .slice A L.length c]] w (BarsQ days each L w) := by
  have HV := Lib.hid h
  have hcc := h.bounds
  have HF := Lib.hid hf
  have HW := Lib.hid h.wd
  have al := below_alloc0 w (.cells #[.int .i64 days, .int .i64 each, .slice A L.length c] 24)
  have KB := Blk.new w 24 #[.int .i64 days, .int .i64 each, .slice A L.length c]
  have k0 := KB.cell 0
  have k1 := KB.cell 1
  have k2 := KB.cell 2
  have HAL := Lib.hid al
  have HK := Lib.hid KB
  clear h hf al KB
  obtain ⟨r, hr⟩ : ∃ r, r = rightN days each L := ⟨_, rfl⟩
  have HR := Lib.hid hr
  go_enter Try.func17, Try.ntmps17
  go_wp2_with fail
  refine (sell_calls _ days each A c L (HV.out.below HAL.out) (HF.out.mono (by omega))).mono ?_
  rintro e w1 ⟨hb1, ⟨hrn, rfl⟩ | ⟨hr0, g, rfl, hg, hT⟩⟩
  · have hrn : r ≠ 0 := by rw [hr]; exact hrn
    have HRN := Lib.hid hrn
    rw [← HR.out]
    have g0 : ((r : Int) != 0) = true := bne_iff_ne.2 hrn
    have HB1 := Lib.hid (bl_trans HAL.out hb1)
    clear hr hb1 hrn
    go_wp2
    go_ret2
    exact ⟨HB1.out, .inl ⟨by rw [← HR.out]; exact HRN.out, by rw [← HR.out]; rfl⟩⟩
  · obtain ⟨z1, z2, _⟩ := rightN_zero hr0
    obtain ⟨D, hD⟩ : ∃ D : Nat, days = (D : Int) := ⟨days.toNat, by omega⟩
    obtain ⟨K, hKe⟩ : ∃ K : Nat, each = (K : Int) := ⟨each.toNat, by omega⟩
    subst hD
    subst hKe
    have hD12 : D ≤ 12 := by omega
    have hK4 : K ≤ 4 := by omega
    have hK1 : 1 ≤ K := by omega
    have hL12 : L.length ≤ 12 := by omega
    have HR0 := Lib.hid hr0
    simp only [Int.toNat_natCast] at hT
    obtain ⟨st, hst⟩ : ∃ st, st = (tdOf L).sold K D := ⟨_, rfl⟩
    rw [← hst] at hT
    have HST := Lib.hid hst
    have hmk := mk_fracs D (by omega)
    have HT := Lib.hid hT
    have HK1 := Lib.hid (HK.out.below hb1)
    have kb := HK1.out
    have b0 := kb.cell 0
    have b1 := kb.cell 1
    have b2 := kb.cell 2
    have HB1 := Lib.hid (bl_trans HAL.out hb1)
    have HV1 := Lib.hid (HV.out.below HB1.out)
    have hsz1 := HB1.out.size
    have hltw : w.heap.size < w1.heap.size := HK1.out.lt
    have hltg : g < w1.heap.size := HT.out.lt
    have HFN := Lib.hid (FB.new w1 D (by omega))
    have HBN := Lib.hid (below_alloc0 w1 (.cells (madeCells #[.bool false, .slice none 0 0, .slice none 0 0] (D * 3)) 38))
    have hgw : w.heap.size < g := by simp at hg; omega
    clear z1 z2 hr hr0 hst hT hb1 hg k0 k1 k2 kb
    go_wp2
    go_loopw [24] (fun i wr => ∃ d : Nat, d ≤ D ∧ i = .int .i64 (d : Int) ∧ FB wr w1.heap.size D D (fun j => if j < d then dq ((tdOf L).bar K st ((j : Int) + 1)) else (false, [], [])) ∧ Below w1.heap.size w1 wr)
      (fun i _ => D - (intOf i).toNat)
    case atStart => exact ⟨0, by omega, rfl, HFN.out.congr (fun j _ => by simp), HBN.out⟩
    case round =>
      clear HFN HBN hmk b0 b1 b2
      obtain ⟨d, hd, rfl, hF, hb⟩ := hrel
      have HFO := Lib.hid hF
      have HB := Lib.hid hb
      have HKr := Lib.hid (HK1.out.below hb)
      have HTr := Lib.hid (HT.out.fr (Fr.of_below (S := fun _ => False) hb) (fun h => h))
      have HVr := Lib.hid (HV1.out.below hb)
      have kb := HKr.out
      have b0 := kb.cell 0
      have b1 := kb.cell 1
      have b2 := kb.cell 2
      by_cases hx : d < D
      · have q1 : (d : Int) < (D : Int) := by omega
        have hszr := hb.size
        obtain ⟨wa, rfl⟩ : ∃ x, x = wr := ⟨_, rfl⟩
        clear hF hb kb
        go_wp2
        go_loopw [29, 8] (fun i v wy => ∃ m : Nat, m ≤ L.length ∧ i = .int .i64 (m : Int) ∧ OF wy wa.heap.size v (((tdOf L).wl st ((d : Int) + 1) m).map dq) ∧ Below wa.heap.size wa wy)
          (fun i _ _ => L.length - (intOf i).toNat)
        case atStart => exact ⟨0, by omega, rfl, OF.nil _ _, Below.refl _ _⟩
        case round =>
          clear b0 b1 b2
          obtain ⟨m, hm, rfl, hO, hb⟩ := hrel
          have HBi := Lib.hid hb
          have kb := HKr.out.below hb
          have tb := HTr.out.fr (Fr.of_below (S := fun _ => False) hb) (fun h => h)
          have b1 := kb.cell 1
          have b2 := kb.cell 2
          have hcnt := (tdOf L).wl_len st ((d : Int) + 1) m
          have hcm := cnt_le (T := tdOf L) (st := st) (d := (d : Int) + 1) m
          obtain ⟨acc, hacc⟩ : ∃ acc, acc = (tdOf L).wl st ((d : Int) + 1) m := ⟨_, rfl⟩
          rw [← hacc] at hO hcnt
          have HACC := Lib.hid hacc
          have HO := Lib.hid hO
          by_cases hmx : m < L.length
          · obtain ⟨x, hx1⟩ : ∃ x, L[m]? = some x := ⟨_, List.getElem?_eq_getElem hmx⟩
            obtain ⟨ad, A1, a1, A2, a2, rfl, e0, e1, e2, e3, e4, hfx⟩ := (HVr.out.below hb).at hx1
            have few := HF.out x (List.mem_of_getElem? hx1)
            have tq := (tdOf_at hx1).2.2
            have hsq := fqd_szq16 (by omega) HF.out HW.out hx1
            rw [tq] at hsq
            have s0 := tb.cell hmx
            have q2 : (m : Int) < (L.length : Int) := by omega
            have HFX := Lib.hid hfx
            have HTQ := Lib.hid tq
            have HSQ := Lib.hid hsq
            have hal : acc.length ≤ 1000000 := by omega
            by_cases hdd : st m = (d : Int) + 1
            · have g1 : ((st m : Int) == (d : Int) + 1) = true := by rw [hdd]; simp
              have HN := Lib.hid ((Td.wl_yes (T := tdOf L) hdd).trans (by rw [← hacc, tq]) : (tdOf L).wl st ((d : Int) + 1) (m + 1) = acc ++ [fqd x.2.2])
              clear hx1 hfx tq hsq hacc hcnt hcm hdd hO hb kb tb
              go_wp2_with fail
              refine (frac_fix_calls _ _ x.2.2.1 x.2.2.2.1 x.2.2.2.2 HFX.out (by omega) (HSQ.out.short (by omega))).mono ?_
              rintro e w6 ⟨v6, rfl, hv6, hb6⟩
              obtain ⟨q, hq⟩ : ∃ q, q = fqd x.2.2 := ⟨_, rfl⟩
              have hv6 : FrV w6 v6 q := by rw [hq]; exact hv6
              have HQ := Lib.hid hq
              obtain ⟨P1, p1, P2, p2, rfl, _, _, _, _⟩ := FrIn.shape hv6
              obtain ⟨v8, w8, hrun, hO8, hb8, _⟩ := push_fv (W0 := wa) (acc := acc) (HO.out.below hb6) (bl_trans HBi.out hb6) hv6 hal
              have HRUN := Lib.hid hrun
              have HO8 := Lib.hid hO8
              have HB8 := Lib.hid hb8
              clear hq hv6 hb6 hrun hO8 hb8
              go_wp2_with (first
                | (at_builtin; refine wpList_append_run _ rfl _ _ 31 rfl _ _ rfl rfl ⟨v8, w8, HRUN.out, ?_⟩)
                | go_in)
              exact ⟨⟨m + 1, by omega, by go_num, by rw [HN.out, ← HQ.out]; exact HO8.out, HB8.out⟩, by simp [intOf]; omega⟩
            · have g1 : ((st m : Int) == (d : Int) + 1) = false := beq_eq_false_iff_ne.2 hdd
              have HN := Lib.hid ((Td.wl_no (T := tdOf L) hdd).trans hacc.symm)
              clear hx1 hfx tq hsq hacc hcnt hcm hdd hO hb kb tb
              go_wp2
              exact ⟨⟨m + 1, by omega, by go_num, by rw [HN.out]; exact HO.out, HBi.out⟩, by simp [intOf]; omega⟩
          · obtain rfl : m = L.length := by omega
            have q2 : ¬ (L.length : Int) < (L.length : Int) := by omega
            obtain ⟨B, cb, rfl, hcb, hcb2⟩ := hO.shape
            rw [List.length_map] at hcb HO ⊢
            have hcs := Td.sold_cnt (T := tdOf L) (k := K) (D := D) (d := d + 1) (by omega) hx
            rw [← HST.out, show ((d + 1 : Nat) : Int) = (d : Int) + 1 by omega] at hcs
            have hcs : cntD st ((d : Int) + 1) L.length ≤ K := hcs
            rw [← hcnt] at hcs
            have hacl : acc.length ≤ 12 := by omega
            have hbar : (tdOf L).bar K st ((d : Int) + 1) = if acc.length < K then 0 else (tdOf L).lq st ((d : Int) + 1) L.length := by
              rw [hcnt]; rfl
            have hfew : FewD 16 (acc.map dq) := dq_few (fun q hq => by
              rw [hacc] at hq
              obtain ⟨j, h1, _, h3⟩ := (Td.wl_mem _).1 hq
              rw [← h3]
              exact fqd_szq16 (by omega) HF.out HW.out (List.getElem?_eq_getElem h1))
            have hlst : acc.length = K → ∃ j : Nat, pk (-1) acc acc.length = (j : Int) ∧ j < acc.length ∧ acc[j]? = some ((tdOf L).lq st ((d : Int) + 1) L.length) := fun e => by
              rw [hacc]
              exact Td.wl_least (by rw [← hcnt]; omega)
            have HBAR := Lib.hid hbar
            have HFEW := Lib.hid hfew
            have HLST := Lib.hid hlst
            have HFi := Lib.hid (HFO.out.below hb)
            have HKi := Lib.hid kb
            clear hO hb kb tb hacc hcnt hcm hbar hfew hlst b1 b2
            go_wp2_with fail
            refine (zero_calls _).mono ?_
            rintro e w6 ⟨v6, rfl, hv6, hb6⟩
            obtain ⟨q, hq⟩ : ∃ q : Rat, q = 0 := ⟨_, rfl⟩
            have hv6 : FrV w6 v6 q := by rw [hq]; exact hv6
            have HQ := Lib.hid hq
            obtain ⟨P1, p1, P2, p2, rfl, _, _, _, _⟩ := FrIn.shape hv6
            have hF6 := HFi.out.below hb6
            obtain ⟨x0, t0, _⟩ := hF6.there (j := d * 3) (by omega)
            obtain ⟨x1, t1, _⟩ := hF6.there (j := d * 3 + 1) (by omega)
            obtain ⟨x2, t2, _⟩ := hF6.there (j := d * 3 + 2) (by omega)
            have ff := hF6.free
            have hst := FB.set (d := dq q) hF6 hx hv6
            have HF7 := Lib.hid hst.1
            have HR7 := Lib.hid hst.2
            have HO6 := Lib.hid (HO.out.below hb6)
            have HK6 := Lib.hid (HKi.out.below hb6)
            have HB6 := Lib.hid (bl_trans (bl_trans HB.out HBi.out) hb6)
            have hs6 := HBi.out.size
            clear hq hv6 hb6 hst hF6
            go_upto_region 16 with fail
            obtain ⟨w7, hw7⟩ : ∃ W, W = put3 w6 w1.heap.size d (.bool (dq q).1) (.slice P1 (dq q).2.1.length p1) (.slice P2 (dq q).2.2.length p2) := ⟨_, rfl⟩
            rw [← hw7] at HF7 HR7
            have hw8 : w7 = (((w6.setCell ⟨w1.heap.size, d * 3, none⟩ (.bool (decide (q.num < 0)))).setCell ⟨w1.heap.size, d * 3 + 1, none⟩ (.slice P1 (dg q.num.natAbs).length p1)).setCell ⟨w1.heap.size, d * 3 + 2, none⟩ (.slice P2 (dg q.den).length p2)) := hw7
            rw [← hw8]
            have HB7 := Lib.hid (Below.trans HB6.out (HR7.out.below HB6.out.size (fun y hy => by have e : y = w1.heap.size := hy; omega)))
            have HO7 := Lib.hid (HO6.out.fr HR7.out (fun y hy e => by have e' : y = w1.heap.size := e; have h1 := HO6.out.block hy; have h2 := HFO.out.lt; omega))
            have HK7 := Lib.hid (HR7.out.blk HK6.out (fun e => by have e' : w.heap.size = w1.heap.size := e; omega))
            have b1 := HK7.out.cell 1
            clear hw7 hw8 t0 t1 t2 ff
            by_cases hk : acc.length = K
            · have g1 : ((acc.length : Int) == (K : Int)) = true := by rw [hk]; simp
              obtain ⟨j, hpk, hjl, haj⟩ := HLST.out hk
              subst hk
              obtain ⟨lqv, hlq⟩ : ∃ x, x = (tdOf L).lq st ((d : Int) + 1) L.length := ⟨_, rfl⟩
              rw [← hlq] at haj
              have HZ := Lib.hid (HBAR.out.trans (if_neg (Nat.lt_irrefl _)))
              have HLQ := Lib.hid hlq
              have HPK := Lib.hid hpk
              have HAJ := Lib.hid haj
              clear hlq hpk haj b1
              have b1 := HK7.out.cell 1
              go_wp2_with fail
              refine (least_calls _ _ (acc.map dq) HO7.out.fl (by rw [List.length_map]; omega) HFEW.out).mono ?_
              rintro e w8 ⟨rfl, hb8⟩
              rw [dq_fqd, List.length_map, HPK.out]
              have hO8 := HO7.out.below hb8
              obtain ⟨ad, cb', C1, e1, C2, e2, hv, _, _, m0, m1, m2, hfl⟩ := hO8.fl.atq HAJ.out
              obtain ⟨rfl, rfl⟩ : B = some ad ∧ cb = cb' := by simpa using hv
              have hF8 := HF7.out.below hb8
              obtain ⟨x0, t0, _⟩ := hF8.there (j := d * 3) (by omega)
              obtain ⟨x1, t1, _⟩ := hF8.there (j := d * 3 + 1) (by omega)
              obtain ⟨x2, t2, _⟩ := hF8.there (j := d * 3 + 2) (by omega)
              have ff := hF8.free
              have hst := FB.set (d := dq lqv) hF8 hx hfl
              have HF9 := Lib.hid hst.1
              have HB8 := Lib.hid (bl_trans HB7.out hb8)
              have HR9 := Lib.hid hst.2
              have q5 : (j : Int) < (acc.length : Int) := by omega
              clear hO8 hv hfl hF8 hst hb8 b1
              go_wp2
              refine ⟨⟨d + 1, by omega, by go_num, HF9.out.congr (fun i hi => ?_), Below.trans HB8.out (HR9.out.below HB8.out.size (fun y hy => by have e : y = w1.heap.size := hy; omega))⟩, by simp [intOf]; omega⟩
              by_cases e : i = d
              · rw [e, upd_at, if_pos (by omega), HZ.out, HLQ.out]
              · rw [upd_ne e, upd_ne e]
                by_cases e2 : i < d
                · rw [if_pos e2, if_pos (by omega)]
                · rw [if_neg e2, if_neg (by omega)]
            · have g1 : ((acc.length : Int) == (K : Int)) = false := beq_eq_false_iff_ne.2 (by omega)
              have g2 : acc.length < K := by omega
              have HZ := Lib.hid (HBAR.out.trans (if_pos g2))
              go_wp2
              refine ⟨⟨d + 1, by omega, by go_num, HF7.out.congr (fun j hj => ?_), HB7.out⟩, by simp [intOf]; omega⟩
              by_cases e : j = d
              · rw [e, upd_at, if_pos (by omega), HZ.out, HQ.out]
              · rw [upd_ne e]
                by_cases e2 : j < d
                · rw [if_pos e2, if_pos (by omega)]
                · rw [if_neg e2, if_neg (by omega)]
      · obtain rfl : d = D := by omega
        have q1 : ¬ (d : Int) < (d : Int) := by omega
        clear hF hb kb
        go_wp2
        go_ret2
        refine ⟨bl_trans HB1.out HB.out, .inr ⟨HR0.out, w1.heap.size, by simp, by omega, ?_⟩⟩
        have h := HFO.out
        simp only [Int.toNat_natCast]
        rw [← HST.out]
        exact h.congr (fun j hj => by rw [if_pos hj])

/-- append of several values that are no words, to a row of one's own that has room. -/
theorem run_append_frm {P : Program} (w : World) (base : Nat) (t ty e : TypeId) (i : TypeInfo) (size : Nat) (ht : P.underlying t = some (.slice e)) (hi : P.info? e = some i) (hsize : i.size = size)
    (g n cap : Nat) (xs : List Value) (hown : w.ownsRow base e size (.slice (some ⟨g, 0, none⟩) n cap) n xs) (hno : NoW w (.slice (some ⟨g, 0, none⟩) n cap))
    (a : Addr) (m c : Nat) (news : List Value) (hl : news.length = m * size) (hnews : ∀ j u, news[j]? = some u → w.cell? (a.add j) = some u) (h1 : ∀ u ∈ news, u.oneCell' = true) (h1n : ∀ u ∈ news, ∀ n, u ≠ Value.int .u32 n)
    (hroom : n + m ≤ cap) :
    ∃ w', (Builtin.append_ #[t, t] ty #[.slice (some ⟨g, 0, none⟩) n cap, .slice (some a) m c]).run P w = .ok (.slice (some ⟨g, 0, none⟩) (n + m) cap) w' ∧ w'.ownsRow base e size (.slice (some ⟨g, 0, none⟩) (n + m) cap) (n + m) (xs ++ news) ∧ Fr (fun x => x = g) w w' ∧ NoW w' (.slice (some ⟨g, 0, none⟩) (n + m) cap) := by
  have hlen : (xs ++ news).length = (n + m) * size := by rw [List.length_append, hown.1, hl, Nat.add_mul]
  have hl1 : news.length = m * i.size := by rw [hl, hsize]
  rcases hown.2 with ⟨h, _⟩ | ⟨g', cap', cur, h, hbg, hg, hnc, hcm, hcs, htake⟩
  · simp at h
  · simp only [Value.slice.injEq, Option.some.injEq, Addr.mk.injEq, and_true, true_and] at h
    obtain ⟨rfl, rfl⟩ := h
    have hfit : n * i.size + news.length ≤ cur.size := by rw [hl, hcs, hsize, ← Nat.add_mul]; exact Nat.mul_le_mul_right _ hroom
    have hr := run_append_room (P := P) w t ty e i ht hi g n cap cur hg a m c news hl1 hnews h1 hroom hfit
    rw [hsize] at hr hfit
    obtain ⟨cur', e', hg', hcn⟩ := hno g rfl
    obtain ⟨rfl, rfl⟩ : cur = cur' ∧ e = e' := by
      rw [hg] at hg'
      simpa using hg'
    have hset := setRow_heap w g cur (cur.toList.take (n * size) ++ news ++ cur.toList.drop (n * size + news.length)).toArray e _ hg
    refine ⟨_, hr, ⟨hlen, .inr ⟨g, cap, _, rfl, hbg, hset, hroom, hcm, ?_, ?_⟩⟩, ⟨rfl, rfl, rfl, by simp, fun k _ hk => setRow_other w g k _ (fun e => hk e), ?_⟩, ?_⟩
    · simp only [List.size_toArray, List.length_append, List.length_take, List.length_drop, Array.length_toList]
      omega
    · show List.take _ (_ ++ news ++ _) = _
      rw [htake, ← hlen]
      exact List.take_left
    · intro v l hr
      obtain ⟨A, c', hv, hl, hc, hr⟩ := hr
      refine ⟨A, c', hv, hl, hc, fun h0 => ?_⟩
      obtain ⟨ad, ha, hcell⟩ := hr h0
      refine ⟨ad, ha, fun j hj => ?_⟩
      have hc0 := hcell j hj
      by_cases hb : (ad.add j).block = g
      · exfalso
        have : ∃ k : Nat, cur[k]? = some (Value.int .u32 (wat l j)) := by
          unfold World.cell? at hc0
          rw [hb, hg] at hc0
          simp only at hc0
          split at hc0
          · cases hc0
          · exact ⟨_, hc0⟩
        obtain ⟨k, hk⟩ := this
        exact hcn k _ hk _ rfl
      · rw [World.cell?_of_block (w := w) (setRow_other w g _ _ hb)]
        exact hc0
    · intro g2 hg2
      obtain rfl : g = g2 := by simpa [Value.ownBlock] using hg2
      refine ⟨_, _, hset, fun j x hx => ?_⟩
      have hx' := Array.mem_of_getElem? hx
      simp only [List.mem_toArray, List.mem_append] at hx'
      rcases hx' with (h | h) | h
      · obtain ⟨k, hk⟩ := List.mem_iff_getElem?.1 (List.mem_of_mem_take h)
        exact hcn k x (by simpa using hk)
      · exact h1n x h
      · obtain ⟨k, hk⟩ := List.mem_iff_getElem?.1 (List.mem_of_mem_drop h)
        exact hcn k x (by simpa using hk)
theorem info_visit : (Try.prog.info? 40).map (fun i => (i.zero, i.size, i.bytes)) = some (some (.agg #[.int .i64 0, .int .i64 0, .bool false, .slice none 0 0, .slice none 0 0]), 5, 72) := by kernel_rfl
/-- Visits as values. -/
def RowV (w : World) (L : List VD) (xs : List Value) : Prop := xs.length = L.length * 5 ∧ (∀ u ∈ xs, ∀ n, u ≠ Value.int .u32 n) ∧ ∀ (i : Nat) (d : VD), L[i]? = some d →
  ∃ A1 c1 A2 c2, xs[i * 5]? = some (.int .i64 d.1) ∧ xs[i * 5 + 1]? = some (.int .i64 d.2.1) ∧ xs[i * 5 + 2]? = some (.bool d.2.2.1) ∧ xs[i * 5 + 3]? = some (.slice A1 d.2.2.2.1.length c1) ∧ xs[i * 5 + 4]? = some (.slice A2 d.2.2.2.2.length c2) ∧ FrIn w (.agg #[.bool d.2.2.1, .slice A1 d.2.2.2.1.length c1, .slice A2 d.2.2.2.2.length c2]) d.2.2.1 d.2.2.2.1 d.2.2.2.2
theorem RowV.keep {w w' : World} {L : List VD} {xs : List Value} (h : RowV w L xs) (hk : KeepW w w') : RowV w' L xs := by
  obtain ⟨h1, h2, h3⟩ := h
  refine ⟨h1, h2, fun i d hd => ?_⟩
  obtain ⟨A1, c1, A2, c2, k0, k1, k2, k3, k4, hf⟩ := h3 i d hd
  exact ⟨A1, c1, A2, c2, k0, k1, k2, k3, k4, hk.fr hf⟩
theorem RowV.append {w : World} {L M : List VD} {xs ys : List Value} (h : RowV w L xs) (k : RowV w M ys) : RowV w (L ++ M) (xs ++ ys) := by
  obtain ⟨h1, h2, h3⟩ := h
  obtain ⟨k1, k2, k3⟩ := k
  refine ⟨by simp [h1, k1]; omega, fun u hu => ?_, fun i d hd => ?_⟩
  · rcases List.mem_append.1 hu with h | h
    · exact h2 u h
    · exact k2 u h
  · rcases Nat.lt_or_ge i L.length with hi | hi
    · rw [List.getElem?_append_left hi] at hd
      obtain ⟨A1, c1, A2, c2, e0, e1, e2, e3, e4, hf⟩ := h3 i d hd
      refine ⟨A1, c1, A2, c2, ?_, ?_, ?_, ?_, ?_, hf⟩ <;> rw [List.getElem?_append_left (by omega)] <;> assumption
    · rw [List.getElem?_append_right hi] at hd
      obtain ⟨A1, c1, A2, c2, e0, e1, e2, e3, e4, hf⟩ := k3 _ d hd
      have q : ∀ r, i * 5 + r - L.length * 5 = (i - L.length) * 5 + r := fun r => by omega
      refine ⟨A1, c1, A2, c2, ?_, ?_, ?_, ?_, ?_, hf⟩
      · rw [List.getElem?_append_right (by omega), h1]; have := q 0; simp only [Nat.add_zero] at this; rw [this]; exact e0
      · rw [List.getElem?_append_right (by omega), h1, q]; exact e1
      · rw [List.getElem?_append_right (by omega), h1, q]; exact e2
      · rw [List.getElem?_append_right (by omega), h1, q]; exact e3
      · rw [List.getElem?_append_right (by omega), h1, q]; exact e4
theorem five_cases {r : Nat} (h : r < 5) : r = 0 ∨ r = 1 ∨ r = 2 ∨ r = 3 ∨ r = 4 := by omega
theorem addN (a : Addr) (i r : Nat) (hr : 0 < r) : (⟨(a.add i).block, (a.add i).off + r, none⟩ : Addr) = a.add (i + r) := by
  unfold Addr.add
  rw [if_neg (by omega : ¬ i + r = 0)]
  split
  · rename_i h; rw [h, Nat.zero_add]
  · simp only [Nat.add_assoc]
/-- Visits that are handed in, as values. -/
theorem VL.row {w : World} {ad : Addr} {c n : Nat} {L : List VD} (h : VL w (.slice (some ad) n c) L) : ∃ xs, RowV w L xs ∧ (∀ j u, xs[j]? = some u → w.cell? (ad.add j) = some u) ∧ ∀ u ∈ xs, u.oneCell' = true := by
  obtain ⟨A', c', hv, h1, h2, h3⟩ := h
  obtain ⟨rfl, rfl, rfl⟩ : some ad = A' ∧ n = L.length ∧ c = c' := by simpa using hv
  have hat : ∀ (i : Nat) (d : VD), L[i]? = some d → ∃ A1 c1 A2 c2, w.cell? (ad.add (i * 5)) = some (.int .i64 d.1) ∧ w.cell? (ad.add (i * 5 + 1)) = some (.int .i64 d.2.1) ∧ w.cell? (ad.add (i * 5 + 2)) = some (.bool d.2.2.1) ∧ w.cell? (ad.add (i * 5 + 3)) = some (.slice A1 d.2.2.2.1.length c1) ∧ w.cell? (ad.add (i * 5 + 4)) = some (.slice A2 d.2.2.2.2.length c2) ∧
      FrIn w (.agg #[.bool d.2.2.1, .slice A1 d.2.2.2.1.length c1, .slice A2 d.2.2.2.2.length c2]) d.2.2.1 d.2.2.2.1 d.2.2.2.2 := by
    intro i d hd
    obtain ⟨ad', ha, hc⟩ := h3 (by have := (List.getElem?_eq_some_iff.1 hd).1; omega)
    obtain rfl := Option.some.inj ha
    obtain ⟨A1, c1, A2, c2, e0, e1, e2, e3, e4, hf⟩ := hc i d hd
    rw [addN _ _ _ (by omega)] at e1 e2 e3 e4
    exact ⟨A1, c1, A2, c2, e0, e1, e2, e3, e4, hf⟩
  obtain ⟨xs, hxs⟩ : ∃ xs, xs = (List.range (L.length * 5)).map (fun j => (w.cell? (ad.add j)).getD (.bool false)) := ⟨_, rfl⟩
  have hg : ∀ j, j < L.length * 5 → xs[j]? = some ((w.cell? (ad.add j)).getD (.bool false)) := fun j hj => by
    rw [hxs, List.getElem?_map, List.getElem?_range hj]; rfl
  have hlen : xs.length = L.length * 5 := by rw [hxs]; simp
  have hall : ∀ (j : Nat) (u : Value), xs[j]? = some u → w.cell? (ad.add j) = some u ∧ u.oneCell' = true ∧ ∀ n, u ≠ Value.int .u32 n := by
    intro j u hu
    have hj : j < L.length * 5 := by rw [← hlen]; exact (List.getElem?_eq_some_iff.1 hu).1
    rw [hg j hj] at hu
    have hi : j / 5 < L.length := by omega
    obtain ⟨A1, c1, A2, c2, e0, e1, e2, e3, e4, _⟩ := hat (j / 5) _ (List.getElem?_eq_getElem hi)
    have hr : j = j / 5 * 5 + j % 5 := by omega
    rcases five_cases (Nat.mod_lt j (by omega : 0 < 5)) with e | e | e | e | e <;> rw [e] at hr
    · rw [← show j = j / 5 * 5 by omega] at e0
      rw [e0] at hu ⊢
      obtain rfl := Option.some.inj hu
      exact ⟨rfl, rfl, fun n h => by cases h⟩
    · rw [← hr] at e1
      rw [e1] at hu ⊢
      obtain rfl := Option.some.inj hu
      exact ⟨rfl, rfl, fun n h => by cases h⟩
    · rw [← hr] at e2
      rw [e2] at hu ⊢
      obtain rfl := Option.some.inj hu
      exact ⟨rfl, rfl, fun n h => by cases h⟩
    · rw [← hr] at e3
      rw [e3] at hu ⊢
      obtain rfl := Option.some.inj hu
      exact ⟨rfl, rfl, fun n h => by cases h⟩
    · rw [← hr] at e4
      rw [e4] at hu ⊢
      obtain rfl := Option.some.inj hu
      exact ⟨rfl, rfl, fun n h => by cases h⟩
  refine ⟨xs, ⟨hlen, fun u hu => ?_, fun i d hd => ?_⟩, fun j u hu => (hall j u hu).1, fun u hu => ?_⟩
  · obtain ⟨j, hj⟩ := List.mem_iff_getElem?.1 hu
    exact (hall j u hj).2.2
  · have hi := (List.getElem?_eq_some_iff.1 hd).1
    obtain ⟨A1, c1, A2, c2, e0, e1, e2, e3, e4, hf⟩ := hat i d hd
    exact ⟨A1, c1, A2, c2, by rw [hg _ (by omega), e0]; rfl, by rw [hg _ (by omega), e1]; rfl, by rw [hg _ (by omega), e2]; rfl, by rw [hg _ (by omega), e3]; rfl, by rw [hg _ (by omega), e4]; rfl, hf⟩
  · obtain ⟨j, hj⟩ := List.mem_iff_getElem?.1 hu
    exact (hall j u hj).2.1
/-- Visits of one's own. -/
def OV (w : World) (B : Nat) (v : Value) (L : List VD) : Prop := ∃ xs, w.ownsRow B 40 5 v L.length xs ∧ NoW w v ∧ RowV w L xs
theorem OV.nil (w : World) (B : Nat) : OV w B (.slice none 0 0) [] := ⟨[], World.ownsRow_nil _ _ _ _, NoW.nil _, ⟨by simp, fun u hu => by simp at hu, fun i d hd => by simp at hd⟩⟩
theorem OV.fr {S : Nat → Prop} {w w1 : World} (k : Fr S w w1) {B : Nat} {v : Value} {L : List VD} (h : OV w B v L) (hs : ∀ g, v.ownBlock = some g → ¬ S g) : OV w1 B v L := by
  obtain ⟨xs, h1, h2, h3⟩ := h
  exact ⟨xs, k.own h1 hs, k.now h2 hs, h3.keep k.keep⟩
theorem OV.below {w w1 : World} {B : Nat} {v : Value} {L : List VD} (h : OV w B v L) (hb : Below w.heap.size w w1) : OV w1 B v L := h.fr (Fr.of_below (S := fun _ => False) hb) (fun _ _ h => h)
theorem OV.block {w : World} {B : Nat} {v : Value} {L : List VD} (h : OV w B v L) {g : Nat} (hg : v.ownBlock = some g) : B ≤ g := by
  obtain ⟨xs, h1, h2, h3⟩ := h
  rcases h1.2 with ⟨rfl, _⟩ | ⟨g', cap, cur, rfl, hb, _⟩
  · cases hg
  · obtain rfl : g' = g := by simpa [Value.ownBlock] using hg
    exact hb
theorem OV.shape {w : World} {B : Nat} {v : Value} {L : List VD} (h : OV w B v L) : ∃ A c, v = .slice A L.length c ∧ L.length ≤ c ∧ c ≤ 9223372036854775807 := by
  obtain ⟨xs, h1, h2, h3⟩ := h
  exact own_shp h1
theorem OV.vl {w : World} {B : Nat} {v : Value} {L : List VD} (h : OV w B v L) : VL w v L := by
  obtain ⟨xs, h1, h2, h3⟩ := h
  have hh := h1
  rcases h1.2 with ⟨rfl, h0⟩ | ⟨g, cap, cur, rfl, hb, hg, hn, hm, hcs, ht⟩
  · exact ⟨none, 0, by rw [h0], by omega, by omega, fun h => by omega⟩
  · refine ⟨_, cap, rfl, hn, by simp only [maxLen] at hm; omega, fun _ => ⟨_, rfl, fun i d hd => ?_⟩⟩
    obtain ⟨A1, c1, A2, c2, k0, k1, k2, k3, k4, hf⟩ := h3.2.2 i d hd
    have c0 := hh.cells (g := g) rfl _ _ k0
    have d1 := hh.cells (g := g) rfl _ _ k1
    have d2 := hh.cells (g := g) rfl _ _ k2
    have d3 := hh.cells (g := g) rfl _ _ k3
    have d4 := hh.cells (g := g) rfl _ _ k4
    rw [add_row] at c0 d1 d2 d3 d4 ⊢
    exact ⟨A1, c1, A2, c2, c0, d1, d2, d3, d4, hf⟩
/-- More visits behind those of one's own, where there is room. -/
theorem OV.more {W : World} {B g cap : Nat} {L M : List VD} {ad : Addr} {c : Nat} (h : OV W B (.slice (some ⟨g, 0, none⟩) L.length cap) L) (k : VL W (.slice (some ad) M.length c) M) (hc : L.length + M.length ≤ cap) :
    ∃ w', (Builtin.append_ #[22, 22] 22 #[.slice (some ⟨g, 0, none⟩) L.length cap, .slice (some ad) M.length c]).run Try.prog W = .ok (.slice (some ⟨g, 0, none⟩) (L.length + M.length) cap) w' ∧ OV w' B (.slice (some ⟨g, 0, none⟩) (L.length + M.length) cap) (L ++ M) ∧ Fr (fun x => x = g) W w' := by
  obtain ⟨xs, h1, h2, h3⟩ := h
  obtain ⟨ys, k1, k2, k3⟩ := k.row
  obtain ⟨i0, hi, hz0, hz1, hz2⟩ := info_parts info_visit
  obtain ⟨w', hrun, ho, hfr, hn⟩ := run_append_frm (P := Try.prog) W B 22 22 40 i0 5 Try.underlying22 hi hz1 g L.length cap xs h1 h2 ad M.length c ys k1.1 k2 k3 k1.2.1 hc
  exact ⟨w', hrun, ⟨_, by rw [List.length_append]; exact ho, hn, (h3.keep hfr.keep).append (k1.keep hfr.keep)⟩, hfr⟩
theorem blk5_cells {w : World} {g t : Nat} {x0 x1 x2 x3 x4 : Value} (K : Blk w g t #[x0, x1, x2, x3, x4]) : ∀ (j : Nat) (u : Value), [x0, x1, x2, x3, x4][j]? = some u → w.cell? ((⟨g, 0, none⟩ : Addr).add j) = some u := by
  intro j u hu
  rw [add_row]
  have h5 : j < 5 ∨ 5 ≤ j := by omega
  rcases h5 with h | h
  · rcases five_cases h with rfl | rfl | rfl | rfl | rfl <;> rw [← hu]
    · exact K.cell 0
    · exact K.cell 1
    · exact K.cell 2
    · exact K.cell 3
    · exact K.cell 4
  · rw [List.getElem?_eq_none (by simpa using h)] at hu; cases hu
/-- One more visit behind those of one's own. -/
theorem OV.push {W : World} {B : Nat} {v : Value} {L : List VD} (h : OV W B v L) (hB : B ≤ W.heap.size) {g : Nat} {d : VD} {A1 A2 : Option Addr} {c1 c2 : Nat} (K : Blk W g 40 #[.int .i64 d.1, .int .i64 d.2.1, .bool d.2.2.1, .slice A1 d.2.2.2.1.length c1, .slice A2 d.2.2.2.2.length c2])
    (hf : FrIn W (.agg #[.bool d.2.2.1, .slice A1 d.2.2.2.1.length c1, .slice A2 d.2.2.2.2.length c2]) d.2.2.1 d.2.2.2.1 d.2.2.2.2) (hl : L.length ≤ 1000000) :
    ∃ v' w', (Builtin.append_ #[22, 22] 22 #[v, .slice (some ⟨g, 0, none⟩) 1 1]).run Try.prog W = .ok v' w' ∧ OV w' B v' (L ++ [d]) ∧ Fr (fun x => v.ownBlock = some x) W w' ∧ (∀ x, v'.ownBlock = some x → x < w'.heap.size ∧ (v.ownBlock = some x ∨ W.heap.size ≤ x)) := by
  obtain ⟨xs, h1, h2, h3⟩ := h
  obtain ⟨i0, hi, hz0, hz1, hz2⟩ := info_parts info_visit
  have hone : RowV W [d] [.int .i64 d.1, .int .i64 d.2.1, .bool d.2.2.1, .slice A1 d.2.2.2.1.length c1, .slice A2 d.2.2.2.2.length c2] := by
    refine ⟨rfl, fun u hu n => ?_, fun i e he => ?_⟩
    · simp only [List.mem_cons, List.not_mem_nil, or_false] at hu
      rcases hu with rfl | rfl | rfl | rfl | rfl <;> intro hh <;> cases hh
    · obtain rfl : i = 0 := by have := (List.getElem?_eq_some_iff.1 he).1; simpa using this
      obtain rfl : d = e := by simpa using he
      exact ⟨A1, c1, A2, c2, rfl, rfl, rfl, rfl, rfl, hf⟩
  obtain ⟨v', w', hrun, ho, hfr, hn, hob⟩ := run_append_fr (P := Try.prog) W B 22 22 40 i0 _ 5 72 Try.underlying22 hi hz0 hz1 hz2 rfl (by decide) (by
      intro j x hx n
      have h5 : j < 5 ∨ 5 ≤ j := by omega
      rcases h5 with h | h
      · rcases five_cases h with rfl | rfl | rfl | rfl | rfl <;> (rw [← Option.some.inj hx]; intro hh; cases hh)
      · rw [Array.getElem?_eq_none (by simpa [Value.cells] using h)] at hx; cases hx)
    v L.length xs h1 h2 ⟨g, 0, none⟩ 1 [.int .i64 d.1, .int .i64 d.2.1, .bool d.2.2.1, .slice A1 d.2.2.2.1.length c1, .slice A2 d.2.2.2.2.length c2] rfl (blk5_cells K)
    (by intro u hu; simp only [List.mem_cons, List.not_mem_nil, or_false] at hu; rcases hu with rfl | rfl | rfl | rfl | rfl <;> rfl)
    hone.2.1 h3.2.1 (by unfold maxLen; omega) (by omega) hB
  exact ⟨v', w', hrun, ⟨_, by rw [List.length_append]; exact ho, hn, (h3.keep hfr.keep).append (hone.keep hfr.keep)⟩, hfr, hob⟩
/-- Parts of visits that are handed in. -/
theorem VL.take {w : World} {ad : Addr} {c : Nat} {L : List VD} (h : VL w (.slice (some ad) L.length c) L) {i : Nat} (hi : i ≤ L.length) : VL w (.slice (some ad) i c) (L.take i) := by
  obtain ⟨A', c', hv, h1, h2, h3⟩ := h
  obtain ⟨rfl, rfl⟩ : some ad = A' ∧ c = c' := by simpa using hv
  have hl : (L.take i).length = i := by rw [List.length_take]; omega
  refine ⟨some ad, c, by rw [hl], by omega, h2, fun h0 => ?_⟩
  obtain ⟨ad', ha, hc⟩ := h3 (by omega)
  obtain rfl := Option.some.inj ha
  refine ⟨ad, rfl, fun j d hd => hc j d ?_⟩
  rw [List.getElem?_take] at hd
  split at hd
  · exact hd
  · cases hd
theorem VL.drop {w : World} {ad : Addr} {c : Nat} {L : List VD} (h : VL w (.slice (some ad) L.length c) L) {i : Nat} (hi : i < L.length) : VL w (.slice (some (ad.add (i * 5))) (L.length - i) (c - i)) (L.drop i) := by
  obtain ⟨A', c', hv, h1, h2, h3⟩ := h
  obtain ⟨rfl, rfl⟩ : some ad = A' ∧ c = c' := by simpa using hv
  have hl : (L.drop i).length = L.length - i := List.length_drop
  refine ⟨_, c - i, by rw [hl], by omega, by omega, fun _ => ?_⟩
  obtain ⟨ad', ha, hc⟩ := h3 (by omega)
  obtain rfl := Option.some.inj ha
  refine ⟨_, rfl, fun j d hd => ?_⟩
  rw [List.getElem?_drop] at hd
  obtain ⟨A1, c1, A2, c2, e0, e1, e2, e3, e4, hf⟩ := hc _ d hd
  have e : (ad.add (i * 5)).add (j * 5) = ad.add ((i + j) * 5) := by
    unfold Addr.add
    by_cases h1 : i * 5 = 0
    · rw [if_pos h1]
      have : (i + j) * 5 = j * 5 := by omega
      rw [this]
    · by_cases h2 : j * 5 = 0
      · rw [if_pos h2, if_neg h1, if_neg (by omega)]
        have : (i + j) * 5 = i * 5 := by omega
        rw [this]
      · rw [if_neg h2, if_neg h1, if_neg (by omega)]
        have : (i + j) * 5 = i * 5 + j * 5 := by omega
        rw [this]
        simp only [Nat.add_assoc]
  rw [e]
  exact ⟨A1, c1, A2, c2, e0, e1, e2, e3, e4, hf⟩
theorem VL.none0 (w : World) (A : Option Addr) (c : Nat) (hc : c ≤ 9223372036854775807) : VL w (.slice A 0 c) [] := ⟨A, c, rfl, by simp, hc, fun h => by simp at h⟩
/-- The tide of the others, in numbers. -/
theorem tdOf_erase {L : List VD} {i : Nat} (hi : i < L.length) : tdOf (L.eraseIdx i) = (tdOf L).wo i := by
  have hg : ∀ r, (L.eraseIdx i).getD r vd0 = L.getD (sk i r) vd0 := fun r => by
    rw [List.getD_eq_getElem?_getD, List.getD_eq_getElem?_getD, List.getElem?_eraseIdx]
    unfold sk
    split <;> rfl
  unfold tdOf Td.wo
  simp only [hg, List.length_eraseIdx, if_pos hi]
theorem erase_parts (L : List VD) (i : Nat) : L.take i ++ L.drop (i + 1) = L.eraseIdx i := (List.eraseIdx_eq_take_drop_succ L i).symm

theorem mk_visits0 (n : Nat) (h : n ≤ 4096) (w : World) : (Instr.makeSlice 22 (.int .i64 0) (.int .i64 (n : Int))).run Try.prog w = .ok (.slice (some ⟨w.heap.size, 0, none⟩) 0 n) (w.alloc (.cells (madeCells #[.int .i64 0, .int .i64 0, .bool false, .slice none 0 0, .slice none 0 0] (n * 5)) 40)) := by
  obtain ⟨i0, hi, hz0, hz1, hz2⟩ := info_parts info_visit
  have hr := run_make (P := Try.prog) w 22 40 i0 _ Try.underlying22 hi hz0 .i64 .i64 0 (n : Int) (by omega) (by omega) (by rw [hz2]; omega) (by omega)
  simp only [Int.toNat_natCast, hz1] at hr
  exact hr
theorem OV.new0 (w : World) (B n : Nat) (hB : B ≤ w.heap.size) (hn : n ≤ 4096) : OV (w.alloc (.cells (madeCells #[.int .i64 0, .int .i64 0, .bool false, .slice none 0 0, .slice none 0 0] (n * 5)) 40)) B (.slice (some ⟨w.heap.size, 0, none⟩) 0 n) [] := by
  have hnew := heap_alloc_new w (.cells (madeCells #[.int .i64 0, .int .i64 0, .bool false, .slice none 0 0, .slice none 0 0] (n * 5)) 40)
  refine ⟨[], ⟨by simp, .inr ⟨w.heap.size, n, _, rfl, hB, hnew, Nat.zero_le _, by unfold maxLen; omega, by rw [size_madeCells], by simp⟩⟩, ?_, ⟨by simp, fun u hu => by simp at hu, fun i d hd => by simp at hd⟩⟩
  intro g hg
  obtain rfl : w.heap.size = g := by simpa [Value.ownBlock] using hg
  refine ⟨_, _, hnew, fun j x hx => ?_⟩
  have hj : j < n * 5 := by
    have := (Array.getElem?_eq_some_iff.1 hx).1
    rw [size_madeCells] at this
    exact this
  have hm : (madeCells #[Value.int .i64 0, .int .i64 0, .bool false, .slice none 0 0, .slice none 0 0] (n * 5))[j]? = some ((#[Value.int .i64 0, .int .i64 0, .bool false, .slice none 0 0, .slice none 0 0] : Array Value)[j % 5]!) := by
    simp only [madeCells, Array.getElem?_map, Array.getElem?_range]
    rw [if_pos hj]
    rfl
  rw [hm] at hx
  obtain rfl := Option.some.inj hx
  intro k
  rcases five_cases (Nat.mod_lt j (by omega : 0 < 5)) with h | h | h | h | h <;> rw [h] <;> intro hh <;> cases hh
theorem FTide.fr {w : World} {g : Nat} {x0 x1 x2 : Value} (h : Blk w g 24 #[x0, x1, x2]) (n0 : ∀ n, x0 ≠ .int .u32 n) (n1 : ∀ n, x1 ≠ .int .u32 n) (n2 : ∀ n, x2 ≠ .int .u32 n) (a b c : Value) : Fr (fun y => y = g) w (((w.setCell ⟨g, 0, none⟩ a).setCell ⟨g, 1, none⟩ b).setCell ⟨g, 2, none⟩ c) := by
  have k0 := Fr.set (h.cell 0) n0 a
  have h1 := h.set 0 a
  have k1 := Fr.set (h1.cell 1) n1 b
  have h2 := h1.set 1 b
  have k2 := Fr.set (h2.cell 2) n2 c
  exact (k0.trans k1).trans k2
set_option maxRecDepth 100000 in
set_option maxHeartbeats 4000000 in
theorem without_calls (w : World) (days each : Int) (ad : Addr) (c i : Nat) (L : List VD) (h : VL w (.slice (some ad) L.length c) L) (hi : i < L.length) (hL : L.length ≤ 4096) :
    Calls Try.prog 61 #[.agg #[.int .i64 days, .int .i64 each, .slice (some ad) L.length c], .int .i64 (i : Int)] w fun e w' => ∃ A' c', e = .returned (.agg #[.int .i64 days, .int .i64 each, .slice A' (L.eraseIdx i).length c']) ∧ VL w' (.slice A' (L.eraseIdx i).length c') (L.eraseIdx i) ∧ Below w.heap.size w w' := by
  have hcc := h.bounds
  have HV0 := Lib.hid h
  have al := below_alloc0 w (.cells #[.int .i64 days, .int .i64 each, .slice (some ad) L.length c] 24)
  have al2 := below_alloc0 (w.alloc (.cells #[.int .i64 days, .int .i64 each, .slice (some ad) L.length c] 24)) (.cells #[.int .i64 0, .int .i64 0, .slice none 0 0] 24)
  have KB := (Blk.new w 24 #[.int .i64 days, .int .i64 each, .slice (some ad) L.length c]).below al2
  have KR := Blk.new (w.alloc (.cells #[.int .i64 days, .int .i64 each, .slice (some ad) L.length c] 24)) 24 #[.int .i64 0, .int .i64 0, .slice none 0 0]
  obtain ⟨w2, hw2⟩ : ∃ W, W = (w.alloc (.cells #[.int .i64 days, .int .i64 each, .slice (some ad) L.length c] 24)).alloc (.cells #[.int .i64 0, .int .i64 0, .slice none 0 0] 24) := ⟨_, rfl⟩
  have hb2 := bl_trans al al2
  rw [← hw2] at KB KR hb2
  have hs2 : w2.heap.size = w.heap.size + 2 := by rw [hw2]; simp
  have hs1 : (w.alloc (.cells #[.int .i64 days, .int .i64 each, .slice (some ad) L.length c] 24)).heap.size = w.heap.size + 1 := by simp
  rw [hs1] at KR
  have hmk := mk_visits0 L.length hL
  have HW2 := Lib.hid hw2.symm
  have k0 := KB.cell 0
  have k1 := KB.cell 1
  have k2 := KB.cell 2
  have HB2 := Lib.hid hb2
  have HKB := Lib.hid KB
  have HKR := Lib.hid KR
  have HVL := Lib.hid (h.below hb2)
  have HOV := Lib.hid (OV.new0 w2 w2.heap.size L.length (Nat.le_refl _) hL)
  clear al al2 hb2 KB KR h hw2 hs1
  go_enter Try.func61, Try.ntmps61
  go_upto_region 1 with fail
  rw [HW2.out]
  go_upto_region 2 with fail
  obtain ⟨w3, hw3⟩ : ∃ W, W = w2.alloc (.cells (madeCells #[.int .i64 0, .int .i64 0, .bool false, .slice none 0 0, .slice none 0 0] (L.length * 5)) 40) := ⟨_, rfl⟩
  have al3 : Below w2.heap.size w2 w3 := by rw [hw3]; exact below_alloc0 _ _
  rw [← hw3] at HOV ⊢
  have bd := bl_drew w3
  have hO3 := HOV.out.below bd
  have hV3 := HVL.out.below (bl_trans al3 bd)
  have hS0 := cell_below (bl_trans al3 bd) k2
  have hb3 := bl_trans HB2.out (bl_trans al3 bd)
  have hlen : (L.take i).length = i := by rw [List.length_take]; omega
  have hvt := hV3.take (Nat.le_of_lt hi)
  obtain ⟨w8, hrun8, hO8, hf8⟩ := OV.more hO3 (by rw [hlen]; exact hvt) (by rw [hlen]; simp; omega)
  rw [hlen] at hrun8 hO8
  simp only [List.length_nil, Nat.zero_add, List.nil_append] at hrun8 hO8
  have hb8 : Below w.heap.size w w8 := hb3.trans (hf8.below hb3.size (fun y hy => by have e : y = w2.heap.size := hy; omega))
  have hv8 := HV0.out.below hb8
  obtain ⟨ad', had⟩ : ∃ ad', (if c = i + 1 then some ad else some (ad.add ((i + 1) * 5))) = some ad' := by split <;> exact ⟨_, rfl⟩
  have hvd : VL w8 (.slice (some ad') (L.drop (i + 1)).length (c - (i + 1))) (L.drop (i + 1)) := by
    rw [List.length_drop]
    by_cases e : i + 1 < L.length
    · rw [if_neg (by omega)] at had
      rw [← had]
      exact hv8.drop e
    · rw [show L.length - (i + 1) = 0 by omega, List.drop_eq_nil_of_le (by omega)]
      exact VL.none0 _ _ _ (by omega)
  obtain ⟨w9, hrun9, hO9, hf9⟩ := OV.more (by rw [hlen]; exact hO8) hvd (by rw [hlen, List.length_drop]; omega)
  rw [← had] at hrun9
  have hb9 : Below w.heap.size w w9 := hb8.trans (hf9.below hb8.size (fun y hy => by have e : y = w2.heap.size := hy; omega))
  rw [erase_parts] at hO9
  rw [hlen, List.length_drop, show i + (L.length - (i + 1)) = L.length - 1 by omega] at hrun9 hO9
  have K8 := hf8.blk (HKB.out.below (bl_trans al3 bd)) (fun e => by have e' : w.heap.size = w2.heap.size := e; omega)
  have K9 := hf9.blk K8 (fun e => by have e' : w.heap.size = w2.heap.size := e; omega)
  have hS8 : w8.cell? ⟨w.heap.size, 2, none⟩ = some (.slice (some ad) L.length c) := K8.cell 2
  have hS9 : w9.cell? ⟨w.heap.size, 2, none⟩ = some (.slice (some ad) L.length c) := K9.cell 2
  have hS0 : w3.drew.cell? ⟨w.heap.size, 2, none⟩ = some (.slice (some ad) L.length c) := hS0
  have HO9 := Lib.hid hO9
  have HB9 := Lib.hid hb9
  have HK9 := Lib.hid K9
  rw [hs2] at hrun8 hrun9 HO9
  have HR9 := Lib.hid (hf9.blk (hf8.blk (HKR.out.below (bl_trans al3 bd)) (fun e => by have e' : w.heap.size + 1 = w2.heap.size := e; omega)) (fun e => by have e' : w.heap.size + 1 = w2.heap.size := e; omega))
  have hi1 : i + 1 ≤ L.length := hi
  have hi2 : i ≤ c := by omega
  have hi3 : i + 1 ≤ c := by omega
  obtain ⟨hlc, hcm⟩ := hcc
  have hi4 : (0 : Int) ≤ (i : Int) + 1 := by omega
  have hi5 : (i : Int) + 1 ≤ (L.length : Int) := by omega
  have hwr : IntKind.i64.wrap ((i : Int) + 1) = ((i + 1 : Nat) : Int) := by rw [IntWalk.i64_in _ (by omega)]; simp
  have HAD := Lib.hid had
  clear had K8 K9 hO3 hV3 hO8 hO9 hv8 hvd hb8 hb9 hb3 hvt hf8 hf9 al3 k0 k1 k2 hw3 HW2 HOV HVL HKB HKR
  refine wp_region_T (fun (w' : World) => w'.cell? ⟨w.heap.size, 2, none⟩ = some (.slice (some ad) L.length c)) 12 (by kernel_rfl) ?_
  have hS : (fun (w' : World) => w'.cell? ⟨w.heap.size, 2, none⟩ = some (.slice (some ad) L.length c)) _ := hS0
  simp only [List.size_toArray, List.length_cons, List.length_nil, Nat.reduceAdd]
  refine wpAnyT_take 1 (some 11) (v := ?vr1_1) rfl rfl (by kernel_rfl) (by kernel_rfl) (by kernel_rfl) (by kernel_rfl) (fun _ _ _ h => h) rfl ?hyr1_1 hS ?restr1_1
  case hyr1_1 => (intro w hSw; (try dsimp only at hSw); go_simp; (try with_reducible rfl))
  (try simp only [Act.put, List.setIfInBounds_toArray, List.set_cons_zero, List.set_cons_succ])
  refine wpAnyT_take 2 (some 12) (v := ?vr1_2) rfl rfl (by kernel_rfl) (by kernel_rfl) (by kernel_rfl) (by kernel_rfl) (fun _ _ _ h => h) rfl ?hyr1_2 hS ?restr1_2
  case hyr1_2 => (intro w hSw; (try dsimp only at hSw); go_simp; (try with_reducible rfl))
  (try simp only [Act.put, List.setIfInBounds_toArray, List.set_cons_zero, List.set_cons_succ])
  refine wpAnyT_take 3 (some 13) (v := ?vr1_3) rfl rfl (by kernel_rfl) (by kernel_rfl) (by kernel_rfl) (by kernel_rfl) (fun _ _ _ h => h) rfl ?hyr1_3 hS ?restr1_3
  case hyr1_3 => (intro w hSw; (try dsimp only at hSw); go_simp; (try with_reducible rfl))
  (try simp only [Act.put, List.setIfInBounds_toArray, List.set_cons_zero, List.set_cons_succ])
  refine wpAnyT_take 4 (some 14) (v := ?vr1_4) rfl rfl (by kernel_rfl) (by kernel_rfl) (by kernel_rfl) (by kernel_rfl) (fun _ _ _ h => h) rfl ?hyr1_4 hS ?restr1_4
  case hyr1_4 => (intro w hSw; (try dsimp only at hSw); go_simp; (try with_reducible rfl))
  (try simp only [Act.put, List.setIfInBounds_toArray, List.set_cons_zero, List.set_cons_succ])
  refine wpAnyT_take 6 (some 16) (v := ?vr1_6) rfl rfl (by kernel_rfl) (by kernel_rfl) (by kernel_rfl) (by kernel_rfl) (fun _ _ _ h => h) rfl ?hyr1_6 hS ?restr1_6
  case hyr1_6 => (intro w hSw; (try dsimp only at hSw); go_simp; (try with_reducible rfl))
  (try simp only [Act.put, List.setIfInBounds_toArray, List.set_cons_zero, List.set_cons_succ])
  refine wpAnyT_take 7 (some 17) (v := ?vr1_7) rfl rfl (by kernel_rfl) (by kernel_rfl) (by kernel_rfl) (by kernel_rfl) (fun _ _ _ h => h) rfl ?hyr1_7 hS ?restr1_7
  case hyr1_7 => (intro w hSw; (try dsimp only at hSw); go_simp; (try with_reducible rfl))
  (try simp only [Act.put, List.setIfInBounds_toArray, List.set_cons_zero, List.set_cons_succ])
  refine wpAnyT_take 8 (some 18) (v := ?vr1_8) rfl rfl (by kernel_rfl) (by kernel_rfl) (by kernel_rfl) (by kernel_rfl) (fun _ _ _ h => h) rfl ?hyr1_8 hS ?restr1_8
  case hyr1_8 => (intro w hSw; (try dsimp only at hSw); go_simp; (try with_reducible rfl))
  (try simp only [Act.put, List.setIfInBounds_toArray, List.set_cons_zero, List.set_cons_succ])
  refine wpAnyT_take 9 (some 19) (v := ?vr1_9) rfl rfl (by kernel_rfl) (by kernel_rfl) (by kernel_rfl) (by kernel_rfl) (fun _ _ _ h => h) rfl ?hyr1_9 hS ?restr1_9
  case hyr1_9 => (intro w hSw; (try dsimp only at hSw); go_simp; (try with_reducible rfl))
  (try simp only [Act.put, List.setIfInBounds_toArray, List.set_cons_zero, List.set_cons_succ])
  refine wpAnyT_take 10 (some 20) (v := ?vr1_10) rfl rfl (by kernel_rfl) (by kernel_rfl) (by kernel_rfl) (by kernel_rfl) (fun _ _ _ h => h) rfl ?hyr1_10 hS ?restr1_10
  case hyr1_10 => (intro w hSw; (try dsimp only at hSw); go_simp; (try with_reducible rfl))
  (try simp only [Act.put, List.setIfInBounds_toArray, List.set_cons_zero, List.set_cons_succ])
  refine wpAnyT_take 0 (some 10) (v := ?vr1_0) rfl rfl (by kernel_rfl) (by kernel_rfl) (by kernel_rfl) (by kernel_rfl) (fun _ _ _ h => h) rfl ?hyr1_0 hS ?restr1_0
  case hyr1_0 => (intro w hSw; (try dsimp only at hSw); go_simp; (try with_reducible rfl))
  (try simp only [Act.put, List.setIfInBounds_toArray, List.set_cons_zero, List.set_cons_succ])
  refine wpAnyT_one (i := 5) rfl (by kernel_rfl) rfl (fun K hK => ?_)
  simp only [List.getElem_toArray, List.getElem_cons_succ, List.getElem_cons_zero]
  refine wp_append_run _ (.tmp 10) (.tmp 14) 22 _ _ rfl rfl rfl ⟨_, _, hrun8, ?_⟩
  refine hK.out _ _ (fun _ => hS8) ?_
  clear hS K hK
  have hS := hS8
  (try simp only [Act.put, List.setIfInBounds_toArray, List.set_cons_zero, List.set_cons_succ])
  refine wpAnyT_one (i := 11) rfl (by kernel_rfl) rfl (fun K hK => ?_)
  simp only [List.getElem_toArray, List.getElem_cons_succ, List.getElem_cons_zero]
  refine wp_append_run _ (.tmp 15) (.tmp 20) 22 _ _ rfl rfl rfl ⟨_, _, hrun9, ?_⟩
  refine hK.out _ _ (fun _ => hS9) ?_
  clear hS K hK
  have hS := hS9
  (try simp only [Act.put, List.setIfInBounds_toArray, List.set_cons_zero, List.set_cons_succ])
  refine wpAnyT_one (i := 12) rfl (by kernel_rfl) rfl (fun K hK => ?_)
  simp only [List.getElem_toArray, List.getElem_cons_succ, List.getElem_cons_zero]
  go_simp
  refine hK.out _ _ (fun h => absurd rfl h) ?_
  refine wpAnyT_done (by kernel_rfl) ?_ _
  clear hK K hS hS0 hS8 hrun8 hrun9 hwr hi4 hi5 hi3 hi2
  have k0 := HK9.out.cell 0
  have k1 := HK9.out.cell 1
  have k2 := HK9.out.cell 2
  have kf := HK9.out.free
  have r0 := HR9.out.cell 0
  have r1 := HR9.out.cell 1
  have r2 := HR9.out.cell 2
  have rf := HR9.out.free
  rw [HAD.out]
  go_wp2
  have K1 := HK9.out.set 2 (.slice (some ⟨w.heap.size + 2, 0, none⟩) (L.length - 1) L.length)
  have F1 := Fr.set (HK9.out.cell 2) (slne _ _ _) (.slice (some ⟨w.heap.size + 2, 0, none⟩) (L.length - 1) L.length)
  have R1 := F1.blk HR9.out (fun e => by have e' : w.heap.size + 1 = w.heap.size := e; omega)
  have O1 := HO9.out.fr F1 (fun g hg e => by have e' : g = w.heap.size := e; have := HO9.out.block hg; omega)
  have hel : (L.eraseIdx i).length = L.length - 1 := by rw [List.length_eraseIdx, if_pos hi]
  refine bodyPost_ret (results_cell_row rfl _ _ (w.heap.size + 1) 24 _ (0, 0) _ rfl (blk3 R1 _ _ _) Try.underlying24 rfl (by kernel_rfl)) rfl ⟨some ⟨w.heap.size + 2, 0, none⟩, L.length, ?_, ?_, ?_⟩
  · rw [hel]
  · rw [hel]
    have F2 := (FTide.fr R1 (intne _) (intne _) (slne _ _ _) (.int .i64 days) (.int .i64 each) (.slice (some ⟨w.heap.size + 2, 0, none⟩) (L.length - 1) L.length))
    exact (O1.fr F2 (fun g hg e => by have e' : g = w.heap.size + 1 := e; have := O1.block hg; omega)).vl
  · have F2 := (FTide.fr R1 (intne _) (intne _) (slne _ _ _) (.int .i64 days) (.int .i64 each) (.slice (some ⟨w.heap.size + 2, 0, none⟩) (L.length - 1) L.length))
    have h1 := HB9.out.trans (F1.below HB9.out.size (fun y hy => by have e : y = w.heap.size := hy; omega))
    exact h1.trans (F2.below h1.size (fun y hy => by have e : y = w.heap.size + 1 := hy; omega))
end Go.Proofs.Ytajckdheecgceaa
