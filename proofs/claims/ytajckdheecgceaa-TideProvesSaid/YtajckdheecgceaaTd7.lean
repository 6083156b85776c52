/- Tides: Sell. -/
import Derived.Test.YtajckdheecgceaaRef22
import Derived.Test.YtajckdheecgceaaTd4
set_option linter.unusedVariables false
set_option linter.unusedSimpArgs false
namespace Go.Proofs.Ytajckdheecgceaa
open Go.RowKit

theorem rightN_zero {days each : Int} {L : List VD} (h : rightN days each L = 0) : ¬ (12 < days ∨ 4 < each ∨ 12 < L.length) ∧ ¬ (days < 1 ∨ each < 1) ∧ ∀ (i : Nat) (d : VD), L[i]? = some d → badV days d = false := by
  unfold rightN at h
  split at h
  · cases h
  · rename_i h1
    split at h
    · cases h
    · rename_i h2
      split at h
      · cases h
      · rename_i h3
        refine ⟨h1, h2, fun i d hd => ?_⟩
        rcases hb : badV days d with _ | _
        · rfl
        · exact absurd (List.any_eq_true.2 ⟨d, List.mem_of_getElem? hd, hb⟩) h3
theorem bad_no {days : Int} {d : VD} (h : badV days d = false) : 1 ≤ d.1 ∧ d.1 ≤ d.2.1 ∧ d.2.1 ≤ days := by
  unfold badV at h
  simp only [Bool.or_eq_false_iff, decide_eq_false_iff_not] at h
  omega
/-- What Sell tells. -/
def SellP (days each : Int) (L : List VD) (w : World) (e : Ending) (w' : World) : Prop := Below w.heap.size w w' ∧
  ((rightN days each L ≠ 0 ∧ e = .returned (.tuple #[.slice none 0 0, .int .i64 (rightN days each L)])) ∨
   (rightN days each L = 0 ∧ ∃ g, e = .returned (.tuple #[.slice (some ⟨g, 0, none⟩) L.length L.length, .int .i64 0]) ∧ w.heap.size ≤ g ∧ Tb w' g 3 L.length L.length (fun j => .int .i64 ((tdOf L).sold each.toNat days.toNat j))))
theorem sign_gt {q : Rat} : decide ((0 : Int) < q.num.sign) = decide (0 < q) := by
  rw [decide_eq_decide]
  rw [sign_rcmp]
  unfold rcmp
  grind
set_option maxRecDepth 100000 in
set_option maxHeartbeats 16000000 in
theorem sell_calls (w : World) (days each : Int) (A : Option Addr) (c : Nat) (L : List VD) (h : VL w (.slice A L.length c) L) (hf : FewV 2000 L) :
    Calls Try.prog 16 #[.agg #[.int .i64 days, .int .i64 each, .slice A L.length c]] w (SellP days each L w) := by
  have HV := Lib.hid h
  have hcc := h.bounds
  have HF := Lib.hid hf
  have al := below_alloc0 w (.cells #[.int .i64 days, .int .i64 each, .slice A L.length c] 24)
  have K := Blk.new w 24 #[.int .i64 days, .int .i64 each, .slice A L.length c]
  have k0 := K.cell 0
  have k1 := K.cell 1
  have k2 := K.cell 2
  have HAL := Lib.hid al
  have HK := Lib.hid K
  clear h hf al K
  obtain ⟨r, hr⟩ : ∃ r, r = rightN days each L := ⟨_, rfl⟩
  have HR := Lib.hid hr
  by_cases hr0 : r = 0
  · obtain ⟨z1, z2, z3⟩ := rightN_zero (hr.symm.trans hr0)
    have HGOOD := Lib.hid z3
    obtain ⟨D, hD⟩ : ∃ D : Nat, days = (D : Int) := ⟨days.toNat, by omega⟩
    obtain ⟨K, hKe⟩ : ∃ K : Nat, each = (K : Int) := ⟨each.toNat, by omega⟩
    subst hD
    subst hKe
    have hD12 : D ≤ 12 := by omega
    have hK4 : K ≤ 4 := by omega
    have hL12 : L.length ≤ 12 := by omega
    have hmk := mk_ints L.length (by omega)
    have HR0 := Lib.hid hr0
    clear z1 z2 z3 hr hr0
    go_enter Try.func16, Try.ntmps16
    go_wp2_with fail
    refine (tright_calls _ _ _ A c L (HV.out.below HAL.out)).mono ?_
    rintro e w1 ⟨rfl, hb1⟩
    rw [← HR.out, HR0.out]
    have K1 := HK.out.below hb1
    have k0 := K1.cell 0
    have k1 := K1.cell 1
    have k2 := K1.cell 2
    have HB1 := Lib.hid (bl_trans HAL.out hb1)
    have HK1 := Lib.hid K1
    have TO := Lib.hid (ints_new w1 L.length)
    have AL1 := Lib.hid (below_alloc0 w1 (.cells (madeCells #[.int .i64 0] L.length) 3))
    have K2 := K1.below AL1.out
    have k3 := K2.cell 0
    have k4 := K2.cell 1
    have k5 := K2.cell 2
    have HK2 := Lib.hid K2
    clear hb1 K1 K2
    go_wp2_with fail
    refine (byworth_calls _ _ _ A c L (HV.out.below (bl_trans HB1.out AL1.out))).mono ?_
    rintro e w2 ⟨gq, gt, rfl, hQ, hT, hgq, hgt, hb2⟩
    have hsz := HB1.out.size
    have hsz2 := AL1.out.size
    have hSR : SR w w.heap.size gt gq w1.heap.size (D : Int) (K : Int) A c L (.slice none 0 0) [] (fun _ => 0) w2 :=
      ⟨HK2.out.below hb2, hT.1, ⟨hQ.1, IQ.nil _ _⟩, TO.out.fr (Fr.of_below (S := fun _ => False) hb2) (fun h => h), bl_trans (bl_trans HB1.out AL1.out) hb2, fun y hy => (by cases hy), by omega, hsz⟩
    have HSR := Lib.hid hSR
    clear hQ hT hb2 hSR k0 k1 k2 k3 k4 k5 hmk
    go_wp2
    go_loopw [7] (fun i wr => ∃ (dd : Nat) (v : Value), dd ≤ D ∧ i = .int .i64 ((dd : Int) + 1) ∧ SR w w.heap.size gt gq w1.heap.size (D : Int) (K : Int) A c L v ((tdOf L).qrun K dd).1 ((tdOf L).qrun K dd).2 wr)
      (fun i _ => D + 1 - (intOf i).toNat)
    case atStart => exact ⟨0, _, by omega, by simp, HSR.out⟩
    case round =>
      clear HSR TO AL1 HK2 HK1 HB1
      obtain ⟨dd, v, hdd, rfl, hS⟩ := hrel
      have HS := Lib.hid hS
      have b0 := hS.box.cell 0
      have b1 := hS.box.cell 1
      have b2 := hS.box.cell 2
      by_cases hx : dd < D
      · have q1 : (dd : Int) + 1 ≤ (D : Int) := by omega
        have q1' : ((dd : Int) + 1 ≤ (D : Int)) = True := eq_true q1
        obtain ⟨q0, hq0⟩ : ∃ Q, Q = ((tdOf L).qrun K dd).1 := ⟨_, rfl⟩
        obtain ⟨s0, hs0⟩ : ∃ st, st = ((tdOf L).qrun K dd).2 := ⟨_, rfl⟩
        rw [← hq0, ← hs0] at HS
        have hnext : (tdOf L).qrun K (dd + 1) = (tdOf L).pops ((dd : Int) + 1) K ((tdOf L).puts ((dd : Int) + 1) L.length q0) s0 := by rw [hq0, hs0]; rfl
        obtain ⟨qs1, qs2⟩ := Td.qrun_sub (T := tdOf L) (k := K) dd
        rw [← hq0] at qs1 qs2
        have hql : q0.length ≤ 144 := by
          have h1 : q0.length ≤ L.length * dd := qs2
          have h2 := Nat.mul_le_mul hL12 (show dd ≤ 12 by omega)
          omega
        have HNEXT := Lib.hid hnext
        have HQS := Lib.hid qs1
        clear hS hq0 hs0 hnext qs1 qs2
        go_wp2
        go_loopw [33] (fun i wx => ∃ (m : Nat) (v2 : Value), m ≤ L.length ∧ i = .int .i64 (m : Int) ∧ SR w w.heap.size gt gq w1.heap.size (D : Int) (K : Int) A c L v2 ((tdOf L).puts ((dd : Int) + 1) m q0) s0 wx)
          (fun i _ => L.length - (intOf i).toNat)
        case atStart => exact ⟨0, v, by omega, rfl, HS.out⟩
        case round =>
          clear HS b0 b1 b2
          obtain ⟨m, v2, hm, rfl, hS⟩ := hrel
          have HS := Lib.hid hS
          by_cases hmx : m < L.length
          · obtain ⟨x, hx1⟩ : ∃ x, L[m]? = some x := ⟨_, List.getElem?_eq_getElem hmx⟩
            obtain ⟨ad, A1, a1, A2, a2, rfl, e0, e1, e2, e3, e4, hfx⟩ := (HV.out.below hS.bel).at hx1
            have few := HF.out x (List.mem_of_getElem? hx1)
            obtain ⟨tc, tg, tq⟩ := tdOf_at hx1
            have q2 : (m : Int) < (L.length : Int) := by omega
            have al := below_alloc0 wr (.cells #[.int .i64 x.1, .int .i64 x.2.1, .bool x.2.2.1, .slice A1 x.2.2.2.1.length a1, .slice A2 x.2.2.2.2.length a2] 40)
            have KV := Blk.new wr 40 #[.int .i64 x.1, .int .i64 x.2.1, .bool x.2.2.1, .slice A1 x.2.2.2.1.length a1, .slice A2 x.2.2.2.2.length a2]
            have k0 := KV.cell 0
            have k1 := KV.cell 1
            have k2 := KV.cell 2
            have k3 := KV.cell 3
            have k4 := KV.cell 4
            have HAL2 := Lib.hid al
            have HS2 := Lib.hid (hS.below al)
            have HFX := Lib.hid (hfx.below al)
            have HTC := Lib.hid tc
            have HTQ := Lib.hid tq
            clear hS hx1 hfx al KV tc tg tq
            by_cases hc : x.1 = (dd : Int) + 1
            · have g1 : (x.1 == (dd : Int) + 1) = true := by rw [hc]; simp
              have HC := Lib.hid hc
              clear hc
              go_wp2_with fail
              refine (signq _ _ (fqd x.2.2) (FrQ.mk HFX.out (by omega))).mono ?_
              rintro e w5 ⟨rfl, hb5⟩
              have hsg := sign_gt (q := fqd x.2.2)
              by_cases hp : 0 < fqd x.2.2
              · rw [decide_eq_true hp] at hsg
                have hsp : (0 : Int) < (fqd x.2.2).num.sign := of_decide_eq_true hsg
                have hput : (tdOf L).puts ((dd : Int) + 1) (m + 1) q0 = (tdOf L).put m ((tdOf L).puts ((dd : Int) + 1) m q0) := by
                  show (if (tdOf L).come m = (dd : Int) + 1 ∧ 0 < (tdOf L).q m then _ else _) = _
                  rw [if_pos ⟨HTC.out.trans HC.out, by rw [HTQ.out]; exact hp⟩]
                have HPUT := Lib.hid hput
                have hS5 := HS2.out.below hb5
                have HS5 := Lib.hid hS5
                obtain ⟨ps1, ps2⟩ := Td.puts_sub (T := tdOf L) (d := (dd : Int) + 1) (Q := q0) m
                have HPS := Lib.hid (show ∀ i, i ∈ (tdOf L).puts ((dd : Int) + 1) m q0 → i < L.length from fun i hi => by
                  rcases ps1 i hi with h | h
                  · exact HQS.out i h
                  · omega)
                have hpl : ((tdOf L).puts ((dd : Int) + 1) m q0).length ≤ 1000000 := by omega
                clear hput hS5 hb5 ps1 ps2 hp hsg
                go_wp2_with fail
                refine (push_calls _ w.heap.size gq gt m v2 _ (D : Int) (K : Int) (some ad) c L HS5.out.q ⟨HS5.out.tb, HV.out.below HS5.out.bel⟩ HS5.out.bel.size hmx HPS.out (by omega) hpl HF.out).mono ?_
                rintro e w6 ⟨rfl, v', hq', hk, hv'⟩
                have HS6 := Lib.hid (HS5.out.push hq' hk hv')
                clear hq' hk hv'
                go_wp2
                exact ⟨⟨m + 1, v', by omega, by go_num, by rw [HPUT.out]; exact HS6.out⟩, by simp [intOf]; omega⟩
              · rw [decide_eq_false hp] at hsg
                have hsp : ¬ (0 : Int) < (fqd x.2.2).num.sign := of_decide_eq_false hsg
                have hput : (tdOf L).puts ((dd : Int) + 1) (m + 1) q0 = (tdOf L).puts ((dd : Int) + 1) m q0 := by
                  show (if (tdOf L).come m = (dd : Int) + 1 ∧ 0 < (tdOf L).q m then _ else _) = _
                  rw [if_neg (fun h => hp (by rw [← HTQ.out]; exact h.2))]
                have HPUT := Lib.hid hput
                have HS5 := Lib.hid (HS2.out.below hb5)
                have hsp2 : ¬ 0 < (fqd x.2.2).num := fun h => by have := Int.sign_eq_one_of_pos h; omega
                have hsp3 : (fqd x.2.2).num ≤ 0 := by omega
                clear hput hb5 hp
                go_wp2
                exact ⟨⟨m + 1, v2, by omega, by go_num, by rw [HPUT.out]; exact HS5.out⟩, by simp [intOf]; omega⟩
            · have g1 : (x.1 == (dd : Int) + 1) = false := beq_eq_false_iff_ne.2 hc
              have hput : (tdOf L).puts ((dd : Int) + 1) (m + 1) q0 = (tdOf L).puts ((dd : Int) + 1) m q0 := by
                show (if (tdOf L).come m = (dd : Int) + 1 ∧ 0 < (tdOf L).q m then _ else _) = _
                rw [if_neg (fun h => hc (by rw [← HTC.out]; exact h.1))]
              have HPUT := Lib.hid hput
              clear hput hc
              go_wp2
              exact ⟨⟨m + 1, v2, by omega, by go_num, by rw [HPUT.out]; exact HS2.out⟩, by simp [intOf]; omega⟩
          · obtain rfl : m = L.length := by omega
            have q2 : ¬ (L.length : Int) < (L.length : Int) := by omega
            obtain ⟨ps1, ps2⟩ := Td.puts_sub (T := tdOf L) (d := (dd : Int) + 1) (Q := q0) L.length
            obtain ⟨Q1, hQ1⟩ : ∃ Q, Q = (tdOf L).puts ((dd : Int) + 1) L.length q0 := ⟨_, rfl⟩
            have hnx := HNEXT.out
            rw [← hQ1] at ps1 ps2 hnx hS
            have HS1 := Lib.hid hS
            have HNX := Lib.hid hnx.symm
            have HPS := Lib.hid (show ∀ i, i ∈ Q1 → i < L.length from fun i hi => by
              rcases ps1 i hi with h | h
              · exact HQS.out i h
              · exact h)
            have hl1 : Q1.length ≤ 1000 := by omega
            have b0 := hS.box.cell 0
            have b1 := hS.box.cell 1
            have b2 := hS.box.cell 2
            clear hS hnx ps1 ps2 hQ1 HS
            go_wp2
            go_loopg [10] Q1.length (fun gn s10 wy => ∃ (left : Nat) (Q : List Nat) (st : Nat → Int) (v3 : Value), s10 = .int .i64 (left : Int) ∧ SR w w.heap.size gt gq w1.heap.size (D : Int) (K : Int) A c L v3 Q st wy ∧ (tdOf L).pops ((dd : Int) + 1) left Q st = (tdOf L).qrun K (dd + 1) ∧ Q.length = gn ∧ (∀ i, i ∈ Q → i < L.length) ∧ Q.length ≤ 1000 ∧ left ≤ 4)
            case atStart => exact ⟨K, Q1, s0, v2, rfl, HS1.out, HNX.out, rfl, HPS.out, hl1, hK4⟩
            case round =>
              clear HS1 HNX HPS b0 b1 b2 hl1
              obtain ⟨left, Q, st, v3, rfl, hS, hpops, hgk, hmem, hl, hl4⟩ := hrel
              have HS := Lib.hid hS
              have HPOPS := Lib.hid hpops
              have HGK := Lib.hid hgk
              have HMEM := Lib.hid hmem
              clear hS hpops hgk hmem
              cases left with
              | zero =>
                have hq : (tdOf L).qrun K (dd + 1) = (Q, st) := by rw [← HPOPS.out]; rw [Td.pops]
                have HQ := Lib.hid hq
                clear hq
                go_wp2
                exact ⟨⟨dd + 1, v3, by omega, by go_num, by rw [HQ.out]; exact HS.out⟩, by simp [intOf]; omega⟩
              | succ l =>
                have g1 : decide ((0 : Int) < ((l + 1 : Nat) : Int)) = true := decide_eq_true (by omega)
                have g2 : decide ((0 : Int) < (l : Int) + 1) = true := decide_eq_true (by omega)
                cases Q with
                | nil =>
                  have hq : (tdOf L).qrun K (dd + 1) = ([], st) := by rw [← HPOPS.out]; rw [Td.pops]
                  have HQ := Lib.hid hq
                  clear hq
                  go_wp2_with fail
                  refine (pop_nil _ _ gq gt v3 HS.out.q).mono ?_
                  rintro e w6 ⟨rfl, rfl⟩
                  go_wp2
                  exact ⟨⟨dd + 1, v3, by omega, by go_num, by rw [HQ.out]; exact HS.out⟩, by simp [intOf]; omega⟩
                | cons q Q =>
                  have hql : q < L.length := HMEM.out q (by simp)
                  have hlq : Q.length ≤ 1000 := by simp at hl; omega
                  go_wp2_with fail
                  refine (pop_cons _ _ gq gt q v3 Q HS.out.q (by omega)).mono ?_
                  rintro e w6 ⟨rfl, v', hq', hk, hv'⟩
                  have hS6 := HS.out.pop hq' hk hv'
                  have HS6 := Lib.hid hS6
                  obtain ⟨x, hx1⟩ : ∃ x, L[q]? = some x := ⟨_, List.getElem?_eq_getElem hql⟩
                  obtain ⟨ad, A1, a1, A2, a2, rfl, e0, e1, e2, e3, e4, hfx⟩ := (HV.out.below hS6.bel).at hx1
                  obtain ⟨tc, tg, tq⟩ := tdOf_at hx1
                  have HTG := Lib.hid tg
                  have b0 := hS6.box.cell 0
                  have b1 := hS6.box.cell 1
                  have b2 := hS6.box.cell 2
                  have oc := hS6.out.cell hql
                  have of := hS6.out.free
                  have q3 : (q : Int) < (L.length : Int) := by omega
                  clear hq' hk hv' hS6 hx1 hfx tc tg tq e0 e2 e3 e4
                  by_cases hg : (dd : Int) + 1 ≤ x.2.1
                  · have g3 : decide ((dd : Int) + 1 ≤ x.2.1) = true := decide_eq_true hg
                    have hp2 : (tdOf L).pops ((dd : Int) + 1) (l + 1) (q :: Q) st = (tdOf L).pops ((dd : Int) + 1) l Q (upd st q ((dd : Int) + 1)) := by
                      rw [Td.pops, if_pos (by rw [HTG.out]; exact hg)]
                    have HP2 := Lib.hid (hp2.symm.trans HPOPS.out)
                    clear hp2
                    go_wp2
                    go_roundg Q.length
                    case measure => have := HGK.out; simp at this; omega
                    case rel => exact ⟨l, Q, _, v', by go_num, HS6.out.store hql _, HP2.out, rfl, fun i hi => HMEM.out i (by simp [hi]), hlq, by omega⟩
                  · have g3 : decide ((dd : Int) + 1 ≤ x.2.1) = false := decide_eq_false hg
                    have hp2 : (tdOf L).pops ((dd : Int) + 1) (l + 1) (q :: Q) st = (tdOf L).pops ((dd : Int) + 1) (l + 1) Q st := by
                      rw [Td.pops, if_neg (by rw [HTG.out]; exact hg)]
                    have HP2 := Lib.hid (hp2.symm.trans HPOPS.out)
                    clear hp2
                    go_wp2
                    go_roundg Q.length
                    case measure => have := HGK.out; simp at this; omega
                    case rel => exact ⟨l + 1, Q, st, v', by go_num, HS6.out, HP2.out, rfl, fun i hi => HMEM.out i (by simp [hi]), hlq, hl4⟩
      · obtain rfl : dd = D := by omega
        have q1 : ¬ (dd : Int) + 1 ≤ (dd : Int) := by omega
        have hsold := (Td.qrun_sold (T := tdOf L) K (fun i hi => by
          have hx1 := List.getElem?_eq_getElem (l := L) (i := i) hi
          rw [(tdOf_at hx1).1]
          exact (bad_no (HGOOD.out i _ hx1)).1) dd).1
        have HSOLD := Lib.hid hsold
        clear hS hsold
        go_wp2
        go_ret2
        refine ⟨HS.out.bel, .inr ⟨by rw [← HR.out]; exact HR0.out, _, rfl, HS.out.goB, ?_⟩⟩
        have h := HS.out.out
        rw [HSOLD.out] at h
        exact h
  · have HRN := Lib.hid (show r ≠ 0 from hr0)
    have g0 : ((r : Int) != 0) = true := bne_iff_ne.2 hr0
    clear hr hr0
    go_enter Try.func16, Try.ntmps16
    go_wp2_with fail
    refine (tright_calls _ _ _ A c L (HV.out.below HAL.out)).mono ?_
    rintro e w1 ⟨rfl, hb1⟩
    rw [← HR.out]
    have HB1 := Lib.hid (bl_trans HAL.out hb1)
    clear hb1
    go_wp2
    go_ret2
    exact ⟨HB1.out, .inl ⟨by rw [← HR.out]; exact HRN.out, by rw [← HR.out]; rfl⟩⟩

set_option maxRecDepth 100000 in
theorem there_calls (w : World) (come go day : Int) (b : Bool) (A1 A2 : Option Addr) (l1 c1 l2 c2 : Nat) :
    Calls Try.prog 68 #[.agg #[.int .i64 come, .int .i64 go, .bool b, .slice A1 l1 c1, .slice A2 l2 c2], .int .i64 day] w fun e w' => e = .returned (.bool (decide (come ≤ day ∧ day ≤ go))) ∧ Below w.heap.size w w' := by
  obtain ⟨r, hr⟩ : ∃ r, r = decide (come ≤ day ∧ day ≤ go) := ⟨_, rfl⟩
  rw [← hr]
  have al := below_alloc0 w (.cells #[.int .i64 come, .int .i64 go, .bool b, .slice A1 l1 c1, .slice A2 l2 c2] 40)
  have K := Blk.new w 40 #[.int .i64 come, .int .i64 go, .bool b, .slice A1 l1 c1, .slice A2 l2 c2]
  have k0 := K.cell 0
  have k1 := K.cell 1
  have HAL := Lib.hid al
  clear al K
  by_cases h1 : come ≤ day
  · by_cases h2 : day ≤ go
    · have g1 : decide (come ≤ day) = true := decide_eq_true h1
      have g2 : decide (day ≤ go) = true := decide_eq_true h2
      have HR := Lib.hid (show r = true by rw [hr]; exact decide_eq_true ⟨h1, h2⟩)
      clear hr
      go_enter Try.func68, Try.ntmps68
      go_wp2
      go_ret
      exact ⟨by rw [HR.out]; rfl, HAL.out⟩
    · have g1 : decide (come ≤ day) = true := decide_eq_true h1
      have g2 : decide (day ≤ go) = false := decide_eq_false h2
      have HR := Lib.hid (show r = false by rw [hr]; exact decide_eq_false (fun h => h2 h.2))
      clear hr
      go_enter Try.func68, Try.ntmps68
      go_wp2
      go_ret
      exact ⟨by rw [HR.out]; rfl, HAL.out⟩
  · have g1 : decide (come ≤ day) = false := decide_eq_false h1
    have HR := Lib.hid (show r = false by rw [hr]; exact decide_eq_false (fun h => h1 h.1))
    clear hr
    go_enter Try.func68, Try.ntmps68
    go_wp2
    go_ret
    exact ⟨by rw [HR.out]; rfl, HAL.out⟩
/-- The next one's number; -1 if there is none. -/
def nxV (T : Td) (st : Nat → Int) (d : Int) (m : Nat) : Int := match T.nx st d m with | none => -1 | some a => (a : Int)
theorem nxV_skip {T : Td} {st : Nat → Int} {d : Int} {m : Nat} (h : ¬ T.elig st d m) : nxV T st d (m + 1) = nxV T st d m := by
  unfold nxV
  have e : T.nx st d (m + 1) = T.nx st d m := by simp only [Td.nx, if_neg h]
  rw [e]
theorem nxV_none {T : Td} {st : Nat → Int} {d : Int} {m : Nat} (h : T.elig st d m) (hn : T.nx st d m = none) : nxV T st d m = -1 ∧ nxV T st d (m + 1) = (m : Int) := by
  unfold nxV
  have e : T.nx st d (m + 1) = some m := by simp only [Td.nx, if_pos h, hn]
  rw [e, hn]
  exact ⟨rfl, rfl⟩
theorem nxV_some {T : Td} {st : Nat → Int} {d : Int} {m a : Nat} (h : T.elig st d m) (hn : T.nx st d m = some a) : nxV T st d m = (a : Int) ∧ nxV T st d (m + 1) = if T.q a < T.q m then (m : Int) else (a : Int) := by
  unfold nxV
  have e : T.nx st d (m + 1) = if T.q a < T.q m then some m else some a := by simp only [Td.nx, if_pos h, hn]
  rw [e, hn]
  refine ⟨rfl, ?_⟩
  by_cases hq : T.q a < T.q m
  · rw [if_pos hq, if_pos hq]
  · rw [if_neg hq, if_neg hq]
set_option maxRecDepth 100000 in
set_option maxHeartbeats 16000000 in
theorem rnext_calls (w : World) (days each day : Int) (A : Option Addr) (c : Nat) (L : List VD) (gd : Nat) (st : Nat → Int) (h : VL w (.slice A L.length c) L) (hf : FewV 2000 L) (hT : Tb w gd 3 L.length L.length (fun j => .int .i64 (st j))) (hL : L.length ≤ 1000000) :
    Calls Try.prog 84 #[.agg #[.int .i64 days, .int .i64 each, .slice A L.length c], .slice (some ⟨gd, 0, none⟩) L.length L.length, .int .i64 day] w fun e w' => e = .returned (.int .i64 (nxV (tdOf L) st day L.length)) ∧ Below w.heap.size w w' := by
  have HV := Lib.hid h
  have hcc := h.bounds
  have HF := Lib.hid hf
  have HT := Lib.hid hT
  have al := below_alloc0 w (.cells #[.int .i64 days, .int .i64 each, .slice A L.length c] 24)
  have K := Blk.new w 24 #[.int .i64 days, .int .i64 each, .slice A L.length c]
  have HAL := Lib.hid al
  have HK := Lib.hid K
  clear h hf hT al K
  go_enter Try.func84, Try.ntmps84
  go_wp2
  go_loopw [7, 8] (fun t i wr => ∃ m : Nat, m ≤ L.length ∧ i = .int .i64 (m : Int) ∧ t = .int .i64 (nxV (tdOf L) st day m) ∧ Blk wr w.heap.size 24 #[.int .i64 days, .int .i64 each, .slice A L.length c] ∧ Below w.heap.size w wr)
    (fun _ i _ => L.length - (intOf i).toNat)
  case atStart => exact ⟨0, by omega, rfl, rfl, HK.out, HAL.out⟩
  case round =>
    obtain ⟨m, hm, rfl, rfl, hK, hb⟩ := hrel
    have HB := Lib.hid hb
    have HK1 := Lib.hid hK
    have b0 := hK.cell 0
    have b1 := hK.cell 1
    have b2 := hK.cell 2
    by_cases hmx : m < L.length
    · obtain ⟨x, hx1⟩ : ∃ x, L[m]? = some x := ⟨_, List.getElem?_eq_getElem hmx⟩
      obtain ⟨ad, A1, a1, A2, a2, rfl, e0, e1, e2, e3, e4, hfx⟩ := (HV.out.below hb).at hx1
      have few := HF.out x (List.mem_of_getElem? hx1)
      obtain ⟨tc, tg, tq⟩ := tdOf_at hx1
      have s0 := cell_below hb (HT.out.cell hmx)
      have q2 : (m : Int) < (L.length : Int) := by omega
      have al := below_alloc0 wr (.cells #[.int .i64 x.1, .int .i64 x.2.1, .bool x.2.2.1, .slice A1 x.2.2.2.1.length a1, .slice A2 x.2.2.2.2.length a2] 40)
      have KV := Blk.new wr 40 #[.int .i64 x.1, .int .i64 x.2.1, .bool x.2.2.1, .slice A1 x.2.2.2.1.length a1, .slice A2 x.2.2.2.2.length a2]
      have k0 := KV.cell 0
      have k1 := KV.cell 1
      have k2 := KV.cell 2
      have k3 := KV.cell 3
      have k4 := KV.cell 4
      have s1 := cell_below al s0
      have HAL2 := Lib.hid (bl_trans hb al)
      have HKV := Lib.hid KV
      have HK2 := Lib.hid (hK.below al)
      have HFX := Lib.hid (hfx.below al)
      have HTC := Lib.hid tc
      have HTG := Lib.hid tg
      have HTQ := Lib.hid tq
      have HX1 := Lib.hid hx1
      clear hb hK hx1 hfx al KV tc tg tq
      by_cases h0 : st m = 0
      · have g1 : ((st m : Int) != 0) = false := by rw [h0]; rfl
        have H0 := Lib.hid h0
        clear h0
        go_wp2_with fail
        refine (there_calls _ _ _ _ _ _ _ _ _ _ _).mono ?_
        rintro e w5 ⟨rfl, hb5⟩
        by_cases ht : x.1 ≤ day ∧ day ≤ x.2.1
        · rw [decide_eq_true ht]
          have HT2 := Lib.hid ht
          have KV5 := HKV.out.below hb5
          have k2 := KV5.cell 2
          have k3 := KV5.cell 3
          have k4 := KV5.cell 4
          have HB5 := Lib.hid (bl_trans HAL2.out hb5)
          have HK5 := Lib.hid (HK2.out.below hb5)
          have HFX5 := Lib.hid (HFX.out.below hb5)
          have HKV5 := Lib.hid KV5
          clear ht hb5 KV5
          go_wp2_with fail
          refine (rsign_calls _ _ x.2.2.1 x.2.2.2.1 x.2.2.2.2 HFX5.out (by omega)).mono ?_
          rintro e w6 ⟨rfl, hb6⟩
          have hfq : fixq x.2.2.1 x.2.2.2.1 x.2.2.2.2 = fqd x.2.2 := rfl
          rw [hfq]
          have hsg := sign_gt (q := fqd x.2.2)
          have HB6 := Lib.hid (bl_trans HB5.out hb6)
          have HK6 := Lib.hid (HK5.out.below hb6)
          have KV6 := HKV5.out.below hb6
          have HFX6 := Lib.hid (HFX5.out.below hb6)
          clear hfq hb6 k2 k3 k4
          by_cases hp : 0 < fqd x.2.2
          · rw [decide_eq_true hp] at hsg
            have p1 : (0 : Int) < (fqd x.2.2).num.sign := of_decide_eq_true hsg
            have p2 : ¬ (fqd x.2.2).num.sign ≤ 0 := by omega
            have p3 : 0 < (fqd x.2.2).num := by
              apply Classical.byContradiction
              intro h
              rcases Int.lt_or_eq_of_le (show (fqd x.2.2).num ≤ 0 by omega) with h | h
              · have := Int.sign_eq_neg_one_of_neg h; omega
              · rw [h] at p1; simp at p1
            have p4 : decide ((fqd x.2.2).num.sign ≤ 0) = false := decide_eq_false p2
            have hel : (tdOf L).elig st day m := ⟨H0.out, ⟨by rw [HTC.out]; exact HT2.out.1, by rw [HTG.out]; exact HT2.out.2⟩, by rw [HTQ.out]; exact hp⟩
            rcases hn : (tdOf L).nx st day m with _ | a
            · obtain ⟨v1, v2⟩ := nxV_none hel hn
              have HV2 := Lib.hid v2
              rw [v1]
              clear hel hn v1 v2 hp hsg KV6
              go_wp2_with fail
              go_quiet (fail)
              go_wp2
              exact ⟨⟨m + 1, by omega, by go_num, by rw [HV2.out], HK6.out.below (bl_drewN _ _), bl_trans HB6.out (bl_drewN _ _)⟩, by simp [intOf]; omega⟩
            · obtain ⟨v1, v2⟩ := nxV_some hel hn
              have ham := (((tdOf L).nx_spec st day m).1 a hn).1
              obtain ⟨y, hy1⟩ : ∃ y, L[a]? = some y := ⟨_, List.getElem?_eq_getElem (by omega)⟩
              have hV6 := HV.out.below HB6.out
              obtain ⟨ad', A3, a3, A4, a4, hh, f0, f1, f2, f3, f4, hfy⟩ := hV6.at hy1
              obtain rfl : ad = ad' := by simpa using hh
              have fewy := HF.out y (List.mem_of_getElem? hy1)
              rw [HTQ.out, (tdOf_at hy1).2.2] at v2
              have HV2 := Lib.hid v2
              rw [v1]
              have q4 : (a : Int) < (L.length : Int) := by omega
              have q5 : ¬ (a : Int) < 0 := by omega
              have hs := holdv_next (bl_drew w6) ⟨(⟨Below.refl _ _, ⟨x.2.2.1, x.2.2.2.1, x.2.2.2.2, HFX6.out, by omega, rfl⟩, ⟨y.2.2.1, y.2.2.2.1, y.2.2.2.2, hfy, by omega, rfl⟩⟩ : HoldFF w6 _ _ (fqd x.2.2) (fqd y.2.2) w6), HK6.out.cell 2, KV6.cell 2, KV6.cell 3, KV6.cell 4, f2, f3, f4⟩
              have h3 := rcmp_three (fqd x.2.2) (fqd y.2.2)
              have hcmp : rcmp (fqd x.2.2) (fqd y.2.2) > 0 ↔ fqd y.2.2 < fqd x.2.2 := by unfold rcmp; grind
              obtain ⟨p, hp0⟩ : ∃ p, p = rcmp (fqd x.2.2) (fqd y.2.2) := ⟨_, rfl⟩
              rw [← hp0] at hcmp h3
              have HP := Lib.hid hp0
              have HCMP := Lib.hid hcmp
              clear hel hn v1 v2 hp hsg KV6 hV6 hh f0 f1 f2 f3 f4 hfy hy1 hp0 hcmp
              by_cases hgt : p > 0
              · have g4 : decide (p > 0) = true := decide_eq_true hgt
                have HV3 := Lib.hid (HV2.out.trans (if_pos (HCMP.out.1 hgt)))
                clear h3
                go_wp2_with fail
                go_region_held3 (fun w' => HoldFF w6 (.agg #[.bool x.2.2.1, .slice A1 x.2.2.2.1.length a1, .slice A2 x.2.2.2.2.length a2]) (.agg #[.bool y.2.2.1, .slice A3 y.2.2.2.1.length a3, .slice A4 y.2.2.2.2.length a4]) (fqd x.2.2) (fqd y.2.2) w' ∧ w'.cell? ⟨w.heap.size, 2, none⟩ = some (.slice (some ad) L.length c) ∧ w'.cell? ⟨wr.heap.size, 2, none⟩ = some (.bool x.2.2.1) ∧ w'.cell? ⟨wr.heap.size, 3, none⟩ = some (.slice A1 x.2.2.2.1.length a1) ∧ w'.cell? ⟨wr.heap.size, 4, none⟩ = some (.slice A2 x.2.2.2.2.length a2) ∧ w'.cell? ⟨(ad.add (a * 5)).block, (ad.add (a * 5)).off + 2, none⟩ = some (.bool y.2.2.1) ∧ w'.cell? ⟨(ad.add (a * 5)).block, (ad.add (a * 5)).off + 3, none⟩ = some (.slice A3 y.2.2.2.1.length a3) ∧ w'.cell? ⟨(ad.add (a * 5)).block, (ad.add (a * 5)).off + 4, none⟩ = some (.slice A4 y.2.2.2.2.length a4))
                  ((first | exact hs | exact holdv_next hbN (by assumption)))
                  (first
                    | (go_at_call 23; (with_reducible refine (rcmpq _ _ _ (fqd x.2.2) (fqd y.2.2) ?_ ?_).mono ?_); (exact HoldFF.t1 (And.left (by assumption))); (exact HoldFF.t2 (And.left (by assumption))); (rintro e w' ⟨rfl, hbN⟩); (rw [← HP.out]); (have H1 := HoldFF.next hbN (And.left (by assumption)))))
                have HH1 := Lib.hid H1.1
                clear hs H1
                go_wp2
                exact ⟨⟨m + 1, by omega, by go_num, by rw [HV3.out], HK6.out.below HH1.out, bl_trans HB6.out HH1.out⟩, by simp [intOf]; omega⟩
              · have g4 : decide (p > 0) = false := decide_eq_false hgt
                have HV3 := Lib.hid (HV2.out.trans (if_neg (fun h => hgt (HCMP.out.2 h))))
                clear h3
                go_wp2_with fail
                go_region_held3 (fun w' => HoldFF w6 (.agg #[.bool x.2.2.1, .slice A1 x.2.2.2.1.length a1, .slice A2 x.2.2.2.2.length a2]) (.agg #[.bool y.2.2.1, .slice A3 y.2.2.2.1.length a3, .slice A4 y.2.2.2.2.length a4]) (fqd x.2.2) (fqd y.2.2) w' ∧ w'.cell? ⟨w.heap.size, 2, none⟩ = some (.slice (some ad) L.length c) ∧ w'.cell? ⟨wr.heap.size, 2, none⟩ = some (.bool x.2.2.1) ∧ w'.cell? ⟨wr.heap.size, 3, none⟩ = some (.slice A1 x.2.2.2.1.length a1) ∧ w'.cell? ⟨wr.heap.size, 4, none⟩ = some (.slice A2 x.2.2.2.2.length a2) ∧ w'.cell? ⟨(ad.add (a * 5)).block, (ad.add (a * 5)).off + 2, none⟩ = some (.bool y.2.2.1) ∧ w'.cell? ⟨(ad.add (a * 5)).block, (ad.add (a * 5)).off + 3, none⟩ = some (.slice A3 y.2.2.2.1.length a3) ∧ w'.cell? ⟨(ad.add (a * 5)).block, (ad.add (a * 5)).off + 4, none⟩ = some (.slice A4 y.2.2.2.2.length a4))
                  ((first | exact hs | exact holdv_next hbN (by assumption)))
                  (first
                    | (go_at_call 23; (with_reducible refine (rcmpq _ _ _ (fqd x.2.2) (fqd y.2.2) ?_ ?_).mono ?_); (exact HoldFF.t1 (And.left (by assumption))); (exact HoldFF.t2 (And.left (by assumption))); (rintro e w' ⟨rfl, hbN⟩); (rw [← HP.out]); (have H1 := HoldFF.next hbN (And.left (by assumption)))))
                have HH1 := Lib.hid H1.1
                clear hs H1
                go_wp2
                exact ⟨⟨m + 1, by omega, by go_num, by rw [HV3.out], HK6.out.below HH1.out, bl_trans HB6.out HH1.out⟩, by simp [intOf]; omega⟩
          · rw [decide_eq_false hp] at hsg
            have p1 : (fqd x.2.2).num.sign ≤ 0 := by have := of_decide_eq_false hsg; omega
            have p2 : (fqd x.2.2).num ≤ 0 := by
              apply Classical.byContradiction
              intro h
              have := Int.sign_eq_one_of_pos (show 0 < (fqd x.2.2).num by omega)
              omega
            have p4 : decide ((fqd x.2.2).num.sign ≤ 0) = true := decide_eq_true p1
            have HN := Lib.hid (nxV_skip (T := tdOf L) (st := st) (d := day) (m := m) (fun he => hp (by rw [← HTQ.out]; exact he.2.2)))
            clear hp hsg KV6
            go_wp2
            exact ⟨⟨m + 1, by omega, by go_num, by rw [HN.out], HK6.out, HB6.out⟩, by simp [intOf]; omega⟩
        · rw [decide_eq_false ht]
          have HN := Lib.hid (nxV_skip (T := tdOf L) (st := st) (d := day) (m := m) (fun he => ht ⟨by rw [← HTC.out]; exact he.2.1.1, by rw [← HTG.out]; exact he.2.1.2⟩))
          have HB5 := Lib.hid (bl_trans HAL2.out hb5)
          have HK5 := Lib.hid (HK2.out.below hb5)
          clear ht hb5
          go_wp2
          exact ⟨⟨m + 1, by omega, by go_num, by rw [HN.out], HK5.out, HB5.out⟩, by simp [intOf]; omega⟩
      · have g1 : ((st m : Int) != 0) = true := bne_iff_ne.2 h0
        have HN := Lib.hid (nxV_skip (T := tdOf L) (st := st) (d := day) (m := m) (fun he => h0 he.1))
        clear h0
        go_wp2
        exact ⟨⟨m + 1, by omega, by go_num, by rw [HN.out], HK2.out, HAL2.out⟩, by simp [intOf]; omega⟩
    · obtain rfl : m = L.length := by omega
      have q2 : ¬ (L.length : Int) < (L.length : Int) := by omega
      clear hK hb
      go_wp2
      go_ret
      exact ⟨rfl, HB.out⟩

/-- What the reference's sold holds on to. -/
structure RS (w0 : World) (gd : Nat) (days each : Int) (A : Option Addr) (c : Nat) (L : List VD) (st : Nat → Int) (wr : World) : Prop where
  box : Blk wr w0.heap.size 24 #[.int .i64 days, .int .i64 each, .slice A L.length c]
  out : Tb wr gd 3 L.length L.length (fun j => .int .i64 (st j))
  bel : Below w0.heap.size w0 wr
  gdB : w0.heap.size ≤ gd
theorem RS.below {w0 : World} {gd : Nat} {days each : Int} {A : Option Addr} {c : Nat} {L : List VD} {st : Nat → Int} {wr w2 : World} (h : RS w0 gd days each A c L st wr) (hb : Below wr.heap.size wr w2) : RS w0 gd days each A c L st w2 :=
  ⟨h.box.below hb, h.out.fr (Fr.of_below (S := fun _ => False) hb) (fun h => h), bl_trans h.bel hb, h.gdB⟩
theorem RS.store {w0 : World} {gd : Nat} {days each : Int} {A : Option Addr} {c : Nat} {L : List VD} {st : Nat → Int} {wr : World} (h : RS w0 gd days each A c L st wr) {i : Nat} (hi : i < L.length) (d : Int) : RS w0 gd days each A c L (upd st i d) (wr.setCell ⟨gd, i, none⟩ (.int .i64 d)) := by
  obtain ⟨k1, k2⟩ := h.out.set hi (intne d)
  obtain ⟨cs, hc, _⟩ := h.out
  refine ⟨k2.blk h.box (fun e => blk_ne h.box hc (by decide) e), k1.congr (fun j hj => ?_), Below.trans h.bel (k2.below h.bel.size (fun g hg => by have e : g = gd := hg; rw [e]; exact h.gdB)), h.gdB⟩
  by_cases e : j = i
  · subst e; rw [upd_at, upd_at]
  · rw [upd_ne e, upd_ne e]
set_option maxRecDepth 100000 in
set_option maxHeartbeats 8000000 in
theorem rsold_calls (w : World) (D K : Nat) (A : Option Addr) (c : Nat) (L : List VD) (h : VL w (.slice A L.length c) L) (hf : FewV 2000 L) (hD12 : D ≤ 12) (hK4 : K ≤ 4) (hL12 : L.length ≤ 12) :
    Calls Try.prog 50 #[.agg #[.int .i64 (D : Int), .int .i64 (K : Int), .slice A L.length c]] w fun e w' => ∃ g, e = .returned (.slice (some ⟨g, 0, none⟩) L.length L.length) ∧ w.heap.size ≤ g ∧ Tb w' g 3 L.length L.length (fun j => .int .i64 ((tdOf L).sold K D j)) ∧ Below w.heap.size w w' := by
  have HV := Lib.hid h
  have hcc := h.bounds
  have HF := Lib.hid hf
  have hmk := mk_ints L.length (by omega)
  have al := below_alloc0 w (.cells #[.int .i64 (D : Int), .int .i64 (K : Int), .slice A L.length c] 24)
  have KB := Blk.new w 24 #[.int .i64 (D : Int), .int .i64 (K : Int), .slice A L.length c]
  obtain ⟨wa, hwa⟩ : ∃ W, W = w.alloc (.cells #[.int .i64 (D : Int), .int .i64 (K : Int), .slice A L.length c] 24) := ⟨_, rfl⟩
  rw [← hwa] at al KB
  have al2 := below_alloc0 wa (.cells (madeCells #[.int .i64 0] L.length) 3)
  have hsz := al.size
  have hwz : wa.heap.size = w.heap.size + 1 := by rw [hwa]; simp
  have TO := ints_new wa L.length
  rw [hwz] at TO
  have HRS := Lib.hid (show RS w (w.heap.size + 1) (D : Int) (K : Int) A c L (fun _ => 0) (wa.alloc (.cells (madeCells #[.int .i64 0] L.length) 3)) from ⟨KB.below al2, TO, bl_trans al al2, Nat.le_succ _⟩)
  have k2 := KB.cell 2
  have HWA := Lib.hid hwa
  rw [hwa] at k2
  clear h hf al al2 KB hwa TO hwz hsz
  go_enter Try.func50, Try.ntmps50
  go_wp2
  rw [← HWA.out]
  clear k2 hmk HWA
  go_loopw [4] (fun i wr => ∃ (dd : Nat), dd ≤ D ∧ i = .int .i64 ((dd : Int) + 1) ∧ RS w (w.heap.size + 1) (D : Int) (K : Int) A c L ((tdOf L).sold K dd) wr)
    (fun i _ => D + 1 - (intOf i).toNat)
  case atStart => exact ⟨0, by omega, by simp, HRS.out⟩
  case round =>
    clear HRS
    obtain ⟨dd, hdd, rfl, hS⟩ := hrel
    have HS := Lib.hid hS
    have b0 := hS.box.cell 0
    have b1 := hS.box.cell 1
    by_cases hx : dd < D
    · have q1 : (dd : Int) + 1 ≤ (D : Int) := by omega
      clear hS
      go_wp2
      go_loopw [5] (fun i wx => ∃ (j : Nat), j ≤ K ∧ i = .int .i64 (j : Int) ∧ RS w (w.heap.size + 1) (D : Int) (K : Int) A c L ((tdOf L).selln ((dd : Int) + 1) j ((tdOf L).sold K dd)) wx)
        (fun i _ => K - (intOf i).toNat)
      case atStart => exact ⟨0, by omega, rfl, HS.out⟩
      case round =>
        clear HS b0 b1
        obtain ⟨j, hj, rfl, hS⟩ := hrel
        obtain ⟨st, hst⟩ : ∃ st, st = (tdOf L).selln ((dd : Int) + 1) j ((tdOf L).sold K dd) := ⟨_, rfl⟩
        rw [← hst] at hS
        have hsucc : (tdOf L).selln ((dd : Int) + 1) (j + 1) ((tdOf L).sold K dd) = (tdOf L).sell1 ((dd : Int) + 1) st := by rw [Td.selln_succ, hst]
        have HSUCC := Lib.hid hsucc
        have HST := Lib.hid hst
        have HS := Lib.hid hS
        have b0 := hS.box.cell 0
        have b1 := hS.box.cell 1
        have b2 := hS.box.cell 2
        by_cases hjx : j < K
        · have q2 : (j : Int) < (K : Int) := by omega
          clear hS hsucc hst
          go_wp2_with fail
          refine (rnext_calls _ _ _ _ A c L (w.heap.size + 1) st (HV.out.below HS.out.bel) HF.out HS.out.out (by omega)).mono ?_
          rintro e w5 ⟨rfl, hb5⟩
          have hS5 := HS.out.below hb5
          have HS5 := Lib.hid hS5
          rcases hn : (tdOf L).nx st ((dd : Int) + 1) L.length with _ | a
          · have hv : nxV (tdOf L) st ((dd : Int) + 1) L.length = -1 := by unfold nxV; rw [hn]
            have hs1 : (tdOf L).sell1 ((dd : Int) + 1) st = st := by
              unfold Td.sell1
              have hn' : (tdOf L).nx st ((dd : Int) + 1) (tdOf L).n = none := hn
              rw [hn']
            have HS1 := Lib.hid (HSUCC.out.trans hs1)
            rw [hv]
            clear hn hv hs1 hS5 hb5
            go_wp2
            exact ⟨⟨j + 1, by omega, by go_num, by rw [HS1.out]; exact HS5.out⟩, by simp [intOf]; omega⟩
          · have hv : nxV (tdOf L) st ((dd : Int) + 1) L.length = (a : Int) := by unfold nxV; rw [hn]
            have hn' : (tdOf L).nx st ((dd : Int) + 1) (tdOf L).n = some a := hn
            have hal : a < L.length := (((tdOf L).nx_spec st ((dd : Int) + 1) L.length).1 a hn).1
            have hs1 : (tdOf L).sell1 ((dd : Int) + 1) st = upd st a ((dd : Int) + 1) := by
              unfold Td.sell1
              rw [hn']
            have HS1 := Lib.hid (HSUCC.out.trans hs1)
            rw [hv]
            have oc := hS5.out.cell hal
            have of := hS5.out.free
            have q3 : (a : Int) < (L.length : Int) := by omega
            have q4 : (0 : Int) ≤ (a : Int) := by omega
            clear hn hv hn' hs1 hS5 hb5
            go_wp2
            exact ⟨⟨j + 1, by omega, by go_num, by rw [HS1.out]; exact HS5.out.store hal _⟩, by simp [intOf]; omega⟩
        · obtain rfl : j = K := by omega
          have hend : (tdOf L).sold j (dd + 1) = st := by rw [hst]; rfl
          have HEND := Lib.hid hend
          have q2 : ¬ (j : Int) < (j : Int) := by omega
          clear hS hsucc hst hend
          go_wp2
          exact ⟨⟨dd + 1, by omega, by go_num, by rw [HEND.out]; exact HS.out⟩, by simp [intOf]; omega⟩
    · obtain rfl : dd = D := by omega
      have q1 : ¬ (dd : Int) + 1 ≤ (dd : Int) := by omega
      clear hS
      go_wp2
      go_ret
      exact ⟨_, rfl, HS.out.gdB, HS.out.out, HS.out.bel⟩
set_option maxRecDepth 100000 in
set_option maxHeartbeats 4000000 in
theorem rsell_calls (w : World) (days each : Int) (A : Option Addr) (c : Nat) (L : List VD) (h : VL w (.slice A L.length c) L) (hf : FewV 2000 L) :
    Calls Try.prog 13 #[.agg #[.int .i64 days, .int .i64 each, .slice A L.length c]] w (SellP days each L w) := by
  have HV := Lib.hid h
  have HF := Lib.hid hf
  have al := below_alloc0 w (.cells #[.int .i64 days, .int .i64 each, .slice A L.length c] 24)
  have KB := Blk.new w 24 #[.int .i64 days, .int .i64 each, .slice A L.length c]
  have k0 := KB.cell 0
  have k1 := KB.cell 1
  have k2 := KB.cell 2
  have HAL := Lib.hid al
  have HK := Lib.hid KB
  clear h hf al KB
  obtain ⟨r, hr⟩ : ∃ r, r = rightN days each L := ⟨_, rfl⟩
  have HR := Lib.hid hr
  by_cases hr0 : r = 0
  · obtain ⟨z1, z2, _⟩ := rightN_zero (hr.symm.trans hr0)
    obtain ⟨D, hD⟩ : ∃ D : Nat, days = (D : Int) := ⟨days.toNat, by omega⟩
    obtain ⟨K, hKe⟩ : ∃ K : Nat, each = (K : Int) := ⟨each.toNat, by omega⟩
    subst hD
    subst hKe
    have hD12 : D ≤ 12 := by omega
    have hK4 : K ≤ 4 := by omega
    have hL12 : L.length ≤ 12 := by omega
    have HR0 := Lib.hid hr0
    clear z1 z2 hr hr0
    go_enter Try.func13, Try.ntmps13
    go_wp2_with fail
    refine (rtright_calls _ _ _ A c L (HV.out.below HAL.out)).mono ?_
    rintro e w1 ⟨rfl, hb1⟩
    rw [← HR.out, HR0.out]
    have K1 := HK.out.below hb1
    have k0 := K1.cell 0
    have k1 := K1.cell 1
    have k2 := K1.cell 2
    have HB1 := Lib.hid (bl_trans HAL.out hb1)
    clear hb1 K1
    go_wp2_with fail
    refine (rsold_calls _ D K A c L (HV.out.below HB1.out) HF.out hD12 hK4 hL12).mono ?_
    rintro e w2 ⟨g, rfl, hg, hT, hb2⟩
    have hsz := HB1.out.size
    have HT := Lib.hid hT
    have HB2 := Lib.hid (bl_trans HB1.out hb2)
    clear hT hb2
    go_wp2
    go_ret2
    exact ⟨HB2.out, .inr ⟨by rw [← HR.out]; exact HR0.out, g, rfl, by omega, HT.out⟩⟩
  · have HRN := Lib.hid (show r ≠ 0 from hr0)
    have g0 : ((r : Int) != 0) = true := bne_iff_ne.2 hr0
    clear hr hr0
    go_enter Try.func13, Try.ntmps13
    go_wp2_with fail
    refine (rtright_calls _ _ _ A c L (HV.out.below HAL.out)).mono ?_
    rintro e w1 ⟨rfl, hb1⟩
    rw [← HR.out]
    have HB1 := Lib.hid (bl_trans HAL.out hb1)
    clear hb1
    go_wp2
    go_ret2
    exact ⟨HB1.out, .inl ⟨by rw [← HR.out]; exact HRN.out, by rw [← HR.out]; rfl⟩⟩
end Go.Proofs.Ytajckdheecgceaa
