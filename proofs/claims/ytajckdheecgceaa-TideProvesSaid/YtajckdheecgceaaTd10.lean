/- Tides: the reference's bars. -/
import Derived.Test.YtajckdheecgceaaTd7
import Derived.Test.YtajckdheecgceaaOwn
set_option linter.unusedVariables false
set_option linter.unusedSimpArgs false
namespace Go.Proofs.Ytajckdheecgceaa
open Go.RowKit

/-- One more fraction behind a list of one's own. -/
theorem push_fv {W0 W : World} {v : Value} {acc : List Rat} {q : Rat} {A1 A2 : Option Addr} {c1 c2 : Nat} (hO : OF W W0.heap.size v (acc.map dq)) (hb : Below W0.heap.size W0 W) (hq : FrV W (.agg #[.bool (decide (q.num < 0)), .slice A1 (dg q.num.natAbs).length c1, .slice A2 (dg q.den).length c2]) q) (hl : acc.length ≤ 1000000) :
    ∃ v' w', (Builtin.append_ #[31, 31] 31 #[v, .slice (some ⟨W.heap.size, 0, none⟩) 1 1]).run Try.prog (W.alloc (.cells #[.bool (decide (q.num < 0)), .slice A1 (dg q.num.natAbs).length c1, .slice A2 (dg q.den).length c2] 38)) = .ok v' w' ∧
      OF w' W0.heap.size v' ((acc ++ [q]).map dq) ∧ Below W0.heap.size W0 w' ∧ (∀ x, v'.ownBlock = some x → x < w'.heap.size) := by
  have al := below_alloc0 W (.cells #[.bool (decide (q.num < 0)), .slice A1 (dg q.num.natAbs).length c1, .slice A2 (dg q.den).length c2] 38)
  have KB := Blk.new W 38 #[.bool (decide (q.num < 0)), .slice A1 (dg q.num.natAbs).length c1, .slice A2 (dg q.den).length c2]
  have hs := Nat.le_trans hb.size al.size
  obtain ⟨v', w', hrun, hO', hfr, hob⟩ := OF.push (d := dq q) (hO.below al) hs KB (FrIn.below hq al) (by rw [List.length_map]; exact hl)
  refine ⟨v', w', hrun, ?_, Below.trans (bl_trans hb al) (hfr.below hs (fun g hg => hO.block hg)), fun x hx => (hob x hx).1⟩
  rw [List.map_append]
  exact hO'
theorem OF.typ {w : World} {B : Nat} {v : Value} {L : List (Bool × List Int × List Int)} (h : OF w B v L) {g : Nat} (hg : v.ownBlock = some g) : ∃ cs, w.heap[g]? = some (.cells cs 38 (0, 0)) := by
  obtain ⟨xs, h1, h2, h3⟩ := h
  rcases h1.2 with ⟨rfl, _⟩ | ⟨g', cap, cur, rfl, hb, hc, _⟩
  · cases hg
  · obtain rfl : g' = g := by simpa [Value.ownBlock] using hg
    exact ⟨cur, hc⟩
theorem OF.mono {w : World} {B B' : Nat} {v : Value} {L : List (Bool × List Int × List Int)} (h : OF w B v L) (hB : B' ≤ B) : OF w B' v L := by
  obtain ⟨xs, h1, h2, h3⟩ := h
  refine ⟨xs, ⟨h1.1, ?_⟩, h2, h3⟩
  rcases h1.2 with h4 | ⟨g, cap, cur, e1, e2, e3⟩
  · exact .inl h4
  · exact .inr ⟨g, cap, cur, e1, Nat.le_trans hB e2, e3⟩
theorem fqd_szq2 {L : List VD} (hf : FewV 2000 L) (hw : ∀ d ∈ L, Wd d.2.2.2.1 ∧ Wd d.2.2.2.2) {i : Nat} {d : VD} (h : L[i]? = some d) : Szq 2000 ((tdOf L).q i) := by
  rw [(tdOf_at h).2.2]
  have hm := List.mem_of_getElem? h
  exact szq_fix (hw d hm).1 (hw d hm).2 (hf d hm).1 (hf d hm).2 (by omega)
theorem lq_szq {T : Td} {st : Nat → Int} {d : Int} (h : ∀ i, i < T.n → Szq 2000 (T.q i)) : ∀ m, m ≤ T.n → Szq 2000 (T.lq st d m) := by
  intro m
  induction m with
  | zero => intro _; exact szq_zero _ (by omega)
  | succ m ih =>
    intro hm
    show Szq 2000 (if st m = d then (if cntD st d m = 0 ∨ T.q m < T.lq st d m then T.q m else T.lq st d m) else T.lq st d m)
    split
    · split
      · exact h m (by omega)
      · exact ih (by omega)
    · exact ih (by omega)
theorem VL.wd {w : World} {A : Option Addr} {c : Nat} {L : List VD} (h : VL w (.slice A L.length c) L) : ∀ d ∈ L, Wd d.2.2.2.1 ∧ Wd d.2.2.2.2 := by
  intro d hd
  obtain ⟨i, hi, rfl⟩ := List.mem_iff_getElem.1 hd
  obtain ⟨_, _, _, _, _, _, _, _, _, _, _, hf⟩ := h.at (List.getElem?_eq_getElem hi)
  exact hf.wd
/-- Another fraction in a box: nothing else is changed. -/
theorem FBox.fr {w : World} {g : Nat} {x0 x1 x2 : Value} (h : Blk w g 38 #[x0, x1, x2]) (n0 : ∀ n, x0 ≠ .int .u32 n) (n1 : ∀ n, x1 ≠ .int .u32 n) (n2 : ∀ n, x2 ≠ .int .u32 n) (a b c : Value) : Fr (fun y => y = g) w (((w.setCell ⟨g, 0, none⟩ a).setCell ⟨g, 1, none⟩ b).setCell ⟨g, 2, none⟩ c) := by
  have k0 := Fr.set (h.cell 0) n0 a
  have h1 := h.set 0 a
  have k1 := Fr.set (h1.cell 1) n1 b
  have h2 := h1.set 1 b
  have k2 := Fr.set (h2.cell 2) n2 c
  exact (k0.trans k1).trans k2

/-- The bars of the first days. -/
def barL (K D : Nat) (L : List VD) (d : Nat) : List Rat := (List.range d).map (fun (j : Nat) => (tdOf L).bar K ((tdOf L).sold K D) ((j : Int) + 1))
theorem barL_snoc (K D : Nat) (L : List VD) (d : Nat) : barL K D L (d + 1) = barL K D L d ++ [(tdOf L).bar K ((tdOf L).sold K D) ((d : Int) + 1)] := by
  unfold barL; rw [List.range_succ, List.map_append]; rfl
theorem cnt_le {T : Td} {st : Nat → Int} {d : Int} : ∀ m, cntD st d m ≤ m := by
  intro m
  induction m with
  | zero => exact Nat.le_refl _
  | succ m ih =>
    show cntD st d m + _ ≤ m + 1
    split <;> omega
set_option maxRecDepth 100000 in
set_option maxHeartbeats 16000000 in
theorem rbars_calls (w : World) (D K : Nat) (A : Option Addr) (c : Nat) (L : List VD) (h : VL w (.slice A L.length c) L) (hf : FewV 2000 L) (hD12 : D ≤ 12) (hK4 : K ≤ 4) (hL12 : L.length ≤ 12) :
    Calls Try.prog 51 #[.agg #[.int .i64 (D : Int), .int .i64 (K : Int), .slice A L.length c]] w fun e w' => ∃ v, e = .returned v ∧ OF w' w.heap.size v ((barL K D L D).map dq) ∧ Below w.heap.size w w' := by
  have HV := Lib.hid h
  have hcc := h.bounds
  have HF := Lib.hid hf
  have HW := Lib.hid h.wd
  have al := below_alloc0 w (.cells #[.int .i64 (D : Int), .int .i64 (K : Int), .slice A L.length c] 24)
  have KB := Blk.new w 24 #[.int .i64 (D : Int), .int .i64 (K : Int), .slice A L.length c]
  have k0 := KB.cell 0
  have k1 := KB.cell 1
  have k2 := KB.cell 2
  have HAL := Lib.hid al
  have HK := Lib.hid KB
  clear h hf al KB
  go_enter Try.func51, Try.ntmps51
  go_wp2_with fail
  refine (rsold_calls _ D K A c L (HV.out.below HAL.out) HF.out hD12 hK4 hL12).mono ?_
  rintro e w1 ⟨g, rfl, hg, hT, hb1⟩
  have HT := Lib.hid hT
  have HK1 := Lib.hid (HK.out.below hb1)
  have HB1 := Lib.hid (bl_trans HAL.out hb1)
  obtain ⟨st, hst⟩ : ∃ st, st = (tdOf L).sold K D := ⟨_, rfl⟩
  rw [← hst] at HT
  have HST := Lib.hid hst
  have hsz1 := HB1.out.size
  clear hT hb1 hst k0 k1 k2 hg
  go_wp2
  go_loopw [5, 4] (fun i v wx => ∃ (dd : Nat), dd ≤ D ∧ i = .int .i64 ((dd : Int) + 1) ∧ OF wx w1.heap.size v ((barL K D L dd).map dq) ∧ Below w1.heap.size w1 wx)
    (fun i _ _ => D + 1 - (intOf i).toNat)
  case atStart => exact ⟨0, by omega, by simp, OF.nil _ _, Below.refl _ _⟩
  case round =>
    obtain ⟨dd, hdd, rfl, hO, hb⟩ := hrel
    have HO := Lib.hid hO
    have HB := Lib.hid hb
    have kb := HK1.out.below hb
    have b0 := kb.cell 0
    have b1 := kb.cell 1
    have b2 := kb.cell 2
    by_cases hx : dd < D
    · have q1 : (dd : Int) + 1 ≤ (D : Int) := by omega
      have HKB := Lib.hid kb
      clear hO hb kb
      go_wp2_with fail
      refine (rint_calls _ 0 (by omega) (by omega)).mono ?_
      rintro e w5 ⟨v5, rfl, hv5, hb5⟩
      obtain ⟨q0, hq0⟩ : ∃ q : Rat, q = 0 := ⟨_, rfl⟩
      have hv5 : FrV w5 v5 q0 := by rw [hq0]; exact hv5
      obtain ⟨B1, c1, B2, c2, rfl, _, _, _, _⟩ := FrIn.shape hv5
      have al5 := below_alloc0 w5 (.cells #[.bool (decide (q0.num < 0)), .slice B1 (dg q0.num.natAbs).length c1, .slice B2 (dg q0.den).length c2] 38)
      have KL := Blk.new w5 38 #[.bool (decide (q0.num < 0)), .slice B1 (dg q0.num.natAbs).length c1, .slice B2 (dg q0.den).length c2]
      obtain ⟨gl, hgl⟩ : ∃ x, x = w5.heap.size := ⟨_, rfl⟩
      have hvv := FrV.below hv5 al5
      have hb15 := bl_trans HB.out hb5
      have hszB := hb15.size
      have HOB := Lib.hid ((HO.out.below hb5).below al5)
      have hlt : ∀ y, u4.ownBlock = some y → y < w5.heap.size := fun y hy => by
        obtain ⟨ds, hd⟩ := HO.out.typ hy
        have h1 := (Array.getElem?_eq_some_iff.1 hd).1
        have h2 := hb5.size
        omega
      have HLT := Lib.hid hlt
      obtain ⟨wB, hwB⟩ : ∃ W, W = w5.alloc (.cells #[.bool (decide (q0.num < 0)), .slice B1 (dg q0.num.natAbs).length c1, .slice B2 (dg q0.den).length c2] 38) := ⟨_, rfl⟩
      rw [← hwB] at al5 KL hvv HOB
      rw [← hgl] at KL
      have HWB := Lib.hid hwB
      have HGL := Lib.hid hgl
      have HFB := Lib.hid (show FBox wB gl q0 from ⟨_, _, _, _, KL, hvv⟩)
      have HBB := Lib.hid (bl_trans hb15 al5)
      have HKB2 := Lib.hid ((HKB.out.below hb5).below al5)
      have HQ0 := Lib.hid hq0
      clear hq0 hv5 hb5 al5 KL hgl hvv hb15 hlt hwB b0 b1 b2
      go_wp2
      rw [← HWB.out, ← HGL.out]
      go_loopw [8, 6] (fun i cn wy => ∃ m : Nat, m ≤ L.length ∧ i = .int .i64 (m : Int) ∧ cn = .int .i64 ((cntD st ((dd : Int) + 1) m : Nat) : Int) ∧ FBox wy gl ((tdOf L).lq st ((dd : Int) + 1) m) ∧ Fr (fun y => y = gl) wB wy)
        (fun i _ _ => L.length - (intOf i).toNat)
      case atStart => exact ⟨0, by omega, rfl, rfl, by have h := HFB.out; rw [HQ0.out] at h; exact h, Fr.refl _ _⟩
      case round =>
        obtain ⟨m, hm, rfl, rfl, hFB, hfr⟩ := hrel
        obtain ⟨D1, d1, D2, d2, KS, hsr⟩ := hFB
        have hgl1 : w1.heap.size ≤ gl := by have := HGL.out; omega
        have hbw : Below w.heap.size w wr := Below.trans (bl_trans HB1.out HBB.out) (hfr.below (bl_trans HB1.out HBB.out).size (fun y hy => by have e : y = gl := hy; omega))
        have hltb : w.heap.size < w1.heap.size := HK1.out.lt
        have hltg : g < w1.heap.size := HT.out.lt
        have kB := hfr.blk HKB2.out (fun e => by have e' : w.heap.size = gl := e; omega)
        have tB := (HT.out.fr (Fr.of_below (S := fun _ => False) HBB.out) (fun h => h)).fr hfr (fun e => by have e' : g = gl := e; omega)
        have b1 := kB.cell 1
        have b2 := kB.cell 2
        obtain ⟨lqm, hlqm⟩ : ∃ q, q = (tdOf L).lq st ((dd : Int) + 1) m := ⟨_, rfl⟩
        rw [← hlqm] at KS hsr
        have HLQ := Lib.hid hlqm
        have HFRM := Lib.hid hfr
        have HKB3 := Lib.hid kB
        have HKS := Lib.hid KS
        have HBW := Lib.hid hbw
        have hszq : ∀ i, i < (tdOf L).n → Szq 2000 ((tdOf L).q i) := fun i hi => fqd_szq2 HF.out HW.out (List.getElem?_eq_getElem (l := L) (i := i) hi)
        have hshort : Short lqm := by rw [hlqm]; exact (lq_szq hszq m hm).short (by omega)
        have hcm := cnt_le (T := tdOf L) (st := st) (d := (dd : Int) + 1) m
        by_cases hmx : m < L.length
        · obtain ⟨x, hx1⟩ : ∃ x, L[m]? = some x := ⟨_, List.getElem?_eq_getElem hmx⟩
          obtain ⟨ad, A1, a1, A2, a2, rfl, e0, e1, e2, e3, e4, hfx⟩ := (HV.out.below hbw).at hx1
          have few := HF.out x (List.mem_of_getElem? hx1)
          have tq := (tdOf_at hx1).2.2
          have s0 := tB.cell hmx
          have q2 : (m : Int) < (L.length : Int) := by omega
          have HFX := Lib.hid hfx
          have HTQ := Lib.hid tq
          have HSR := Lib.hid hsr
          have HSH := Lib.hid hshort
          obtain ⟨cm, hcmE⟩ : ∃ cm, cm = cntD st ((dd : Int) + 1) m := ⟨_, rfl⟩
          have HCM := Lib.hid hcmE
          rw [← hcmE] at hcm ⊢
          by_cases hd : st m = (dd : Int) + 1
          · have g1 : ((st m : Int) != (dd : Int) + 1) = false := by rw [hd]; simp
            have HD := Lib.hid hd
            obtain ⟨bb, hbb⟩ : ∃ bb : Bool, bb = decide (cm = 0 ∨ fqd x.2.2 < lqm) := ⟨_, rfl⟩
            have HBBv := Lib.hid hbb
            have hs := holdv_next (bl_drew wr) ⟨(⟨Below.refl _ _, ⟨x.2.2.1, x.2.2.2.1, x.2.2.2.2, hfx, by omega, rfl⟩, FrV.q hsr hshort⟩ : HoldFF wr _ _ (fqd x.2.2) lqm wr), b2, e2, e3, e4, KS.cell 0, KS.cell 1, KS.cell 2⟩
            have HS := Lib.hid hs
            have E2 := Lib.hid e2
            have E3 := Lib.hid e3
            have E4 := Lib.hid e4
            clear hd hbb hs hx1 hfx hfr kB tB KS hsr hlqm hshort hcmE tq hszq hbw e0 e1
            go_upto_region 12 with fail
            go_cut [42] (fun t42 wx => t42 = .bool bb ∧ Below wr.heap.size wr wx)
            case first =>
              by_cases h0 : cm = 0
              · have g2 : ((cm : Int) == 0) = true := by rw [h0]; rfl
                have hb : bb = true := by rw [HBBv.out]; exact decide_eq_true (.inl h0)
                subst hb
                clear h0
                go_wp2_with fail
                go_quiet (fail)
                go_wp2
                all_goals go_meet
                case rel => exact ⟨rfl, bl_drewN _ _⟩
              · have g2 : ((cm : Int) == 0) = false := beq_eq_false_iff_ne.2 (by omega)
                have hcmp : rcmp (fqd x.2.2) lqm < 0 ↔ fqd x.2.2 < lqm := by unfold rcmp; grind
                have hb : bb = decide (rcmp (fqd x.2.2) lqm < 0) := by
                  rw [HBBv.out, decide_eq_decide, hcmp]
                  exact ⟨fun h => h.elim (fun h => absurd h h0) id, .inr⟩
                obtain ⟨p, hp0⟩ : ∃ p, p = rcmp (fqd x.2.2) lqm := ⟨_, rfl⟩
                rw [← hp0] at hb
                have HP := Lib.hid hp0
                have HBV := Lib.hid hb.symm
                have hs := HS.out
                clear h0 hcmp hb hp0 e2 e3 e4
                go_wp2_with fail
                go_region_held3 (fun w' => HoldFF wr (.agg #[.bool x.2.2.1, .slice A1 x.2.2.2.1.length a1, .slice A2 x.2.2.2.2.length a2]) (.agg #[.bool (decide (lqm.num < 0)), .slice D1 (dg lqm.num.natAbs).length d1, .slice D2 (dg lqm.den).length d2]) (fqd x.2.2) lqm w' ∧ w'.cell? ⟨w.heap.size, 2, none⟩ = some (.slice (some ad) L.length c) ∧ w'.cell? ⟨(ad.add (m * 5)).block, (ad.add (m * 5)).off + 2, none⟩ = some (.bool x.2.2.1) ∧ w'.cell? ⟨(ad.add (m * 5)).block, (ad.add (m * 5)).off + 3, none⟩ = some (.slice A1 x.2.2.2.1.length a1) ∧ w'.cell? ⟨(ad.add (m * 5)).block, (ad.add (m * 5)).off + 4, none⟩ = some (.slice A2 x.2.2.2.2.length a2) ∧ w'.cell? ⟨gl, 0, none⟩ = some (.bool (decide (lqm.num < 0))) ∧ w'.cell? ⟨gl, 1, none⟩ = some (.slice D1 (dg lqm.num.natAbs).length d1) ∧ w'.cell? ⟨gl, 2, none⟩ = some (.slice D2 (dg lqm.den).length d2))
                  ((first | exact hs | exact holdv_next hbN (by assumption)))
                  (first
                    | (go_at_call 23; (with_reducible refine (rcmpq _ _ _ (fqd x.2.2) lqm ?_ ?_).mono ?_); (exact HoldFF.t1 (And.left (by assumption))); (exact HoldFF.t2 (And.left (by assumption))); (rintro e w' ⟨rfl, hbN⟩); (rw [← HP.out]); (have H1 := HoldFF.next hbN (And.left (by assumption)))))
                go_wp2
                all_goals go_meet
                case rel => exact ⟨by rw [← HBV.out], H1.1⟩
            case rest =>
              obtain ⟨rfl, hbc⟩ := hcut
              have HBC := Lib.hid hbc
              have KC := HKS.out.below hbc
              have HKC := Lib.hid KC
              have HSRC := Lib.hid (FrV.below HSR.out hbc)
              have HFRC := Lib.hid (HFRM.out.trans (Fr.of_below hbc))
              have hc1 : cntD st ((dd : Int) + 1) (m + 1) = cm + 1 := by
                rw [HCM.out]
                show _ + (if st m = (dd : Int) + 1 then 1 else 0) = _
                rw [if_pos HD.out]
              have HC1 := Lib.hid hc1
              have hl0 : (tdOf L).lq st ((dd : Int) + 1) (m + 1) = if cm = 0 ∨ fqd x.2.2 < lqm then fqd x.2.2 else lqm := by
                show (if st m = (dd : Int) + 1 then (if cntD st ((dd : Int) + 1) m = 0 ∨ (tdOf L).q m < (tdOf L).lq st ((dd : Int) + 1) m then (tdOf L).q m else (tdOf L).lq st ((dd : Int) + 1) m) else (tdOf L).lq st ((dd : Int) + 1) m) = _
                rw [if_pos HD.out, ← HCM.out, ← HLQ.out, HTQ.out]
              cases bb
              · have hl : (tdOf L).lq st ((dd : Int) + 1) (m + 1) = lqm := by rw [hl0, if_neg (of_decide_eq_false HBBv.out.symm)]
                have HL := Lib.hid hl
                clear hbc KC hc1 hl0 hl e2 e3 e4
                go_wp2
                exact ⟨⟨m + 1, by omega, by go_num, by rw [HC1.out]; go_num, by rw [HL.out]; exact ⟨D1, d1, D2, d2, HKC.out, HSRC.out⟩, HFRC.out⟩, by simp [intOf]; omega⟩
              · have hl : (tdOf L).lq st ((dd : Int) + 1) (m + 1) = fqd x.2.2 := by rw [hl0, if_pos (of_decide_eq_true HBBv.out.symm)]
                have HL := Lib.hid hl
                have b2 := (HKB3.out.below hbc).cell 2
                have e2 := cell_below hbc E2.out
                have e3 := cell_below hbc E3.out
                have e4 := cell_below hbc E4.out
                have HFXC := Lib.hid (HFX.out.below hbc)
                clear hbc KC hc1 hl0 hl
                go_wp2_with fail
                refine (rfix_calls _ _ x.2.2.1 x.2.2.2.1 x.2.2.2.2 HFXC.out (by omega)).mono ?_
                rintro e w6 ⟨v6, rfl, hv6, hb6⟩
                obtain ⟨q, hq⟩ : ∃ q, q = fqd x.2.2 := ⟨_, rfl⟩
                have hv6 : FrV w6 v6 q := by rw [hq]; exact hv6
                have HQ := Lib.hid hq
                obtain ⟨P1, p1, P2, p2, rfl, _, _, _, _⟩ := FrIn.shape hv6
                have K6 := HKC.out.below hb6
                have m0 := K6.cell 0
                have m1 := K6.cell 1
                have m2 := K6.cell 2
                have mf := K6.free
                have HK6 := Lib.hid K6
                have HV6 := Lib.hid hv6
                have HFR6 := Lib.hid (HFRC.out.trans (Fr.of_below hb6))
                clear hq hv6 K6 hb6 e2 e3 e4 b2
                go_wp2
                exact ⟨⟨m + 1, by omega, by go_num, by rw [HC1.out]; go_num, by rw [HL.out, ← HQ.out]; exact FBox.set HK6.out (boolne _) (slne _ _ _) (slne _ _ _) HV6.out, HFR6.out.trans (FBox.fr HK6.out (boolne _) (slne _ _ _) (slne _ _ _) _ _ _)⟩, by simp [intOf]; omega⟩
          · have g1 : ((st m : Int) != (dd : Int) + 1) = true := bne_iff_ne.2 hd
            have hl : (tdOf L).lq st ((dd : Int) + 1) (m + 1) = lqm := by
              rw [hlqm]
              show (if st m = (dd : Int) + 1 then _ else _) = _
              rw [if_neg hd]
            have hc1 : cntD st ((dd : Int) + 1) (m + 1) = cm := by
              rw [hcmE]
              show _ + (if st m = (dd : Int) + 1 then 1 else 0) = _
              rw [if_neg hd, Nat.add_zero]
            have HL := Lib.hid hl
            have HC1 := Lib.hid hc1
            clear hd hx1 hfx hfr kB tB KS hsr hlqm hshort hcmE tq hszq hbw hl hc1 e0 e1 e2 e3 e4
            go_wp2
            exact ⟨⟨m + 1, by omega, by go_num, by rw [HC1.out], by rw [HL.out]; exact ⟨D1, d1, D2, d2, HKS.out, HSR.out⟩, HFRM.out⟩, by simp [intOf]; omega⟩
        · obtain rfl : m = L.length := by omega
          have q2 : ¬ (L.length : Int) < (L.length : Int) := by omega
          have hOw := HOB.out.fr hfr (fun y hy e => by have e' : y = gl := e; have h1 := HLT.out y hy; have h2 := HGL.out; omega)
          have hbl : (barL K D L dd).length ≤ 1000000 := by simp [barL]; omega
          have hBw := Below.trans HBB.out (hfr.below HBB.out.size (fun y hy => by have e : y = gl := hy; omega))
          have HOW := Lib.hid hOw
          have HBW1 := Lib.hid hBw
          have HSR := Lib.hid hsr
          obtain ⟨cm, hcmE⟩ : ∃ cm, cm = cntD st ((dd : Int) + 1) L.length := ⟨_, rfl⟩
          rw [← hcmE] at hcm ⊢
          have hbar : (tdOf L).bar K ((tdOf L).sold K D) ((dd : Int) + 1) = if cm < K then 0 else lqm := by
            rw [← HST.out, hcmE, hlqm]
            rfl
          have k0 := KS.cell 0
          have k1 := KS.cell 1
          have k2 := KS.cell 2
          by_cases hc : cm < K
          · have g1 : decide ((cm : Int) < (K : Int)) = true := decide_eq_true (by omega)
            have g2 : (cm : Int) < (K : Int) := by omega
            have HBAR := Lib.hid (hbar.trans (if_pos hc))
            clear hfr kB tB KS hsr hlqm hshort hszq hbw hOw hBw hcmE hbar hc k0 k1 k2
            go_wp2_with fail
            refine (rint_calls _ 0 (by omega) (by omega)).mono ?_
            rintro e w6 ⟨v6, rfl, hv6, hb6⟩
            obtain ⟨q, hq⟩ : ∃ q : Rat, q = 0 := ⟨_, rfl⟩
            have hv6 : FrV w6 v6 q := by rw [hq]; exact hv6
            have HQ := Lib.hid hq
            obtain ⟨P1, p1, P2, p2, rfl, _, _, _, _⟩ := FrIn.shape hv6
            have K6 := HKS.out.below hb6
            have m0 := K6.cell 0
            have m1 := K6.cell 1
            have m2 := K6.cell 2
            have mf := K6.free
            have hF := FBox.fr K6 (boolne _) (slne _ _ _) (slne _ _ _) (.bool (decide (q.num < 0))) (.slice P1 (dg q.num.natAbs).length p1) (.slice P2 (dg q.den).length p2)
            have HK7 := Lib.hid (blk3 K6 (.bool (decide (q.num < 0))) (.slice P1 (dg q.num.natAbs).length p1) (.slice P2 (dg q.den).length p2))
            have HV7 := Lib.hid (hF.keep.fr hv6)
            have HFF := Lib.hid hF
            have HB6 := Lib.hid hb6
            have HZ := Lib.hid (show barL K D L (dd + 1) = barL K D L dd ++ [q] by rw [barL_snoc, HBAR.out, hq])
            clear hq hv6 K6 hb6 hF
            go_upto_region 17 with fail
            obtain ⟨w7, hw7⟩ : ∃ W, W = (((w6.setCell ⟨gl, 0, none⟩ (.bool (decide (q.num < 0)))).setCell ⟨gl, 1, none⟩ (.slice P1 (dg q.num.natAbs).length p1)).setCell ⟨gl, 2, none⟩ (.slice P2 (dg q.den).length p2)) := ⟨_, rfl⟩
            rw [← hw7] at HK7 HV7 HFF ⊢
            clear hw7 m0 m1 m2 mf
            have hO7 := (HOW.out.below HB6.out).fr HFF.out (fun y hy e => by have e' : y = gl := e; have h1 := HLT.out y hy; have h2 := HGL.out; omega)
            have hB7 := Below.trans (bl_trans HBW1.out HB6.out) (HFF.out.below (bl_trans HBW1.out HB6.out).size (fun y hy => by have e : y = gl := hy; omega))
            obtain ⟨v8, w8, hrun, hO8, hb8, _⟩ := push_fv (W0 := w1) (acc := barL K D L dd) hO7 hB7 HV7.out hbl
            have HRUN := Lib.hid hrun
            have HO8 := Lib.hid hO8
            have HB8 := Lib.hid hb8
            have z0 := HK7.out.cell 0
            have z1 := HK7.out.cell 1
            have z2 := HK7.out.cell 2
            clear hO7 hB7 hrun hO8 hb8
            go_wp2_with (first
              | (at_builtin; refine wpList_append_run _ rfl _ _ 31 rfl _ _ rfl rfl ⟨v8, w8, HRUN.out, ?_⟩)
              | go_in)
            exact ⟨⟨dd + 1, by omega, by go_num, by rw [HZ.out]; exact HO8.out, HB8.out⟩, by simp [intOf]; omega⟩
          · have g1 : decide ((cm : Int) < (K : Int)) = false := decide_eq_false (by omega)
            have g2 : ¬ (cm : Int) < (K : Int) := by omega
            have hbl2 := hbar.trans (if_neg hc)
            obtain ⟨v8, w8, hrun, hO8, hb8, _⟩ := push_fv (W0 := w1) (acc := barL K D L dd) hOw hBw hsr hbl
            have HRUN := Lib.hid hrun
            have HO8 := Lib.hid hO8
            have HB8 := Lib.hid hb8
            have HZ := Lib.hid (show barL K D L (dd + 1) = barL K D L dd ++ [lqm] by rw [barL_snoc, hbl2])
            clear hfr kB tB KS hsr hlqm hshort hszq hbw hOw hBw hcmE hbar hc hbl2 hrun hO8 hb8
            go_wp2_with (first
              | (at_builtin; refine wpList_append_run _ rfl _ _ 31 rfl _ _ rfl rfl ⟨v8, w8, HRUN.out, ?_⟩)
              | go_in)
            exact ⟨⟨dd + 1, by omega, by go_num, by rw [HZ.out]; exact HO8.out, HB8.out⟩, by simp [intOf]; omega⟩
    · obtain rfl : dd = D := by omega
      have q1 : ¬ (dd : Int) + 1 ≤ (dd : Int) := by omega
      clear hO hb kb
      go_wp2
      go_ret
      exact ⟨_, rfl, HO.out.mono hsz1, bl_trans HB1.out HB.out⟩

/-- What Bars tells. -/
def BarsP (days each : Int) (L : List VD) (w : World) (e : Ending) (w' : World) : Prop := Below w.heap.size w w' ∧
  ((rightN days each L ≠ 0 ∧ e = .returned (.tuple #[.slice none 0 0, .int .i64 (rightN days each L)])) ∨
   (rightN days each L = 0 ∧ ∃ v, e = .returned (.tuple #[v, .int .i64 0]) ∧ OF w' w.heap.size v ((barL each.toNat days.toNat L days.toNat).map dq)))
set_option maxRecDepth 100000 in
set_option maxHeartbeats 4000000 in
theorem rbars2_calls (w : World) (days each : Int) (A : Option Addr) (c : Nat) (L : List VD) (h : VL w (.slice A L.length c) L) (hf : FewV 2000 L) :
    Calls Try.prog 14 #[.agg #[.int .i64 days, .int .i64 each, .slice A L.length c]] w (BarsP days each L w) := by
  have HV := Lib.hid h
  have HF := Lib.hid hf
  have al := below_alloc0 w (.cells #[.int .i64 days, .int .i64 each, .slice A L.length c] 24)
  have KB := Blk.new w 24 #[.int .i64 days, .int .i64 each, .slice A L.length c]
  have k0 := KB.cell 0
  have k1 := KB.cell 1
  have k2 := KB.cell 2
  have HAL := Lib.hid al
  have HK := Lib.hid KB
  clear h hf al KB
  obtain ⟨r, hr⟩ : ∃ r, r = rightN days each L := ⟨_, rfl⟩
  have HR := Lib.hid hr
  by_cases hr0 : r = 0
  · obtain ⟨z1, z2, _⟩ := rightN_zero (hr.symm.trans hr0)
    obtain ⟨D, hD⟩ : ∃ D : Nat, days = (D : Int) := ⟨days.toNat, by omega⟩
    obtain ⟨K, hKe⟩ : ∃ K : Nat, each = (K : Int) := ⟨each.toNat, by omega⟩
    subst hD
    subst hKe
    have hD12 : D ≤ 12 := by omega
    have hK4 : K ≤ 4 := by omega
    have hL12 : L.length ≤ 12 := by omega
    have HR0 := Lib.hid hr0
    clear z1 z2 hr hr0
    go_enter Try.func14, Try.ntmps14
    go_wp2_with fail
    refine (rtright_calls _ _ _ A c L (HV.out.below HAL.out)).mono ?_
    rintro e w1 ⟨rfl, hb1⟩
    rw [← HR.out, HR0.out]
    have K1 := HK.out.below hb1
    have k0 := K1.cell 0
    have k1 := K1.cell 1
    have k2 := K1.cell 2
    have HB1 := Lib.hid (bl_trans HAL.out hb1)
    clear hb1 K1
    go_wp2_with fail
    refine (rbars_calls _ D K A c L (HV.out.below HB1.out) HF.out hD12 hK4 hL12).mono ?_
    rintro e w2 ⟨v, rfl, hO, hb2⟩
    have hsz := HB1.out.size
    have HO := Lib.hid hO
    have HB2 := Lib.hid (bl_trans HB1.out hb2)
    clear hO hb2
    go_wp2
    go_ret2
    exact ⟨HB2.out, .inr ⟨by rw [← HR.out]; exact HR0.out, v, rfl, by have h := HO.out.mono hsz; simpa using h⟩⟩
  · have HRN := Lib.hid (show r ≠ 0 from hr0)
    have g0 : ((r : Int) != 0) = true := bne_iff_ne.2 hr0
    clear hr hr0
    go_enter Try.func14, Try.ntmps14
    go_wp2_with fail
    refine (rtright_calls _ _ _ A c L (HV.out.below HAL.out)).mono ?_
    rintro e w1 ⟨rfl, hb1⟩
    rw [← HR.out]
    have HB1 := Lib.hid (bl_trans HAL.out hb1)
    clear hb1
    go_wp2
    go_ret2
    exact ⟨HB1.out, .inl ⟨by rw [← HR.out]; exact HRN.out, by rw [← HR.out]; rfl⟩⟩
end Go.Proofs.Ytajckdheecgceaa
