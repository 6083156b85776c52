/- Systems of equations: the reference's table. -/
import Derived.Test.YtdmgceckmciifaaTabl
import Derived.Test.YtdmgceckmciifaaRrd
set_option linter.unusedVariables false
set_option linter.unusedSimpArgs false
namespace Go.Proofs.Ytdmgceckmciifaa
open Go.RowKit

/-- A number on the right. -/
def rhsq (Rl : List (Bool × List Int × List Int)) (i : Nat) : Rat := match Rl[i]? with | some d => fqd d | none => 0
/-- A row of the table. -/
def tabq (LL : List (List (Bool × List Int × List Int))) (Rl : List (Bool × List Int × List Int)) (i : Nat) : List Rat := ((LL.getD i []).map fqd) ++ rhsq Rl i :: (List.range LL.length).map (fun k => if k = i then 1 else 0)
def tabD (LL : List (List (Bool × List Int × List Int))) (Rl : List (Bool × List Int × List Int)) : List (List (Bool × List Int × List Int)) := (List.range LL.length).map fun i => (tabq LL Rl i).map dq
theorem tabD_at {LL : List (List (Bool × List Int × List Int))} {Rl : List (Bool × List Int × List Int)} {i : Nat} (h : i < LL.length) : (tabD LL Rl)[i]? = some ((tabq LL Rl i).map dq) := by simp [tabD, h]
/-- One more exact fraction. -/
theorem push_frv {W0 W : World} {v : Value} {acc : List Rat} {q : Rat} {A1 A2 : Option Addr} {c1 c2 : Nat} (hO : OF W W0.heap.size v (acc.map dq)) (hb : Below W0.heap.size W0 W) (hq : FrV W (.agg #[.bool (decide (q.num < 0)), .slice A1 (dg q.num.natAbs).length c1, .slice A2 (dg q.den).length c2]) q) (hl : acc.length ≤ 1000000) :
    ∃ v' w', (Builtin.append_ #[32, 32] 32 #[v, .slice (some ⟨W.heap.size, 0, none⟩) 1 1]).run Try.prog (W.alloc (.cells #[.bool (decide (q.num < 0)), .slice A1 (dg q.num.natAbs).length c1, .slice A2 (dg q.den).length c2] 24)) = .ok v' w' ∧
      OF w' W0.heap.size v' ((acc ++ [q]).map dq) ∧ Below W0.heap.size W0 w' := by
  have al := below_alloc0 W (.cells #[.bool (decide (q.num < 0)), .slice A1 (dg q.num.natAbs).length c1, .slice A2 (dg q.den).length c2] 24)
  have KB := Blk.new W 24 #[.bool (decide (q.num < 0)), .slice A1 (dg q.num.natAbs).length c1, .slice A2 (dg q.den).length c2]
  have hs := Nat.le_trans hb.size al.size
  obtain ⟨v', w', hrun, hO', hfr, _⟩ := OF.push (d := dq q) (hO.below al) hs KB (FrIn.below hq al) (by rw [List.length_map]; exact hl)
  refine ⟨v', w', hrun, ?_, Below.trans (bl_trans hb al) (hfr.below hs (fun g hg => hO.block hg))⟩
  rw [List.map_append]
  exact hO'
set_option maxRecDepth 100000 in
set_option maxHeartbeats 8000000 in
theorem table_calls (w : World) (va vb : Value) (LL : List (List (Bool × List Int × List Int))) (Rl : List (Bool × List Int × List Int)) (ha : FLL w va LL) (hb : FL w vb Rl) (hL : LL.length ≤ 72) (hf : ∀ L ∈ LL, L.length ≤ 72 ∧ FewD 2000 L) (hfr : FewD 2000 Rl) :
    Calls Try.prog 100 #[va, vb] w fun e w' => ∃ v, e = .returned v ∧ OR w' w.heap.size v (tabD LL Rl) ∧ Below w.heap.size w w' := by
  have HA := Lib.hid ha
  have HBL := Lib.hid hb
  obtain ⟨A, c, rfl⟩ := ha.shape
  obtain ⟨Ab, cb, rfl⟩ := hb.shape
  have hcc := ha.bounds
  clear ha hb
  go_enter Try.func100, Try.ntmps100
  go_wp2
  go_loopw [5, 6] (fun v i wr => ∃ (k : Nat), k ≤ LL.length ∧ i = .int .i64 (k : Int) ∧ OR wr w.heap.size v ((tabD LL Rl).take k) ∧ Below w.heap.size w wr)
    (fun _ i _ => LL.length - (intOf i).toNat)
  case atStart => exact ⟨0, by omega, rfl, OR.nil _ _, Below.refl _ _⟩
  case round =>
    obtain ⟨k, hk, rfl, hO, hbl⟩ := hrel
    have HO := Lib.hid hO
    have HB := Lib.hid hbl
    by_cases hx : k < LL.length
    · obtain ⟨L, hd⟩ : ∃ d, LL[k]? = some d := ⟨_, List.getElem?_eq_getElem hx⟩
      obtain ⟨ad, c', A1, c1, hv, _, _, e0, hc1, hc2, hfl⟩ := HA.out.at hd
      obtain ⟨rfl, rfl⟩ : A = some ad ∧ c = c' := by simpa using hv
      have few := hf L (List.mem_of_getElem? hd)
      have E0 := Lib.hid e0
      have HFL := Lib.hid hfl
      have HLd := Lib.hid (show LL.getD k [] = L by rw [List.getD_eq_getElem?_getD, hd]; rfl)
      have q1 : (k : Int) < (LL.length : Int) := by omega
      clear hO hbl hd hv hfl e0
      obtain ⟨wo, rfl⟩ : ∃ x, x = wr := ⟨_, rfl⟩
      go_wp2
      go_loopw [7, 8] (fun v j wx => ∃ (m : Nat), m ≤ L.length ∧ j = .int .i64 (m : Int) ∧ OF wx wo.heap.size v (((L.take m).map fqd).map dq) ∧ Below wo.heap.size wo wx)
        (fun _ j _ => L.length - (intOf j).toNat)
      case atStart => exact ⟨0, by omega, rfl, OF.nil _ _, Below.refl _ _⟩
      case round =>
        obtain ⟨m, hm, rfl, hO2, hb2⟩ := hrel
        have HO2 := Lib.hid hO2
        have HB2 := Lib.hid hb2
        have hbw := bl_trans HB.out hb2
        have e0 := cell_below hbw E0.out
        by_cases hmx : m < L.length
        · obtain ⟨d, hd⟩ : ∃ d, L[m]? = some d := ⟨_, List.getElem?_eq_getElem hmx⟩
          obtain ⟨ad2, c2, B1, b1, B2, b2, hv2, _, _, f0, f1, f2, hf2⟩ := HFL.out.at hd
          obtain ⟨rfl, rfl⟩ : A1 = some ad2 ∧ c1 = c2 := by simpa using hv2
          have fw := few.2 d (List.mem_of_getElem? hd)
          replace f0 := cell_below hbw f0
          replace f1 := cell_below hbw f1
          replace f2 := cell_below hbw f2
          have HF2 := Lib.hid (hf2.below hbw)
          have HN := Lib.hid (show (L.take (m + 1)).map fqd = (L.take m).map fqd ++ [fqd d] from map_take_snoc _ hd)
          have q2 : (m : Int) < (L.length : Int) := by omega
          clear hO2 hb2 hd hv2 hf2
          go_wp2_with fail
          refine (rfix_calls _ _ d.1 d.2.1 d.2.2 HF2.out (by omega)).mono ?_
          rintro e w6 ⟨v6, rfl, hv6, hb6⟩
          obtain ⟨q, hq⟩ : ∃ q, q = fqd d := ⟨_, rfl⟩
          have hv6 : FrV w6 v6 q := by rw [hq]; exact hv6
          have HQ := Lib.hid hq
          clear hq
          obtain ⟨P1, p1, P2, p2, rfl, _, _, _, _⟩ := FrIn.shape hv6
          obtain ⟨v8, w8, hrun, hO8, hb8⟩ := push_frv (acc := (L.take m).map fqd) (HO2.out.below hb6) (bl_trans HB2.out hb6) hv6 (by simp; omega)
          have HRUN := Lib.hid hrun
          have HO8 := Lib.hid hO8
          have HB8 := Lib.hid hb8
          clear hrun hO8 hb8 hv6 hb6 f0 f1 f2 e0
          go_wp2_with (first
            | (at_builtin; refine wpList_append_run _ rfl _ _ 32 rfl _ _ rfl rfl ⟨v8, w8, HRUN.out, ?_⟩)
            | go_in)
          exact ⟨⟨m + 1, by omega, by go_num, by rw [HN.out, ← HQ.out]; exact HO8.out, HB8.out⟩, by simp [intOf]; omega⟩
        · have hmL : m = L.length := by omega
          rw [hmL, List.take_length] at hO2
          have HO2 := Lib.hid hO2
          have q2 : ¬ (m : Int) < (L.length : Int) := by omega
          clear hO2 hb2 hmL
          go_upto_if 39 with fail
          go_cut [7] (fun v7 wx => OF wx wo.heap.size v7 ((L.map fqd ++ [rhsq Rl k]).map dq) ∧ Below wo.heap.size wo wx)
          case first =>
            by_cases hkr : k < Rl.length
            · obtain ⟨d, hd⟩ : ∃ d, Rl[k]? = some d := ⟨_, List.getElem?_eq_getElem hkr⟩
              obtain ⟨ad2, c2, B1, b1, B2, b2, hv2, hq1, hq2, f0, f1, f2, hf2⟩ := HBL.out.at hd
              obtain ⟨rfl, rfl⟩ : Ab = some ad2 ∧ cb = c2 := by simpa using hv2
              have fw := hfr d (List.mem_of_getElem? hd)
              replace f0 := cell_below hbw f0
              replace f1 := cell_below hbw f1
              replace f2 := cell_below hbw f2
              have HF2 := Lib.hid (hf2.below hbw)
              have HN := Lib.hid (show rhsq Rl k = fqd d by unfold rhsq; rw [hd])
              have q3 : (k : Int) < (Rl.length : Int) := by omega
              clear hd hv2 hf2
              go_wp2_with fail
              refine (rfix_calls _ _ d.1 d.2.1 d.2.2 HF2.out (by omega)).mono ?_
              rintro e w6 ⟨v6, rfl, hv6, hb6⟩
              obtain ⟨q, hq⟩ : ∃ q, q = fqd d := ⟨_, rfl⟩
              have hv6 : FrV w6 v6 q := by rw [hq]; exact hv6
              have HQ := Lib.hid hq
              clear hq
              obtain ⟨P1, p1, P2, p2, rfl, _, _, _, _⟩ := FrIn.shape hv6
              obtain ⟨v8, w8, hrun, hO8, hb8⟩ := push_frv (acc := L.map fqd) (HO2.out.below hb6) (bl_trans HB2.out hb6) hv6 (by simp; omega)
              have HRUN := Lib.hid hrun
              have HO8 := Lib.hid hO8
              have HB8 := Lib.hid hb8
              clear hrun hO8 hb8 hv6 hb6
              go_wp2_with (first
                | (at_builtin; refine wpList_append_run _ rfl _ _ 32 rfl _ _ rfl rfl ⟨v8, w8, HRUN.out, ?_⟩)
                | go_in)
              all_goals go_meet
              case rel => exact ⟨by rw [HN.out, ← HQ.out]; exact HO8.out, HB8.out⟩
            · have HN := Lib.hid (show rhsq Rl k = 0 by unfold rhsq; rw [List.getElem?_eq_none (by omega)])
              have q3 : ¬ (k : Int) < (Rl.length : Int) := by omega
              clear hkr
              go_wp2_with fail
              refine (rzero_calls _).mono ?_
              rintro e w6 ⟨v6, rfl, hv6, hb6⟩
              obtain ⟨q, hq⟩ : ∃ q : Rat, q = 0 := ⟨_, rfl⟩
              have hv6 : FrV w6 v6 q := by rw [hq]; exact hv6
              have HQ := Lib.hid hq
              clear hq
              obtain ⟨P1, p1, P2, p2, rfl, _, _, _, _⟩ := FrIn.shape hv6
              obtain ⟨v8, w8, hrun, hO8, hb8⟩ := push_frv (acc := L.map fqd) (HO2.out.below hb6) (bl_trans HB2.out hb6) hv6 (by simp; omega)
              have HRUN := Lib.hid hrun
              have HO8 := Lib.hid hO8
              have HB8 := Lib.hid hb8
              clear hrun hO8 hb8 hv6 hb6
              go_wp2_with (first
                | (at_builtin; refine wpList_append_run _ rfl _ _ 32 rfl _ _ rfl rfl ⟨v8, w8, HRUN.out, ?_⟩)
                | go_in)
              all_goals go_meet
              case rel => exact ⟨by rw [HN.out, ← HQ.out]; exact HO8.out, HB8.out⟩
          case rest =>
          clear HO2 HB2 e0 hbw
          obtain ⟨hO2, hb2⟩ := hcut
          have HO2 := Lib.hid hO2
          have HB2 := Lib.hid hb2
          clear hO2 hb2
          go_wp2
          go_loopw [7, 9] (fun v j wx => ∃ (m : Nat), m ≤ LL.length ∧ j = .int .i64 (m : Int) ∧ OF wx wo.heap.size v (((L.map fqd ++ [rhsq Rl k]) ++ (List.range m).map (fun i => if i = k then 1 else 0)).map dq) ∧ Below wo.heap.size wo wx)
            (fun _ j _ => LL.length - (intOf j).toNat)
          case atStart => exact ⟨0, by omega, rfl, by simpa using HO2.out, HB2.out⟩
          case round =>
            clear HO2 HB2
            obtain ⟨m, hm, rfl, hO2, hb2⟩ := hrel
            have HO2 := Lib.hid hO2
            have HB2 := Lib.hid hb2
            by_cases hmx : m < LL.length
            · have q2 : (m : Int) < (LL.length : Int) := by omega
              clear hO2 hb2
              by_cases hmk : m = k
              · have g : ((m : Int) == (k : Int)) = true := by rw [hmk]; simp
                have HN := Lib.hid (show (List.range (m + 1)).map (fun i => if i = k then (1 : Rat) else 0) = (List.range m).map (fun i => if i = k then 1 else 0) ++ [1] by rw [List.range_succ, List.map_append]; simp [hmk])
                clear hmk
                go_wp2_with fail
                refine (rint_calls _ 1 (by omega) (by omega)).mono ?_
                rintro e w6 ⟨v6, rfl, hv6, hb6⟩
                obtain ⟨q, hq⟩ : ∃ q : Rat, q = 1 := ⟨_, rfl⟩
                have hv6 : FrV w6 v6 q := by rw [hq]; exact hv6
                have HQ := Lib.hid hq
                clear hq
                obtain ⟨P1, p1, P2, p2, rfl, _, _, _, _⟩ := FrIn.shape hv6
                obtain ⟨v8, w8, hrun, hO8, hb8⟩ := push_frv (acc := (L.map fqd ++ [rhsq Rl k]) ++ (List.range m).map (fun i => if i = k then 1 else 0)) (HO2.out.below hb6) (bl_trans HB2.out hb6) hv6 (by simp; omega)
                have HRUN := Lib.hid hrun
                have HO8 := Lib.hid hO8
                have HB8 := Lib.hid hb8
                clear hrun hO8 hb8 hv6 hb6
                go_wp2_with (first
                  | (at_builtin; refine wpList_append_run _ rfl _ _ 32 rfl _ _ rfl rfl ⟨v8, w8, HRUN.out, ?_⟩)
                  | go_in)
                exact ⟨⟨m + 1, by omega, by go_num, by rw [HN.out, ← List.append_assoc]; have h := HO8.out; rw [HQ.out] at h; exact h, HB8.out⟩, by simp [intOf]; omega⟩
              · have g : ((m : Int) == (k : Int)) = false := beq_eq_false_iff_ne.2 (by omega)
                have HN := Lib.hid (show (List.range (m + 1)).map (fun i => if i = k then (1 : Rat) else 0) = (List.range m).map (fun i => if i = k then 1 else 0) ++ [0] by rw [List.range_succ, List.map_append]; simp [hmk])
                clear hmk
                go_wp2_with fail
                refine (rzero_calls _).mono ?_
                rintro e w6 ⟨v6, rfl, hv6, hb6⟩
                obtain ⟨q, hq⟩ : ∃ q : Rat, q = 0 := ⟨_, rfl⟩
                have hv6 : FrV w6 v6 q := by rw [hq]; exact hv6
                have HQ := Lib.hid hq
                clear hq
                obtain ⟨P1, p1, P2, p2, rfl, _, _, _, _⟩ := FrIn.shape hv6
                obtain ⟨v8, w8, hrun, hO8, hb8⟩ := push_frv (acc := (L.map fqd ++ [rhsq Rl k]) ++ (List.range m).map (fun i => if i = k then 1 else 0)) (HO2.out.below hb6) (bl_trans HB2.out hb6) hv6 (by simp; omega)
                have HRUN := Lib.hid hrun
                have HO8 := Lib.hid hO8
                have HB8 := Lib.hid hb8
                clear hrun hO8 hb8 hv6 hb6
                go_wp2_with (first
                  | (at_builtin; refine wpList_append_run _ rfl _ _ 32 rfl _ _ rfl rfl ⟨v8, w8, HRUN.out, ?_⟩)
                  | go_in)
                exact ⟨⟨m + 1, by omega, by go_num, by rw [HN.out, ← List.append_assoc]; have h := HO8.out; rw [HQ.out] at h; exact h, HB8.out⟩, by simp [intOf]; omega⟩
            · have q2 : ¬ (m : Int) < (LL.length : Int) := by omega
              have hml : m = LL.length := by omega
              have hT : ((L.map fqd ++ [rhsq Rl k]) ++ (List.range m).map (fun i => if i = k then (1 : Rat) else 0)) = tabq LL Rl k := by
                unfold tabq
                rw [HLd.out, hml, List.append_assoc]
                rfl
              rw [hT] at hO2
              have hO3 := hO2.mono HB.out.size
              obtain ⟨A3, c3, rfl, _, _⟩ := hO3.shape
              rw [List.length_map] at hO3
              have al := below_alloc0 wr (.cells #[.slice A3 (tabq LL Rl k).length c3] 32)
              have K := Blk.new wr 32 #[.slice A3 (tabq LL Rl k).length c3]
              have hs := Nat.le_trans (bl_trans HB.out hb2).size al.size
              obtain ⟨v', w', hrun, ho', hfr'⟩ := OR.push ((HO.out.below hb2).below al) hs K (hO3.below al) (by simp; omega)
              have hb4 := Lib.hid (Below.trans (bl_trans (bl_trans HB.out hb2) al) (hfr'.below hs (fun g hg => HO.out.block hg)))
              have HRUN := Lib.hid hrun
              rw [← take_snocL (tabD_at hx)] at ho'
              have ho2 := Lib.hid ho'
              clear hrun ho' hfr' hO2 hO3 hb2 al K hT hml HO2
              rw [List.length_map]
              go_wp2_with (first
                | (at_builtin; refine wpList_append_run _ rfl _ _ 48 rfl _ _ rfl rfl ⟨v', w', HRUN.out, ?_⟩)
                | go_in)
              exact ⟨⟨k + 1, by omega, by go_num, ho2.out, hb4.out⟩, by simp [intOf]; omega⟩
    · obtain rfl : k = LL.length := by omega
      have hc2 := HO.out
      rw [List.take_of_length_le (by simp [tabD])] at hc2
      have HF := Lib.hid hc2
      clear hO hbl hc2
      go_wp2
      go_ret
      exact ⟨_, rfl, HF.out, HB.out⟩
end Go.Proofs.Ytdmgceckmciifaa
