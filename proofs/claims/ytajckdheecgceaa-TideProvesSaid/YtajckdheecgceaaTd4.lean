/- Tides: the queue, push and pop. -/
import Derived.Test.YtajckdheecgceaaTail
import Derived.Test.YtajckdheecgceaaTd1
import Derived.StillTailTactics
set_option linter.unusedVariables false
set_option linter.unusedSimpArgs false
namespace Go.Proofs.Ytajckdheecgceaa
open Go.RowKit

/-- copy, as one step of a walk. -/
theorem wp_copy_run {P : Program} (w : World) {o : Oper} {a : Act} {K : Act → World → Prop} {Q : Exit → Act → World → Prop} (s x : Operand) (t : TypeId) (v u : Value)
    (ho : o.op = .call { callee := .builtin .copy, args := #[s, x], argTypes := #[t, t] }) (hs : a.eval s = v) (hx : a.eval x = u)
    (h : ∃ v' w', (Builtin.copy_ #[t, t] o.type #[v, u]).run P w = .ok v' w' ∧ K (a.put o.dst v') w') : o.wp P a w K Q := by
  obtain ⟨v', w', hr, hk⟩ := h
  unfold Oper.wp execOp
  simp only [ho, resolve, invoke, builtin, Sem.run_bind, Sem.run_pure, Result.andThen_ok, List.map_toArray, List.map_cons, List.map_nil, hs, hx, hr]
  exact hk
/-- The order that the queue holds. -/
def aheadV (gt : Nat) : Value := .func (.func 89) #[] #[.pointer (some ⟨gt, 0, none⟩)]
/-- The queue in memory. -/
def QB (w : World) (B gq gt : Nat) (v : Value) (Q : List Nat) : Prop := Blk w gq 110 #[v, .func (.func 89) #[] #[.pointer (some ⟨gt, 0, none⟩)]] ∧ IQ w B v Q
theorem QB.below {w w1 : World} {B gq gt : Nat} {v : Value} {Q : List Nat} (h : QB w B gq gt v Q) (hb : Below w.heap.size w w1) : QB w1 B gq gt v Q := ⟨h.1.below hb, h.2.below hb⟩
/-- What push holds on to. -/
def HoldT (w : World) (gt : Nat) (days each : Int) (A : Option Addr) (c : Nat) (L : List VD) (w' : World) : Prop := Below w.heap.size w w' ∧ TB w' gt days each A c L
theorem HoldT.next {w w1 w2 : World} {gt : Nat} {days each : Int} {A : Option Addr} {c : Nat} {L : List VD} (hb : Below w1.heap.size w1 w2) (h : HoldT w gt days each A c L w1) : HoldT w gt days each A c L w2 := ⟨bl_trans h.1 hb, h.2.below hb⟩
theorem holdt_next {w w1 w2 : World} {gt : Nat} {days each : Int} {A : Option Addr} {c : Nat} {L : List VD} {a0 a1 a2 : Addr} {x0 x1 x2 : Value} (hb : Below w1.heap.size w1 w2) (h : HoldT w gt days each A c L w1 ∧ w1.cell? a0 = some x0 ∧ w1.cell? a1 = some x1 ∧ w1.cell? a2 = some x2) : HoldT w gt days each A c L w2 ∧ w2.cell? a0 = some x0 ∧ w2.cell? a1 = some x1 ∧ w2.cell? a2 = some x2 :=
  ⟨h.1.next hb, cell_below hb h.2.1, cell_below hb h.2.2.1, cell_below hb h.2.2.2⟩
set_option maxRecDepth 100000 in
set_option maxHeartbeats 8000000 in
theorem push_calls (w : World) (B gq gt x : Nat) (v : Value) (Q : List Nat) (days each : Int) (A : Option Addr) (c : Nat) (L : List VD) (hQ : QB w B gq gt v Q) (hT : TB w gt days each A c L) (hB : B ≤ w.heap.size) (hx : x < L.length) (hm : ∀ i, i ∈ Q → i < L.length) (hL : L.length ≤ 1000000) (hQl : Q.length ≤ 1000000) (hf : FewV 2000 L) :
    Calls Try.prog 56 #[.pointer (some ⟨gq, 0, none⟩), .int .i64 (x : Int)] w fun e w' => e = .returned (.tuple #[]) ∧ ∃ v', QB w' B gq gt v' ((tdOf L).put x Q) ∧ Fr (fun y => y = gq ∨ v.ownBlock = some y) w w' ∧ (∀ y, v'.ownBlock = some y → v.ownBlock = some y ∨ w.heap.size ≤ y) := by
  have HQ := Lib.hid hQ
  have HT := Lib.hid hT
  have HF := Lib.hid hf
  have HM := Lib.hid hm
  obtain ⟨hK, hI⟩ := hQ
  obtain ⟨Av, cv, rfl, hcv, hcv2⟩ := hI.shape
  have k0 := hK.cell 0
  have k1 := hK.cell 1
  clear hK hI hT hm hf
  go_enter Try.func56, Try.ntmps56
  go_wp2
  go_loopw [4] (fun i wr => ∃ a : Nat, a ≤ Q.length ∧ i = .int .i64 (a : Int) ∧ Below w.heap.size w wr ∧ (tdOf L).pos x Q Q.length = (tdOf L).pos x Q a)
    (fun i _ => (intOf i).toNat)
  case atStart => exact ⟨Q.length, Nat.le_refl _, rfl, Below.refl _ _, rfl⟩
  case round =>
    clear k0 k1
    obtain ⟨a, ha, rfl, hb, hpos⟩ := hrel
    have HB := Lib.hid hb
    have HP := Lib.hid hpos
    have kq := HQ.out.1.below hb
    have k0 := kq.cell 0
    have k1 := kq.cell 1
    obtain ⟨bb, hbb⟩ : ∃ bb : Bool, bb = decide (0 < a ∧ (tdOf L).ahead x (Q.getD (a - 1) 0)) := ⟨_, rfl⟩
    have HBB := Lib.hid hbb
    clear hb hpos hbb
    go_upto_region 1 with fail
    go_cut [27] (fun t27 wx => t27 = .bool bb ∧ Below w.heap.size w wx)
    case first =>
      rcases Nat.eq_zero_or_pos a with h0 | h0
      · subst h0
        have hf : bb = false := by rw [HBB.out]; simp
        subst hf
        clear kq
        go_wp2_with fail
        go_quiet (fail)
        go_wp2
        all_goals go_meet
        case rel => exact ⟨rfl, bl_trans HB.out (bl_drewN _ _)⟩
      · obtain ⟨m, rfl⟩ : ∃ m, a = m + 1 := ⟨a - 1, by omega⟩
        obtain ⟨q, hq⟩ : ∃ q, Q[m]? = some q := ⟨_, List.getElem?_eq_getElem (by omega)⟩
        have hI := HQ.out.2
        have hqn := HM.out q (List.mem_of_getElem? hq)
        have hgD : Q.getD m 0 = q := by rw [List.getD_eq_getElem?_getD, hq]; rfl
        have hbv : bb = decide ((tdOf L).ahead x q) := by
          rw [HBB.out, decide_eq_decide]
          have : m + 1 - 1 = m := by omega
          rw [this, hgD]
          exact ⟨fun h => h.2, fun h => ⟨by omega, h⟩⟩
        rcases hI with ⟨h1, h2⟩ | ⟨g, o, cap, cur, hv, hbg, hg, hsz, hlc, hcm, hno, hat⟩
        · rw [h2] at ha; simp at ha
        · obtain ⟨rfl, rfl⟩ : Av = some ⟨g, o, none⟩ ∧ cv = cap := by simpa using hv
          have c0 : w.cell? ⟨g, o + m, none⟩ = some (.int .i64 (q : Int)) := by rw [cell_of_row w g _ cur _ _ hg]; exact hat m q hq
          have hs := holdt_next (bl_drew wr) ⟨(⟨HB.out, HT.out.below HB.out⟩ : HoldT w gt days each A c L wr), k0, k1, cell_below HB.out c0⟩
          have HBV := Lib.hid hbv
          have q1 : (m : Int) < (Q.length : Int) := by omega
          have g1 : decide ((0 : Int) < (m : Int) + 1) = true := decide_eq_true (by omega)
          have g2 : decide ((0 : Int) < ((m + 1 : Nat) : Int)) = true := decide_eq_true (by omega)
          have g3 : ((m + 1 : Nat) : Int) - 1 = (m : Int) := by omega
          have hwr : ∀ n : Int, 0 ≤ n → n ≤ 1000000 → IntKind.i64.wrap n = n := fun n h1 h2 => by rw [IntKind.wrap_i64]; omega
          have hw1 : IntKind.i64.wrap ((m : Int) + 1 - 1) = (m : Int) := by rw [hwr _ (by omega) (by omega)]; omega
          have hw2 : IntKind.i64.wrap (m : Int) = (m : Int) := hwr _ (by omega) (by omega)
          have hw3 : IntKind.i64.wrap (((m + 1 : Nat) : Int) - 1) = (m : Int) := by rw [hwr _ (by omega) (by omega)]; omega
          have q0 : (0 : Int) ≤ (m : Int) := by omega
          clear hwr
          clear hq hgD hbv hv hg hat hno c0 k0 k1 kq h0
          go_wp2_with fail
          go_region_held3 (fun w' => HoldT w gt days each A c L w' ∧ w'.cell? ⟨gq, 0, none⟩ = some (.slice (some ⟨g, o, none⟩) Q.length cv) ∧ w'.cell? ⟨gq, 1, none⟩ = some (.func (.func 89) #[] #[.pointer (some ⟨gt, 0, none⟩)]) ∧ w'.cell? ⟨g, o + m, none⟩ = some (.int .i64 (q : Int)))
            ((first | exact hs | exact holdt_next hbN (by assumption)))
            (first
              | (go_at_call 89; (with_reducible refine (ahead_calls _ gt x q days each A c L ?_ hx hqn hL HF.out).mono ?_); (exact (And.left (by assumption) : HoldT _ _ _ _ _ _ _ _).2); (rintro e w' ⟨rfl, hbN⟩); (rw [← HBV.out]); (have H1 := HoldT.next hbN (And.left (by assumption)))))
          go_wp2
          all_goals go_meet
          case rel => exact ⟨rfl, H1.1⟩
    case rest =>
      obtain ⟨rfl, hbc⟩ := hcut
      have HBC := Lib.hid hbc
      clear hbc kq k0 k1
      cases bb
      · have hpa : (tdOf L).pos x Q Q.length = a := by
          rw [HP.out]
          have hn := of_decide_eq_false HBB.out.symm
          cases a with
          | zero => rfl
          | succ m =>
            show (if (tdOf L).ahead x (Q.getD m 0) then _ else _) = _
            rw [if_neg]
            intro h
            exact hn ⟨by omega, by have e : m + 1 - 1 = m := by omega
                                   rw [e]; exact h⟩
        have HPUT := Lib.hid (show (tdOf L).put x Q = Q.take a ++ x :: Q.drop a by unfold Td.put; rw [hpa])
        have kq := HQ.out.1.below HBC.out
        have k0 := kq.cell 0
        have hI := HQ.out.2.below HBC.out
        have al := below_alloc0 wc (.cells #[.int .i64 (x : Int)] 3)
        have KX := Blk.new wc 3 #[.int .i64 (x : Int)]
        have hsz1 := HBC.out.size
        have hsz2 := al.size
        obtain ⟨v1, w1, hrun, hI1, hfr1, hown1⟩ := IQ.push (hI.below al) (by omega) KX hQl
        have hgq : ¬ (Value.slice Av Q.length cv).ownBlock = some gq := fun e => by
          obtain ⟨cs, h⟩ := HQ.out.2.typ e
          have h2 := HQ.out.1
          have := Option.some.inj (h.symm.trans h2)
          injection this with _ e3
          revert e3; decide
        have K1 := hfr1.blk (kq.below al) hgq
        have k10 := K1.cell 0
        have k1f := K1.free
        rcases hI1 with ⟨h1, h2⟩ | ⟨g, o, cap, cur, hv, hbg, hg, hszz, hlc, hcm, hno, hat⟩
        · exact absurd h2 (by simp)
        · have hI1 : IQ w1 B v1 (Q ++ [x]) := .inr ⟨g, o, cap, cur, hv, hbg, hg, hszz, hlc, hcm, hno, hat⟩
          rw [show (Q ++ [x]).length = Q.length + 1 by simp] at hv
          subst hv
          have hlc' : Q.length + 1 ≤ cap := by simpa using hlc
          have hcm' : cap ≤ 9223372036854775807 := by simp only [maxLen] at hcm; omega
          have hgg : gq ≠ g := fun e => by
            rw [← e] at hg
            have := Option.some.inj (hg.symm.trans K1)
            injection this with _ e3
            revert e3; decide
          have hfs := Fr.set k10 (slne _ _ _) (.slice (some ⟨g, o, none⟩) (Q.length + 1) cap)
          have K2 := K1.set 0 (.slice (some ⟨g, o, none⟩) (Q.length + 1) cap)
          have I2 := hI1.fr hfs (fun y hy e => by
            have e' : y = gq := e
            obtain rfl : g = y := by simpa [Value.ownBlock] using hy
            exact hgg e'.symm)
          have HRUN := Lib.hid hrun
          have HAL := Lib.hid al
          have HFR1 := Lib.hid hfr1
          have HOWN := Lib.hid hown1
          have HK1 := Lib.hid K1
          have HI1 := Lib.hid hI1
          have HFS := Lib.hid hfs
          have HK2 := Lib.hid K2
          have HI2 := Lib.hid I2
          clear hrun al hfr1 hown1 K1 hI1 hfs K2 I2 hI hpa kq KX hg hat hno
          go_upto_region 4 with (first
            | (at_builtin; refine wpList_append_run _ rfl _ _ 28 rfl _ _ rfl rfl ⟨_, w1, HRUN.out, ?_⟩)
            | go_in)
          obtain ⟨w2, hw2⟩ : ∃ W, W = w1.setCell ⟨gq, 0, none⟩ (.slice (some ⟨g, o, none⟩) (Q.length + 1) cap) := ⟨_, rfl⟩
          rw [← hw2] at HFS HK2 HI2 ⊢
          clear hw2 k10 k0 k1f
          have hS0 : w2.drew.cell? ⟨gq, 0, none⟩ = some (.slice (some ⟨g, o, none⟩) (Q.length + 1) cap) := (HK2.out.below (bl_drew _)).cell 0
          obtain ⟨d, hdv, hd, hd2⟩ : ∃ d, ((cap = a + 1 ∧ d = o) ∨ (¬ cap = a + 1 ∧ d = o + (a + 1))) ∧ (a < Q.length → d = o + a + 1) ∧ d ≤ o + cap := by
            by_cases e : cap = a + 1
            · exact ⟨o, .inl ⟨e, rfl⟩, fun h => by omega, by omega⟩
            · exact ⟨o + (a + 1), .inr ⟨e, rfl⟩, fun _ => by omega, by omega⟩
          have hsh := fun dc sc => IQ.shift (HI2.out.below (bl_drew w2)) ha hd hd2 dc sc
          have s1 : (a : Int) + 1 ≤ (Q.length : Int) + 1 := by omega
          have s2 : (0 : Int) ≤ (a : Int) + 1 := by omega
          have s3 : (a : Int) ≤ (Q.length : Int) + 1 := by omega
          have s4 : (0 : Int) ≤ (a : Int) := by omega
          have s5 : ¬ cap = a := by omega
          have s6 : (a : Int) < (Q.length : Int) + 1 := by omega
          have hwr : ∀ n : Int, 0 ≤ n → n ≤ 1000001 → IntKind.i64.wrap n = n := fun n h1 h2 => by rw [IntKind.wrap_i64]; omega
          have s7 : IntKind.i64.wrap ((a : Int) + 1) = (a : Int) + 1 := hwr _ (by omega) (by omega)
          have HSH := Lib.hid hsh
          have HGG := Lib.hid hgg
          have hq0 : w2.cell? ⟨gq, 0, none⟩ = some (.slice (some ⟨g, o, none⟩) (Q.length + 1) cap) := HK2.out.cell 0
          clear hwr hsh hS0
          rcases hdv with ⟨hc, hdo⟩ | ⟨hc, hdo⟩
          · subst hc
            have HDO := Lib.hid hdo
            obtain ⟨v8, w8, hrun2, hfr8, ⟨u, hu⟩, hfz, hfr9, hI9⟩ := HSH.out (0) (1)
            rw [HDO.out] at hrun2
            rw [show Q.length - a = 0 by omega] at hrun2
            have K8 := hfr8.blk (HK2.out.below (bl_drew w2)) (fun e => HGG.out e)
            have k80 := K8.cell 0
            have HFR9 := Lib.hid hfr9
            have HI9 := Lib.hid hI9
            have HK9 := Lib.hid (hfr9.blk (HK2.out.below (bl_drew w2)) (fun e => HGG.out e))
            have HRUN2 := Lib.hid hrun2
            clear hdo hd hd2 hrun2 hfr8 hfr9 hI9 K8 hgg
            go_still_tail 13, (by kernel_rfl)
            change wpList _ _ _ _ _ w2.drew
            refine wpList_copy_eq _ rfl (.tmp 46) (.tmp 52) 28 28 rfl _ _ rfl rfl ⟨v8, w8, HRUN2.out, ?_⟩
            go_wp2
            go_end0
            have hsub : ∀ y, y < w.heap.size → y = g → y = gq ∨ (Value.slice Av Q.length cv).ownBlock = some y := fun y hy e => by
              rcases HOWN.out g rfl with h | h
              · right; rw [e]; exact h
              · exfalso; omega
            have F1 : Fr (fun y => y = gq ∨ (Value.slice Av Q.length cv).ownBlock = some y) w w1 := ((Fr.of_below HBC.out).trans (Fr.of_below HAL.out)).then HFR1.out (fun y _ h => .inr h)
            have F2 := F1.then HFS.out (fun y _ h => .inl h)
            have F3 := F2.trans (Fr.of_below (bl_drew w2))
            refine ⟨rfl, .slice (some ⟨g, o, none⟩) (Q.length + 1) (a + 1), ⟨HK9.out, by rw [HPUT.out]; exact HI9.out⟩, F3.then HFR9.out hsub, fun y hy => ?_⟩
            rcases HOWN.out y hy with h | h
            · exact .inl h
            · right; omega
          · skip
            have HDO := Lib.hid hdo
            obtain ⟨v8, w8, hrun2, hfr8, ⟨u, hu⟩, hfz, hfr9, hI9⟩ := HSH.out (cap - (a + 1)) (cap - a)
            rw [HDO.out] at hrun2
            skip
            have K8 := hfr8.blk (HK2.out.below (bl_drew w2)) (fun e => HGG.out e)
            have k80 := K8.cell 0
            have HFR9 := Lib.hid hfr9
            have HI9 := Lib.hid hI9
            have HK9 := Lib.hid (hfr9.blk (HK2.out.below (bl_drew w2)) (fun e => HGG.out e))
            have HRUN2 := Lib.hid hrun2
            clear hdo hd hd2 hrun2 hfr8 hfr9 hI9 K8 hgg
            go_still_tail 13, (by kernel_rfl)
            change wpList _ _ _ _ _ w2.drew
            refine wpList_copy_eq _ rfl (.tmp 46) (.tmp 52) 28 28 rfl _ _ rfl rfl ⟨v8, w8, HRUN2.out, ?_⟩
            go_wp2
            go_end0
            have hsub : ∀ y, y < w.heap.size → y = g → y = gq ∨ (Value.slice Av Q.length cv).ownBlock = some y := fun y hy e => by
              rcases HOWN.out g rfl with h | h
              · right; rw [e]; exact h
              · exfalso; omega
            have F1 : Fr (fun y => y = gq ∨ (Value.slice Av Q.length cv).ownBlock = some y) w w1 := ((Fr.of_below HBC.out).trans (Fr.of_below HAL.out)).then HFR1.out (fun y _ h => .inr h)
            have F2 := F1.then HFS.out (fun y _ h => .inl h)
            have F3 := F2.trans (Fr.of_below (bl_drew w2))
            refine ⟨rfl, .slice (some ⟨g, o, none⟩) (Q.length + 1) cap, ⟨HK9.out, by rw [HPUT.out]; exact HI9.out⟩, F3.then HFR9.out hsub, fun y hy => ?_⟩
            rcases HOWN.out y hy with h | h
            · exact .inl h
            · right; omega
      · have hb2 : 0 < a ∧ (tdOf L).ahead x (Q.getD (a - 1) 0) := of_decide_eq_true HBB.out.symm
        obtain ⟨m, rfl⟩ : ∃ m, a = m + 1 := ⟨a - 1, by omega⟩
        have hp2 : (tdOf L).pos x Q (m + 1) = (tdOf L).pos x Q m := by
          show (if (tdOf L).ahead x (Q.getD m 0) then _ else _) = _
          rw [if_pos]
          have := hb2.2
          have e : m + 1 - 1 = m := by omega
          rw [e] at this
          exact this
        have HP2 := Lib.hid (HP.out.trans hp2)
        clear hb2 hp2
        go_wp2
        exact ⟨⟨m, by omega, by go_num, HBC.out, HP2.out⟩, by simp [intOf]⟩

set_option maxRecDepth 100000 in
theorem pop_nil (w : World) (B gq gt : Nat) (v : Value) (hQ : QB w B gq gt v []) :
    Calls Try.prog 57 #[.pointer (some ⟨gq, 0, none⟩)] w fun e w' => e = .returned (.tuple #[.int .i64 0, .bool false]) ∧ w' = w := by
  obtain ⟨hK, hI⟩ := hQ
  obtain ⟨Av, cv, rfl, hcv, hcv2⟩ := hI.shape
  have k0 := hK.cell 0
  clear hK hI
  go_enter Try.func57, Try.ntmps57
  go_wp2
  go_ret2
  exact ⟨rfl, rfl⟩
set_option maxRecDepth 100000 in
set_option maxHeartbeats 4000000 in
theorem pop_cons (w : World) (B gq gt q : Nat) (v : Value) (Q : List Nat) (hQ : QB w B gq gt v (q :: Q)) (hQl : Q.length ≤ 1000000) :
    Calls Try.prog 57 #[.pointer (some ⟨gq, 0, none⟩)] w fun e w' => e = .returned (.tuple #[.int .i64 (q : Int), .bool true]) ∧ ∃ v', QB w' B gq gt v' Q ∧ Fr (fun y => y = gq) w w' ∧ (∀ y, v'.ownBlock = some y → v.ownBlock = some y) := by
  have HQ := Lib.hid hQ
  obtain ⟨hK, hI⟩ := hQ
  obtain ⟨Av, cap, rfl, hcv, hcv2⟩ := hI.shape
  obtain ⟨g, o, rfl, _, hlc, c0, hI2⟩ := hI.tail
  have hgg : g ≠ gq := fun e => by
    obtain ⟨cs, h⟩ := hI.typ (g := g) rfl
    rw [e] at h
    have := Option.some.inj (h.symm.trans hK)
    injection this with _ e3
    revert e3; decide
  have k0 := hK.cell 0
  have kf := hK.free
  have q1 : (0 : Int) < (Q.length : Int) + 1 := by omega
  have q2 : (1 : Int) ≤ (Q.length : Int) + 1 := by omega
  have q0 : ((q :: Q).length == 0) = false := rfl
  have hl : (q :: Q).length = Q.length + 1 := rfl
  have q3 : (((Q.length : Int) + 1) == 0) = false := beq_eq_false_iff_ne.2 (by omega)
  rw [hl] at k0 hcv
  have HI2 := Lib.hid hI2
  have HK := Lib.hid hK
  have HGG := Lib.hid hgg
  have hfs := fun y => Fr.set k0 (slne _ _ _) y
  have HFS := Lib.hid hfs
  clear hI hI2 hK hgg hl hlc hfs
  by_cases hc : cap = 1
  · subst hc
    go_enter Try.func57, Try.ntmps57
    go_upto_region 3 with fail
    refine wp_region_T (fun (w' : World) => w'.cell? ⟨gq, 0, none⟩ = some (.slice (some ⟨g, o, none⟩) (Q.length + 1) 1) ∧ w'.cell? ⟨g, o, none⟩ = some (.int .i64 (q : Int))) 15 (by kernel_rfl) ?_
    have hS : (fun (w' : World) => w'.cell? ⟨gq, 0, none⟩ = some (.slice (some ⟨g, o, none⟩) (Q.length + 1) 1) ∧ w'.cell? ⟨g, o, none⟩ = some (.int .i64 (q : Int))) _ := ⟨k0, c0⟩
    simp only [List.size_toArray, List.length_cons, List.length_nil, Nat.reduceAdd]
    refine wpAnyT_take 0 (some 11) (v := ?vr1_0) rfl rfl (by kernel_rfl) (by kernel_rfl) (by kernel_rfl) (by kernel_rfl) (fun _ _ _ h => h) rfl ?hyr1_0 hS ?restr1_0
    case hyr1_0 => (intro w hSw; (try dsimp only at hSw); go_simp; (try with_reducible rfl))
    (try simp only [Act.put, List.setIfInBounds_toArray, List.set_cons_zero, List.set_cons_succ])
    refine wpAnyT_take 1 (some 12) (v := ?vr1_1) rfl rfl (by kernel_rfl) (by kernel_rfl) (by kernel_rfl) (by kernel_rfl) (fun _ _ _ h => h) rfl ?hyr1_1 hS ?restr1_1
    case hyr1_1 => (intro w hSw; (try dsimp only at hSw); go_simp; (try with_reducible rfl))
    (try simp only [Act.put, List.setIfInBounds_toArray, List.set_cons_zero, List.set_cons_succ])
    refine wpAnyT_take 2 (some 13) (v := ?vr1_2) rfl rfl (by kernel_rfl) (by kernel_rfl) (by kernel_rfl) (by kernel_rfl) (fun _ _ _ h => h) rfl ?hyr1_2 hS ?restr1_2
    case hyr1_2 => (intro w hSw; (try dsimp only at hSw); go_simp; (try with_reducible rfl))
    (try simp only [Act.put, List.setIfInBounds_toArray, List.set_cons_zero, List.set_cons_succ])
    refine wpAnyT_take 3 (some 14) (v := ?vr1_3) rfl rfl (by kernel_rfl) (by kernel_rfl) (by kernel_rfl) (by kernel_rfl) (fun _ _ _ h => h) rfl ?hyr1_3 hS ?restr1_3
    case hyr1_3 => (intro w hSw; (try dsimp only at hSw); go_simp; (try with_reducible rfl))
    (try simp only [Act.put, List.setIfInBounds_toArray, List.set_cons_zero, List.set_cons_succ])
    refine wpAnyT_take 4 (some 15) (v := ?vr1_4) rfl rfl (by kernel_rfl) (by kernel_rfl) (by kernel_rfl) (by kernel_rfl) (fun _ _ _ h => h) rfl ?hyr1_4 hS ?restr1_4
    case hyr1_4 => (intro w hSw; (try dsimp only at hSw); go_simp; (try with_reducible rfl))
    (try simp only [Act.put, List.setIfInBounds_toArray, List.set_cons_zero, List.set_cons_succ])
    refine wpAnyT_take 5 (some 16) (v := ?vr1_5) rfl rfl (by kernel_rfl) (by kernel_rfl) (by kernel_rfl) (by kernel_rfl) (fun _ _ _ h => h) rfl ?hyr1_5 hS ?restr1_5
    case hyr1_5 => (intro w hSw; (try dsimp only at hSw); go_simp; (try with_reducible rfl))
    (try simp only [Act.put, List.setIfInBounds_toArray, List.set_cons_zero, List.set_cons_succ])
    refine wpAnyT_take 6 (some 17) (v := ?vr1_6) rfl rfl (by kernel_rfl) (by kernel_rfl) (by kernel_rfl) (by kernel_rfl) (fun _ _ _ h => h) rfl ?hyr1_6 hS ?restr1_6
    case hyr1_6 => (intro w hSw; (try dsimp only at hSw); go_simp; (try with_reducible rfl))
    (try simp only [Act.put, List.setIfInBounds_toArray, List.set_cons_zero, List.set_cons_succ])
    refine wpAnyT_take 7 (some 18) (v := ?vr1_7) rfl rfl (by kernel_rfl) (by kernel_rfl) (by kernel_rfl) (by kernel_rfl) (fun _ _ _ h => h) rfl ?hyr1_7 hS ?restr1_7
    case hyr1_7 => (intro w hSw; (try dsimp only at hSw); go_simp; (try with_reducible rfl))
    (try simp only [Act.put, List.setIfInBounds_toArray, List.set_cons_zero, List.set_cons_succ])
    refine wpAnyT_take 8 (some 19) (v := ?vr1_8) rfl rfl (by kernel_rfl) (by kernel_rfl) (by kernel_rfl) (by kernel_rfl) (fun _ _ _ h => h) rfl ?hyr1_8 hS ?restr1_8
    case hyr1_8 => (intro w hSw; (try dsimp only at hSw); go_simp; (try with_reducible rfl))
    (try simp only [Act.put, List.setIfInBounds_toArray, List.set_cons_zero, List.set_cons_succ])
    refine wpAnyT_take 9 (some 20) (v := ?vr1_9) rfl rfl (by kernel_rfl) (by kernel_rfl) (by kernel_rfl) (by kernel_rfl) (fun _ _ _ h => h) rfl ?hyr1_9 hS ?restr1_9
    case hyr1_9 => (intro w hSw; (try dsimp only at hSw); go_simp; (try with_reducible rfl))
    (try simp only [Act.put, List.setIfInBounds_toArray, List.set_cons_zero, List.set_cons_succ])
    refine wpAnyT_take 10 (some 21) (v := ?vr1_10) rfl rfl (by kernel_rfl) (by kernel_rfl) (by kernel_rfl) (by kernel_rfl) (fun _ _ _ h => h) rfl ?hyr1_10 hS ?restr1_10
    case hyr1_10 => (intro w hSw; (try dsimp only at hSw); go_simp; (try with_reducible rfl))
    (try simp only [Act.put, List.setIfInBounds_toArray, List.set_cons_zero, List.set_cons_succ])
    refine wpAnyT_take 11 (some 22) (v := ?vr1_11) rfl rfl (by kernel_rfl) (by kernel_rfl) (by kernel_rfl) (by kernel_rfl) (fun _ _ _ h => h) rfl ?hyr1_11 hS ?restr1_11
    case hyr1_11 => (intro w hSw; (try dsimp only at hSw); go_simp; (try with_reducible rfl))
    (try simp only [Act.put, List.setIfInBounds_toArray, List.set_cons_zero, List.set_cons_succ])
    refine wpAnyT_take 12 (some 2) (v := ?vr1_12) rfl rfl (by kernel_rfl) (by kernel_rfl) (by kernel_rfl) (by kernel_rfl) (fun _ _ _ h => h) rfl ?hyr1_12 hS ?restr1_12
    case hyr1_12 => (intro w hSw; (try dsimp only at hSw); go_simp; (try with_reducible rfl))
    (try simp only [Act.put, List.setIfInBounds_toArray, List.set_cons_zero, List.set_cons_succ])
    refine wpAnyT_one (i := 13) rfl (by kernel_rfl) rfl (fun K hK => ?_)
    simp only [List.getElem_toArray, List.getElem_cons_succ, List.getElem_cons_zero]
    go_simp
    refine hK.out _ _ (fun _ => hS) ?_
    clear hK K
    (try simp only [Act.put, List.setIfInBounds_toArray, List.set_cons_zero, List.set_cons_succ])
    refine wpAnyT_one (i := 14) rfl (by kernel_rfl) rfl (fun K hK => ?_)
    simp only [List.getElem_toArray, List.getElem_cons_succ, List.getElem_cons_zero]
    go_simp
    refine hK.out _ _ (fun _ => hS) ?_
    clear hK K
    (try simp only [Act.put, List.setIfInBounds_toArray, List.set_cons_zero, List.set_cons_succ])
    refine wpAnyT_one (i := 15) rfl (by kernel_rfl) rfl (fun K hK => ?_)
    simp only [List.getElem_toArray, List.getElem_cons_succ, List.getElem_cons_zero]
    go_simp
    refine hK.out _ _ (fun h => absurd rfl h) ?_
    refine wpAnyT_done (by kernel_rfl) ?_ _
    clear hS hK K
    go_wp2
    go_ret2
    have hQ0 : Q = [] := List.eq_nil_of_length_eq_zero (by omega)
    subst hQ0
    have hI : IQ w B (.slice (some ⟨g, o, none⟩) 0 0) [] := by simpa using HI2.out
    have hne : ∀ (A : Option Addr) (l c : Nat), A = some ⟨g, o, none⟩ → ∀ y, (Value.slice A l c).ownBlock = some y → ¬ y = gq := fun A l c hA y hy e => by
      rw [hA] at hy
      obtain rfl : g = y := by simpa [Value.ownBlock] using hy
      exact HGG.out e
    first
      | exact ⟨rfl, _, ⟨(HK.out.set 0 _).below (bl_drew _), IQ.fr ((HFS.out _).trans (Fr.of_below (bl_drew _))) hI (hne _ _ _ rfl)⟩, (HFS.out _).trans (Fr.of_below (bl_drew _)), fun y hy => hy⟩
      | exact ⟨rfl, _, ⟨(HK.out.below (bl_drew w)).set 0 _, IQ.fr ((Fr.of_below (bl_drew w)).trans (HFS.out _)) hI (hne _ _ _ rfl)⟩, (Fr.of_below (bl_drew w)).trans (HFS.out _), fun y hy => hy⟩
  · go_enter Try.func57, Try.ntmps57
    go_upto_region 3 with fail
    refine wp_region_T (fun (w' : World) => w'.cell? ⟨gq, 0, none⟩ = some (.slice (some ⟨g, o, none⟩) (Q.length + 1) cap) ∧ w'.cell? ⟨g, o, none⟩ = some (.int .i64 (q : Int))) 15 (by kernel_rfl) ?_
    have hS : (fun (w' : World) => w'.cell? ⟨gq, 0, none⟩ = some (.slice (some ⟨g, o, none⟩) (Q.length + 1) cap) ∧ w'.cell? ⟨g, o, none⟩ = some (.int .i64 (q : Int))) _ := ⟨k0, c0⟩
    simp only [List.size_toArray, List.length_cons, List.length_nil, Nat.reduceAdd]
    refine wpAnyT_take 0 (some 11) (v := ?vr2_0) rfl rfl (by kernel_rfl) (by kernel_rfl) (by kernel_rfl) (by kernel_rfl) (fun _ _ _ h => h) rfl ?hyr2_0 hS ?restr2_0
    case hyr2_0 => (intro w hSw; (try dsimp only at hSw); go_simp; (try with_reducible rfl))
    (try simp only [Act.put, List.setIfInBounds_toArray, List.set_cons_zero, List.set_cons_succ])
    refine wpAnyT_take 1 (some 12) (v := ?vr2_1) rfl rfl (by kernel_rfl) (by kernel_rfl) (by kernel_rfl) (by kernel_rfl) (fun _ _ _ h => h) rfl ?hyr2_1 hS ?restr2_1
    case hyr2_1 => (intro w hSw; (try dsimp only at hSw); go_simp; (try with_reducible rfl))
    (try simp only [Act.put, List.setIfInBounds_toArray, List.set_cons_zero, List.set_cons_succ])
    refine wpAnyT_take 2 (some 13) (v := ?vr2_2) rfl rfl (by kernel_rfl) (by kernel_rfl) (by kernel_rfl) (by kernel_rfl) (fun _ _ _ h => h) rfl ?hyr2_2 hS ?restr2_2
    case hyr2_2 => (intro w hSw; (try dsimp only at hSw); go_simp; (try with_reducible rfl))
    (try simp only [Act.put, List.setIfInBounds_toArray, List.set_cons_zero, List.set_cons_succ])
    refine wpAnyT_take 3 (some 14) (v := ?vr2_3) rfl rfl (by kernel_rfl) (by kernel_rfl) (by kernel_rfl) (by kernel_rfl) (fun _ _ _ h => h) rfl ?hyr2_3 hS ?restr2_3
    case hyr2_3 => (intro w hSw; (try dsimp only at hSw); go_simp; (try with_reducible rfl))
    (try simp only [Act.put, List.setIfInBounds_toArray, List.set_cons_zero, List.set_cons_succ])
    refine wpAnyT_take 4 (some 15) (v := ?vr2_4) rfl rfl (by kernel_rfl) (by kernel_rfl) (by kernel_rfl) (by kernel_rfl) (fun _ _ _ h => h) rfl ?hyr2_4 hS ?restr2_4
    case hyr2_4 => (intro w hSw; (try dsimp only at hSw); go_simp; (try with_reducible rfl))
    (try simp only [Act.put, List.setIfInBounds_toArray, List.set_cons_zero, List.set_cons_succ])
    refine wpAnyT_take 5 (some 16) (v := ?vr2_5) rfl rfl (by kernel_rfl) (by kernel_rfl) (by kernel_rfl) (by kernel_rfl) (fun _ _ _ h => h) rfl ?hyr2_5 hS ?restr2_5
    case hyr2_5 => (intro w hSw; (try dsimp only at hSw); go_simp; (try with_reducible rfl))
    (try simp only [Act.put, List.setIfInBounds_toArray, List.set_cons_zero, List.set_cons_succ])
    refine wpAnyT_take 6 (some 17) (v := ?vr2_6) rfl rfl (by kernel_rfl) (by kernel_rfl) (by kernel_rfl) (by kernel_rfl) (fun _ _ _ h => h) rfl ?hyr2_6 hS ?restr2_6
    case hyr2_6 => (intro w hSw; (try dsimp only at hSw); go_simp; (try with_reducible rfl))
    (try simp only [Act.put, List.setIfInBounds_toArray, List.set_cons_zero, List.set_cons_succ])
    refine wpAnyT_take 7 (some 18) (v := ?vr2_7) rfl rfl (by kernel_rfl) (by kernel_rfl) (by kernel_rfl) (by kernel_rfl) (fun _ _ _ h => h) rfl ?hyr2_7 hS ?restr2_7
    case hyr2_7 => (intro w hSw; (try dsimp only at hSw); go_simp; (try with_reducible rfl))
    (try simp only [Act.put, List.setIfInBounds_toArray, List.set_cons_zero, List.set_cons_succ])
    refine wpAnyT_take 8 (some 19) (v := ?vr2_8) rfl rfl (by kernel_rfl) (by kernel_rfl) (by kernel_rfl) (by kernel_rfl) (fun _ _ _ h => h) rfl ?hyr2_8 hS ?restr2_8
    case hyr2_8 => (intro w hSw; (try dsimp only at hSw); go_simp; (try with_reducible rfl))
    (try simp only [Act.put, List.setIfInBounds_toArray, List.set_cons_zero, List.set_cons_succ])
    refine wpAnyT_take 9 (some 20) (v := ?vr2_9) rfl rfl (by kernel_rfl) (by kernel_rfl) (by kernel_rfl) (by kernel_rfl) (fun _ _ _ h => h) rfl ?hyr2_9 hS ?restr2_9
    case hyr2_9 => (intro w hSw; (try dsimp only at hSw); go_simp; (try with_reducible rfl))
    (try simp only [Act.put, List.setIfInBounds_toArray, List.set_cons_zero, List.set_cons_succ])
    refine wpAnyT_take 10 (some 21) (v := ?vr2_10) rfl rfl (by kernel_rfl) (by kernel_rfl) (by kernel_rfl) (by kernel_rfl) (fun _ _ _ h => h) rfl ?hyr2_10 hS ?restr2_10
    case hyr2_10 => (intro w hSw; (try dsimp only at hSw); go_simp; (try with_reducible rfl))
    (try simp only [Act.put, List.setIfInBounds_toArray, List.set_cons_zero, List.set_cons_succ])
    refine wpAnyT_take 11 (some 22) (v := ?vr2_11) rfl rfl (by kernel_rfl) (by kernel_rfl) (by kernel_rfl) (by kernel_rfl) (fun _ _ _ h => h) rfl ?hyr2_11 hS ?restr2_11
    case hyr2_11 => (intro w hSw; (try dsimp only at hSw); go_simp; (try with_reducible rfl))
    (try simp only [Act.put, List.setIfInBounds_toArray, List.set_cons_zero, List.set_cons_succ])
    refine wpAnyT_take 12 (some 2) (v := ?vr2_12) rfl rfl (by kernel_rfl) (by kernel_rfl) (by kernel_rfl) (by kernel_rfl) (fun _ _ _ h => h) rfl ?hyr2_12 hS ?restr2_12
    case hyr2_12 => (intro w hSw; (try dsimp only at hSw); go_simp; (try with_reducible rfl))
    (try simp only [Act.put, List.setIfInBounds_toArray, List.set_cons_zero, List.set_cons_succ])
    refine wpAnyT_one (i := 13) rfl (by kernel_rfl) rfl (fun K hK => ?_)
    simp only [List.getElem_toArray, List.getElem_cons_succ, List.getElem_cons_zero]
    go_simp
    refine hK.out _ _ (fun _ => hS) ?_
    clear hK K
    (try simp only [Act.put, List.setIfInBounds_toArray, List.set_cons_zero, List.set_cons_succ])
    refine wpAnyT_one (i := 14) rfl (by kernel_rfl) rfl (fun K hK => ?_)
    simp only [List.getElem_toArray, List.getElem_cons_succ, List.getElem_cons_zero]
    go_simp
    refine hK.out _ _ (fun _ => hS) ?_
    clear hK K
    (try simp only [Act.put, List.setIfInBounds_toArray, List.set_cons_zero, List.set_cons_succ])
    refine wpAnyT_one (i := 15) rfl (by kernel_rfl) rfl (fun K hK => ?_)
    simp only [List.getElem_toArray, List.getElem_cons_succ, List.getElem_cons_zero]
    go_simp
    refine hK.out _ _ (fun h => absurd rfl h) ?_
    refine wpAnyT_done (by kernel_rfl) ?_ _
    clear hS hK K
    go_wp2
    go_ret2
    have hI := HI2.out
    rw [if_neg hc] at hI
    have hne : ∀ (A : Option Addr) (l c : Nat), A = some ⟨g, o + 1, none⟩ → ∀ y, (Value.slice A l c).ownBlock = some y → ¬ y = gq := fun A l c hA y hy e => by
      rw [hA] at hy
      obtain rfl : g = y := by simpa [Value.ownBlock] using hy
      exact HGG.out e
    first
      | exact ⟨rfl, _, ⟨(HK.out.set 0 _).below (bl_drew _), IQ.fr ((HFS.out _).trans (Fr.of_below (bl_drew _))) hI (hne _ _ _ rfl)⟩, (HFS.out _).trans (Fr.of_below (bl_drew _)), fun y hy => hy⟩
      | exact ⟨rfl, _, ⟨(HK.out.below (bl_drew w)).set 0 _, IQ.fr ((Fr.of_below (bl_drew w)).trans (HFS.out _)) hI (hne _ _ _ rfl)⟩, (Fr.of_below (bl_drew w)).trans (HFS.out _), fun y hy => hy⟩

theorem Td.pops_sub {T : Td} {d : Int} : ∀ (Q : List Nat) (k : Nat) (st : Nat → Int), (∀ i, i ∈ (T.pops d k Q st).1 → i ∈ Q) ∧ (T.pops d k Q st).1.length ≤ Q.length := by
  intro Q
  induction Q with
  | nil => intro k st; cases k <;> simp [Td.pops]
  | cons q Q ih =>
    intro k st
    cases k with
    | zero => simp [Td.pops]
    | succ k =>
      by_cases h : d ≤ T.go q
      · have hp : T.pops d (k + 1) (q :: Q) st = T.pops d k Q (upd st q d) := by rw [Td.pops, if_pos h]
        rw [hp]
        obtain ⟨h1, h2⟩ := ih k (upd st q d)
        exact ⟨fun i hi => by simp [h1 i hi], by simp; omega⟩
      · have hp : T.pops d (k + 1) (q :: Q) st = T.pops d (k + 1) Q st := by rw [Td.pops, if_neg h]
        rw [hp]
        obtain ⟨h1, h2⟩ := ih (k + 1) st
        exact ⟨fun i hi => by simp [h1 i hi], by simp; omega⟩
theorem Td.put_len {T : Td} {x : Nat} {Q : List Nat} : (T.put x Q).length = Q.length + 1 := by
  obtain ⟨p1, _⟩ := T.pos_spec x Q Q.length
  unfold Td.put
  simp
  omega
theorem Td.puts_sub {T : Td} {d : Int} {Q : List Nat} : ∀ m, (∀ i, i ∈ T.puts d m Q → i ∈ Q ∨ i < m) ∧ (T.puts d m Q).length ≤ Q.length + m := by
  intro m
  induction m with
  | zero => exact ⟨fun i h => .inl h, by simp [Td.puts]⟩
  | succ m ih =>
    obtain ⟨i1, i2⟩ := ih
    by_cases e : T.come m = d ∧ 0 < T.q m
    · have hp : T.puts d (m + 1) Q = T.put m (T.puts d m Q) := by simp only [Td.puts, if_pos e]
      rw [hp, Td.put_len]
      refine ⟨fun i hi => ?_, by omega⟩
      rcases Td.put_mem.1 hi with h | h
      · right; omega
      · rcases i1 i h with h | h
        · exact .inl h
        · right; omega
    · have hp : T.puts d (m + 1) Q = T.puts d m Q := by simp only [Td.puts, if_neg e]
      rw [hp]
      refine ⟨fun i hi => ?_, by omega⟩
      rcases i1 i hi with h | h
      · exact .inl h
      · right; omega
theorem Td.qrun_sub {T : Td} {k : Nat} : ∀ d, (∀ i, i ∈ (T.qrun k d).1 → i < T.n) ∧ (T.qrun k d).1.length ≤ T.n * d := by
  intro d
  induction d with
  | zero => exact ⟨fun i h => by simp [Td.qrun] at h, by simp [Td.qrun]⟩
  | succ d ih =>
    obtain ⟨i1, i2⟩ := ih
    obtain ⟨p1, p2⟩ := Td.pops_sub (T := T) (d := ((d + 1 : Nat) : Int)) (T.puts ((d + 1 : Nat) : Int) T.n (T.qrun k d).1) k (T.qrun k d).2
    obtain ⟨q1, q2⟩ := Td.puts_sub (T := T) (d := ((d + 1 : Nat) : Int)) (Q := (T.qrun k d).1) T.n
    refine ⟨fun i hi => ?_, ?_⟩
    · rcases q1 i (p1 i hi) with h | h
      · exact i1 i h
      · exact h
    · have h : (T.qrun k (d + 1)).1.length ≤ (T.puts ((d + 1 : Nat) : Int) T.n (T.qrun k d).1).length := p2
      rw [Nat.mul_succ]
      omega
theorem mk_ints (n : Nat) (h : n ≤ 4096) (w : World) : (Instr.makeSlice 28 (.int .i64 (n : Int)) (.int .i64 (n : Int))).run Try.prog w = .ok (.slice (some ⟨w.heap.size, 0, none⟩) n n) (w.alloc (.cells (madeCells #[.int .i64 0] n) 3)) := by
  obtain ⟨i0, hi, hz0, hz1, hz2⟩ := info_parts info_int2
  have hr := run_make (P := Try.prog) w 28 3 i0 _ Try.underlying28 hi hz0 .i64 .i64 (n : Int) (n : Int) (by omega) (by omega) (by rw [hz2]; omega) (by omega)
  simp only [Int.toNat_natCast, hz1, Nat.mul_one] at hr
  exact hr
theorem ints_new (w : World) (n : Nat) : Tb (w.alloc (.cells (madeCells #[.int .i64 0] n) 3)) w.heap.size 3 n n (fun _ => .int .i64 0) := by
  have hm : ∀ j, j < n → (madeCells #[Value.int .i64 0] n)[j]? = some (.int .i64 0) := by
    intro j hj
    simp only [madeCells, Array.getElem?_map, Array.getElem?_range]
    rw [if_pos hj]
    have : j % (#[Value.int .i64 0] : Array Value).size = 0 := by
      have : (#[Value.int .i64 0] : Array Value).size = 1 := rfl
      rw [this]; omega
    show some ((#[Value.int .i64 0] : Array Value)[j % (#[Value.int .i64 0] : Array Value).size]!) = some (.int .i64 0)
    rw [this]
    rfl
  refine ⟨_, heap_alloc_new w _, size_madeCells _ _, Nat.le_refl _, fun j x hx => ?_, fun j hj => hm j hj⟩
  have hj : j < n := by
    have := (Array.getElem?_eq_some_iff.1 hx).1
    rw [size_madeCells] at this
    exact this
  rw [hm j hj] at hx
  obtain rfl := Option.some.inj hx
  exact intne _
set_option maxRecDepth 100000 in
theorem byworth_calls (w : World) (days each : Int) (A : Option Addr) (c : Nat) (L : List VD) (h : VL w (.slice A L.length c) L) :
    Calls Try.prog 54 #[.agg #[.int .i64 days, .int .i64 each, .slice A L.length c]] w fun e w' => ∃ gq gt, e = .returned (.pointer (some ⟨gq, 0, none⟩)) ∧ QB w' w.heap.size gq gt (.slice none 0 0) [] ∧ TB w' gt days each A c L ∧ w.heap.size ≤ gq ∧ w.heap.size ≤ gt ∧ Below w.heap.size w w' := by
  have hmf : ∀ (fn : Fn) (first cap : Array Value) (w : World), (Instr.makeFunc fn first cap).run Try.prog w = .ok (.func fn first cap) w := fun _ _ _ _ => rfl
  have al := below_alloc0 w (.cells #[.int .i64 days, .int .i64 each, .slice A L.length c] 24)
  have K := Blk.new w 24 #[.int .i64 days, .int .i64 each, .slice A L.length c]
  have al2 := below_alloc0 (w.alloc (.cells #[.int .i64 days, .int .i64 each, .slice A L.length c] 24)) (.cells #[.slice none 0 0, .func (.func 89) #[] #[.pointer (some ⟨w.heap.size, 0, none⟩)]] 110)
  have K2 := Blk.new (w.alloc (.cells #[.int .i64 days, .int .i64 each, .slice A L.length c] 24)) 110 #[.slice none 0 0, .func (.func 89) #[] #[.pointer (some ⟨w.heap.size, 0, none⟩)]]
  rw [show (w.alloc (.cells #[.int .i64 days, .int .i64 each, .slice A L.length c] 24)).heap.size = w.heap.size + 1 by simp] at K2
  have HK := Lib.hid (K.below al2)
  have HK2 := Lib.hid K2
  have HB := Lib.hid (bl_trans al al2)
  have HV := Lib.hid (h.below (bl_trans al al2))
  clear K K2 al al2 h
  go_enter Try.func54, Try.ntmps54
  go_wp2
  go_ret
  exact ⟨_, w.heap.size, rfl, ⟨HK2.out, IQ.nil _ _⟩, ⟨HK.out, HV.out⟩, Nat.le_succ _, Nat.le_refl _, HB.out⟩
/-- What Sell holds on to. -/
structure SR (w0 : World) (g1 gt gq go : Nat) (days each : Int) (A : Option Addr) (c : Nat) (L : List VD) (v : Value) (Q : List Nat) (st : Nat → Int) (wr : World) : Prop where
  box : Blk wr g1 24 #[.int .i64 days, .int .i64 each, .slice A L.length c]
  tb : Blk wr gt 24 #[.int .i64 days, .int .i64 each, .slice A L.length c]
  q : QB wr w0.heap.size gq gt v Q
  out : Tb wr go 3 L.length L.length (fun j => .int .i64 (st j))
  bel : Below w0.heap.size w0 wr
  ne : ∀ y, v.ownBlock = some y → y ≠ go
  gqB : w0.heap.size ≤ gq
  goB : w0.heap.size ≤ go
theorem SR.below {w0 : World} {g1 gt gq go : Nat} {days each : Int} {A : Option Addr} {c : Nat} {L : List VD} {v : Value} {Q : List Nat} {st : Nat → Int} {wr w2 : World} (h : SR w0 g1 gt gq go days each A c L v Q st wr) (hb : Below wr.heap.size wr w2) : SR w0 g1 gt gq go days each A c L v Q st w2 :=
  ⟨h.box.below hb, h.tb.below hb, h.q.below hb, h.out.fr (Fr.of_below (S := fun _ => False) hb) (fun h => h), bl_trans h.bel hb, h.ne, h.gqB, h.goB⟩
theorem blk_ne {w : World} {g g' t t' : Nat} {cs ds : Array Value} (h : w.heap[g]? = some (.cells cs t (0, 0))) (k : w.heap[g']? = some (.cells ds t' (0, 0))) (ht : t ≠ t') : g ≠ g' := fun e => by
  rw [e] at h
  have := Option.some.inj (h.symm.trans k)
  injection this with _ e3
  exact ht e3
theorem SR.push {w0 : World} {g1 gt gq go : Nat} {days each : Int} {A : Option Addr} {c : Nat} {L : List VD} {v v' : Value} {Q Q' : List Nat} {st : Nat → Int} {wr w2 : World} (h : SR w0 g1 gt gq go days each A c L v Q st wr) (hq : QB w2 w0.heap.size gq gt v' Q') (k : Fr (fun y => y = gq ∨ v.ownBlock = some y) wr w2) (hv : ∀ y, v'.ownBlock = some y → v.ownBlock = some y ∨ wr.heap.size ≤ y) : SR w0 g1 gt gq go days each A c L v' Q' st w2 := by
  obtain ⟨cs, hc, _⟩ := h.out
  have ngq : ∀ {g : Nat} {ds : Array Value} {t : Nat}, wr.heap[g]? = some (.cells ds t (0, 0)) → t ≠ 110 → g ≠ gq := fun hg ht => blk_ne hg h.q.1 ht
  have nv : ∀ {g : Nat} {ds : Array Value} {t : Nat}, wr.heap[g]? = some (.cells ds t (0, 0)) → t ≠ 3 → ¬ v.ownBlock = some g := fun hg ht e => by
    obtain ⟨es, he⟩ := h.q.2.typ e
    exact blk_ne hg he ht rfl
  refine ⟨k.blk h.box (fun e => ?_), k.blk h.tb (fun e => ?_), hq, h.out.fr k (fun e => ?_), Below.trans h.bel (k.below h.bel.size (fun g hg => ?_)), fun y hy => ?_, h.gqB, h.goB⟩
  · rcases e with e | e
    · exact ngq h.box (by decide) e
    · exact nv h.box (by decide) e
  · rcases e with e | e
    · exact ngq h.tb (by decide) e
    · exact nv h.tb (by decide) e
  · rcases e with e | e
    · exact ngq hc (by decide) e
    · exact h.ne _ e rfl
  · rcases hg with e | e
    · rw [e]; exact h.gqB
    · exact h.q.2.block e
  · rcases hv y hy with e | e
    · exact h.ne y e
    · have := h.out.lt
      omega
theorem SR.pop {w0 : World} {g1 gt gq go : Nat} {days each : Int} {A : Option Addr} {c : Nat} {L : List VD} {v v' : Value} {Q Q' : List Nat} {st : Nat → Int} {wr w2 : World} (h : SR w0 g1 gt gq go days each A c L v Q st wr) (hq : QB w2 w0.heap.size gq gt v' Q') (k : Fr (fun y => y = gq) wr w2) (hv : ∀ y, v'.ownBlock = some y → v.ownBlock = some y) : SR w0 g1 gt gq go days each A c L v' Q' st w2 :=
  h.push hq (k.mono (fun y _ e => .inl e)) (fun y hy => .inl (hv y hy))
theorem SR.store {w0 : World} {g1 gt gq go : Nat} {days each : Int} {A : Option Addr} {c : Nat} {L : List VD} {v : Value} {Q : List Nat} {st : Nat → Int} {wr : World} (h : SR w0 g1 gt gq go days each A c L v Q st wr) {i : Nat} (hi : i < L.length) (d : Int) : SR w0 g1 gt gq go days each A c L v Q (upd st i d) (wr.setCell ⟨go, i, none⟩ (.int .i64 d)) := by
  obtain ⟨k1, k2⟩ := h.out.set hi (intne d)
  obtain ⟨cs, hc, _⟩ := h.out
  have ngo : ∀ {g : Nat} {ds : Array Value} {t : Nat}, wr.heap[g]? = some (.cells ds t (0, 0)) → t ≠ 3 → g ≠ go := fun hg ht => blk_ne hg hc ht
  refine ⟨k2.blk h.box (fun e => ngo h.box (by decide) e), k2.blk h.tb (fun e => ngo h.tb (by decide) e), ⟨k2.blk h.q.1 (fun e => ngo h.q.1 (by decide) e), h.q.2.fr k2 (fun y hy e => h.ne y hy e)⟩, k1.congr (fun j hj => ?_), Below.trans h.bel (k2.below h.bel.size (fun g hg => by have e : g = go := hg; rw [e]; exact h.goB)), h.ne, h.gqB, h.goB⟩
  by_cases e : j = i
  · subst e; rw [upd_at, upd_at]
  · rw [upd_ne e, upd_ne e]
end Go.Proofs.Ytajckdheecgceaa
