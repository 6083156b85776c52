/- Systems of equations: the reference's Linear. -/
import Derived.Test.YtdmgceckmciifaaLin2
import Derived.Test.YtdmgceckmciifaaRred
import Derived.Test.YtdmgceckmciifaaRdot
set_option linter.unusedVariables false
set_option linter.unusedSimpArgs false
namespace Go.Proofs.Ytdmgceckmciifaa
open Go.RowKit

theorem OR.tb {w : World} {B : Nat} {v : Value} {LL : List (List (Bool × List Int × List Int))} (h : OR w B v LL) (h0 : 0 < LL.length) : ∃ gr cap vs, v = .slice (some ⟨gr, 0, none⟩) LL.length cap ∧ B ≤ gr ∧ cap ≤ 9223372036854775807 ∧ Tb w gr 32 cap LL.length vs ∧ ∀ i L, LL[i]? = some L → OF w B (vs i) L := by
  obtain ⟨xs, h1, h2, h3, h4⟩ := h
  rcases h1.2 with ⟨e, e0⟩ | ⟨gr, cap, cur, rfl, hb, hg, hn, hm, hcs, ht⟩
  · omega
  · have hxl : xs.length = LL.length := by have := h1.1; omega
    obtain ⟨cur2, e2, k1, k2⟩ := h2 gr rfl
    have hcc : cur2 = cur := by rw [hg] at k1; injection k1 with k1; injection k1 with k1 _; exact k1.symm
    subst hcc
    refine ⟨gr, cap, fun i => xs.getD i (.slice none 0 0), rfl, hb, by simp only [maxLen] at hm; omega, ⟨cur2, hg, by omega, hn, k2, fun i hi => ?_⟩, fun i L hL => ?_⟩
    · have e : cur2[i]? = xs[i]? := by rw [← ht, List.getElem?_take_of_lt (by omega)]; simp
      rw [e]
      show _ = some (xs.getD i (.slice none 0 0))
      rw [List.getD_eq_getElem?_getD, List.getElem?_eq_getElem (by omega)]
      rfl
    · obtain ⟨u, k0, k3⟩ := h4 i L hL
      have e : xs.getD i (.slice none 0 0) = u := by rw [List.getD_eq_getElem?_getD, k0]; rfl
      show OF w B (xs.getD i (.slice none 0 0)) L
      rw [e]
      exact k3
theorem rowq_self {L : List Rat} {C : Nat} (h : L.length = C) : L = rowq C (fun j => L.getD j 0) := by
  apply List.ext_getElem?
  intro j
  rcases Nat.lt_or_ge j C with hj | hj
  · rw [rowq_at _ hj, List.getD_eq_getElem?_getD, List.getElem?_eq_getElem (by omega)]
    rfl
  · rw [List.getElem?_eq_none (by omega), List.getElem?_eq_none (by rw [rowq_len]; exact hj)]
theorem sysM_row {LL : List (List (Bool × List Int × List Int))} {Rl : List (Bool × List Int × List Int)} (hu : unif LL) {i : Nat} (hi : i < LL.length) : tabq LL Rl i = rowq (colsN LL + 1 + LL.length) (sysM LL Rl i) := by
  have e : (tabL LL Rl).getD i [] = tabq LL Rl i := by rw [List.getD_eq_getElem?_getD, tabL_at hi]; rfl
  show _ = rowq _ (fun j => ((tabL LL Rl).getD i []).getD j 0)
  rw [e]
  exact rowq_self (tabq_len hu hi)
/-- What the reference's elimination leaves. -/
def RD (w wr : World) (gr R C : Nat) (M : Nat → Nat → Rat) (As : Option Addr) (st : List Nat) : Prop := (∀ (i s : Nat), st[i]? = some s → ∃ ad, As = some ad ∧ wr.cell? (ad.add i) = some (.int .i64 (s : Int))) ∧
  (∀ i, i < R → ∃ v, wr.cell? ⟨gr, i, none⟩ = some v ∧ OF wr w.heap.size v ((rowq C (M i)).map dq)) ∧ Below w.heap.size w wr
theorem RD.below {w wr w2 : World} {gr R C : Nat} {M : Nat → Nat → Rat} {As : Option Addr} {st : List Nat} (h : RD w wr gr R C M As st) (hb : Below wr.heap.size wr w2) : RD w w2 gr R C M As st := by
  obtain ⟨h1, h2, h3⟩ := h
  refine ⟨fun i s hs => ?_, fun i hi => ?_, bl_trans h3 hb⟩
  · obtain ⟨ad, e, hc⟩ := h1 i s hs
    exact ⟨ad, e, cell_below hb hc⟩
  · obtain ⟨v, e, ho⟩ := h2 i hi
    exact ⟨v, cell_below hb e, ho.below hb⟩
/-- What stands at a place. -/
theorem RD.elem {w wr : World} {gr R C : Nat} {M : Nat → Nat → Rat} {As : Option Addr} {st : List Nat} (h : RD w wr gr R C M As st) {i j : Nat} (hi : i < R) (hj : j < C) : ∃ ad c A1 c1 A2 c2, wr.cell? ⟨gr, i, none⟩ = some (.slice (some ad) C c) ∧ C ≤ c ∧ c ≤ 9223372036854775807 ∧ wr.cell? (ad.add (j * 3)) = some (.bool (decide ((M i j).num < 0))) ∧ wr.cell? ⟨(ad.add (j * 3)).block, (ad.add (j * 3)).off + 1, none⟩ = some (.slice A1 (dg (M i j).num.natAbs).length c1) ∧
    wr.cell? ⟨(ad.add (j * 3)).block, (ad.add (j * 3)).off + 2, none⟩ = some (.slice A2 (dg (M i j).den).length c2) ∧ FrV wr (.agg #[.bool (decide ((M i j).num < 0)), .slice A1 (dg (M i j).num.natAbs).length c1, .slice A2 (dg (M i j).den).length c2]) (M i j) := by
  obtain ⟨v, e, ho⟩ := h.2.1 i hi
  obtain ⟨ad, c, A1, c1, A2, c2, rfl, h1, h2, h3⟩ := ho.fl.atq (rowq_at (M i) hj)
  rw [rowq_len] at e h1
  exact ⟨ad, c, A1, c1, A2, c2, e, h1, h2, h3⟩
theorem reduced_or (w w1 : World) (v : Value) (LL : List (List (Bool × List Int × List Int))) (Rl : List (Bool × List Int × List Int)) (hu : unif LL) (h0 : 0 < LL.length) (h : OR w1 w.heap.size v (tabD LL Rl)) (hb : Below w.heap.size w w1) (hL : LL.length ≤ 72) (hC : colsN LL ≤ 72) {n : Nat} (hnn : n = colsN LL)
    (hz : ∀ col i j, col ≤ colsN LL → i < LL.length → j < colsN LL + 1 + LL.length → Szq 400 ((gj (sysM LL Rl) LL.length col).M i j)) :
    Calls Try.prog 99 #[v, .int .i64 (n : Int)] w1 fun e w' => ∃ gr cap As cs, e = .returned (.agg #[.slice (some ⟨gr, 0, none⟩) LL.length cap, .slice As (sysG LL Rl).st.length cs]) ∧ LL.length ≤ cap ∧ cap ≤ 9223372036854775807 ∧ (sysG LL Rl).st.length ≤ cs ∧ cs ≤ 9223372036854775807 ∧ RD w w' gr LL.length (colsN LL + 1 + LL.length) (sysG LL Rl).M As (sysG LL Rl).st ∧ (∀ g t cs, Blk w1 g t cs → t ≠ 32 → Blk w' g t cs) := by
  subst hnn
  have hlen : (tabD LL Rl).length = LL.length := by simp [tabD]
  obtain ⟨gr, cap, vs, hv, hgr, hcap, hT, hrows⟩ := h.tb (by omega)
  rw [hlen] at hv hT
  subst hv
  have hRc : LL.length ≤ cap := by obtain ⟨cs, _, h2, h3, _⟩ := hT; exact h3
  refine (rreduced_calls w1 w.heap.size gr cap LL.length (colsN LL + 1 + LL.length) (colsN LL) vs (sysM LL Rl) hT (fun i hi => ?_) hb.size hgr (by omega) (by omega) (by omega) hcap hz).mono ?_
  · have k := hrows i _ (tabD_at (Rl := Rl) hi)
    rw [sysM_row hu hi] at k
    exact k
  · rintro e w7 ⟨stv, vs', rfl, hO⟩
    obtain ⟨As, cs, rfl, hcs, hcs2⟩ := own_shp hO.own
    refine ⟨gr, cap, As, cs, rfl, hRc, hcap, hcs, hcs2, ⟨fun i s hs => ?_, fun i hi => ⟨_, hO.tb.cell hi, hO.rows i hi⟩, Below.trans hb (hO.fr.below hb.size (fun g hg => by rw [hg]; exact hgr))⟩, fun g t cs hg ht => hO.fr.blk hg (fun e => ?_)⟩
    rotate_left
    · have e' : g = gr := e
      obtain ⟨ds, hd, _⟩ := hT
      rw [e'] at hg
      exact ht (heap_typ hg hd)
    have hi := (List.getElem?_eq_some_iff.1 hs).1
    have ho := hO.own
    rcases ho.2 with ⟨e, e0⟩ | ⟨g, cap', cur, e, hb', hg, hn, hm, hq, ht⟩
    · exfalso
      have : (sysG LL Rl).st.length = 0 := e0
      have hi' : i < (sysG LL Rl).st.length := hi
      omega
    · obtain ⟨rfl, rfl⟩ : As = some ⟨g, 0, none⟩ ∧ cs = cap' := by simpa using e
      refine ⟨_, rfl, ho.cells (g := g) rfl _ _ ?_⟩
      have hs' : (gj (sysM LL Rl) LL.length (colsN LL)).st[i]? = some s := hs
      rw [List.getElem?_map, hs']
      rfl
/-- What the reference's Linear tells. -/
def LinR (LL : List (List (Bool × List Int × List Int))) (Rl : List (Bool × List Int × List Int)) (w : World) (e : Ending) (w' : World) : Prop := Below w.heap.size w w' ∧
  ((¬ (unif LL ∧ LL.length = Rl.length) ∧ e = .returned (.tuple #[.slice none 0 0, .slice none 0 0, .bool false, .int .i64 12])) ∨
   (unif LL ∧ LL.length = Rl.length ∧ gjok (sysG LL Rl) LL.length (colsN LL) ∧ ∃ v, e = .returned (.tuple #[v, .slice none 0 0, .bool true, .int .i64 0]) ∧ FL w' v ((List.range (colsN LL)).map (fun j => dq (xs (sysG LL Rl) (colsN LL) (sysG LL Rl).st.length j)))) ∨
   (unif LL ∧ LL.length = Rl.length ∧ ¬ gjok (sysG LL Rl) LL.length (colsN LL) ∧ ∃ v, e = .returned (.tuple #[.slice none 0 0, v, .bool false, .int .i64 0])))
theorem FL.nil (w : World) : FL w (.slice none 0 0) [] := ⟨none, 0, rfl, by simp, by omega, fun h => absurd h (by simp)⟩
theorem len_gt {q : Rat} (h : q ≠ 0) : decide ((0 : Int) < ((dg q.num.natAbs).length : Int)) = true := by
  refine decide_eq_true ?_
  have h1 := len_zero (q := q)
  rw [decide_eq_false h] at h1
  have h2 : (((dg q.num.natAbs).length : Int)) ≠ 0 := by simpa using h1
  omega
theorem len_gt0 {q : Rat} (h : q = 0) : decide ((0 : Int) < ((dg q.num.natAbs).length : Int)) = false := by
  refine decide_eq_false ?_
  have h1 := len_zero (q := q)
  rw [decide_eq_true h] at h1
  have h2 : (((dg q.num.natAbs).length : Int)) = 0 := by simpa using h1
  omega
set_option maxRecDepth 100000 in
set_option maxHeartbeats 16000000 in
theorem rlinear_calls (w : World) (va vb : Value) (LL : List (List (Bool × List Int × List Int))) (Rl : List (Bool × List Int × List Int)) (ha : FLL w va LL) (hb : FL w vb Rl) (hR : LL.length ≤ 72) (hR2 : Rl.length ≤ 72) (hf : ∀ L ∈ LL, L.length ≤ 72 ∧ FewD 2000 L) (hf2 : FewD 2000 Rl)
    (hz : unif LL → ∀ col i j, col ≤ colsN LL → i < LL.length → j < colsN LL + 1 + LL.length → Szq 400 ((gj (sysM LL Rl) LL.length col).M i j)) :
    Calls Try.prog 58 #[va, vb] w (LinR LL Rl w) := by
  have HA := Lib.hid ha
  have HBL := Lib.hid hb
  obtain ⟨A, c, rfl⟩ := ha.shape
  obtain ⟨Ab, cb, rfl⟩ := hb.shape
  have hcc := ha.bounds
  have hcb : Rl.length ≤ cb ∧ cb ≤ 9223372036854775807 := by obtain ⟨_, _, hv, k1, k2, _⟩ := hb; simp only [Value.slice.injEq] at hv; omega
  have HZ0 := Lib.hid hz
  clear hz ha hb
  by_cases hu : unif LL ∧ LL.length = Rl.length
  · have h0 : formE LL (Rl.length : Int) = 0 := formE_ok ⟨hu.1, fun _ => by omega⟩
    have HF := Lib.hid h0
    have HU := Lib.hid hu.1
    have HZ := Lib.hid (HZ0.out hu.1)
    have HLR := Lib.hid hu.2
    clear h0 hu
    by_cases hn0 : LL.length = 0
    · have hnil : LL = [] := List.eq_nil_of_length_eq_zero hn0
      have HNIL := Lib.hid hnil
      have q0 : ((LL.length : Int) == 0) = true := by rw [hn0]; rfl
      have HN0 := Lib.hid hn0
      clear hnil hn0
      go_enter Try.func58, Try.ntmps58
      go_wp2_with fail
      refine (formed_calls _ _ LL _ HA.out hR (fun L h => (hf L h).1)).mono ?_
      rintro e w1 ⟨rfl, hb1⟩
      rw [HF.out]
      go_wp2
      try simp only [Exit.inBlock, Exit.then]
      refine bodyPost_ret (results_tmp4 rfl _ _ _) rfl ?_
      have hc0 : colsN LL = 0 := by rw [HNIL.out]; rfl
      exact ⟨hb1, .inr (.inl ⟨HU.out, HLR.out, fun i h1 h2 => by have := HN0.out; omega, _, rfl, by rw [hc0]; exact FL.nil _⟩)⟩
    · have q0 : ((LL.length : Int) == 0) = false := beq_eq_false_iff_ne.2 (by omega)
      obtain ⟨L0, hL0⟩ : ∃ L, LL[0]? = some L := ⟨_, List.getElem?_eq_getElem (by omega)⟩
      obtain ⟨ad0, c', A1, c1, hv, _, _, e0, hc1, hc2, _⟩ := HA.out.at hL0
      obtain ⟨rfl, rfl⟩ : A = some ad0 ∧ c = c' := by simpa using hv
      rw [add0] at e0
      have hn : L0.length = colsN LL := HU.out L0 (List.mem_of_getElem? hL0)
      have hc72 : colsN LL ≤ 72 := by have := (hf L0 (List.mem_of_getElem? hL0)).1; omega
      rw [hn] at e0
      have E0 := Lib.hid e0
      have q1 : (0 : Int) < (LL.length : Int) := by omega
      clear hv hL0 hn e0
      obtain ⟨n, hnn⟩ : ∃ n, n = colsN LL := ⟨_, rfl⟩
      rw [← hnn] at hc72
      have HN := Lib.hid hnn
      clear hnn
      go_enter Try.func58, Try.ntmps58
      go_wp2_with fail
      refine (formed_calls _ _ LL _ HA.out hR (fun L h => (hf L h).1)).mono ?_
      rintro e w1 ⟨rfl, hb1⟩
      rw [HF.out]
      have e0 := cell_below hb1 E0.out
      rw [← HN.out] at e0
      have HB1 := Lib.hid hb1
      clear hb1
      go_wp2_with fail
      refine (table_calls _ _ _ LL Rl (HA.out.below HB1.out) (HBL.out.below HB1.out) hR hf hf2).mono ?_
      rintro e w2 ⟨v2, rfl, hO2, hb2⟩
      have HO2 := Lib.hid hO2
      have HB2 := Lib.hid hb2
      clear hO2 hb2 e0
      go_wp2_with fail
      refine (reduced_or w1 w2 v2 LL Rl HU.out (by omega) HO2.out HB2.out hR (by have := HN.out; omega) HN.out HZ.out).mono ?_
      rintro e w3 ⟨gr, cap, As, cs, rfl, hcap, hcap2, hcs, hcs2, hRD, _⟩
      obtain ⟨S, hS⟩ : ∃ S, S = sysG LL Rl := ⟨_, rfl⟩
      rw [← hS] at hRD hcs ⊢
      rw [← HN.out] at hRD
      have hst : S.st.length ≤ LL.length := by rw [hS]; exact (gj_ok (sysM LL Rl) LL.length (colsN LL) (colsN LL) (Nat.le_refl _)).len
      have HS := Lib.hid hS
      obtain ⟨ge, hge⟩ : ∃ g, g = w3.heap.size := ⟨_, rfl⟩
      have al := below_alloc0 w3 (.cells #[.slice (some ⟨gr, 0, none⟩) LL.length cap, .slice As S.st.length cs] 100)
      have KE := Blk.new w3 100 #[.slice (some ⟨gr, 0, none⟩) LL.length cap, .slice As S.st.length cs]
      have hRD4 := hRD.below al
      obtain ⟨w4, hw4⟩ : ∃ x, x = w3.alloc (.cells #[.slice (some ⟨gr, 0, none⟩) LL.length cap, .slice As S.st.length cs] 100) := ⟨_, rfl⟩
      rw [← hw4] at KE hRD4
      rw [← hge] at KE
      have HW4 := Lib.hid hw4
      have HRD := Lib.hid hRD4
      have HKE := Lib.hid KE
      have HGE := Lib.hid hge
      have HB4 := Lib.hid (bl_trans HB1.out hRD4.2.2)
      have k1 := KE.cell 1
      clear hS al hRD hRD4 KE hw4 hge
      go_upto_region 6 with fail
      rw [← HW4.out, ← HGE.out]
      go_wp2
      go_loopw [10, 4] (fun i v4 wx => ∃ m : Nat, S.st.length ≤ m ∧ m ≤ LL.length ∧ i = .int .i64 (m : Int) ∧ v4 = .slice none 0 0 ∧ Below w4.heap.size w4 wx ∧ ∀ l, S.st.length ≤ l → l < m → S.M l n = 0)
        (fun i _ _ => LL.length - (intOf i).toNat)
      case atStart => exact ⟨S.st.length, Nat.le_refl _, hst, rfl, rfl, Below.refl _ _, fun l h1 h2 => by omega⟩
      case round =>
        obtain ⟨m, hm1, hm2, rfl, rfl, hbx, hze⟩ := hrel
        have HBX := Lib.hid hbx
        have HZE := Lib.hid hze
        have hRx := HRD.out.below hbx
        by_cases hx : m < LL.length
        · obtain ⟨ad, c2, X1, x1, X2, x2, e1, hc1', hc2', f0, f1, f2, _⟩ := hRx.elem (i := m) (j := n) hx (by omega)
          have kx := HKE.out.below hbx
          have b0 := kx.cell 0
          obtain ⟨x, hx0⟩ : ∃ x, x = S.M m n := ⟨_, rfl⟩
          rw [← hx0] at f0 f1 f2
          have HX := Lib.hid hx0
          have hgt := num_len_gt (q := x)
          have q3 : (m : Int) < (LL.length : Int) := by omega
          have q4 : (n : Int) < (n : Int) + 1 + (LL.length : Int) := by omega
          have q5 : (n : Int) < ((n + 1 + LL.length : Nat) : Int) := by omega
          clear hbx hze hRx kx hx0 k1
          by_cases hz : x = 0
          · rw [decide_eq_false (p := x ≠ 0) (fun h => h hz)] at hgt
            have hgn : ¬ 0 < (dg x.num.natAbs).length := by have := of_decide_eq_false hgt; omega
            have HZ0 := Lib.hid hz
            clear hz
            go_wp2
            exact ⟨⟨m + 1, by omega, by omega, by go_num, rfl, HBX.out, fun l h1 h2 => by
              rcases Nat.lt_or_ge l m with h | h
              · exact HZE.out l h1 h
              · obtain rfl : l = m := by omega
                rw [← HX.out]; exact HZ0.out⟩, by simp [intOf]; omega⟩
          · rw [decide_eq_true (p := x ≠ 0) hz] at hgt
            have hgn : 0 < (dg x.num.natAbs).length := by have := of_decide_eq_true hgt; omega
            have HZ0 := Lib.hid hz
            have hcn : ¬ c2 = n + 1 := by omega
            have q6 : (n : Int) + 1 ≤ (n : Int) + 1 + (LL.length : Int) := by omega
            have q7 : (n : Int) + 1 ≤ ((n + 1 + LL.length : Nat) : Int) := by omega
            have q8 : (0 : Int) ≤ (n : Int) + 1 := by omega
            clear hz
            go_wp2_with fail
            go_quiet (fail)
            go_wp2
            try simp only [Exit.inBlock, Exit.then]
            refine bodyPost_ret (results_tmp4 rfl _ _ _) rfl ?_
            unfold LinR
            rw [← HS.out, ← HN.out]
            exact ⟨bl_trans HB4.out (bl_trans HBX.out (bl_drewN _ _)), .inr (.inr ⟨HU.out, HLR.out, fun h => HZ0.out (by rw [HX.out]; exact h m hm1 hx), _, rfl⟩)⟩
        · have hok : gjok S LL.length n := fun l h1 h2 => hze l h1 (by omega)
          have HOK := Lib.hid hok
          have q3 : ¬ (m : Int) < (LL.length : Int) := by omega
          have HRX := Lib.hid hRx
          have HKX := Lib.hid (HKE.out.below hbx)
          have HBO := Lib.hid (bl_trans HB4.out hbx)
          clear hbx hze hRx hok k1
          obtain ⟨wo, rfl⟩ : ∃ x, x = wr := ⟨_, rfl⟩
          go_wp2
          go_loopw [11, 4] (fun i v wx => ∃ l : Nat, l ≤ n ∧ i = .int .i64 (l : Int) ∧ OF wx wo.heap.size v (((List.range l).map (fun _ => (0 : Rat))).map dq) ∧ Below wo.heap.size wo wx)
            (fun i _ _ => n - (intOf i).toNat)
          case atStart => exact ⟨0, by omega, rfl, OF.nil _ _, Below.refl _ _⟩
          case round =>
            obtain ⟨l, hl, rfl, hO, hby⟩ := hrel
            have HO := Lib.hid hO
            have HBY := Lib.hid hby
            by_cases hlx : l < n
            · have q5 : (l : Int) < (n : Int) := by omega
              clear hO hby
              go_wp2_with fail
              refine (rzero_calls _).mono ?_
              rintro e w6 ⟨v6, rfl, hv6, hb6⟩
              obtain ⟨q, hq⟩ : ∃ q : Rat, q = 0 := ⟨_, rfl⟩
              have hv6 : FrV w6 v6 q := by rw [hq]; exact hv6
              have HN2 := Lib.hid (show (List.range (l + 1)).map (fun _ => (0 : Rat)) = (List.range l).map (fun _ => (0 : Rat)) ++ [q] by rw [List.range_succ, List.map_append, hq]; rfl)
              clear hq
              obtain ⟨P1, p1, P2, p2, rfl, _, _, _, _⟩ := FrIn.shape hv6
              obtain ⟨v8, w8, hrun, hO8, hb8⟩ := push_frv (W0 := wo) (acc := (List.range l).map (fun _ => (0 : Rat))) (HO.out.below hb6) (bl_trans HBY.out hb6) hv6 (by simp; omega)
              have HRUN := Lib.hid hrun
              have HO8 := Lib.hid hO8
              have HB8 := Lib.hid hb8
              clear hrun hO8 hb8 hv6 hb6
              go_wp2_with (first
                | (at_builtin; refine wpList_append_run _ rfl _ _ 32 rfl _ _ rfl rfl ⟨v8, w8, HRUN.out, ?_⟩)
                | go_in)
              exact ⟨⟨l + 1, by omega, by go_num, by rw [HN2.out]; exact HO8.out, HB8.out⟩, by simp [intOf]; omega⟩
            · obtain rfl : l = n := by omega
              obtain ⟨Ax, cx, rfl, _, _⟩ := hO.shape
              have hll : (((List.range l).map (fun _ => (0 : Rat))).map dq).length = l := by simp
              rw [hll] at hO ⊢
              have hFX : 0 < l → ∃ g c, (Value.slice Ax l cx) = .slice (some ⟨g, 0, none⟩) l c ∧ wo.heap.size ≤ g ∧ FB wr g c l (fun j => dq (xs S l 0 j)) := by
                intro h0
                have hO2 := hO
                obtain ⟨xs', h1, _⟩ := hO2
                rcases h1.2 with ⟨e, e0⟩ | ⟨g, cap', cur, e, _⟩
                · rw [hll] at e0; omega
                · obtain ⟨rfl, _⟩ : Ax = some ⟨g, 0, none⟩ ∧ cx = cap' := by simpa using e
                  obtain ⟨_, hg, hF⟩ := OF.fb hO (by rw [hll]; exact h0)
                  rw [hll] at hF
                  exact ⟨g, cx, rfl, hg, hF.congr (fun j hj => by simp [List.getD_eq_getElem?_getD, hj, xs])⟩
              have HFX := Lib.hid hFX
              have HO2 := Lib.hid hO
              have q5 : ¬ (l : Int) < (l : Int) := by omega
              have b1 := (HKX.out.below hby).cell 1
              clear hO hby HO hll hFX
              go_wp2
              go_loopw [12] (fun i wx => ∃ k : Nat, k ≤ S.st.length ∧ i = .int .i64 (k : Int) ∧ Below wo.heap.size wo wx ∧ (0 < l → ∃ g c, (Value.slice Ax l cx) = .slice (some ⟨g, 0, none⟩) l c ∧ wo.heap.size ≤ g ∧ FB wx g c l (fun j => dq (xs S l k j))) ∧ (l = 0 → FL wx (.slice Ax l cx) []))
                (fun i _ => S.st.length - (intOf i).toNat)
              case atStart => exact ⟨0, by omega, rfl, HBY.out, HFX.out, fun h => by subst h; exact HO2.out.fl⟩
              case round =>
                clear HFX HBY HO2 b1
                obtain ⟨k, hk2, rfl, hby, hFX, hF0⟩ := hrel
                have HFX := Lib.hid hFX
                have HBY := Lib.hid hby
                have HF0 := Lib.hid hF0
                have kx := HKX.out.below hby
                have b0 := kx.cell 0
                have b1 := kx.cell 1
                have hRx := HRX.out.below hby
                by_cases hkx : k < S.st.length
                · obtain ⟨s, hs⟩ : ∃ s, S.st[k]? = some s := ⟨_, List.getElem?_eq_getElem hkx⟩
                  have hsD : S.st.getD k 0 = s := by rw [List.getD_eq_getElem?_getD, hs]; rfl
                  have hsl : s < l := by
                    have h := (gj_ok (sysM LL Rl) LL.length (colsN LL) (colsN LL) (Nat.le_refl _)).mem k
                    have e : gj (sysM LL Rl) LL.length (colsN LL) = S := HS.out.symm
                    rw [e] at h
                    have h2 := h hkx
                    rw [hsD, ← HN.out] at h2
                    exact h2
                  obtain ⟨ad, rfl, e0⟩ := hRx.1 k s hs
                  obtain ⟨ad2, c2, X1, x1, X2, x2, e1, hc1', hc2', f0, f1, f2, hfx⟩ := hRx.elem (i := k) (j := l) (by omega) (by omega)
                  obtain ⟨g, cg, hxv, hg, hF⟩ := HFX.out (by omega)
                  obtain ⟨rfl, rfl⟩ : Ax = some ⟨g, 0, none⟩ ∧ cx = cg := by simpa using hxv
                  obtain ⟨x, hx0⟩ : ∃ x, x = S.M k l := ⟨_, rfl⟩
                  rw [← hx0] at f0 f1 f2 hfx
                  have HFV := Lib.hid hfx
                  have HX := Lib.hid hx0
                  have HSD := Lib.hid hsD
                  have HSL := Lib.hid hsl
                  have HF2 := Lib.hid hF
                  have q5 : (k : Int) < (S.st.length : Int) := by omega
                  have q6 : (k : Int) < (LL.length : Int) := by omega
                  have q7 : (l : Int) < ((l + 1 + LL.length : Nat) : Int) := by omega
                  have q9 : (l : Int) < (l : Int) + 1 + (LL.length : Int) := by omega
                  have q8 : (s : Int) < (l : Int) := by omega
                  clear hby hFX hF0 kx hRx hs hsD hF hx0 hfx hxv HFX HF0
                  go_upto_region 18 with fail
                  have hbw : Below wr.heap.size wr wr.drew := bl_drew _
                  have mkS : ∀ w', Below wr.heap.size wr w' → (w'.cell? ⟨ge, 0, none⟩ = some (.slice (some ⟨gr, 0, none⟩) LL.length cap) ∧ w'.cell? ⟨ge, 1, none⟩ = some (.slice (some ad) S.st.length cs) ∧ w'.cell? (ad.add k) = some (.int .i64 (s : Int)) ∧ w'.cell? ⟨gr, k, none⟩ = some (.slice (some ad2) (l + 1 + LL.length) c2) ∧ w'.cell? (ad2.add (l * 3)) = some (.bool (decide (x.num < 0))) ∧ w'.cell? ⟨(ad2.add (l * 3)).block, (ad2.add (l * 3)).off + 1, none⟩ = some (.slice X1 (dg x.num.natAbs).length x1) ∧ w'.cell? ⟨(ad2.add (l * 3)).block, (ad2.add (l * 3)).off + 2, none⟩ = some (.slice X2 (dg x.den).length x2)) := fun w' hb => ⟨cell_below hb b0, cell_below hb b1, cell_below hb e0, cell_below hb e1, cell_below hb f0, cell_below hb f1, cell_below hb f2⟩
                  refine wp_region_T (fun (w' : World) => w'.cell? ⟨ge, 0, none⟩ = some (.slice (some ⟨gr, 0, none⟩) LL.length cap) ∧ w'.cell? ⟨ge, 1, none⟩ = some (.slice (some ad) S.st.length cs) ∧ w'.cell? (ad.add k) = some (.int .i64 (s : Int)) ∧ w'.cell? ⟨gr, k, none⟩ = some (.slice (some ad2) (l + 1 + LL.length) c2) ∧ w'.cell? (ad2.add (l * 3)) = some (.bool (decide (x.num < 0))) ∧ w'.cell? ⟨(ad2.add (l * 3)).block, (ad2.add (l * 3)).off + 1, none⟩ = some (.slice X1 (dg x.num.natAbs).length x1) ∧ w'.cell? ⟨(ad2.add (l * 3)).block, (ad2.add (l * 3)).off + 2, none⟩ = some (.slice X2 (dg x.den).length x2)) 15 (by kernel_rfl) ?_
                  have hS : (fun (w' : World) => w'.cell? ⟨ge, 0, none⟩ = some (.slice (some ⟨gr, 0, none⟩) LL.length cap) ∧ w'.cell? ⟨ge, 1, none⟩ = some (.slice (some ad) S.st.length cs) ∧ w'.cell? (ad.add k) = some (.int .i64 (s : Int)) ∧ w'.cell? ⟨gr, k, none⟩ = some (.slice (some ad2) (l + 1 + LL.length) c2) ∧ w'.cell? (ad2.add (l * 3)) = some (.bool (decide (x.num < 0))) ∧ w'.cell? ⟨(ad2.add (l * 3)).block, (ad2.add (l * 3)).off + 1, none⟩ = some (.slice X1 (dg x.num.natAbs).length x1) ∧ w'.cell? ⟨(ad2.add (l * 3)).block, (ad2.add (l * 3)).off + 2, none⟩ = some (.slice X2 (dg x.den).length x2)) _ := mkS _ hbw
                  simp only [List.size_toArray, List.length_cons, List.length_nil, Nat.reduceAdd]
                  refine wpAnyT_take 0 (some 80) (v := ?vr1_0) rfl rfl (by kernel_rfl) (by kernel_rfl) (by kernel_rfl) (by kernel_rfl) (fun _ _ _ h => h) rfl ?hyr1_0 hS ?restr1_0
                  case hyr1_0 => (intro w hSw; (try dsimp only at hSw); go_simp; (try with_reducible rfl))
                  (try simp only [Act.put, List.setIfInBounds_toArray, List.set_cons_zero, List.set_cons_succ])
                  refine wpAnyT_take 1 (some 81) (v := ?vr1_1) rfl rfl (by kernel_rfl) (by kernel_rfl) (by kernel_rfl) (by kernel_rfl) (fun _ _ _ h => h) rfl ?hyr1_1 hS ?restr1_1
                  case hyr1_1 => (intro w hSw; (try dsimp only at hSw); go_simp; (try with_reducible rfl))
                  (try simp only [Act.put, List.setIfInBounds_toArray, List.set_cons_zero, List.set_cons_succ])
                  refine wpAnyT_take 2 (some 82) (v := ?vr1_2) rfl rfl (by kernel_rfl) (by kernel_rfl) (by kernel_rfl) (by kernel_rfl) (fun _ _ _ h => h) rfl ?hyr1_2 hS ?restr1_2
                  case hyr1_2 => (intro w hSw; (try dsimp only at hSw); go_simp; (try with_reducible rfl))
                  (try simp only [Act.put, List.setIfInBounds_toArray, List.set_cons_zero, List.set_cons_succ])
                  refine wpAnyT_take 3 (some 83) (v := ?vr1_3) rfl rfl (by kernel_rfl) (by kernel_rfl) (by kernel_rfl) (by kernel_rfl) (fun _ _ _ h => h) rfl ?hyr1_3 hS ?restr1_3
                  case hyr1_3 => (intro w hSw; (try dsimp only at hSw); go_simp; (try with_reducible rfl))
                  (try simp only [Act.put, List.setIfInBounds_toArray, List.set_cons_zero, List.set_cons_succ])
                  refine wpAnyT_take 4 (some 84) (v := ?vr1_4) rfl rfl (by kernel_rfl) (by kernel_rfl) (by kernel_rfl) (by kernel_rfl) (fun _ _ _ h => h) rfl ?hyr1_4 hS ?restr1_4
                  case hyr1_4 => (intro w hSw; (try dsimp only at hSw); go_simp; (try with_reducible rfl))
                  (try simp only [Act.put, List.setIfInBounds_toArray, List.set_cons_zero, List.set_cons_succ])
                  refine wpAnyT_take 5 (some 85) (v := ?vr1_5) rfl rfl (by kernel_rfl) (by kernel_rfl) (by kernel_rfl) (by kernel_rfl) (fun _ _ _ h => h) rfl ?hyr1_5 hS ?restr1_5
                  case hyr1_5 => (intro w hSw; (try dsimp only at hSw); go_simp; (try with_reducible rfl))
                  (try simp only [Act.put, List.setIfInBounds_toArray, List.set_cons_zero, List.set_cons_succ])
                  refine wpAnyT_take 6 (some 86) (v := ?vr1_6) rfl rfl (by kernel_rfl) (by kernel_rfl) (by kernel_rfl) (by kernel_rfl) (fun _ _ _ h => h) rfl ?hyr1_6 hS ?restr1_6
                  case hyr1_6 => (intro w hSw; (try dsimp only at hSw); go_simp; (try with_reducible rfl))
                  (try simp only [Act.put, List.setIfInBounds_toArray, List.set_cons_zero, List.set_cons_succ])
                  refine wpAnyT_take 7 (some 87) (v := ?vr1_7) rfl rfl (by kernel_rfl) (by kernel_rfl) (by kernel_rfl) (by kernel_rfl) (fun _ _ _ h => h) rfl ?hyr1_7 hS ?restr1_7
                  case hyr1_7 => (intro w hSw; (try dsimp only at hSw); go_simp; (try with_reducible rfl))
                  (try simp only [Act.put, List.setIfInBounds_toArray, List.set_cons_zero, List.set_cons_succ])
                  refine wpAnyT_take 8 (some 88) (v := ?vr1_8) rfl rfl (by kernel_rfl) (by kernel_rfl) (by kernel_rfl) (by kernel_rfl) (fun _ _ _ h => h) rfl ?hyr1_8 hS ?restr1_8
                  case hyr1_8 => (intro w hSw; (try dsimp only at hSw); go_simp; (try with_reducible rfl))
                  (try simp only [Act.put, List.setIfInBounds_toArray, List.set_cons_zero, List.set_cons_succ])
                  refine wpAnyT_take 9 (some 89) (v := ?vr1_9) rfl rfl (by kernel_rfl) (by kernel_rfl) (by kernel_rfl) (by kernel_rfl) (fun _ _ _ h => h) rfl ?hyr1_9 hS ?restr1_9
                  case hyr1_9 => (intro w hSw; (try dsimp only at hSw); go_simp; (try with_reducible rfl))
                  (try simp only [Act.put, List.setIfInBounds_toArray, List.set_cons_zero, List.set_cons_succ])
                  refine wpAnyT_take 10 (some 90) (v := ?vr1_10) rfl rfl (by kernel_rfl) (by kernel_rfl) (by kernel_rfl) (by kernel_rfl) (fun _ _ _ h => h) rfl ?hyr1_10 hS ?restr1_10
                  case hyr1_10 => (intro w hSw; (try dsimp only at hSw); go_simp; (try with_reducible rfl))
                  (try simp only [Act.put, List.setIfInBounds_toArray, List.set_cons_zero, List.set_cons_succ])
                  refine wpAnyT_take 11 (some 91) (v := ?vr1_11) rfl rfl (by kernel_rfl) (by kernel_rfl) (by kernel_rfl) (by kernel_rfl) (fun _ _ _ h => h) rfl ?hyr1_11 hS ?restr1_11
                  case hyr1_11 => (intro w hSw; (try dsimp only at hSw); go_simp; (try with_reducible rfl))
                  (try simp only [Act.put, List.setIfInBounds_toArray, List.set_cons_zero, List.set_cons_succ])
                  refine wpAnyT_take 12 (some 92) (v := ?vr1_12) rfl rfl (by kernel_rfl) (by kernel_rfl) (by kernel_rfl) (by kernel_rfl) (fun _ _ _ h => h) rfl ?hyr1_12 hS ?restr1_12
                  case hyr1_12 => (intro w hSw; (try dsimp only at hSw); go_simp; (try with_reducible rfl))
                  (try simp only [Act.put, List.setIfInBounds_toArray, List.set_cons_zero, List.set_cons_succ])
                  refine wpAnyT_take 13 (some 93) (v := ?vr1_13) rfl rfl (by kernel_rfl) (by kernel_rfl) (by kernel_rfl) (by kernel_rfl) (fun _ _ _ h => h) rfl ?hyr1_13 hS ?restr1_13
                  case hyr1_13 => (intro w hSw; (try dsimp only at hSw); go_simp; (try with_reducible rfl))
                  (try simp only [Act.put, List.setIfInBounds_toArray, List.set_cons_zero, List.set_cons_succ])
                  refine wpAnyT_take 14 (some 94) (v := ?vr1_14) rfl rfl (by kernel_rfl) (by kernel_rfl) (by kernel_rfl) (by kernel_rfl) (fun _ _ _ h => h) rfl ?hyr1_14 hS ?restr1_14
                  case hyr1_14 => (intro w hSw; (try dsimp only at hSw); go_simp; (try with_reducible rfl))
                  (try simp only [Act.put, List.setIfInBounds_toArray, List.set_cons_zero, List.set_cons_succ])
                  refine wpAnyT_one (i := 15) rfl (by kernel_rfl) rfl (fun K hK => ?_)
                  have HF9 := Lib.hid (HF2.out.below hbw)
                  have HB9 := Lib.hid (bl_trans HBY.out hbw)
                  obtain ⟨y0, t0, _⟩ := HF2.out.there (j := s * 3) (by omega)
                  obtain ⟨y1, t1, _⟩ := HF2.out.there (j := s * 3 + 1) (by omega)
                  obtain ⟨y2, t2, _⟩ := HF2.out.there (j := s * 3 + 2) (by omega)
                  have ff := HF2.out.free
                  simp only [List.getElem_toArray, List.getElem_cons_succ, List.getElem_cons_zero]
                  go_simp
                  refine hK.out _ _ (fun h => absurd rfl h) ?_
                  refine wpAnyT_done (by kernel_rfl) ?_ _
                  clear hS K hK mkS hbw
                  go_wp2
                  refine ⟨⟨k + 1, by omega, by go_num, ((HB9.out.setCell hg _).setCell hg _).setCell hg _, fun _ => ⟨g, cx, rfl, hg, ?_⟩, fun h => by have := HSL.out; omega⟩, by simp [intOf]; omega⟩
                  have h := (FB.set (d := dq x) HF9.out HSL.out (HFV.out.below (bl_drew _))).1
                  refine FB.congr h (fun j _ => ?_)
                  show _ = dq (if j = S.st.getD k 0 then S.M k l else xs S l k j)
                  rw [HSD.out]
                  by_cases hj : j = s
                  · rw [hj, upd_at, if_pos rfl, HX.out]
                  · rw [upd_ne hj, if_neg hj]
                · obtain rfl : k = S.st.length := by omega
                  have q5 : ¬ (S.st.length : Int) < (S.st.length : Int) := by omega
                  clear hby hFX hF0 kx hRx
                  go_wp2
                  try simp only [Exit.inBlock, Exit.then]
                  refine bodyPost_ret (results_tmp4 rfl _ _ _) rfl ?_
                  unfold LinR
                  rw [← HS.out, ← HN.out]
                  refine ⟨bl_trans HBO.out HBY.out, .inr (.inl ⟨HU.out, HLR.out, HOK.out, _, rfl, ?_⟩)⟩
                  rcases Nat.eq_zero_or_pos l with h | h
                  · have h2 := HF0.out h
                    rw [h]
                    rw [h] at h2
                    exact h2
                  · obtain ⟨g, c, hxv, _, hF⟩ := HFX.out h
                    have h2 := hF.fl
                    rw [← hxv] at h2
                    exact h2
  · have h12 : formE LL (Rl.length : Int) = 12 := formE_no (fun h => hu ⟨h.1, by have := h.2 (by omega); omega⟩)
    have HF := Lib.hid h12
    have HU := Lib.hid hu
    have q9 : ((12 : Int) != 0) = true := rfl
    clear hu h12
    go_enter Try.func58, Try.ntmps58
    go_wp2_with fail
    refine (formed_calls _ _ LL _ HA.out hR (fun L h => (hf L h).1)).mono ?_
    rintro e w1 ⟨rfl, hb1⟩
    rw [HF.out]
    go_wp2
    try simp only [Exit.inBlock, Exit.then]
    refine bodyPost_ret (results_tmp4 rfl _ _ _) rfl ?_
    exact ⟨hb1, .inl ⟨HU.out, rfl⟩⟩
end Go.Proofs.Ytdmgceckmciifaa
