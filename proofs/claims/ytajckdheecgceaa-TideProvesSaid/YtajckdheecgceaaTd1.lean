/- Tides: visits that are handed in; whether a tide is right. -/
import Derived.Test.YtajckdheecgceaaTga
import Derived.ArgAppend
set_option linter.unusedVariables false
set_option linter.unusedSimpArgs false
namespace Go.Proofs.Ytajckdheecgceaa
open Go.RowKit

/-- A visit: when one comes, when one goes, what it is worth. -/
abbrev VD := Int × Int × (Bool × List Int × List Int)
/-- Visits that are handed in. -/
def VL (w : World) (v : Value) (L : List VD) : Prop := ∃ A c, v = .slice A L.length c ∧ L.length ≤ c ∧ c ≤ 9223372036854775807 ∧ (0 < L.length → ∃ ad, A = some ad ∧ ∀ (i : Nat) (d : VD), L[i]? = some d →
  ∃ A1 c1 A2 c2, w.cell? (ad.add (i * 5)) = some (.int .i64 d.1) ∧ w.cell? ⟨(ad.add (i * 5)).block, (ad.add (i * 5)).off + 1, none⟩ = some (.int .i64 d.2.1) ∧ w.cell? ⟨(ad.add (i * 5)).block, (ad.add (i * 5)).off + 2, none⟩ = some (.bool d.2.2.1) ∧ w.cell? ⟨(ad.add (i * 5)).block, (ad.add (i * 5)).off + 3, none⟩ = some (.slice A1 d.2.2.2.1.length c1) ∧ w.cell? ⟨(ad.add (i * 5)).block, (ad.add (i * 5)).off + 4, none⟩ = some (.slice A2 d.2.2.2.2.length c2) ∧
    FrIn w (.agg #[.bool d.2.2.1, .slice A1 d.2.2.2.1.length c1, .slice A2 d.2.2.2.2.length c2]) d.2.2.1 d.2.2.2.1 d.2.2.2.2)
theorem VL.below {w w1 : World} {v : Value} {L : List VD} (h : VL w v L) (hb : Below w.heap.size w w1) : VL w1 v L := by
  obtain ⟨A, c, hv, h1, h2, h3⟩ := h
  refine ⟨A, c, hv, h1, h2, fun h0 => ?_⟩
  obtain ⟨ad, ha, hc⟩ := h3 h0
  refine ⟨ad, ha, fun i d hd => ?_⟩
  obtain ⟨A1, c1, A2, c2, k0, k1, k2, k3, k4, hf⟩ := hc i d hd
  exact ⟨A1, c1, A2, c2, cell_below hb k0, cell_below hb k1, cell_below hb k2, cell_below hb k3, cell_below hb k4, hf.below hb⟩
theorem VL.shape {w : World} {v : Value} {L : List VD} (h : VL w v L) : ∃ A c, v = .slice A L.length c := by
  obtain ⟨A, c, hv, _⟩ := h
  exact ⟨A, c, hv⟩
theorem VL.bounds {w : World} {A : Option Addr} {l c : Nat} {L : List VD} (h : VL w (.slice A l c) L) : L.length ≤ c ∧ c ≤ 9223372036854775807 := by
  obtain ⟨A', c', hv, h1, h2, _⟩ := h
  obtain ⟨_, _, rfl⟩ : A = A' ∧ l = L.length ∧ c = c' := by simpa using hv
  exact ⟨h1, h2⟩
theorem VL.at {w : World} {A : Option Addr} {c : Nat} {L : List VD} (h : VL w (.slice A L.length c) L) {i : Nat} {d : VD} (hd : L[i]? = some d) : ∃ ad A1 c1 A2 c2, A = some ad ∧ w.cell? (ad.add (i * 5)) = some (.int .i64 d.1) ∧ w.cell? ⟨(ad.add (i * 5)).block, (ad.add (i * 5)).off + 1, none⟩ = some (.int .i64 d.2.1) ∧ w.cell? ⟨(ad.add (i * 5)).block, (ad.add (i * 5)).off + 2, none⟩ = some (.bool d.2.2.1) ∧ w.cell? ⟨(ad.add (i * 5)).block, (ad.add (i * 5)).off + 3, none⟩ = some (.slice A1 d.2.2.2.1.length c1) ∧ w.cell? ⟨(ad.add (i * 5)).block, (ad.add (i * 5)).off + 4, none⟩ = some (.slice A2 d.2.2.2.2.length c2) ∧
    FrIn w (.agg #[.bool d.2.2.1, .slice A1 d.2.2.2.1.length c1, .slice A2 d.2.2.2.2.length c2]) d.2.2.1 d.2.2.2.1 d.2.2.2.2 := by
  obtain ⟨A', c', hv, h1, h2, h3⟩ := h
  obtain ⟨rfl, rfl⟩ : A = A' ∧ c = c' := by simpa using hv
  obtain ⟨ad, rfl, hc⟩ := h3 (by have := (List.getElem?_eq_some_iff.1 hd).1; omega)
  obtain ⟨A1, c1, A2, c2, hh⟩ := hc i d hd
  exact ⟨ad, A1, c1, A2, c2, rfl, hh⟩
/-- A visit is none of a tide of so many days. -/
def badV (days : Int) (d : VD) : Bool := decide (d.1 < 1) || decide (d.2.1 < d.1) || decide (days < d.2.1)
/-- What is told of a tide: 0 if it is right. -/
def rightN (days each : Int) (L : List VD) : Int := if 12 < days ∨ 4 < each ∨ 12 < L.length then 1 else if days < 1 ∨ each < 1 then 120 else if L.any (badV days) then 120 else 0
theorem rightN_size {days each : Int} {L : List VD} (h : 12 < days ∨ 4 < each ∨ 12 < L.length) : rightN days each L = 1 := if_pos h
theorem rightN_low {days each : Int} {L : List VD} (h : ¬ (12 < days ∨ 4 < each ∨ 12 < L.length)) (h2 : days < 1 ∨ each < 1) : rightN days each L = 120 := by unfold rightN; rw [if_neg h, if_pos h2]
theorem rightN_bad {days each : Int} {L : List VD} (h : ¬ (12 < days ∨ 4 < each ∨ 12 < L.length)) (h2 : ¬ (days < 1 ∨ each < 1)) {i : Nat} {d : VD} (hd : L[i]? = some d) (hb : badV days d = true) : rightN days each L = 120 := by
  unfold rightN
  rw [if_neg h, if_neg h2, if_pos (List.any_eq_true.2 ⟨d, List.mem_of_getElem? hd, hb⟩)]
theorem rightN_ok {days each : Int} {L : List VD} (h : ¬ (12 < days ∨ 4 < each ∨ 12 < L.length)) (h2 : ¬ (days < 1 ∨ each < 1)) (h3 : ∀ (i : Nat) (d : VD), L[i]? = some d → badV days d = false) : rightN days each L = 0 := by
  unfold rightN
  rw [if_neg h, if_neg h2, if_neg]
  intro ha
  obtain ⟨d, hd, hb⟩ := List.any_eq_true.1 ha
  obtain ⟨i, hi, rfl⟩ := List.mem_iff_getElem.1 hd
  rw [h3 i _ (List.getElem?_eq_getElem hi)] at hb
  cases hb
set_option maxRecDepth 100000 in
set_option maxHeartbeats 8000000 in
theorem tright_calls (w : World) (days each : Int) (A : Option Addr) (c : Nat) (L : List VD) (h : VL w (.slice A L.length c) L) :
    Calls Try.prog 19 #[.agg #[.int .i64 days, .int .i64 each, .slice A L.length c]] w fun e w' => e = .returned (.int .i64 (rightN days each L)) ∧ Below w.heap.size w w' := by
  have HV := Lib.hid h
  have hcc := h.bounds
  obtain ⟨r, hr⟩ : ∃ r, r = rightN days each L := ⟨_, rfl⟩
  rw [← hr]
  have HR := Lib.hid hr
  have al := below_alloc0 w (.cells #[.int .i64 days, .int .i64 each, .slice A L.length c] 24)
  have KT := Blk.new w 24 #[.int .i64 days, .int .i64 each, .slice A L.length c]
  have t0 := KT.cell 0
  have t1 := KT.cell 1
  have t2 := KT.cell 2
  have HAL := Lib.hid al
  have HKT := Lib.hid KT
  clear h hr al KT
  by_cases hs : 12 < days ∨ 4 < each ∨ 12 < L.length
  · have HN := Lib.hid (rightN_size (days := days) (each := each) (L := L) hs)
    by_cases h1 : 12 < days
    · have g1 : decide ((12 : Int) < days) = true := decide_eq_true h1
      clear hs
      go_enter Try.func19, Try.ntmps19
      go_wp2
      go_ret
      exact ⟨by rw [HR.out, HN.out]; rfl, HAL.out⟩
    · have g1 : decide ((12 : Int) < days) = false := decide_eq_false h1
      by_cases h2 : 4 < each
      · have g2 : decide ((4 : Int) < each) = true := decide_eq_true h2
        clear hs
        go_enter Try.func19, Try.ntmps19
        go_wp2
        go_ret
        exact ⟨by rw [HR.out, HN.out]; rfl, HAL.out⟩
      · have g2 : decide ((4 : Int) < each) = false := decide_eq_false h2
        have g3 : decide ((12 : Int) < (L.length : Int)) = true := decide_eq_true (by omega)
        have g4 : 12 < L.length := by omega
        clear hs
        go_enter Try.func19, Try.ntmps19
        go_wp2
        go_ret
        exact ⟨by rw [HR.out, HN.out]; rfl, HAL.out⟩
  · have HSZ := Lib.hid hs
    have g1 : decide ((12 : Int) < days) = false := decide_eq_false (by omega)
    have g2 : decide ((4 : Int) < each) = false := decide_eq_false (by omega)
    have g3 : decide ((12 : Int) < (L.length : Int)) = false := decide_eq_false (by omega)
    have g4 : ¬ 12 < L.length := by omega
    have g5 : ¬ 12 < days := by omega
    have g6 : ¬ 4 < each := by omega
    by_cases hl : days < 1 ∨ each < 1
    · have HN := Lib.hid (rightN_low (L := L) hs hl)
      by_cases h1 : days < 1
      · have g7 : decide (days < (1 : Int)) = true := decide_eq_true h1
        clear hs hl
        go_enter Try.func19, Try.ntmps19
        go_wp2
        go_ret
        exact ⟨by rw [HR.out, HN.out]; rfl, HAL.out⟩
      · have g7 : decide (days < (1 : Int)) = false := decide_eq_false h1
        have g8 : decide (each < (1 : Int)) = true := decide_eq_true (by omega)
        have g9 : each < 1 := by omega
        clear hs hl
        go_enter Try.func19, Try.ntmps19
        go_wp2
        go_ret
        exact ⟨by rw [HR.out, HN.out]; rfl, HAL.out⟩
    · have HLO := Lib.hid hl
      have g7 : decide (days < (1 : Int)) = false := decide_eq_false (by omega)
      have g8 : decide (each < (1 : Int)) = false := decide_eq_false (by omega)
      have g9 : ¬ days < 1 := by omega
      have g10 : ¬ each < 1 := by omega
      clear hs hl
      go_enter Try.func19, Try.ntmps19
      go_wp2
      go_loopw [30] (fun i wr => ∃ k : Nat, k ≤ L.length ∧ i = .int .i64 (k : Int) ∧ Below w.heap.size w wr ∧ Blk wr w.heap.size 24 #[.int .i64 days, .int .i64 each, .slice A L.length c] ∧ ∀ (j : Nat) (d : VD), j < k → L[j]? = some d → badV days d = false)
        (fun i _ => L.length - (intOf i).toNat)
      case atStart => exact ⟨0, by omega, rfl, HAL.out, HKT.out, fun j d h => by omega⟩
      case round =>
        obtain ⟨k, hk, rfl, hb, hK, hgood⟩ := hrel
        have HB := Lib.hid hb
        have HK := Lib.hid hK
        have HG := Lib.hid hgood
        have t0 := hK.cell 0
        have t1 := hK.cell 1
        have t2 := hK.cell 2
        by_cases hx : k < L.length
        · obtain ⟨d, hd⟩ : ∃ d, L[k]? = some d := ⟨_, List.getElem?_eq_getElem hx⟩
          obtain ⟨ad, A1, c1, A2, c2, rfl, e0, e1, e2, e3, e4, _⟩ := HV.out.at hd
          replace e0 := cell_below hb e0
          replace e1 := cell_below hb e1
          replace e2 := cell_below hb e2
          replace e3 := cell_below hb e3
          replace e4 := cell_below hb e4
          have q1 : (k : Int) < (L.length : Int) := by omega
          have al := below_alloc0 wr (.cells #[.int .i64 d.1, .int .i64 d.2.1, .bool d.2.2.1, .slice A1 d.2.2.2.1.length c1, .slice A2 d.2.2.2.2.length c2] 40)
          have KV := Blk.new wr 40 #[.int .i64 d.1, .int .i64 d.2.1, .bool d.2.2.1, .slice A1 d.2.2.2.1.length c1, .slice A2 d.2.2.2.2.length c2]
          have k0 := KV.cell 0
          have k1 := KV.cell 1
          have hK2 := hK.below al
          have s0 := hK2.cell 0
          have HK2 := Lib.hid hK2
          have HB2 := Lib.hid (bl_trans hb al)
          have HD := Lib.hid hd
          clear hb hK hgood hd al KV hK2
          by_cases b1 : d.1 < 1
          · have a1 : decide (d.1 < (1 : Int)) = true := decide_eq_true b1
            have HN := Lib.hid (rightN_bad HSZ.out HLO.out HD.out (show badV days d = true by simp [badV, b1]))
            go_wp2
            go_ret
            exact ⟨by rw [HR.out, HN.out]; rfl, HB2.out⟩
          · have a1 : decide (d.1 < (1 : Int)) = false := decide_eq_false b1
            by_cases b2 : d.2.1 < d.1
            · have a2 : decide (d.2.1 < d.1) = true := decide_eq_true b2
              have HN := Lib.hid (rightN_bad HSZ.out HLO.out HD.out (show badV days d = true by simp [badV, b2]))
              go_wp2
              go_ret
              exact ⟨by rw [HR.out, HN.out]; rfl, HB2.out⟩
            · have a2 : decide (d.2.1 < d.1) = false := decide_eq_false b2
              by_cases b3 : days < d.2.1
              · have a3 : decide (days < d.2.1) = true := decide_eq_true b3
                have HN := Lib.hid (rightN_bad HSZ.out HLO.out HD.out (show badV days d = true by simp [badV, b3]))
                go_wp2
                go_ret
                exact ⟨by rw [HR.out, HN.out]; rfl, HB2.out⟩
              · have a3 : decide (days < d.2.1) = false := decide_eq_false b3
                go_wp2
                exact ⟨⟨k + 1, by omega, by go_num, HB2.out, HK2.out, fun j d' h1 h2 => by
                  rcases Nat.lt_or_ge j k with h | h
                  · exact HG.out j d' h h2
                  · obtain rfl : j = k := by omega
                    obtain rfl : d = d' := Option.some.inj (HD.out.symm.trans h2)
                    simp [badV, b1, b2, b3]⟩, by simp [intOf]; omega⟩
        · obtain rfl : k = L.length := by omega
          have HN := Lib.hid (rightN_ok HSZ.out HLO.out (fun j d hd => hgood j d (List.getElem?_eq_some_iff.1 hd).1 hd))
          have q1 : ¬ (L.length : Int) < (L.length : Int) := by omega
          clear hb hK hgood
          go_wp2
          go_ret
          exact ⟨by rw [HR.out, HN.out]; rfl, HB.out⟩
set_option maxRecDepth 100000 in
set_option maxHeartbeats 8000000 in
theorem rtright_calls (w : World) (days each : Int) (A : Option Addr) (c : Nat) (L : List VD) (h : VL w (.slice A L.length c) L) :
    Calls Try.prog 12 #[.agg #[.int .i64 days, .int .i64 each, .slice A L.length c]] w fun e w' => e = .returned (.int .i64 (rightN days each L)) ∧ Below w.heap.size w w' := by
  have HV := Lib.hid h
  have hcc := h.bounds
  obtain ⟨r, hr⟩ : ∃ r, r = rightN days each L := ⟨_, rfl⟩
  rw [← hr]
  have HR := Lib.hid hr
  have al := below_alloc0 w (.cells #[.int .i64 days, .int .i64 each, .slice A L.length c] 24)
  have KT := Blk.new w 24 #[.int .i64 days, .int .i64 each, .slice A L.length c]
  have t0 := KT.cell 0
  have t1 := KT.cell 1
  have t2 := KT.cell 2
  have HAL := Lib.hid al
  have HKT := Lib.hid KT
  clear h hr al KT
  by_cases hs : 12 < days ∨ 4 < each ∨ 12 < L.length
  · have HN := Lib.hid (rightN_size (days := days) (each := each) (L := L) hs)
    by_cases h1 : 12 < days
    · have g1 : decide ((12 : Int) < days) = true := decide_eq_true h1
      clear hs
      go_enter Try.func12, Try.ntmps12
      go_wp2
      go_ret
      exact ⟨by rw [HR.out, HN.out]; rfl, HAL.out⟩
    · have g1 : decide ((12 : Int) < days) = false := decide_eq_false h1
      by_cases h2 : 4 < each
      · have g2 : decide ((4 : Int) < each) = true := decide_eq_true h2
        clear hs
        go_enter Try.func12, Try.ntmps12
        go_wp2
        go_ret
        exact ⟨by rw [HR.out, HN.out]; rfl, HAL.out⟩
      · have g2 : decide ((4 : Int) < each) = false := decide_eq_false h2
        have g3 : decide ((12 : Int) < (L.length : Int)) = true := decide_eq_true (by omega)
        have g4 : 12 < L.length := by omega
        clear hs
        go_enter Try.func12, Try.ntmps12
        go_wp2
        go_ret
        exact ⟨by rw [HR.out, HN.out]; rfl, HAL.out⟩
  · have HSZ := Lib.hid hs
    have g1 : decide ((12 : Int) < days) = false := decide_eq_false (by omega)
    have g2 : decide ((4 : Int) < each) = false := decide_eq_false (by omega)
    have g3 : decide ((12 : Int) < (L.length : Int)) = false := decide_eq_false (by omega)
    have g4 : ¬ 12 < L.length := by omega
    have g5 : ¬ 12 < days := by omega
    have g6 : ¬ 4 < each := by omega
    by_cases hl : days < 1 ∨ each < 1
    · have HN := Lib.hid (rightN_low (L := L) hs hl)
      by_cases h1 : days < 1
      · have g7 : decide (days < (1 : Int)) = true := decide_eq_true h1
        clear hs hl
        go_enter Try.func12, Try.ntmps12
        go_wp2
        go_ret
        exact ⟨by rw [HR.out, HN.out]; rfl, HAL.out⟩
      · have g7 : decide (days < (1 : Int)) = false := decide_eq_false h1
        have g8 : decide (each < (1 : Int)) = true := decide_eq_true (by omega)
        have g9 : each < 1 := by omega
        clear hs hl
        go_enter Try.func12, Try.ntmps12
        go_wp2
        go_ret
        exact ⟨by rw [HR.out, HN.out]; rfl, HAL.out⟩
    · have HLO := Lib.hid hl
      have g7 : decide (days < (1 : Int)) = false := decide_eq_false (by omega)
      have g8 : decide (each < (1 : Int)) = false := decide_eq_false (by omega)
      have g9 : ¬ days < 1 := by omega
      have g10 : ¬ each < 1 := by omega
      clear hs hl
      go_enter Try.func12, Try.ntmps12
      go_wp2
      go_loopw [3] (fun i wr => ∃ k : Nat, k ≤ L.length ∧ i = .int .i64 (k : Int) ∧ Below w.heap.size w wr ∧ Blk wr w.heap.size 24 #[.int .i64 days, .int .i64 each, .slice A L.length c] ∧ ∀ (j : Nat) (d : VD), j < k → L[j]? = some d → badV days d = false)
        (fun i _ => L.length - (intOf i).toNat)
      case atStart => exact ⟨0, by omega, rfl, HAL.out, HKT.out, fun j d h => by omega⟩
      case round =>
        obtain ⟨k, hk, rfl, hb, hK, hgood⟩ := hrel
        have HB := Lib.hid hb
        have HK := Lib.hid hK
        have HG := Lib.hid hgood
        have t0 := hK.cell 0
        have t1 := hK.cell 1
        have t2 := hK.cell 2
        by_cases hx : k < L.length
        · obtain ⟨d, hd⟩ : ∃ d, L[k]? = some d := ⟨_, List.getElem?_eq_getElem hx⟩
          obtain ⟨ad, A1, c1, A2, c2, rfl, e0, e1, e2, e3, e4, _⟩ := HV.out.at hd
          replace e0 := cell_below hb e0
          replace e1 := cell_below hb e1
          replace e2 := cell_below hb e2
          replace e3 := cell_below hb e3
          replace e4 := cell_below hb e4
          have q1 : (k : Int) < (L.length : Int) := by omega
          have al := below_alloc0 wr (.cells #[.int .i64 d.1, .int .i64 d.2.1, .bool d.2.2.1, .slice A1 d.2.2.2.1.length c1, .slice A2 d.2.2.2.2.length c2] 40)
          have KV := Blk.new wr 40 #[.int .i64 d.1, .int .i64 d.2.1, .bool d.2.2.1, .slice A1 d.2.2.2.1.length c1, .slice A2 d.2.2.2.2.length c2]
          have k0 := KV.cell 0
          have k1 := KV.cell 1
          have hK2 := hK.below al
          have s0 := hK2.cell 0
          have HK2 := Lib.hid hK2
          have HB2 := Lib.hid (bl_trans hb al)
          have HD := Lib.hid hd
          clear hb hK hgood hd al KV hK2
          by_cases b1 : d.1 < 1
          · have a1 : decide (d.1 < (1 : Int)) = true := decide_eq_true b1
            have HN := Lib.hid (rightN_bad HSZ.out HLO.out HD.out (show badV days d = true by simp [badV, b1]))
            go_wp2
            go_ret
            exact ⟨by rw [HR.out, HN.out]; rfl, HB2.out⟩
          · have a1 : decide (d.1 < (1 : Int)) = false := decide_eq_false b1
            by_cases b2 : d.2.1 < d.1
            · have a2 : decide (d.2.1 < d.1) = true := decide_eq_true b2
              have HN := Lib.hid (rightN_bad HSZ.out HLO.out HD.out (show badV days d = true by simp [badV, b2]))
              go_wp2
              go_ret
              exact ⟨by rw [HR.out, HN.out]; rfl, HB2.out⟩
            · have a2 : decide (d.2.1 < d.1) = false := decide_eq_false b2
              by_cases b3 : days < d.2.1
              · have a3 : decide (days < d.2.1) = true := decide_eq_true b3
                have HN := Lib.hid (rightN_bad HSZ.out HLO.out HD.out (show badV days d = true by simp [badV, b3]))
                go_wp2
                go_ret
                exact ⟨by rw [HR.out, HN.out]; rfl, HB2.out⟩
              · have a3 : decide (days < d.2.1) = false := decide_eq_false b3
                go_wp2
                exact ⟨⟨k + 1, by omega, by go_num, HB2.out, HK2.out, fun j d' h1 h2 => by
                  rcases Nat.lt_or_ge j k with h | h
                  · exact HG.out j d' h h2
                  · obtain rfl : j = k := by omega
                    obtain rfl : d = d' := Option.some.inj (HD.out.symm.trans h2)
                    simp [badV, b1, b2, b3]⟩, by simp [intOf]; omega⟩
        · obtain rfl : k = L.length := by omega
          have HN := Lib.hid (rightN_ok HSZ.out HLO.out (fun j d hd => hgood j d (List.getElem?_eq_some_iff.1 hd).1 hd))
          have q1 : ¬ (L.length : Int) < (L.length : Int) := by omega
          clear hb hK hgood
          go_wp2
          go_ret
          exact ⟨by rw [HR.out, HN.out]; rfl, HB.out⟩

theorem info_int2 : (Try.prog.info? 3).map (fun i => (i.zero, i.size, i.bytes)) = some (some (.int .i64 0), 1, 8) := by kernel_rfl
theorem intne (k : Int) : ∀ n, Value.int .i64 k ≠ .int .u32 n := fun n h => by cases h
/-- Numbers in a row of one's own, from some place on. -/
def IQ (w : World) (B : Nat) (v : Value) (Q : List Nat) : Prop := (v = .slice none 0 0 ∧ Q = []) ∨ ∃ g o cap cur, v = .slice (some ⟨g, o, none⟩) Q.length cap ∧ B ≤ g ∧ w.heap[g]? = some (.cells cur 3 (0, 0)) ∧ o + cap ≤ cur.size ∧ Q.length ≤ cap ∧ cap ≤ maxLen ∧ NoU cur ∧ ∀ (j q : Nat), Q[j]? = some q → cur[o + j]? = some (.int .i64 (q : Int))
theorem IQ.nil (w : World) (B : Nat) : IQ w B (.slice none 0 0) [] := .inl ⟨rfl, rfl⟩
theorem IQ.fr {S : Nat → Prop} {w w1 : World} (k : Fr S w w1) {B : Nat} {v : Value} {Q : List Nat} (h : IQ w B v Q) (hs : ∀ g, v.ownBlock = some g → ¬ S g) : IQ w1 B v Q := by
  rcases h with h | ⟨g, o, cap, cur, rfl, hb, hg, h1⟩
  · exact .inl h
  · exact .inr ⟨g, o, cap, cur, rfl, hb, (k.block g (Array.getElem?_eq_some_iff.1 hg).1 (hs g rfl)).trans hg, h1⟩
theorem IQ.below {w w1 : World} {B : Nat} {v : Value} {Q : List Nat} (h : IQ w B v Q) (hb : Below w.heap.size w w1) : IQ w1 B v Q := h.fr (Fr.of_below (S := fun _ => False) hb) (fun _ _ h => h)
theorem IQ.block {w : World} {B : Nat} {v : Value} {Q : List Nat} (h : IQ w B v Q) {g : Nat} (hg : v.ownBlock = some g) : B ≤ g := by
  rcases h with ⟨rfl, _⟩ | ⟨g', o, cap, cur, rfl, hb, _⟩
  · cases hg
  · obtain rfl : g' = g := by simpa [Value.ownBlock] using hg
    exact hb
theorem IQ.typ {w : World} {B : Nat} {v : Value} {Q : List Nat} (h : IQ w B v Q) {g : Nat} (hg : v.ownBlock = some g) : ∃ cs, w.heap[g]? = some (.cells cs 3 (0, 0)) := by
  rcases h with ⟨rfl, _⟩ | ⟨g', o, cap, cur, rfl, hb, hc, _⟩
  · cases hg
  · obtain rfl : g' = g := by simpa [Value.ownBlock] using hg
    exact ⟨cur, hc⟩
theorem IQ.shape {w : World} {B : Nat} {v : Value} {Q : List Nat} (h : IQ w B v Q) : ∃ A c, v = .slice A Q.length c ∧ Q.length ≤ c ∧ c ≤ 9223372036854775807 := by
  rcases h with ⟨rfl, rfl⟩ | ⟨g', o, cap, cur, rfl, hb, hc, _, h2, h3, _⟩
  · exact ⟨none, 0, rfl, Nat.le_refl _, by omega⟩
  · exact ⟨_, cap, rfl, h2, by simp only [maxLen] at h3; omega⟩
/-- A block of one's own, made by append. -/
theorem grown_iq (W : World) (B old : Nat) (Q : List Nat) (x : Nat) (hB : B ≤ W.heap.size) (hl : Q.length ≤ 1000000) (ho : old < Q.length + 1) :
    IQ (W.drew.alloc (.cells ((Q.map fun (q : Nat) => Value.int .i64 (q : Int)).toArray ++ [Value.int .i64 (x : Int)].toArray ++ Builtin.zeroCells (Value.int .i64 0).cells (grownCap W (Q.length + 1) old 3 - (Q.length + 1))) 3)) B (.slice (some ⟨W.heap.size, 0, none⟩) (Q.length + 1) (grownCap W (Q.length + 1) old 3)) (Q ++ [x]) ∧
    Below W.heap.size W (W.drew.alloc (.cells ((Q.map fun (q : Nat) => Value.int .i64 (q : Int)).toArray ++ [Value.int .i64 (x : Int)].toArray ++ Builtin.zeroCells (Value.int .i64 0).cells (grownCap W (Q.length + 1) old 3 - (Q.length + 1))) 3)) := by
  have hge := grownCap_ge W (Q.length + 1) old 3
  have hcm := grownCap_le_maxLen W (Q.length + 1) old 3 (by unfold maxLen; omega)
  have hnew := heap_alloc_new W.drew (.cells ((Q.map fun (q : Nat) => Value.int .i64 (q : Int)).toArray ++ [Value.int .i64 (x : Int)].toArray ++ Builtin.zeroCells (Value.int .i64 0).cells (grownCap W (Q.length + 1) old 3 - (Q.length + 1))) 3)
  refine ⟨.inr ⟨W.heap.size, 0, _, _, by rw [List.length_append]; rfl, hB, hnew, ?_, by rw [List.length_append]; exact hge, hcm, fun j y hy => ?_, fun j q hq => ?_⟩, bl_trans (bl_drew W) (below_alloc0 _ _)⟩
  · simp only [Array.size_append, List.size_toArray, size_zeroCells, List.length_map, List.length_cons, List.length_nil]
    have : (Value.int .i64 0).cells.size = 1 := rfl
    rw [this]
    omega
  · have hx' := Array.mem_of_getElem? hy
    rw [Array.mem_append, Array.mem_append] at hx'
    rcases hx' with (h | h) | h
    · obtain ⟨q, _, rfl⟩ := List.mem_map.1 (by simpa using h : y ∈ Q.map fun (q : Nat) => Value.int .i64 (q : Int))
      exact intne _
    · obtain rfl : y = .int .i64 (x : Int) := by simpa using h
      exact intne _
    · obtain ⟨k, hk⟩ := Array.mem_iff_getElem?.1 h
      simp only [Builtin.zeroCells, Array.getElem?_map, Array.getElem?_range] at hk
      split at hk
      · simp only [Option.map_some, Option.some.injEq] at hk
        rw [← hk]
        have : k % (Value.int .i64 0).cells.size = 0 := by
          have : (Value.int .i64 0).cells.size = 1 := rfl
          rw [this]; omega
        rw [this]
        exact intne _
      · cases hk
  · rw [Nat.zero_add, Array.getElem?_append_left, Array.getElem?_eq_getElem]
    · have hj := (List.getElem?_eq_some_iff.1 hq).1
      rw [List.length_append] at hj
      have hj' : j < Q.length + 1 := hj
      rcases Nat.lt_or_ge j Q.length with h | h
      · rw [List.getElem?_append_left h] at hq
        rw [Array.getElem_append_left (by simpa using h)]
        simp only [List.getElem_toArray, List.getElem_map]
        rw [(List.getElem?_eq_some_iff.1 hq).2]
      · obtain rfl : j = Q.length := by omega
        rw [List.getElem?_append_right (Nat.le_refl _), Nat.sub_self] at hq
        obtain rfl : x = q := by simpa using hq
        rw [Array.getElem_append_right (by simp)]
        simp
    all_goals
      have hj := (List.getElem?_eq_some_iff.1 hq).1
      rw [List.length_append] at hj
      simpa using hj
theorem IQ.push {W : World} {B : Nat} {v : Value} {Q : List Nat} (h : IQ W B v Q) (hB : B ≤ W.heap.size) {g1 x : Nat} (K : Blk W g1 3 #[.int .i64 (x : Int)]) (hl : Q.length ≤ 1000000) :
    ∃ v' w', (Builtin.append_ #[28, 28] 28 #[v, .slice (some ⟨g1, 0, none⟩) 1 1]).run Try.prog W = .ok v' w' ∧ IQ w' B v' (Q ++ [x]) ∧ Fr (fun y => v.ownBlock = some y) W w' ∧ (∀ y, v'.ownBlock = some y → v.ownBlock = some y ∨ W.heap.size ≤ y) := by
  have hnew : ∀ {l c : Nat} (y : Nat), Value.ownBlock (.slice (some ⟨W.heap.size, 0, none⟩) l c) = some y → v.ownBlock = some y ∨ W.heap.size ≤ y := fun y hy => by
    obtain rfl : W.heap.size = y := by simpa [Value.ownBlock] using hy
    exact .inr (Nat.le_refl _)
  obtain ⟨i0, hi, hz0, hz1, hz2⟩ := info_parts info_int2
  have hnews : ∀ (j : Nat) (u : Value), [Value.int .i64 (x : Int)][j]? = some u → W.cell? ((⟨g1, 0, none⟩ : Addr).add j) = some u := by
    intro j u hu
    have h3 : j = 0 ∨ 1 ≤ j := by omega
    rcases h3 with rfl | h
    · rw [← hu, add0]; exact K.cell 0
    · rw [List.getElem?_eq_none (by simpa using h)] at hu; cases hu
  rcases h with ⟨rfl, rfl⟩ | ⟨g, o, cap, cur, rfl, hb, hg, hsz, hlc, hcm, hno, hat⟩
  · have hr := run_append_nil (P := Try.prog) W 28 28 3 i0 _ Try.underlying28 hi hz0 ⟨g1, 0, none⟩ 1 1 [.int .i64 (x : Int)] (by rw [hz1]; rfl) hnews (by omega) (by omega) (by rw [hz2]; omega)
    obtain ⟨k1, k2⟩ := grown_iq W B 0 [] x hB (by simp) (by simp)
    simp only [List.map_nil, List.length_nil, Nat.zero_add, List.nil_append] at k1 k2
    refine ⟨_, _, hr, ?_, Fr.of_below ?_, fun y hy => hnew y hy⟩
    · simpa using k1
    · simpa using k2
  · by_cases hroom : Q.length + 1 ≤ cap
    · have hr := run_append_room_cells (P := Try.prog) (w := W) 28 28 3 i0 Try.underlying28 hi g o Q.length cap ⟨g1, 0, none⟩ 1 1 [.int .i64 (x : Int)] (by rw [hz1]; rfl) hnews (by intro u hu; simp only [List.mem_cons, List.not_mem_nil, or_false] at hu; rw [hu]; rfl) hroom
        (by intro j hj; simp only [List.length_cons, List.length_nil] at hj
            rw [hz1, cell_of_row W g _ cur _ _ hg, Array.getElem?_eq_getElem (by omega)]; rfl)
        (by intro j hj; exact frozen_of_row W g _ cur _ hg)
      rw [hz1] at hr
      have hset := heap_setCell_same W g (o + Q.length * 1) cur 3 (.int .i64 (x : Int)) hg
      have hc : W.cell? ⟨g, o + Q.length * 1, none⟩ = some (cur[o + Q.length * 1]'(by omega)) := by rw [cell_of_row W g _ cur _ _ hg, Array.getElem?_eq_getElem (by omega)]
      have hfr := Fr.set hc (hno _ _ (Array.getElem?_eq_getElem (by omega))) (.int .i64 (x : Int))
      refine ⟨_, _, hr, .inr ⟨g, o, cap, _, by rw [List.length_append]; rfl, hb, hset, by simpa using hsz, by rw [List.length_append]; exact hroom, hcm, hno.set _ (intne _), fun j q hq => ?_⟩, hfr.mono (fun y _ e => ?_), fun y hy => .inl hy⟩
      · have hj := (List.getElem?_eq_some_iff.1 hq).1
        rw [List.length_append] at hj
        have hj' : j < Q.length + 1 := hj
        rcases Nat.lt_or_ge j Q.length with h | h
        · rw [List.getElem?_append_left h] at hq
          rw [Array.getElem?_setIfInBounds_ne (by omega)]
          exact hat j q hq
        · obtain rfl : j = Q.length := by omega
          rw [List.getElem?_append_right (Nat.le_refl _), Nat.sub_self] at hq
          obtain rfl : x = q := by simpa using hq
          rw [Nat.mul_one, Array.getElem?_setIfInBounds_self_of_lt (by omega)]
      · have e' : y = g := e
        rw [e']; rfl
    · have holds : ∀ (j : Nat) (u : Value), (Q.map fun (q : Nat) => Value.int .i64 (q : Int))[j]? = some u → W.cell? ((⟨g, o, none⟩ : Addr).add j) = some u := by
        intro j u hu
        rw [List.getElem?_map] at hu
        rcases hq : Q[j]? with _ | q
        · rw [hq] at hu; cases hu
        · rw [hq] at hu
          obtain rfl := Option.some.inj hu
          have ea : (⟨g, o, none⟩ : Addr).add j = ⟨g, o + j, none⟩ := by
            simp only [Addr.add]
            split <;> simp_all
          rw [ea, cell_of_row W g _ cur _ _ hg]
          exact hat j q hq
      have hr := run_append_grow (P := Try.prog) W 28 28 3 i0 _ Try.underlying28 hi hz0 ⟨g, o, none⟩ Q.length cap (Q.map fun (q : Nat) => Value.int .i64 (q : Int)) (by rw [hz1, List.length_map, Nat.mul_one]) holds ⟨g1, 0, none⟩ 1 1 [.int .i64 (x : Int)] (by rw [hz1]; rfl) hnews (by omega) (by omega) (growslice_fits (by omega) (by rw [hz2]; omega))
      obtain ⟨k1, k2⟩ := grown_iq W B cap Q x hB hl (by omega)
      exact ⟨_, _, hr, k1, Fr.of_below k2, fun y hy => hnew y hy⟩
/-- The first one out. -/
theorem IQ.tail {w : World} {B : Nat} {A : Option Addr} {l c : Nat} {q : Nat} {Q : List Nat} (h : IQ w B (.slice A l c) (q :: Q)) : ∃ g o, A = some ⟨g, o, none⟩ ∧ l = Q.length + 1 ∧ l ≤ c ∧ w.cell? ⟨g, o, none⟩ = some (.int .i64 (q : Int)) ∧ IQ w B (.slice (if c = 1 then some ⟨g, o, none⟩ else some ⟨g, o + 1, none⟩) Q.length (c - 1)) Q := by
  rcases h with ⟨h1, h2⟩ | ⟨g, o, cap, cur, hv, hb, hg, hsz, hlc, hcm, hno, hat⟩
  · cases h2
  · obtain ⟨rfl, rfl, rfl⟩ : A = some ⟨g, o, none⟩ ∧ l = Q.length + 1 ∧ c = cap := by simpa using hv
    have hlc' : Q.length + 1 ≤ c := hlc
    refine ⟨g, o, rfl, rfl, hlc', ?_, ?_⟩
    · rw [cell_of_row w g _ cur _ _ hg]
      exact hat 0 q rfl
    · by_cases e : c = 1
      · rw [if_pos e]
        have : Q = [] := List.eq_nil_of_length_eq_zero (by omega)
        subst this
        exact .inr ⟨g, o, c - 1, cur, rfl, hb, hg, by omega, by simp, by omega, hno, fun j q hq => by simp at hq⟩
      · rw [if_neg e]
        exact .inr ⟨g, o + 1, c - 1, cur, rfl, hb, hg, by omega, by omega, by omega, hno, fun j q' hq => by
          have := hat (j + 1) q' hq
          rw [← this]
          congr 1
          omega⟩
theorem Fr.setRow {w : World} {g t : Nat} {cur cs : Array Value} (hg : w.heap[g]? = some (.cells cur t (0, 0))) (hno : NoU cur) : Fr (fun y => y = g) w (w.setRow g cs) := by
  refine ⟨rfl, rfl, rfl, by simp, fun k _ hk => setRow_other w g k _ (fun e => hk e), ?_⟩
  intro v l hr
  obtain ⟨A, c', hv, hl, hc, hr⟩ := hr
  refine ⟨A, c', hv, hl, hc, fun h0 => ?_⟩
  obtain ⟨ad, ha, hcell⟩ := hr h0
  refine ⟨ad, ha, fun j hj => ?_⟩
  have hc0 := hcell j hj
  by_cases hb : (ad.add j).block = g
  · exfalso
    have : ∃ k : Nat, cur[k]? = some (Value.int .u32 (wat l j)) := by
      unfold World.cell? at hc0
      rw [hb, hg] at hc0
      simp only at hc0
      split at hc0
      · cases hc0
      · exact ⟨_, hc0⟩
    obtain ⟨k, hk⟩ := this
    exact hno k _ hk _ rfl
  · rw [World.cell?_of_block (w := w) (setRow_other w g _ _ hb)]
    exact hc0
/-- The last one is moved to its place: those behind it go on by one. -/
theorem IQ.shift {w : World} {B g o cap a d x : Nat} {Q : List Nat} (h : IQ w B (.slice (some ⟨g, o, none⟩) (Q.length + 1) cap) (Q ++ [x])) (ha : a ≤ Q.length) (hd : a < Q.length → d = o + a + 1) (hd2 : d ≤ o + cap) (dc sc : Nat) :
    ∃ v' w', (Builtin.copy_ #[28, 28] 3 #[.slice (some ⟨g, d, none⟩) (Q.length - a) dc, .slice (some ⟨g, o + a, none⟩) (Q.length + 1 - a) sc]).run Try.prog w = .ok v' w' ∧ Fr (fun y => y = g) w w' ∧
      (∃ u, w'.cell? ⟨g, o + a, none⟩ = some u) ∧ w'.frozen? ⟨g, o + a, none⟩ = false ∧ Fr (fun y => y = g) w (w'.setCell ⟨g, o + a, none⟩ (.int .i64 (x : Int))) ∧ IQ (w'.setCell ⟨g, o + a, none⟩ (.int .i64 (x : Int))) B (.slice (some ⟨g, o, none⟩) (Q.length + 1) cap) (Q.take a ++ x :: Q.drop a) := by
  rcases h with ⟨h1, h2⟩ | ⟨g', o', cap', cur, hv, hb, hg, hsz, hlc, hcm, hno, hat⟩
  · cases h1
  · obtain ⟨⟨rfl, rfl⟩, rfl⟩ : (g = g' ∧ o = o') ∧ cap = cap' := by simpa using hv
    have hlc' : Q.length + 1 ≤ cap := by simpa using hlc
    have hcl : ((Q.drop a).map fun (q : Nat) => Value.int .i64 (q : Int)).length = Q.length - a := by simp
    have hr := run_copy_structs (P := Try.prog) w 28 28 3 3 g d (Q.length - a) dc ⟨g, o + a, none⟩ (Q.length + 1 - a) sc 1 cur 3 ((Q.drop a).map fun (q : Nat) => Value.int .i64 (q : Int)) Try.underlying28
      (by obtain ⟨i0, hi, hz0, hz1, hz2⟩ := info_parts info_int2; rw [hi]; simp [hz1]) hg (by rw [hcl, Nat.mul_one]; exact (Nat.min_eq_right (by omega)).symm)
      (by intro j v hj
          have hjl := (List.getElem?_eq_some_iff.1 hj).1
          rw [hcl] at hjl
          rw [List.getElem?_map, List.getElem?_drop, List.getElem?_eq_getElem (by omega)] at hj
          obtain rfl := Option.some.inj hj
          have ea : (⟨g, o + a, none⟩ : Addr).add j = ⟨g, o + a + j, none⟩ := by
            simp only [Addr.add]
            split <;> simp_all
          rw [ea, cell_of_row w g _ cur _ _ hg, Nat.add_assoc]
          exact hat (a + j) _ (by rw [List.getElem?_append_left (by omega), List.getElem?_eq_getElem (by omega)]))
      (by rw [hcl]; by_cases e : a < Q.length
          · rw [hd e]; omega
          · omega)
      (by intro v hv; obtain ⟨q, _, rfl⟩ := List.mem_map.1 hv; rfl)
    have hset := setRow_heap w g cur (cur.toList.take d ++ ((Q.drop a).map fun (q : Nat) => Value.int .i64 (q : Int)) ++ cur.toList.drop (d + ((Q.drop a).map fun (q : Nat) => Value.int .i64 (q : Int)).length)).toArray 3 _ hg
    obtain ⟨cur', hcur'⟩ : ∃ c, c = (cur.toList.take d ++ ((Q.drop a).map fun (q : Nat) => Value.int .i64 (q : Int)) ++ cur.toList.drop (d + ((Q.drop a).map fun (q : Nat) => Value.int .i64 (q : Int)).length)).toArray := ⟨_, rfl⟩
    rw [← hcur'] at hr hset
    have hdc : d ≤ cur.size := by omega
    have hdn : d + (Q.length - a) ≤ cur.size := by
      by_cases e : a < Q.length
      · rw [hd e]; omega
      · omega
    have hsize : cur'.size = cur.size := by
      rw [hcur']
      simp only [List.size_toArray, List.length_append, List.length_take, List.length_drop, Array.length_toList, hcl]
      omega
    have hget : ∀ i, cur'[i]? = if i < d then cur[i]? else if i < d + (Q.length - a) then ((Q.drop a).map fun (q : Nat) => Value.int .i64 (q : Int))[i - d]? else cur[i]? := by
      intro i
      rw [hcur', List.getElem?_toArray]
      have htl : (cur.toList.take d).length = d := by simp; omega
      split
      · rename_i h1
        rw [List.append_assoc, List.getElem?_append_left (by omega), List.getElem?_take_of_lt h1]
        simp
      · rename_i h1
        split
        · rename_i h2
          rw [List.append_assoc, List.getElem?_append_right (by omega), List.getElem?_append_left (by rw [hcl, htl]; omega), htl]
        · rename_i h2
          rw [List.getElem?_append_right (by rw [List.length_append, htl, hcl]; omega), List.getElem?_drop, List.length_append, htl, hcl]
          rw [show d + (Q.length - a) + (i - (d + (Q.length - a))) = i by omega]
          simp
    have hno' : NoU cur' := by
      intro j y hy
      rw [hget] at hy
      split at hy
      · exact hno j y hy
      · split at hy
        · obtain ⟨q, _, rfl⟩ := List.mem_map.1 (List.mem_of_getElem? hy)
          exact intne _
        · exact hno j y hy
    have hfr : Fr (fun y => y = g) w (w.setRow g cur') := Fr.setRow hg hno
    have hcell : (w.setRow g cur').cell? ⟨g, o + a, none⟩ = some (cur'[o + a]'(by omega)) := by rw [cell_of_row _ g _ cur' _ _ hset, Array.getElem?_eq_getElem (by omega)]
    have hfs := Fr.set hcell (hno' _ _ (Array.getElem?_eq_getElem (by omega))) (.int .i64 (x : Int))
    have hset2 := heap_setCell_same (w.setRow g cur') g (o + a) cur' 3 (.int .i64 (x : Int)) hset
    refine ⟨_, _, hr, hfr, ⟨_, hcell⟩, frozen_of_row _ g _ cur' _ hset, hfr.trans hfs, .inr ⟨g, o, cap, _, ?_, hb, hset2, by simpa [hsize] using hsz, ?_, hcm, hno'.set _ (intne _), fun j q hq => ?_⟩⟩
    · rw [show (Q.take a ++ x :: Q.drop a).length = Q.length + 1 by simp; omega]
    · rw [show (Q.take a ++ x :: Q.drop a).length = Q.length + 1 by simp; omega]; exact hlc'
    · have hj := (List.getElem?_eq_some_iff.1 hq).1
      have htl : (Q.take a).length = a := by simp; omega
      by_cases e : j = a
      · subst e
        rw [List.getElem?_append_right (by omega), htl, Nat.sub_self] at hq
        obtain rfl : x = q := by simpa using hq
        rw [Array.getElem?_setIfInBounds_self_of_lt (by omega)]
      · rw [Array.getElem?_setIfInBounds_ne (by omega), hget]
        rcases Nat.lt_or_gt_of_ne e with h | h
        · rw [List.getElem?_append_left (by omega), List.getElem?_take_of_lt h] at hq
          have hold := hat j q (by rw [List.getElem?_append_left (by omega)]; exact hq)
          split
          · exact hold
          · rename_i h1
            split
            · rename_i h2
              exfalso
              have := hd (by omega)
              omega
            · exact hold
        · rw [List.getElem?_append_right (by omega), htl, show j - a = (j - a - 1) + 1 by omega, List.getElem?_cons_succ, List.getElem?_drop] at hq
          have hjl : a + (j - a - 1) < Q.length := (List.getElem?_eq_some_iff.1 hq).1
          have hda := hd (by omega)
          rw [if_neg (by omega), if_pos (by omega), List.getElem?_map, List.getElem?_drop, show a + (o + j - d) = a + (j - a - 1) by omega, hq]
          rfl

def vd0 : VD := (0, 0, (false, [], []))
/-- A tide's visits in numbers. -/
def tdOf (L : List VD) : Td := ⟨L.length, fun i => (L.getD i vd0).1, fun i => (L.getD i vd0).2.1, fun i => fqd (L.getD i vd0).2.2⟩
def FewV (k : Nat) (L : List VD) : Prop := ∀ d ∈ L, d.2.2.2.1.length ≤ k ∧ d.2.2.2.2.length ≤ k
theorem tdOf_at {L : List VD} {i : Nat} {d : VD} (h : L[i]? = some d) : (tdOf L).come i = d.1 ∧ (tdOf L).go i = d.2.1 ∧ (tdOf L).q i = fqd d.2.2 := by
  have e : L.getD i vd0 = d := by rw [List.getD_eq_getElem?_getD, h]; rfl
  refine ⟨?_, ?_, ?_⟩
  · show (L.getD i vd0).1 = _; rw [e]
  · show (L.getD i vd0).2.1 = _; rw [e]
  · show fqd (L.getD i vd0).2.2 = _; rw [e]
theorem ahead_rcmp {L : List VD} {i j : Nat} {x y : VD} (hx : L[i]? = some x) (hy : L[j]? = some y) : (tdOf L).ahead i j ↔ (rcmp (fqd x.2.2) (fqd y.2.2) > 0 ∨ (rcmp (fqd x.2.2) (fqd y.2.2) = 0 ∧ i < j)) := by
  unfold Td.ahead
  rw [(tdOf_at hx).2.2, (tdOf_at hy).2.2]
  unfold rcmp
  grind
/-- A tide in a box, with its visits. -/
def TB (w : World) (g : Nat) (days each : Int) (A : Option Addr) (c : Nat) (L : List VD) : Prop := Blk w g 24 #[.int .i64 days, .int .i64 each, .slice A L.length c] ∧ VL w (.slice A L.length c) L
theorem TB.below {w w1 : World} {g : Nat} {days each : Int} {A : Option Addr} {c : Nat} {L : List VD} (h : TB w g days each A c L) (hb : Below w.heap.size w w1) : TB w1 g days each A c L := ⟨h.1.below hb, h.2.below hb⟩
/-- What a comparison of two visits holds on to. -/
theorem holdv_next {w w1 w2 : World} {v1 v2 : Value} {q r : Rat} {a0 a1 a2 a3 a4 a5 a6 : Addr} {x0 x1 x2 x3 x4 x5 x6 : Value} (hb : Below w1.heap.size w1 w2) (h : HoldFF w v1 v2 q r w1 ∧ w1.cell? a0 = some x0 ∧ w1.cell? a1 = some x1 ∧ w1.cell? a2 = some x2 ∧ w1.cell? a3 = some x3 ∧ w1.cell? a4 = some x4 ∧ w1.cell? a5 = some x5 ∧ w1.cell? a6 = some x6) : HoldFF w v1 v2 q r w2 ∧ w2.cell? a0 = some x0 ∧ w2.cell? a1 = some x1 ∧ w2.cell? a2 = some x2 ∧ w2.cell? a3 = some x3 ∧ w2.cell? a4 = some x4 ∧ w2.cell? a5 = some x5 ∧ w2.cell? a6 = some x6 := by
  obtain ⟨h0, e0, e1, e2, e3, e4, e5, e6⟩ := h
  exact ⟨h0.next hb, cell_below hb e0, cell_below hb e1, cell_below hb e2, cell_below hb e3, cell_below hb e4, cell_below hb e5, cell_below hb e6⟩
set_option maxRecDepth 100000 in
set_option maxHeartbeats 4000000 in
theorem ahead_calls (w : World) (g i j : Nat) (days each : Int) (A : Option Addr) (c : Nat) (L : List VD) (hT : TB w g days each A c L) (hi : i < L.length) (hj : j < L.length) (hL : L.length ≤ 1000000) (hf : FewV 2000 L) :
    Calls Try.prog 89 #[.int .i64 (i : Int), .int .i64 (j : Int), .pointer (some ⟨g, 0, none⟩)] w fun e w' => e = .returned (.bool (decide ((tdOf L).ahead i j))) ∧ Below w.heap.size w w' := by
  obtain ⟨x, hx⟩ : ∃ x, L[i]? = some x := ⟨_, List.getElem?_eq_getElem hi⟩
  obtain ⟨y, hy⟩ : ∃ x, L[j]? = some x := ⟨_, List.getElem?_eq_getElem hj⟩
  have hah := ahead_rcmp hx hy
  obtain ⟨b, hb⟩ : ∃ b, b = decide ((tdOf L).ahead i j) := ⟨_, rfl⟩
  rw [← hb]
  have HBB := Lib.hid hb
  have HAH := Lib.hid hah
  have fx := hf x (List.mem_of_getElem? hx)
  have fy := hf y (List.mem_of_getElem? hy)
  obtain ⟨hK, hV⟩ := hT
  obtain ⟨ad, A1, a1, A2, a2, rfl, _, _, e0, e1, e2, hfx⟩ := hV.at hx
  obtain ⟨ad', A3, a3, A4, a4, hh, _, _, e3, e4, e5, hfy⟩ := hV.at hy
  obtain rfl : ad = ad' := by simpa using hh
  have q1 : (i : Int) < (L.length : Int) := by omega
  have q2 : (j : Int) < (L.length : Int) := by omega
  have h3 := rcmp_three (fqd x.2.2) (fqd y.2.2)
  have hs := holdv_next (bl_drew w) ⟨(⟨Below.refl _ _, ⟨x.2.2.1, x.2.2.2.1, x.2.2.2.2, hfx, by omega, rfl⟩, ⟨y.2.2.1, y.2.2.2.1, y.2.2.2.2, hfy, by omega, rfl⟩⟩ : HoldFF w _ _ (fqd x.2.2) (fqd y.2.2) w), hK.cell 2, e0, e1, e2, e3, e4, e5⟩
  obtain ⟨p, hp⟩ : ∃ p, p = rcmp (fqd x.2.2) (fqd y.2.2) := ⟨_, rfl⟩
  rw [← hp] at hah h3
  have HP := Lib.hid hp
  clear hb hx hy hK hV e0 e1 e2 e3 e4 e5 hfx hfy hh hp hf
  go_enter Try.func89, Try.ntmps89
  go_wp2_with fail
  go_region_held3 (fun w' => HoldFF w (.agg #[.bool x.2.2.1, .slice A1 x.2.2.2.1.length a1, .slice A2 x.2.2.2.2.length a2]) (.agg #[.bool y.2.2.1, .slice A3 y.2.2.2.1.length a3, .slice A4 y.2.2.2.2.length a4]) (fqd x.2.2) (fqd y.2.2) w' ∧ w'.cell? ⟨g, 2, none⟩ = some (.slice (some ad) L.length c) ∧ w'.cell? ⟨(ad.add (i * 5)).block, (ad.add (i * 5)).off + 2, none⟩ = some (.bool x.2.2.1) ∧ w'.cell? ⟨(ad.add (i * 5)).block, (ad.add (i * 5)).off + 3, none⟩ = some (.slice A1 x.2.2.2.1.length a1) ∧ w'.cell? ⟨(ad.add (i * 5)).block, (ad.add (i * 5)).off + 4, none⟩ = some (.slice A2 x.2.2.2.2.length a2) ∧ w'.cell? ⟨(ad.add (j * 5)).block, (ad.add (j * 5)).off + 2, none⟩ = some (.bool y.2.2.1) ∧ w'.cell? ⟨(ad.add (j * 5)).block, (ad.add (j * 5)).off + 3, none⟩ = some (.slice A3 y.2.2.2.1.length a3) ∧ w'.cell? ⟨(ad.add (j * 5)).block, (ad.add (j * 5)).off + 4, none⟩ = some (.slice A4 y.2.2.2.2.length a4))
    ((first | exact hs | exact holdv_next hbN (by assumption)))
    (first
      | (go_at_call 71; (with_reducible refine (cmpq _ _ _ (fqd x.2.2) (fqd y.2.2) ?_ ?_).mono ?_); (exact HoldFF.t1 (And.left (by assumption))); (exact HoldFF.t2 (And.left (by assumption))); (rintro e w' ⟨rfl, hbN⟩); (rw [← HP.out]); (have H1 := HoldFF.next hbN (And.left (by assumption)))))
  have HB1 := Lib.hid H1.1
  rcases h3 with h3 | h3 | h3
  · have g1 : decide (p > 0) = false := decide_eq_false (by omega)
    have g2 : (p == 0) = false := beq_eq_false_iff_ne.2 (by omega)
    have HR := Lib.hid (show b = false by rw [HBB.out]; exact decide_eq_false (fun h => by rcases hah.1 h with h | h <;> omega))
    clear hs H1
    subst h3
    go_wp2
    go_ret
    exact ⟨by rw [HR.out]; rfl, HB1.out⟩
  · by_cases hij : i < j
    · have g3 : decide ((i : Int) < (j : Int)) = true := decide_eq_true (by omega)
      have HR := Lib.hid (show b = true by rw [HBB.out]; exact decide_eq_true (hah.2 (.inr ⟨h3, hij⟩)))
      clear hs H1
      subst h3
      go_wp2
      go_ret
      exact ⟨by rw [HR.out]; rfl, HB1.out⟩
    · have g3 : decide ((i : Int) < (j : Int)) = false := decide_eq_false (by omega)
      have HR := Lib.hid (show b = false by rw [HBB.out]; exact decide_eq_false (fun h => by rcases hah.1 h with h | h <;> omega))
      clear hs H1
      subst h3
      go_wp2
      go_ret
      exact ⟨by rw [HR.out]; rfl, HB1.out⟩
  · have HR := Lib.hid (show b = true by rw [HBB.out]; exact decide_eq_true (hah.2 (.inl (by omega))))
    clear hs H1
    subst h3
    go_wp2
    go_ret
    exact ⟨by rw [HR.out]; rfl, HB1.out⟩
end Go.Proofs.Ytajckdheecgceaa
