/- Tides: plans (the program's Planned). -/
import Derived.Test.YtajckdheecgceaaTd19
set_option linter.unusedVariables false
set_option linter.unusedSimpArgs false
namespace Go.Proofs.Ytajckdheecgceaa
open Go.RowKit

/-- Numbers that are handed in. -/
def IL (w : World) (v : Value) (l : List Int) : Prop := ∃ A c, v = .slice A l.length c ∧ l.length ≤ c ∧ c ≤ 9223372036854775807 ∧ (0 < l.length → ∃ ad, A = some ad ∧ ∀ (i : Nat) (x : Int), l[i]? = some x → w.cell? (ad.add i) = some (.int .i64 x))
theorem IL.below {w w1 : World} {v : Value} {l : List Int} (h : IL w v l) (hb : Below w.heap.size w w1) : IL w1 v l := by
  obtain ⟨A, c, hv, h1, h2, h3⟩ := h
  refine ⟨A, c, hv, h1, h2, fun h0 => ?_⟩
  obtain ⟨ad, ha, hc⟩ := h3 h0
  exact ⟨ad, ha, fun i x hx => cell_below hb (hc i x hx)⟩
theorem IL.shape {w : World} {v : Value} {l : List Int} (h : IL w v l) : ∃ A c, v = .slice A l.length c := by
  obtain ⟨A, c, hv, _⟩ := h
  exact ⟨A, c, hv⟩
theorem IL.bounds {w : World} {A : Option Addr} {n c : Nat} {l : List Int} (h : IL w (.slice A n c) l) : l.length ≤ c ∧ c ≤ 9223372036854775807 := by
  obtain ⟨A', c', hv, h1, h2, _⟩ := h
  obtain ⟨_, _, rfl⟩ : A = A' ∧ n = l.length ∧ c = c' := by simpa using hv
  exact ⟨h1, h2⟩
theorem IL.at {w : World} {A : Option Addr} {c : Nat} {l : List Int} (h : IL w (.slice A l.length c) l) {i : Nat} {x : Int} (hx : l[i]? = some x) : ∃ ad, A = some ad ∧ w.cell? (ad.add i) = some (.int .i64 x) := by
  obtain ⟨A', c', hv, h1, h2, h3⟩ := h
  obtain ⟨rfl, rfl⟩ : A = A' ∧ c = c' := by simpa using hv
  have hi := (List.getElem?_eq_some_iff.1 hx).1
  obtain ⟨ad, rfl, hc⟩ := h3 (by omega)
  exact ⟨ad, rfl, hc i x hx⟩
/-- A block of numbers is a list of numbers. -/
theorem Tb.il {w : World} {g n c : Nat} {p : Nat → Int} (h : Tb w g 3 c n (fun j => .int .i64 (p j))) (hc : c ≤ 9223372036854775807) : IL w (.slice (some ⟨g, 0, none⟩) n c) ((List.range n).map p) := by
  have hn : n ≤ c := by obtain ⟨cs, h1, h2, h3, _⟩ := h; exact h3
  refine ⟨some ⟨g, 0, none⟩, c, by simp, by simpa using hn, hc, fun _ => ⟨_, rfl, fun i x hx => ?_⟩⟩
  have hi : i < n := by have := (List.getElem?_eq_some_iff.1 hx).1; simpa using this
  obtain rfl : p i = x := by simpa [hi] using hx
  rw [add_row]
  exact h.cell hi
/-- The plan's day of an agent. -/
def pday (l : List Int) (i : Nat) : Int := l.getD i 0
theorem pday_at {l : List Int} {i : Nat} {x : Int} (h : l[i]? = some x) : pday l i = x := by
  unfold pday
  rw [List.getD_eq_getElem?_getD, h]; rfl
/-- The plan is one, as far as the first agents go. -/
def Td.okp (T : Td) (K : Int) (p : Nat → Int) : Nat → Bool
  | 0 => true
  | m + 1 => Td.okp T K p m && (p m == 0 || (decide (T.come m ≤ p m) && decide (p m ≤ T.go m) && decide (((cntD p (p m) (m + 1) : Nat) : Int) ≤ K)))
/-- What the first agents have by it. -/
def Td.wsum (T : Td) (p : Nat → Int) : Nat → Rat
  | 0 => 0
  | m + 1 => if p m = 0 then Td.wsum T p m else Td.wsum T p m + T.q m
theorem Td.okp_false {T : Td} {K : Int} {p : Nat → Int} {m : Nat} (h : T.okp K p m = false) : ∀ n, m ≤ n → T.okp K p n = false := by
  intro n
  induction n with
  | zero => intro hn; obtain rfl : m = 0 := by omega
            exact h
  | succ n ih =>
    intro hn
    by_cases e : m = n + 1
    · rw [← e]; exact h
    · show (Td.okp T K p n && _) = false
      rw [ih (by omega)]; rfl
/-- The numbers as they are written. -/
def rawL (L : List VD) (p : Nat → Int) : Nat → List (Bool × List Int × List Int)
  | 0 => []
  | m + 1 => if p m = 0 then rawL L p m else rawL L p m ++ [(L.getD m vd0).2.2]
theorem rawL_len (L : List VD) (p : Nat → Int) : ∀ m, (rawL L p m).length ≤ m := by
  intro m
  induction m with
  | zero => exact Nat.le_refl _
  | succ m ih =>
    show (if p m = 0 then rawL L p m else rawL L p m ++ [(L.getD m vd0).2.2]).length ≤ m + 1
    split
    · omega
    · simp; omega
theorem rawL_sum (L : List VD) (p : Nat → Int) : ∀ m, psum ((rawL L p m).map fqd) (rawL L p m).length = (tdOf L).wsum p m := by
  intro m
  induction m with
  | zero => rfl
  | succ m ih =>
    show psum ((if p m = 0 then rawL L p m else rawL L p m ++ [(L.getD m vd0).2.2]).map fqd) (if p m = 0 then rawL L p m else rawL L p m ++ [(L.getD m vd0).2.2]).length = (if p m = 0 then (tdOf L).wsum p m else (tdOf L).wsum p m + (tdOf L).q m)
    split
    · exact ih
    · rw [List.length_append, List.length_singleton, psum_succ (q := fqd (L.getD m vd0).2.2) (by simp), ← ih]
      congr 1
      unfold psum
      rw [List.map_append, List.take_append_of_le_length (by simp)]
theorem rawL_mem (L : List VD) (p : Nat → Int) {d : Bool × List Int × List Int} : ∀ m, m ≤ L.length → d ∈ rawL L p m → ∃ x ∈ L, d = x.2.2 := by
  intro m
  induction m with
  | zero => intro _ h; simp [rawL] at h
  | succ m ih =>
    intro hm h
    have h : d ∈ (if p m = 0 then rawL L p m else rawL L p m ++ [(L.getD m vd0).2.2]) := h
    split at h
    · exact ih (by omega) h
    · rcases List.mem_append.1 h with h | h
      · exact ih (by omega) h
      · refine ⟨L[m], List.getElem_mem _, ?_⟩
        rw [List.mem_singleton.1 h, List.getD_eq_getElem?_getD, List.getElem?_eq_getElem (show m < L.length by omega)]
        rfl
/-- Whether a plan is one of a tide. -/
def planB (days each : Int) (L : List VD) (l : List Int) : Bool := decide (rightN days each L = 0 ∧ l.length = L.length) && (tdOf L).okp each (pday l) L.length
theorem planB_no {days each : Int} {L : List VD} {l : List Int} (h : ¬ (rightN days each L = 0 ∧ l.length = L.length)) : planB days each L l = false := by
  unfold planB; rw [decide_eq_false h]; rfl
theorem planB_is {days each : Int} {L : List VD} {l : List Int} (h : rightN days each L = 0 ∧ l.length = L.length) : planB days each L l = (tdOf L).okp each (pday l) L.length := by
  unfold planB; rw [decide_eq_true h]; rfl
/-- What Planned tells. -/
def PlanQ (days each : Int) (L : List VD) (l : List Int) (w : World) (e : Ending) (w' : World) : Prop := Below w.heap.size w w' ∧
  ∃ v, e = .returned (.tuple #[v, .bool (planB days each L l)]) ∧ FrV w' v (if planB days each L l = true then (tdOf L).wsum (pday l) L.length else 0)
theorem okp_yes {T : Td} {K : Int} {p : Nat → Int} {m : Nat} (h : T.okp K p m = true) (h0 : p m = 0) : T.okp K p (m + 1) = true := by
  show (T.okp K p m && (p m == 0 || _)) = true
  rw [h, h0]; rfl
theorem okp_in {T : Td} {K : Int} {p : Nat → Int} {m : Nat} (h : T.okp K p m = true) (h1 : T.come m ≤ p m) (h2 : p m ≤ T.go m) (h3 : ((cntD p (p m) (m + 1) : Nat) : Int) ≤ K) : T.okp K p (m + 1) = true := by
  show (T.okp K p m && (p m == 0 || (decide (T.come m ≤ p m) && decide (p m ≤ T.go m) && decide (((cntD p (p m) (m + 1) : Nat) : Int) ≤ K)))) = true
  rw [h, decide_eq_true h1, decide_eq_true h2, decide_eq_true h3]; simp
theorem okp_out {T : Td} {K : Int} {p : Nat → Int} {m : Nat} (h0 : p m ≠ 0) (h : ¬ (T.come m ≤ p m ∧ p m ≤ T.go m ∧ ((cntD p (p m) (m + 1) : Nat) : Int) ≤ K)) : T.okp K p (m + 1) = false := by
  show (T.okp K p m && (p m == 0 || (decide (T.come m ≤ p m) && decide (p m ≤ T.go m) && decide (((cntD p (p m) (m + 1) : Nat) : Int) ≤ K)))) = false
  rw [beq_eq_false_iff_ne.2 h0]
  simp only [Bool.false_or, Bool.and_eq_false_iff, decide_eq_false_iff_not]
  right
  by_cases h1 : T.come m ≤ p m
  · by_cases h2 : p m ≤ T.go m
    · right; exact fun h3 => h ⟨h1, h2, h3⟩
    · left; right; exact h2
  · left; left; exact h1
set_option maxRecDepth 100000 in
set_option maxHeartbeats 16000000 in
theorem planned_calls (w : World) (days each : Int) (A : Option Addr) (c : Nat) (L : List VD) (h : VL w (.slice A L.length c) L) (hf : FewV 16 L) (va : Value) (l : List Int) (hl : IL w va l) :
    Calls Try.prog 38 #[.agg #[.int .i64 days, .int .i64 each, .slice A L.length c], va] w (PlanQ days each L l w) := by
  obtain ⟨Ap, cp, rfl⟩ := hl.shape
  have HV := Lib.hid h
  have HL := Lib.hid hl
  have hcc := h.bounds
  have hcp := hl.bounds
  have HF := Lib.hid hf
  have al := below_alloc0 w (.cells #[.int .i64 days, .int .i64 each, .slice A L.length c] 24)
  have al2 := below_alloc0 (w.alloc (.cells #[.int .i64 days, .int .i64 each, .slice A L.length c] 24)) (.cells #[.bool false, .slice none 0 0, .slice none 0 0] 38)
  have KB := (Blk.new w 24 #[.int .i64 days, .int .i64 each, .slice A L.length c]).below al2
  have KR := Blk.new (w.alloc (.cells #[.int .i64 days, .int .i64 each, .slice A L.length c] 24)) 38 #[.bool false, .slice none 0 0, .slice none 0 0]
  have e1 : (w.alloc (.cells #[.int .i64 days, .int .i64 each, .slice A L.length c] 24)).heap.size = w.heap.size + 1 := by simp
  rw [e1] at KR
  have k0 := KB.cell 0
  have k1 := KB.cell 1
  have k2 := KB.cell 2
  have HB2 := Lib.hid (bl_trans al al2)
  have HKB := Lib.hid KB
  have HKR := Lib.hid KR
  obtain ⟨r, hr⟩ : ∃ r, r = rightN days each L := ⟨_, rfl⟩
  have HR := Lib.hid hr
  clear h hl hf al al2 KB KR e1 hr
  have hbad : ∀ (w6 : World) (q : Rat) (P1 : Option Addr) (p1 : Nat) (P2 : Option Addr) (p2 : Nat), Below w.heap.size w w6 → q = 0 → FrV w6 (.agg #[.bool (decide (q.num < 0)), .slice P1 (dg q.num.natAbs).length p1, .slice P2 (dg q.den).length p2]) q → Blk w6 (w.heap.size + 1) 38 #[.bool false, .slice none 0 0, .slice none 0 0] → planB days each L l = false →
      PlanQ days each L l w (.returned (.tuple #[.agg #[.bool (decide (q.num < 0)), .slice P1 (dg q.num.natAbs).length p1, .slice P2 (dg q.den).length p2], .bool false])) (((w6.setCell ⟨w.heap.size + 1, 0, none⟩ (.bool (decide (q.num < 0)))).setCell ⟨w.heap.size + 1, 1, none⟩ (.slice P1 (dg q.num.natAbs).length p1)).setCell ⟨w.heap.size + 1, 2, none⟩ (.slice P2 (dg q.den).length p2)) := by
    intro w6 q P1 p1 P2 p2 hb hq hv hK hp
    have F2 := FBox.fr hK (boolne _) (slne _ _ _) (slne _ _ _) (.bool (decide (q.num < 0))) (.slice P1 (dg q.num.natAbs).length p1) (.slice P2 (dg q.den).length p2)
    refine ⟨hb.trans (F2.below hb.size (fun y hy => by have e : y = w.heap.size + 1 := hy; omega)), _, by rw [hp], ?_⟩
    rw [hp, if_neg (by simp), ← hq]
    exact F2.keep.fr hv
  have HBAD := Lib.hid hbad
  clear hbad
  go_enter Try.func38, Try.ntmps38
  go_wp2_with fail
  refine (tright_calls _ days each A c L (HV.out.below HB2.out)).mono ?_
  rintro e w1 ⟨rfl, hb1⟩
  rw [← HR.out]
  have K1 := HKB.out.below hb1
  have k0 := K1.cell 0
  have k1 := K1.cell 1
  have k2 := K1.cell 2
  have HB1 := Lib.hid (bl_trans HB2.out hb1)
  have HK1 := Lib.hid K1
  have HR1 := Lib.hid (HKR.out.below hb1)
  clear hb1 K1
  by_cases hz : r = 0 ∧ l.length = L.length
  · obtain ⟨hz0, hzl⟩ := hz
    obtain ⟨z1, z2, z3⟩ := rightN_zero (HR.out.symm.trans hz0)
    obtain ⟨D, hD⟩ : ∃ D : Nat, days = (D : Int) := ⟨days.toNat, by omega⟩
    subst hD
    have HPB := Lib.hid (planB_is (days := (D : Int)) (each := each) (L := L) (l := l) ⟨HR.out.symm.trans hz0, hzl⟩)
    have hD12 : D ≤ 12 := by omega
    have hL12 : L.length ≤ 12 := by omega
    have HZL := Lib.hid hzl
    have HZ0 := Lib.hid hz0
    have g0 : ((r : Int) != 0) = false := by rw [hz0]; rfl
    have g1 : ((l.length : Int) != (L.length : Int)) = false := by rw [hzl]; simp
    have hmk := mk_ints (D + 1) (by omega)
    have HZ3 := Lib.hid z3
    have HTN := Lib.hid (ints_new w1 (D + 1))
    have HBN := Lib.hid (below_alloc0 w1 (.cells (madeCells #[.int .i64 0] (D + 1)) 3))
    have hsz1 := HB1.out.size
    have hltr := HR1.out.lt
    have hn1 : ((D : Int) + 1) = ((D + 1 : Nat) : Int) := by omega
    have HN1 := Lib.hid hn1
    rw [← hn1] at hmk
    clear z1 z2 z3 hz0 hzl hn1
    go_wp2
    go_loopw [28, 6] (fun iv v wy => ∃ m : Nat, m ≤ L.length ∧ iv = .int .i64 (m : Int) ∧ (tdOf L).okp each (pday l) m = true ∧ OF wy (w1.heap.size + 1) v (rawL L (pday l) m) ∧ Tb wy w1.heap.size 3 (D + 1) (D + 1) (fun j => .int .i64 (if j = 0 then 0 else ((cntD (pday l) (j : Int) m : Nat) : Int))) ∧ Below w1.heap.size w1 wy)
      (fun iv _ _ => L.length - (intOf iv).toNat)
    case atStart => exact ⟨0, by omega, rfl, rfl, OF.nil _ _, HTN.out.congr (fun j _ => by simp [cntD]), HBN.out⟩
    case round =>
      clear k0 k1 k2 hmk HTN HBN
      obtain ⟨m, hm, rfl, hok, hO, hT, hb⟩ := hrel
      have HO := Lib.hid hO
      have HT := Lib.hid hT
      have HB := Lib.hid hb
      have HOK := Lib.hid hok
      have HBw := Lib.hid (bl_trans HB1.out hb)
      have HRr := Lib.hid (HR1.out.below hb)
      by_cases hx : m < L.length
      · obtain ⟨x, hx1⟩ : ∃ x, L[m]? = some x := ⟨_, List.getElem?_eq_getElem hx⟩
        have hxl : m < l.length := by rw [HZL.out]; exact hx
        obtain ⟨y, hy1⟩ : ∃ y, l[m]? = some y := ⟨_, List.getElem?_eq_getElem hxl⟩
        have q1 : (m : Int) < (l.length : Int) := by omega
        have q2 : (m : Int) < (L.length : Int) := by omega
        obtain ⟨adp, rfl, y0⟩ := (HL.out.below HBw.out).at hy1
        obtain ⟨ad, A1, a1, A2, a2, rfl, E0, E1, E2, E3, E4, hfx⟩ := HV.out.at hx1
        have e0 := cell_below HBw.out E0
        have e1 := cell_below HBw.out E1
        have HE2 := Lib.hid E2
        have HE3 := Lib.hid E3
        have HE4 := Lib.hid E4
        have kb := HK1.out.below hb
        have b1 := kb.cell 1
        have b2 := kb.cell 2
        have tc := (tdOf_at hx1).1
        have tg := (tdOf_at hx1).2.1
        have hy : pday l m = y := pday_at hy1
        have hgd := bad_no (HZ3.out m x hx1)
        have hraw : ∀ h : y ≠ 0, rawL L (pday l) (m + 1) = rawL L (pday l) m ++ [x.2.2] := fun h => by
          show (if pday l m = 0 then _ else _) = _
          rw [hy, if_neg h, List.getD_eq_getElem?_getD, hx1]; rfl
        have HRAW := Lib.hid hraw
        have HY := Lib.hid hy
        have HTC := Lib.hid tc
        have HTG := Lib.hid tg
        have HGD := Lib.hid hgd
        have HKb := Lib.hid kb
        have HFX := Lib.hid hfx
        have hrl := rawL_len L (pday l) m
        clear hO hT hb hok kb hx1 hy1 tc tg hy hgd hraw hfx E0 E1 E2 E3 E4
        by_cases hy0 : y = 0
        · have g2 : ((y : Int) == 0) = true := by rw [hy0]; rfl
          have HN := Lib.hid (show rawL L (pday l) (m + 1) = rawL L (pday l) m from if_pos (HY.out.trans hy0))
          have HC := Lib.hid (fun j (h : j ≠ 0) => (show cntD (pday l) ((j : Nat) : Int) (m + 1) = cntD (pday l) (j : Int) m by
            show _ + (if pday l m = (j : Int) then 1 else 0) = _
            rw [HY.out, hy0, if_neg (by omega), Nat.add_zero]))
          have HK := Lib.hid (okp_yes HOK.out (HY.out.trans hy0))
          clear hy0
          go_wp2
          exact ⟨⟨m + 1, by omega, by go_num, HK.out, by rw [HN.out]; exact HO.out, HT.out.congr (fun j _ => by
            by_cases h : j = 0
            · rw [if_pos h, if_pos h]
            · rw [if_neg h, if_neg h, HC.out j h]), HB.out⟩, by simp [intOf]; omega⟩
        · have g2 : ((y : Int) == 0) = false := beq_eq_false_iff_ne.2 hy0
          by_cases h1 : y < x.1
          · have g3 : decide (y < x.1) = true := decide_eq_true h1
            have HP := Lib.hid (HPB.out.trans (Td.okp_false (okp_out (p := pday l) (by rw [HY.out]; exact hy0) (by rw [HY.out, HTC.out]; omega)) _ hx) : planB (D : Int) each L l = false)
            clear hy0 h1
            go_wp2_with fail
            refine (zero_calls _).mono ?_
            rintro e w6 ⟨v6, rfl, hv6, hb6⟩
            obtain ⟨q, hq⟩ : ∃ q : Rat, q = 0 := ⟨_, rfl⟩
            have hv6 : FrV w6 v6 q := by rw [hq]; exact hv6
            obtain ⟨P1, p1, P2, p2, rfl, _, _, _, _⟩ := FrIn.shape hv6
            have K6 := HRr.out.below hb6
            have m0 := K6.cell 0
            have m1 := K6.cell 1
            have m2 := K6.cell 2
            have mf := K6.free
            have HE := Lib.hid (HBAD.out w6 q P1 p1 P2 p2 (bl_trans HBw.out hb6) hq hv6 K6 HP.out)
            clear hq hv6 hb6 e0 e1 y0 b1 b2
            go_wp2
            exact bodyPost_ret (results_fe (u := 5) rfl _ _ (w.heap.size + 1) 38 _ (0, 0) _ rfl (blk3 K6 _ _ _) Try.underlying38 rfl (by kernel_rfl)) rfl HE.out
          · have g3 : decide (y < x.1) = false := decide_eq_false h1
            by_cases h2 : x.2.1 < y
            · have g4 : decide (x.2.1 < y) = true := decide_eq_true h2
              have HP := Lib.hid (HPB.out.trans (Td.okp_false (okp_out (p := pday l) (by rw [HY.out]; exact hy0) (by rw [HY.out, HTG.out]; omega)) _ hx) : planB (D : Int) each L l = false)
              clear hy0 h1 h2
              go_wp2_with fail
              refine (zero_calls _).mono ?_
              rintro e w6 ⟨v6, rfl, hv6, hb6⟩
              obtain ⟨q, hq⟩ : ∃ q : Rat, q = 0 := ⟨_, rfl⟩
              have hv6 : FrV w6 v6 q := by rw [hq]; exact hv6
              obtain ⟨P1, p1, P2, p2, rfl, _, _, _, _⟩ := FrIn.shape hv6
              have K6 := HRr.out.below hb6
              have m0 := K6.cell 0
              have m1 := K6.cell 1
              have m2 := K6.cell 2
              have mf := K6.free
              have HE := Lib.hid (HBAD.out w6 q P1 p1 P2 p2 (bl_trans HBw.out hb6) hq hv6 K6 HP.out)
              clear hq hv6 hb6 e0 e1 y0 b1 b2
              go_wp2
              exact bodyPost_ret (results_fe (u := 5) rfl _ _ (w.heap.size + 1) 38 _ (0, 0) _ rfl (blk3 K6 _ _ _) Try.underlying38 rfl (by kernel_rfl)) rfl HE.out
            · have g4 : decide (x.2.1 < y) = false := decide_eq_false h2
              obtain ⟨e, rfl⟩ : ∃ e : Nat, y = (e : Int) := ⟨y.toNat, by have := HGD.out; omega⟩
              have he : e < D + 1 := by have := HGD.out; omega
              have he0 : e ≠ 0 := by omega
              have q3 : (0 : Int) ≤ (e : Int) := by omega
              have q4 : (e : Int) < (D : Int) + 1 := by omega
              have q5 : (e : Int) < ((D + 1 : Nat) : Int) := by omega
              obtain ⟨ct, hct⟩ : ∃ ct, ct = cntD (pday l) (e : Int) m := ⟨_, rfl⟩
              have t0 := HT.out.cell he
              rw [if_neg he0, ← hct] at t0
              have hctm : ct ≤ m := by rw [hct]; exact cnt_le (T := tdOf L) m
              have ff := HT.out.free
              have hst := HT.out.set he (intne ((ct : Int) + 1))
              have HST := Lib.hid hst
              have hc1 : cntD (pday l) (e : Int) (m + 1) = ct + 1 := by
                show _ + (if pday l m = (e : Int) then 1 else 0) = _
                rw [if_pos HY.out, hct]
              have HC1 := Lib.hid hc1
              have HCO := Lib.hid (fun j (h : j ≠ e) => (show cntD (pday l) ((j : Nat) : Int) (m + 1) = cntD (pday l) (j : Int) m by
                show _ + (if pday l m = (j : Int) then 1 else 0) = _
                rw [HY.out, if_neg (by omega), Nat.add_zero]))
              have HCT := Lib.hid hct
              have HE00 := Lib.hid he0
              clear hst hct hc1 he0
              go_upto_region 12 with fail
              obtain ⟨w5, hw5⟩ : ∃ W, W = wr.setCell ⟨w1.heap.size, e, none⟩ (.int .i64 ((ct : Int) + 1)) := ⟨_, rfl⟩
              rw [← hw5] at HST ⊢
              have HB5 := Lib.hid (HB.out.trans (HST.out.2.below HB.out.size (fun y hy => by have e : y = w1.heap.size := hy; omega)))
              have HT5 := Lib.hid HST.out.1
              have t5 := HT5.out.cell he
              rw [upd_at] at t5
              have kb5 := HST.out.2.blk HKb.out (fun e => by have e' : w.heap.size = w1.heap.size := e; have := HK1.out.lt; omega)
              have b1 := kb5.cell 1
              have b2 := kb5.cell 2
              have HO5 := Lib.hid (HO.out.fr HST.out.2 (fun g hg e => by have e' : g = w1.heap.size := e; have := HO.out.block hg; omega))
              have HBw5 := Lib.hid (bl_trans HB1.out HB5.out)
              have HRr5 := Lib.hid (HR1.out.below HB5.out)
              clear hw5 t0 ff kb5 y0
              by_cases h3 : each < (ct : Int) + 1
              · have g5 : decide (each < (ct : Int) + 1) = true := decide_eq_true h3
                have HP := Lib.hid (HPB.out.trans (Td.okp_false (okp_out (p := pday l) (by rw [HY.out]; exact hy0) (by rw [HY.out, HC1.out]; omega)) _ hx) : planB (D : Int) each L l = false)
                clear h3 hy0
                go_wp2_with fail
                go_quiet (fail)
                go_wp2_with fail
                refine (zero_calls _).mono ?_
                rintro e w6 ⟨v6, rfl, hv6, hb6⟩
                obtain ⟨q, hq⟩ : ∃ q : Rat, q = 0 := ⟨_, rfl⟩
                have hv6 : FrV w6 v6 q := by rw [hq]; exact hv6
                obtain ⟨P1, p1, P2, p2, rfl, _, _, _, _⟩ := FrIn.shape hv6
                have K6 := (HRr5.out.below (bl_drewN _ _)).below hb6
                have m0 := K6.cell 0
                have m1 := K6.cell 1
                have m2 := K6.cell 2
                have mf := K6.free
                have HE := Lib.hid (HBAD.out w6 q P1 p1 P2 p2 (bl_trans (bl_trans HBw5.out (bl_drewN _ _)) hb6) hq hv6 K6 HP.out)
                clear hq hv6 hb6 t5 b1 b2 e0 e1
                go_wp2
                exact bodyPost_ret (results_fe (u := 5) rfl _ _ (w.heap.size + 1) 38 _ (0, 0) _ rfl (blk3 K6 _ _ _) Try.underlying38 rfl (by kernel_rfl)) rfl HE.out
              · have g5 : decide (each < (ct : Int) + 1) = false := decide_eq_false h3
                have HK := Lib.hid (okp_in (p := pday l) HOK.out (by rw [HY.out, HTC.out]; have := HGD.out; omega) (by rw [HY.out, HTG.out]; omega) (by rw [HY.out, HC1.out]; omega) : (tdOf L).okp each (pday l) (m + 1) = true)
                have HN := Lib.hid (HRAW.out hy0)
                have f2 := cell_below HBw5.out HE2.out
                have f3 := cell_below HBw5.out HE3.out
                have f4 := cell_below HBw5.out HE4.out
                have HFX5 := Lib.hid (HFX.out.below HBw5.out)
                clear e0 e1 h1 h2 h3 hy0
                go_wp2_with fail
                go_quiet (fail)
                obtain ⟨wq, hwq⟩ : ∃ W, W = w5.drewN nq := ⟨_, rfl⟩
                have hbq : Below w5.heap.size w5 wq := by rw [hwq]; exact bl_drewN _ _
                rw [← hwq]
                have b2 := cell_below hbq b2
                have f2 := cell_below hbq f2
                have f3 := cell_below hbq f3
                have f4 := cell_below hbq f4
                have al := below_alloc0 wq (.cells #[.bool x.2.2.1, .slice A1 x.2.2.2.1.length a1, .slice A2 x.2.2.2.2.length a2] 38)
                have KX := Blk.new wq 38 #[.bool x.2.2.1, .slice A1 x.2.2.2.1.length a1, .slice A2 x.2.2.2.2.length a2]
                have hba := bl_trans hbq al
                have hsz5 := HB5.out.size
                obtain ⟨v8, w8, hrun, hO8, hf8, hob8⟩ := OF.push (d := x.2.2) (HO5.out.below hba) (by have := hba.size; have := HT5.out.lt; omega) KX (HFX5.out.below hba) (by omega)
                rw [← HN.out] at hO8
                have HRUN := Lib.hid hrun
                have HO8 := Lib.hid hO8
                have HB8 := Lib.hid ((bl_trans HB5.out hba).trans (hf8.below (bl_trans HB5.out hba).size (fun y hy => by have := HO5.out.block hy; omega)))
                have HT8 := Lib.hid ((HT5.out.fr (Fr.of_below (S := fun _ => False) hba) (fun h => h)).fr hf8 (fun e => by have := HO5.out.block e; omega))
                clear hwq hbq al KX hba hrun hO8 hf8 hob8 t5 b1
                go_wp2_with (first
                  | (at_builtin; refine wpList_append_run _ rfl _ _ 31 rfl _ _ rfl rfl ⟨v8, w8, HRUN.out, ?_⟩)
                  | go_in)
                refine ⟨⟨m + 1, by omega, by go_num, HK.out, HO8.out, HT8.out.congr (fun j hj => ?_), HB8.out⟩, by simp [intOf]; omega⟩
                by_cases hje : j = e
                · rw [hje, upd_at, if_neg HE00.out, HC1.out]
                  congr 1
                · rw [upd_ne hje, HCO.out j hje]
      · obtain rfl : m = L.length := by omega
        have q1 : ¬ (L.length : Int) < (l.length : Int) := by have := HZL.out; omega
        have hraw := rawL_sum L (pday l) L.length
        have hrl := rawL_len L (pday l) L.length
        obtain ⟨Av, cv, rfl, _, _⟩ := hO.shape
        have hfd : FewD 16 (rawL L (pday l) L.length) := fun d hd => by
          obtain ⟨x, hx, rfl⟩ := rawL_mem L (pday l) L.length (Nat.le_refl _) hd
          exact HF.out x hx
        have HFD := Lib.hid hfd
        have HRS := Lib.hid hraw
        have HP := Lib.hid (HPB.out.trans HOK.out : planB (D : Int) each L l = true)
        clear hO hT hb hok hraw hfd
        go_wp2_with fail
        refine (sum_calls _ _ (rawL L (pday l) L.length) HO.out.fl (by omega) HFD.out).mono ?_
        rintro e w6 ⟨v6, rfl, hv6, hb6⟩
        rw [HRS.out] at hv6
        obtain ⟨q, hq⟩ : ∃ q : Rat, q = (tdOf L).wsum (pday l) L.length := ⟨_, rfl⟩
        rw [← hq] at hv6
        obtain ⟨P1, p1, P2, p2, rfl, _, _, _, _⟩ := FrIn.shape hv6
        have K6 := HRr.out.below hb6
        have m0 := K6.cell 0
        have m1 := K6.cell 1
        have m2 := K6.cell 2
        have mf := K6.free
        have F2 := FBox.fr K6 (boolne _) (slne _ _ _) (slne _ _ _) (.bool (decide (q.num < 0))) (.slice P1 (dg q.num.natAbs).length p1) (.slice P2 (dg q.den).length p2)
        have HFR := Lib.hid F2
        have HV6 := Lib.hid (F2.keep.fr hv6)
        have hbb := bl_trans HBw.out hb6
        have HBB := Lib.hid (hbb.trans (F2.below hbb.size (fun y hy => by have e : y = w.heap.size + 1 := hy; omega)))
        have HQ := Lib.hid hq
        clear hq hv6 hb6 F2 hbb
        go_wp2
        refine bodyPost_ret (results_fe (u := 5) rfl _ _ (w.heap.size + 1) 38 _ (0, 0) _ rfl (blk3 K6 _ _ _) Try.underlying38 rfl (by kernel_rfl)) rfl ?_
        refine ⟨HBB.out, .agg #[.bool (decide (q.num < 0)), .slice P1 (dg q.num.natAbs).length p1, .slice P2 (dg q.den).length p2], ?_, ?_⟩
        · rw [HP.out]; rfl
        · rw [HP.out, if_pos rfl, ← HQ.out]
          exact HV6.out
  · have HP := Lib.hid (planB_no (by rw [← HR.out]; exact hz))
    by_cases h0 : r = 0
    · have g0 : ((r : Int) != 0) = false := by rw [h0]; rfl
      have g1 : ((l.length : Int) != (L.length : Int)) = true := bne_iff_ne.2 (fun e => hz ⟨h0, by omega⟩)
      clear hz h0
      go_wp2_with fail
      refine (zero_calls _).mono ?_
      rintro e w6 ⟨v6, rfl, hv6, hb6⟩
      obtain ⟨q, hq⟩ : ∃ q : Rat, q = 0 := ⟨_, rfl⟩
      have hv6 : FrV w6 v6 q := by rw [hq]; exact hv6
      obtain ⟨P1, p1, P2, p2, rfl, _, _, _, _⟩ := FrIn.shape hv6
      have K6 := HR1.out.below hb6
      have m0 := K6.cell 0
      have m1 := K6.cell 1
      have m2 := K6.cell 2
      have mf := K6.free
      have HE := Lib.hid (HBAD.out w6 q P1 p1 P2 p2 (bl_trans HB1.out hb6) hq hv6 K6 HP.out)
      clear hq hv6 hb6 
      go_wp2
      exact bodyPost_ret (results_fe (u := 5) rfl _ _ (w.heap.size + 1) 38 _ (0, 0) _ rfl (blk3 K6 _ _ _) Try.underlying38 rfl (by kernel_rfl)) rfl HE.out
    · have g0 : ((r : Int) != 0) = true := bne_iff_ne.2 h0
      clear hz h0
      go_wp2_with fail
      refine (zero_calls _).mono ?_
      rintro e w6 ⟨v6, rfl, hv6, hb6⟩
      obtain ⟨q, hq⟩ : ∃ q : Rat, q = 0 := ⟨_, rfl⟩
      have hv6 : FrV w6 v6 q := by rw [hq]; exact hv6
      obtain ⟨P1, p1, P2, p2, rfl, _, _, _, _⟩ := FrIn.shape hv6
      have K6 := HR1.out.below hb6
      have m0 := K6.cell 0
      have m1 := K6.cell 1
      have m2 := K6.cell 2
      have mf := K6.free
      have HE := Lib.hid (HBAD.out w6 q P1 p1 P2 p2 (bl_trans HB1.out hb6) hq hv6 K6 HP.out)
      clear hq hv6 hb6 
      go_wp2
      exact bodyPost_ret (results_fe (u := 5) rfl _ _ (w.heap.size + 1) 38 _ (0, 0) _ rfl (blk3 K6 _ _ _) Try.underlying38 rfl (by kernel_rfl)) rfl HE.out

theorem blk5 {w : World} {g t : Nat} {x0 x1 x2 x3 x4 : Value} (h : Blk w g t #[x0, x1, x2, x3, x4]) (y0 y1 y2 y3 y4 : Value) : Blk (((((w.setCell ⟨g, 0, none⟩ y0).setCell ⟨g, 1, none⟩ y1).setCell ⟨g, 2, none⟩ y2).setCell ⟨g, 3, none⟩ y3).setCell ⟨g, 4, none⟩ y4) g t #[y0, y1, y2, y3, y4] := ((((h.set 0 y0).set 1 y1).set 2 y2).set 3 y3).set 4 y4
theorem FVis.fr {w : World} {g : Nat} {x0 x1 x2 x3 x4 : Value} (h : Blk w g 40 #[x0, x1, x2, x3, x4]) (n0 : ∀ n, x0 ≠ .int .u32 n) (n1 : ∀ n, x1 ≠ .int .u32 n) (n2 : ∀ n, x2 ≠ .int .u32 n) (n3 : ∀ n, x3 ≠ .int .u32 n) (n4 : ∀ n, x4 ≠ .int .u32 n) (y0 y1 y2 y3 y4 : Value) : Fr (fun y => y = g) w (((((w.setCell ⟨g, 0, none⟩ y0).setCell ⟨g, 1, none⟩ y1).setCell ⟨g, 2, none⟩ y2).setCell ⟨g, 3, none⟩ y3).setCell ⟨g, 4, none⟩ y4) := by
  have k0 := Fr.set (h.cell 0) n0 y0
  have h1 := h.set 0 y0
  have k1 := Fr.set (h1.cell 1) n1 y1
  have h2 := h1.set 1 y1
  have k2 := Fr.set (h2.cell 2) n2 y2
  have h3 := h2.set 2 y2
  have k3 := Fr.set (h3.cell 3) n3 y3
  have h4 := h3.set 3 y3
  have k4 := Fr.set (h4.cell 4) n4 y4
  exact (((k0.trans k1).trans k2).trans k3).trans k4
set_option maxRecDepth 100000 in
theorem visit_calls (w : World) (come til n : Int) (h0 : -9223372036854775808 ≤ n) (h1 : n ≤ 9223372036854775807) :
    Calls Try.prog 65 #[.int .i64 come, .int .i64 til, .int .i64 n] w fun e w' => ∃ (A1 : Option Addr) (c1 : Nat) (A2 : Option Addr) (c2 : Nat) (q : Rat), e = .returned (.agg #[.int .i64 come, .int .i64 til, .bool (decide (q.num < 0)), .slice A1 (dg q.num.natAbs).length c1, .slice A2 (dg q.den).length c2]) ∧ q = (n : Rat) ∧
      FrV w' (.agg #[.bool (decide (q.num < 0)), .slice A1 (dg q.num.natAbs).length c1, .slice A2 (dg q.den).length c2]) q ∧ Below w.heap.size w w' := by
  have al := below_alloc0 w (.cells #[.int .i64 0, .int .i64 0, .bool false, .slice none 0 0, .slice none 0 0] 40)
  have KB := Blk.new w 40 #[.int .i64 0, .int .i64 0, .bool false, .slice none 0 0, .slice none 0 0]
  have HAL := Lib.hid al
  have HKB := Lib.hid KB
  clear al KB
  go_enter Try.func65, Try.ntmps65
  go_wp2_with fail
  refine (rint_calls _ n h0 h1).mono ?_
  rintro e w1 ⟨v1, rfl, hv, hb⟩
  obtain ⟨q, hq⟩ : ∃ q : Rat, q = (n : Rat) := ⟨_, rfl⟩
  rw [← hq] at hv
  obtain ⟨P1, p1, P2, p2, rfl, _, _, _, _⟩ := FrIn.shape hv
  have K1 := HKB.out.below hb
  have k0 := K1.cell 0
  have k1 := K1.cell 1
  have k2 := K1.cell 2
  have k3 := K1.cell 3
  have k4 := K1.cell 4
  have kf := K1.free
  have HQ := Lib.hid hq
  have HV := Lib.hid hv
  have HB := Lib.hid (bl_trans HAL.out hb)
  have HK1 := Lib.hid K1
  clear hq hv hb K1
  go_wp2
  have F2 := FVis.fr HK1.out (intne _) (intne _) (boolne _) (slne _ _ _) (slne _ _ _) (.int .i64 come) (.int .i64 til) (.bool (decide (q.num < 0))) (.slice P1 (dg q.num.natAbs).length p1) (.slice P2 (dg q.den).length p2)
  exact bodyPost_ret (results_cell_row rfl _ _ w.heap.size 40 _ (0, 0) _ rfl (blk5 HK1.out _ _ _ _ _) Try.underlying40 rfl (by kernel_rfl)) rfl ⟨P1, p1, P2, p2, q, rfl, HQ.out, F2.keep.fr HV.out, HB.out.trans (F2.below HB.out.size (fun y hy => by have e : y = w.heap.size := hy; omega))⟩
/-- The document's tide, in numbers. -/
def docT : Td := ⟨3, fun i => if i = 0 then 1 else if i = 1 then 1 else if i = 2 then 2 else 0, fun i => if i = 0 then 2 else if i = 1 then 1 else if i = 2 then 2 else 0, fun i => if i = 0 then 5 else if i = 1 then 4 else if i = 2 then 3 else fqd vd0.2.2⟩
def docL : List VD := [(1, 2, dq 5), (1, 1, dq 4), (2, 2, dq 3)]
theorem docL_tide : tdOf docL = docT := by
  have h : ∀ i, (docL.getD i vd0) = if i = 0 then (1, 2, dq 5) else if i = 1 then (1, 1, dq 4) else if i = 2 then (2, 2, dq 3) else vd0 := by
    intro i
    match i with
    | 0 => rfl
    | 1 => rfl
    | 2 => rfl
    | k + 3 =>
      rw [if_neg (by omega), if_neg (by omega), if_neg (by omega)]
      rfl
  unfold tdOf docT
  congr 1
  · funext i; rw [h]; split; rfl; split; rfl; split <;> rfl
  · funext i; rw [h]; split; rfl; split; rfl; split <;> rfl
  · funext i; rw [h]; split; exact fixq_of _; split; exact fixq_of _; split; exact fixq_of _; rfl
theorem doc_sold : docT.sold 1 2 0 = 1 ∧ docT.sold 1 2 1 = 0 ∧ docT.sold 1 2 2 = 2 := by decide +kernel
theorem doc_pay : docT.pay 1 2 0 = 3 ∧ docT.pay 1 2 2 = 0 := by decide +kernel
theorem doc_plan : docT.okp 1 (pday [2, 1, 0]) 3 = true ∧ docT.wsum (pday [2, 1, 0]) 3 = 9 := by decide +kernel

theorem doc_right : rightN 2 1 docL = 0 := by decide +kernel
theorem doc_few : FewV 6 docL := by
  have h : ∀ d ∈ docL, d.2.2.2.1.length ≤ 6 ∧ d.2.2.2.2.length ≤ 6 := by
    intro d hd
    simp only [docL, List.mem_cons, List.not_mem_nil, or_false] at hd
    rcases hd with rfl | rfl | rfl
    · exact ⟨Nat.le_trans (int_len (n := 5) (by omega) (by omega)).1 (by omega), Nat.le_trans (int_len (n := 5) (by omega) (by omega)).2 (by omega)⟩
    · exact ⟨Nat.le_trans (int_len (n := 4) (by omega) (by omega)).1 (by omega), Nat.le_trans (int_len (n := 4) (by omega) (by omega)).2 (by omega)⟩
    · exact ⟨Nat.le_trans (int_len (n := 3) (by omega) (by omega)).1 (by omega), Nat.le_trans (int_len (n := 3) (by omega) (by omega)).2 (by omega)⟩
  exact h
theorem doc_vl {w : World} {g : Nat} {A1 A2 A3 A4 A5 A6 : Option Addr} {a1 a2 a3 a4 a5 a6 : Nat} {q1 q2 q3 : Rat} (K : Blk w g 40 #[.int .i64 1, .int .i64 2, .bool (decide (q1.num < 0)), .slice A1 (dg q1.num.natAbs).length a1, .slice A2 (dg q1.den).length a2, .int .i64 1, .int .i64 1, .bool (decide (q2.num < 0)), .slice A3 (dg q2.num.natAbs).length a3, .slice A4 (dg q2.den).length a4, .int .i64 2, .int .i64 2, .bool (decide (q3.num < 0)), .slice A5 (dg q3.num.natAbs).length a5, .slice A6 (dg q3.den).length a6])
    (f1 : FrV w (.agg #[.bool (decide (q1.num < 0)), .slice A1 (dg q1.num.natAbs).length a1, .slice A2 (dg q1.den).length a2]) q1) (f2 : FrV w (.agg #[.bool (decide (q2.num < 0)), .slice A3 (dg q2.num.natAbs).length a3, .slice A4 (dg q2.den).length a4]) q2) (f3 : FrV w (.agg #[.bool (decide (q3.num < 0)), .slice A5 (dg q3.num.natAbs).length a5, .slice A6 (dg q3.den).length a6]) q3)
    (h1 : q1 = 5) (h2 : q2 = 4) (h3 : q3 = 3) : VL w (.slice (some ⟨g, 0, none⟩) 3 3) docL := by
  subst h1 h2 h3
  refine ⟨some ⟨g, 0, none⟩, 3, rfl, by decide, by omega, fun _ => ⟨_, rfl, fun i d hd => ?_⟩⟩
  match i with
  | 0 => obtain rfl : (1, 2, dq 5) = d := by simpa [docL] using hd
         exact ⟨A1, a1, A2, a2, K.cell 0, K.cell 1, K.cell 2, K.cell 3, K.cell 4, f1⟩
  | 1 => obtain rfl : (1, 1, dq 4) = d := by simpa [docL] using hd
         exact ⟨A3, a3, A4, a4, K.cell 5, K.cell 6, K.cell 7, K.cell 8, K.cell 9, f2⟩
  | 2 => obtain rfl : (2, 2, dq 3) = d := by simpa [docL] using hd
         exact ⟨A5, a5, A6, a6, K.cell 10, K.cell 11, K.cell 12, K.cell 13, K.cell 14, f3⟩
  | k + 3 => simp [docL] at hd
theorem doc_ints {w : World} {g : Nat} (K : Blk w g 3 #[.int .i64 1, .int .i64 0, .int .i64 2]) : Tb w g 3 3 3 (fun j => .int .i64 (docT.sold 1 2 j)) := by
  refine ⟨_, K, rfl, Nat.le_refl _, fun j x hx n => ?_, fun j hj => ?_⟩
  · have h3 : j = 0 ∨ j = 1 ∨ j = 2 ∨ 3 ≤ j := by omega
    rcases h3 with rfl | rfl | rfl | h
    · rw [← Option.some.inj hx]; intro h; cases h
    · rw [← Option.some.inj hx]; intro h; cases h
    · rw [← Option.some.inj hx]; intro h; cases h
    · rw [Array.getElem?_eq_none (by simpa using h)] at hx; cases hx
  · match j with
    | 0 => show _ = some (Value.int .i64 (docT.sold 1 2 0)); rw [doc_sold.1]; rfl
    | 1 => show _ = some (Value.int .i64 (docT.sold 1 2 1)); rw [doc_sold.2.1]; rfl
    | 2 => show _ = some (Value.int .i64 (docT.sold 1 2 2)); rw [doc_sold.2.2]; rfl
    | k + 3 => omega
theorem doc_list {w : World} {g : Nat} (K : Blk w g 3 #[.int .i64 2, .int .i64 1, .int .i64 0]) : IL w (.slice (some ⟨g, 0, none⟩) 3 3) [2, 1, 0] := by
  refine ⟨some ⟨g, 0, none⟩, 3, rfl, by decide, by omega, fun _ => ⟨_, rfl, fun i x hx => ?_⟩⟩
  match i with
  | 0 => obtain rfl : (2 : Int) = x := by simpa using hx
         exact K.cell 0
  | 1 => obtain rfl : (1 : Int) = x := by simpa using hx
         exact K.cell 1
  | 2 => obtain rfl : (0 : Int) = x := by simpa using hx
         exact K.cell 2
  | k + 3 => simp at hx
theorem doc_planB : planB 2 1 docL [2, 1, 0] = true := by
  rw [planB_is ⟨doc_right, rfl⟩, docL_tide]
  exact doc_plan.1
theorem rsignq (w : World) (va : Value) (a : Rat) (ha : FrQ w va a) : Calls Try.prog 22 #[va] w fun e w' => e = .returned (.int .i64 a.num.sign) ∧ Below w.heap.size w w' := by
  obtain ⟨n, l, d, h, h2, rfl⟩ := ha
  exact rsign_calls w va n l d h h2
/-- What the last comparison holds on to. -/
def DocH (w : World) (v0 v2 vq : Value) (p0 p2 q : Rat) (w' : World) : Prop := Below w.heap.size w w' ∧ FrV w' v0 p0 ∧ FrV w' v2 p2 ∧ FrV w' vq q
theorem DocH.next {w w1 w2 : World} {v0 v2 vq : Value} {p0 p2 q : Rat} (hb : Below w1.heap.size w1 w2) (h : DocH w v0 v2 vq p0 p2 q w1) : DocH w v0 v2 vq p0 p2 q w2 := ⟨bl_trans h.1 hb, FrV.below h.2.1 hb, FrV.below h.2.2.1 hb, FrV.below h.2.2.2 hb⟩
theorem DocH.a {w w1 : World} {v0 v2 vq : Value} {p0 p2 q : Rat} (h : DocH w v0 v2 vq p0 p2 q w1) (hs : Short p0) : FrQ w1 v0 p0 := FrV.q h.2.1 hs
theorem DocH.b {w w1 : World} {v0 v2 vq : Value} {p0 p2 q : Rat} (h : DocH w v0 v2 vq p0 p2 q w1) (hs : Short p2) : FrQ w1 v2 p2 := FrV.q h.2.2.1 hs
theorem DocH.c {w w1 : World} {v0 v2 vq : Value} {p0 p2 q : Rat} (h : DocH w v0 v2 vq p0 p2 q w1) (hs : Short q) : FrQ w1 vq q := FrV.q h.2.2.2 hs
theorem doch_next {w w1 w2 : World} {v0 v2 vq : Value} {p0 p2 q : Rat} {a0 a1 a2 a3 a4 a5 a6 a7 a8 : Addr} {x0 x1 x2 x3 x4 x5 x6 x7 x8 : Value} (hb : Below w1.heap.size w1 w2)
    (h : DocH w v0 v2 vq p0 p2 q w1 ∧ (w1.cell? a0 = some x0 ∧ w1.cell? a1 = some x1 ∧ w1.cell? a2 = some x2) ∧ (w1.cell? a3 = some x3 ∧ w1.cell? a4 = some x4 ∧ w1.cell? a5 = some x5) ∧ (w1.cell? a6 = some x6 ∧ w1.cell? a7 = some x7 ∧ w1.cell? a8 = some x8)) :
    DocH w v0 v2 vq p0 p2 q w2 ∧ (w2.cell? a0 = some x0 ∧ w2.cell? a1 = some x1 ∧ w2.cell? a2 = some x2) ∧ (w2.cell? a3 = some x3 ∧ w2.cell? a4 = some x4 ∧ w2.cell? a5 = some x5) ∧ (w2.cell? a6 = some x6 ∧ w2.cell? a7 = some x7 ∧ w2.cell? a8 = some x8) := by
  obtain ⟨h0, ⟨e0, e1, e2⟩, ⟨e3, e4, e5⟩, ⟨e6, e7, e8⟩⟩ := h
  exact ⟨h0.next hb, ⟨cell_below hb e0, cell_below hb e1, cell_below hb e2⟩, ⟨cell_below hb e3, cell_below hb e4, cell_below hb e5⟩, ⟨cell_below hb e6, cell_below hb e7, cell_below hb e8⟩⟩
set_option maxRecDepth 100000 in
set_option maxHeartbeats 16000000 in
theorem tfixed_calls (w : World) : Calls Try.prog 24 #[] w fun e w' => e = .returned (.bool true) ∧ Below w.heap.size w w' := by
  go_enter Try.func24, Try.ntmps24
  go_wp2_with fail
  refine (visit_calls _ 1 2 5 (by omega) (by omega)).mono ?_
  rintro e w1 ⟨A1, a1, A2, a2, q1, rfl, h1, f1, b1⟩
  have H1 := Lib.hid h1
  have F1 := Lib.hid f1
  have B1 := Lib.hid b1
  clear h1 f1 b1
  go_wp2_with fail
  refine (visit_calls _ 1 1 4 (by omega) (by omega)).mono ?_
  rintro e w2 ⟨A3, a3, A4, a4, q2, rfl, h2, f2, b2⟩
  have H2 := Lib.hid h2
  have F2 := Lib.hid f2
  have B2 := Lib.hid b2
  clear h2 f2 b2
  go_wp2_with fail
  refine (visit_calls _ 2 2 3 (by omega) (by omega)).mono ?_
  rintro e w3 ⟨A5, a5, A6, a6, q3, rfl, h3, f3, b3⟩
  have H3 := Lib.hid h3
  have F3 := Lib.hid f3
  have B3 := Lib.hid b3
  clear h3 f3 b3
  go_upto_region 2 with fail
  have al4 := below_alloc0 w3 (.cells #[.int .i64 1, .int .i64 2, .bool (decide (q1.num < 0)), .slice A1 (dg q1.num.natAbs).length a1, .slice A2 (dg q1.den).length a2, .int .i64 1, .int .i64 1, .bool (decide (q2.num < 0)), .slice A3 (dg q2.num.natAbs).length a3, .slice A4 (dg q2.den).length a4, .int .i64 2, .int .i64 2, .bool (decide (q3.num < 0)), .slice A5 (dg q3.num.natAbs).length a5, .slice A6 (dg q3.den).length a6] 40)
  have K4 := Blk.new w3 40 #[.int .i64 1, .int .i64 2, .bool (decide (q1.num < 0)), .slice A1 (dg q1.num.natAbs).length a1, .slice A2 (dg q1.den).length a2, .int .i64 1, .int .i64 1, .bool (decide (q2.num < 0)), .slice A3 (dg q2.num.natAbs).length a3, .slice A4 (dg q2.den).length a4, .int .i64 2, .int .i64 2, .bool (decide (q3.num < 0)), .slice A5 (dg q3.num.natAbs).length a5, .slice A6 (dg q3.den).length a6]
  obtain ⟨w4, hw4⟩ : ∃ W, W = w3.alloc (.cells #[.int .i64 1, .int .i64 2, .bool (decide (q1.num < 0)), .slice A1 (dg q1.num.natAbs).length a1, .slice A2 (dg q1.den).length a2, .int .i64 1, .int .i64 1, .bool (decide (q2.num < 0)), .slice A3 (dg q2.num.natAbs).length a3, .slice A4 (dg q2.den).length a4, .int .i64 2, .int .i64 2, .bool (decide (q3.num < 0)), .slice A5 (dg q3.num.natAbs).length a5, .slice A6 (dg q3.den).length a6] 40) := ⟨_, rfl⟩
  have hs4 : w4.heap.size = w3.heap.size + 1 := by rw [hw4]; simp
  rw [← hw4] at al4 K4 ⊢
  have al5 := below_alloc0 w4 (.cells #[.int .i64 2, .int .i64 1, .slice (some ⟨w3.heap.size, 0, none⟩) 3 3] 24)
  have K5 := Blk.new w4 24 #[.int .i64 2, .int .i64 1, .slice (some ⟨w3.heap.size, 0, none⟩) 3 3]
  obtain ⟨w5, hw5⟩ : ∃ W, W = w4.alloc (.cells #[.int .i64 2, .int .i64 1, .slice (some ⟨w3.heap.size, 0, none⟩) 3 3] 24) := ⟨_, rfl⟩
  rw [← hw5] at al5 K5 ⊢
  rw [hs4] at K5
  have hb5 := bl_trans (bl_trans (bl_trans B1.out B2.out) B3.out) (bl_trans al4 al5)
  have hvl := doc_vl (K4.below al5) (FrV.below (FrV.below F1.out B2.out) (bl_trans B3.out (bl_trans al4 al5))) (FrV.below F2.out (bl_trans B3.out (bl_trans al4 al5))) (FrV.below F3.out (bl_trans al4 al5)) (H1.out.trans (by rfl)) (H2.out.trans (by rfl)) (H3.out.trans (by rfl))
  have HVL := Lib.hid hvl
  have HB5 := Lib.hid hb5
  have HK5 := Lib.hid K5
  obtain ⟨gv, hgv⟩ : ∃ g, g = w3.heap.size := ⟨_, rfl⟩
  rw [← hgv] at HVL HK5 ⊢
  clear al4 K4 hw4 hs4 al5 K5 hw5 hb5 hvl hgv H1 H2 H3 F1 F2 F3 B1 B2 B3
  have k0 := HK5.out.cell 0
  have k1 := HK5.out.cell 1
  have k2 := HK5.out.cell 2
  go_wp2_with fail
  refine (sell_calls _ 2 1 (some ⟨gv, 0, none⟩) 3 docL HVL.out (doc_few.mono (by omega))).mono ?_
  rintro e w6 ⟨hb6, ⟨hrn, _⟩ | ⟨_, gs, rfl, hgs, hT⟩⟩
  · exact absurd doc_right hrn
  rw [docL_tide] at hT
  have hT : Tb w6 gs 3 3 3 (fun j => .int .i64 (docT.sold 1 2 j)) := hT
  have HT := Lib.hid hT
  have HB6 := Lib.hid (bl_trans HB5.out hb6)
  have HV6 := Lib.hid (HVL.out.below hb6)
  have HK6 := Lib.hid (HK5.out.below hb6)
  clear hT hb6 hgs k0 k1 k2
  have k0 := HK6.out.cell 0
  have k1 := HK6.out.cell 1
  have k2 := HK6.out.cell 2
  go_wp2_with fail
  refine (pays_calls _ 2 1 (some ⟨gv, 0, none⟩) 3 docL HV6.out (doc_few.mono (by omega))).mono ?_
  rintro e w7 ⟨hb7, ⟨hrn, _⟩ | ⟨_, gp, rfl, hgp, hP⟩⟩
  · exact absurd doc_right hrn
  rw [docL_tide] at hP
  have hP : FB w7 gp 3 3 (fun j => dq (docT.pay 1 2 j)) := hP
  have HP := Lib.hid hP
  have HT7 := Lib.hid (HT.out.fr (Fr.of_below (S := fun _ => False) hb7) (fun h => h))
  have HB7 := Lib.hid (bl_trans HB6.out hb7)
  have HV7 := Lib.hid (HV6.out.below hb7)
  have HK7 := Lib.hid (HK6.out.below hb7)
  clear hP hb7 hgp k0 k1 k2
  have hlen : docL.length = 3 := rfl
  rw [hlen]
  go_wp2_with fail
  have al8 := below_alloc0 w7 (.cells #[.int .i64 1, .int .i64 0, .int .i64 2] 3)
  have K8 := Blk.new w7 3 #[.int .i64 1, .int .i64 0, .int .i64 2]
  refine (sameints_calls _ gs w7.heap.size 3 (fun j => docT.sold 1 2 j) (HT7.out.fr (Fr.of_below (S := fun _ => False) al8) (fun h => h)) (doc_ints K8) (by omega)).mono ?_
  rintro e w8 ⟨rfl, hb8⟩
  have hb78 := bl_trans al8 hb8
  have HP8 := Lib.hid (HP.out.below hb78)
  have HB8 := Lib.hid (bl_trans HB7.out hb78)
  have HV8 := Lib.hid (HV7.out.below hb78)
  have HK8 := Lib.hid (HK7.out.below hb78)
  clear al8 K8 hb8 hb78
  have k0 := HK8.out.cell 0
  have k1 := HK8.out.cell 1
  have k2 := HK8.out.cell 2
  go_wp2_with fail
  have al9 := below_alloc0 w8 (.cells #[.int .i64 2, .int .i64 1, .int .i64 0] 3)
  have K9 := Blk.new w8 3 #[.int .i64 2, .int .i64 1, .int .i64 0]
  refine (planned_calls _ 2 1 (some ⟨gv, 0, none⟩) 3 docL (HV8.out.below al9) (doc_few.mono (by omega)) _ [2, 1, 0] (doc_list K9)).mono ?_
  rintro e w9 ⟨hb9, v9, rfl, hv9⟩
  rw [doc_planB, if_pos rfl, docL_tide] at hv9
  have hv9 : FrV w9 v9 (docT.wsum (pday [2, 1, 0]) 3) := hv9
  rw [doc_plan.2] at hv9
  rw [doc_planB]
  obtain ⟨q, hq⟩ : ∃ q : Rat, q = 9 := ⟨_, rfl⟩
  rw [← hq] at hv9
  obtain ⟨P1, n1, P2, n2, rfl, _, _, _, _⟩ := FrIn.shape hv9
  have HQ := Lib.hid hq
  have HV9 := Lib.hid hv9
  have HB9 := Lib.hid (bl_trans (bl_trans HB8.out al9) hb9)
  have HP9 := Lib.hid (HP8.out.below (bl_trans al9 hb9))
  clear al9 K9 hb9 hv9 hq k0 k1 k2
  go_upto_region 7 with fail
  have al10 := below_alloc0 w9 (.cells #[.bool (decide (q.num < 0)), .slice P1 (dg q.num.natAbs).length n1, .slice P2 (dg q.den).length n2] 38)
  have K10 := Blk.new w9 38 #[.bool (decide (q.num < 0)), .slice P1 (dg q.num.natAbs).length n1, .slice P2 (dg q.den).length n2]
  obtain ⟨w10, hw10⟩ : ∃ W, W = w9.alloc (.cells #[.bool (decide (q.num < 0)), .slice P1 (dg q.num.natAbs).length n1, .slice P2 (dg q.den).length n2] 38) := ⟨_, rfl⟩
  rw [← hw10] at al10 K10 ⊢
  have hpl : (List.range 3).map (fun j => dq (docT.pay 1 2 j)) = [docT.pay 1 2 0, docT.pay 1 2 1, docT.pay 1 2 2].map dq := rfl
  have hfl := (HP9.out.below al10).fl
  rw [hpl] at hfl
  obtain ⟨p0, hp0⟩ : ∃ p : Rat, p = docT.pay 1 2 0 := ⟨_, rfl⟩
  obtain ⟨p2, hp2⟩ : ∃ p : Rat, p = docT.pay 1 2 2 := ⟨_, rfl⟩
  obtain ⟨ad0, l0, C1, c1, C2, c2, hv0, _, _, m0, m1, m2, fp0⟩ := hfl.atq (k := 0) (q := p0) (by rw [hp0]; rfl)
  obtain ⟨ad2, l2, D1, d1, D2, d2, hv2, _, _, m3, m4, m5, fp2⟩ := hfl.atq (k := 2) (q := p2) (by rw [hp2]; rfl)
  obtain rfl : ⟨gp, 0, none⟩ = ad0 := by simpa using (by simpa using hv0 : (some (⟨gp, 0, none⟩ : Addr) = some ad0) ∧ _).1
  obtain rfl : ⟨gp, 0, none⟩ = ad2 := by simpa using (by simpa using hv2 : (some (⟨gp, 0, none⟩ : Addr) = some ad2) ∧ _).1
  rw [add_row] at m0 m1 m2 m3 m4 m5
  obtain ⟨gb, hgb⟩ : ∃ g, g = w9.heap.size := ⟨_, rfl⟩
  rw [← hgb] at K10 ⊢
  replace hp0 : p0 = 3 := hp0.trans doc_pay.1
  replace hp2 : p2 = 0 := hp2.trans doc_pay.2
  have hs0 : Short p0 := by rw [hp0]; exact (int_len (n := 3) (by omega) (by omega)).short (by omega)
  have hs2 : Short p2 := by rw [hp2]; exact (int_len (n := 0) (by omega) (by omega)).short (by omega)
  have hsq : Short q := by rw [HQ.out]; exact (int_len (n := 9) (by omega) (by omega)).short (by omega)
  have z3 : Short ((3 : Int) : Rat) := (int_len (n := 3) (by omega) (by omega)).short (by omega)
  have z9 : Short ((9 : Int) : Rat) := (int_len (n := 9) (by omega) (by omega)).short (by omega)
  have he0 : decide (p0 = ((3 : Int) : Rat)) = true := decide_eq_true (by rw [hp0]; rfl)
  have he9 : decide (q = ((9 : Int) : Rat)) = true := decide_eq_true (by rw [HQ.out]; rfl)
  have hsg : p2.num.sign = 0 := by rw [hp2]; rfl
  have hs : (fun w' => DocH w10 (.agg #[.bool (decide (p0.num < 0)), .slice C1 (dg p0.num.natAbs).length c1, .slice C2 (dg p0.den).length c2]) (.agg #[.bool (decide (p2.num < 0)), .slice D1 (dg p2.num.natAbs).length d1, .slice D2 (dg p2.den).length d2]) (.agg #[.bool (decide (q.num < 0)), .slice P1 (dg q.num.natAbs).length n1, .slice P2 (dg q.den).length n2]) p0 p2 q w' ∧ (w'.cell? ⟨gp, 0, none⟩ = some (.bool (decide (p0.num < 0))) ∧ w'.cell? ⟨gp, 1, none⟩ = some (.slice C1 (dg p0.num.natAbs).length c1) ∧ w'.cell? ⟨gp, 2, none⟩ = some (.slice C2 (dg p0.den).length c2)) ∧ (w'.cell? ⟨gp, 6, none⟩ = some (.bool (decide (p2.num < 0))) ∧ w'.cell? ⟨gp, 7, none⟩ = some (.slice D1 (dg p2.num.natAbs).length d1) ∧ w'.cell? ⟨gp, 8, none⟩ = some (.slice D2 (dg p2.den).length d2)) ∧ (w'.cell? ⟨gb, 0, none⟩ = some (.bool (decide (q.num < 0))) ∧ w'.cell? ⟨gb, 1, none⟩ = some (.slice P1 (dg q.num.natAbs).length n1) ∧ w'.cell? ⟨gb, 2, none⟩ = some (.slice P2 (dg q.den).length n2))) w10.drew := doch_next (bl_drew w10) ⟨(⟨Below.refl _ _, fp0, fp2, FrV.below HV9.out al10⟩ : DocH w10 _ _ _ p0 p2 q w10), ⟨m0, m1, m2⟩, ⟨m3, m4, m5⟩, ⟨K10.cell 0, K10.cell 1, K10.cell 2⟩⟩
  have HS := Lib.hid hs
  have HE0 := Lib.hid he0
  have HE9 := Lib.hid he9
  have HSG := Lib.hid hsg
  have HB10 := Lib.hid (bl_trans HB9.out al10)
  have Z3 := Lib.hid z3
  have Z9 := Lib.hid z9
  have S0 := Lib.hid hs0
  have S2 := Lib.hid hs2
  have SQ := Lib.hid hsq
  clear hpl hfl hv0 hv2 m0 m1 m2 m3 m4 m5 fp0 fp2 hgb hw10 al10 K10 hp0 hp2 hs0 hs2 hsq z3 z9 he0 he9 hsg hs
  have hs := HS.out
  go_wp2_with fail
  go_region_held3 (fun w' => DocH w10 (.agg #[.bool (decide (p0.num < 0)), .slice C1 (dg p0.num.natAbs).length c1, .slice C2 (dg p0.den).length c2]) (.agg #[.bool (decide (p2.num < 0)), .slice D1 (dg p2.num.natAbs).length d1, .slice D2 (dg p2.den).length d2]) (.agg #[.bool (decide (q.num < 0)), .slice P1 (dg q.num.natAbs).length n1, .slice P2 (dg q.den).length n2]) p0 p2 q w' ∧ (w'.cell? ⟨gp, 0, none⟩ = some (.bool (decide (p0.num < 0))) ∧ w'.cell? ⟨gp, 1, none⟩ = some (.slice C1 (dg p0.num.natAbs).length c1) ∧ w'.cell? ⟨gp, 2, none⟩ = some (.slice C2 (dg p0.den).length c2)) ∧ (w'.cell? ⟨gp, 6, none⟩ = some (.bool (decide (p2.num < 0))) ∧ w'.cell? ⟨gp, 7, none⟩ = some (.slice D1 (dg p2.num.natAbs).length d1) ∧ w'.cell? ⟨gp, 8, none⟩ = some (.slice D2 (dg p2.den).length d2)) ∧ (w'.cell? ⟨gb, 0, none⟩ = some (.bool (decide (q.num < 0))) ∧ w'.cell? ⟨gb, 1, none⟩ = some (.slice P1 (dg q.num.natAbs).length n1) ∧ w'.cell? ⟨gb, 2, none⟩ = some (.slice P2 (dg q.den).length n2)))
    ((first | exact hs | exact doch_next hbN (by assumption)))
    (first
      | (go_at_call 52; (with_reducible refine (rint_calls _ _ (by decide) (by decide)).mono ?_); (rintro e w' ⟨vN, rfl, hvN, hbN⟩); (have H1 := DocH.next hbN (And.left (by assumption))))
      | (go_at_call 29; (with_reducible refine (same_q _ _ _ p0 ((3 : Int) : Rat) ?_ ?_).mono ?_); (exact DocH.a (And.left (by assumption)) S0.out); (exact FrV.q (by assumption) Z3.out); (rintro e w' ⟨rfl, hbN⟩); (rw [HE0.out]); (have H1 := DocH.next hbN (And.left (by assumption))))
      | (go_at_call 29; (with_reducible refine (same_q _ _ _ q ((9 : Int) : Rat) ?_ ?_).mono ?_); (exact DocH.c (And.left (by assumption)) SQ.out); (exact FrV.q (by assumption) Z9.out); (rintro e w' ⟨rfl, hbN⟩); (rw [HE9.out]); (have H1 := DocH.next hbN (And.left (by assumption))))
      | (go_at_call 22; (with_reducible refine (rsignq _ _ p2 ?_).mono ?_); (exact DocH.b (And.left (by assumption)) S2.out); (rintro e w' ⟨rfl, hbN⟩); (rw [HSG.out]); (have H1 := DocH.next hbN (And.left (by assumption)))))
  go_wp2
  go_ret
  exact ⟨rfl, bl_trans HB10.out H1.1⟩
end Go.Proofs.Ytajckdheecgceaa
