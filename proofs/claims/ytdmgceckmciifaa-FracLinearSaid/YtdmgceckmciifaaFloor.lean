/- The functions of frac: Floor. -/
import Derived.Test.YtdmgceckmciifaaApi
set_option linter.unusedVariables false
set_option linter.unusedSimpArgs false
namespace Go.Proofs.Ytdmgceckmciifaa
open Go.RowKit

/-- The greatest whole number that is not above. -/
def rfloor (q : Rat) : Int := q.num / (q.den : Int)
theorem floor_pos {q : Rat} (h : ¬ q.num < 0) : rfloor q = ((q.num.natAbs / q.den : Nat) : Int) := by
  rw [rfloor, Int.natCast_ediv, Int.natAbs_of_nonneg (by omega)]
theorem floor_neg {q : Rat} (h : q.num < 0) (hr : q.num.natAbs % q.den = 0) : rfloor q = -((q.num.natAbs / q.den : Nat) : Int) ∧ 0 < q.num.natAbs / q.den := by
  have hd := q.den_pos
  obtain ⟨n, hn⟩ : ∃ n, n = q.num.natAbs := ⟨_, rfl⟩
  obtain ⟨d, hd'⟩ : ∃ d, d = q.den := ⟨_, rfl⟩
  have e : q.num = -(n : Int) := by omega
  rw [← hn, ← hd'] at hr ⊢
  rw [← hd'] at hd
  rw [rfloor, e, ← hd']
  clear hn hd'
  obtain ⟨k, hk⟩ := Nat.dvd_of_mod_eq_zero hr
  subst hk
  have hk0 : 0 < k := by
    rcases Nat.eq_zero_or_pos k with rfl | hk0
    · omega
    · exact hk0
  rw [Nat.mul_div_cancel_left _ hd]
  refine ⟨?_, hk0⟩
  rw [Int.natCast_mul, ← Int.mul_neg, Int.mul_ediv_cancel_left _ (by omega)]
theorem floor_neg2 {q : Rat} (h : q.num < 0) (hr : 0 < q.num.natAbs % q.den) : rfloor q = -((q.num.natAbs / q.den + 1 : Nat) : Int) := by
  have hd := q.den_pos
  obtain ⟨n, hn⟩ : ∃ n, n = q.num.natAbs := ⟨_, rfl⟩
  obtain ⟨d, hd'⟩ : ∃ d, d = q.den := ⟨_, rfl⟩
  have e : q.num = -(n : Int) := by omega
  rw [← hn, ← hd'] at hr ⊢
  rw [← hd'] at hd
  rw [rfloor, e, ← hd']
  clear hn hd'
  have h1 := Nat.div_add_mod n d
  have h2 := Nat.mod_lt n hd
  obtain ⟨x, hx⟩ : ∃ x, x = n / d := ⟨_, rfl⟩
  obtain ⟨y, hy⟩ : ∃ y, y = n % d := ⟨_, rfl⟩
  rw [← hx, ← hy] at h1
  rw [← hy] at h2 hr
  rw [← hx]
  have e2 : -(n : Int) = ((d : Int) - y) + (d : Int) * -((x + 1 : Nat) : Int) := by
    rw [← h1]; push_cast; rw [Int.mul_neg, Int.mul_add]; omega
  rw [e2, Int.add_mul_ediv_left _ _ (by omega), Int.ediv_eq_zero_of_lt (by omega) (by omega), Int.zero_add]
theorem RtV.one_lit (W : World) : Nm (W.alloc (.cells #[.int .u32 1] 38)) (.slice (some ⟨W.heap.size, 0, none⟩) 1 1) 1 := Nm.lit1 _ _ (heap_alloc_new W _)
theorem RtV.whole {W : World} {A : Option Addr} {m c : Nat} (z : Int) (hz : z.natAbs = m) (b : Bool) (hb : b = decide (z < 0)) (hv : Nm W (.slice A (dg m).length c) m) (r : Rat) (hr : r = (z : Rat)) :
    RtV (W.alloc (.cells #[.int .u32 1] 38)) (.agg #[.slice A (dg m).length c, .slice (some ⟨W.heap.size, 0, none⟩) 1 1, .bool b]) r := by
  subst hr hz
  exact RtV.int (hv.below (below_alloc0 _ _)) (RtV.one_lit W) b hb
theorem frac_floor_calls (w : World) (va : Value) (na : Bool) (lna lda : List Int) (ha : FrIn w va na lna lda) (hsa : lna.length + lda.length ≤ 4096) (hres : Short (rfloor (fixq na lna lda) : Int)) :
    Calls Try.prog 28 #[va] w (FrPost (rfloor (fixq na lna lda) : Int) w) := by
  have s1 : Szq 4097 (fixq na lna lda) := szq_fix (k := 4097) ha.wd.1 ha.wd.2 (by omega) (by omega) (by omega)
  have hf := ha
  obtain ⟨A, c, A2, c2, rfl, _, _, _, _⟩ := ha.shape
  have H := held1_new w 24 24 (.bool na) (.slice A lna.length c) (.slice A2 lda.length c2) (.bool false) (.slice none 0 0) (.slice none 0 0) (boolne _) (slne _ _ _) (slne _ _ _)
  obtain ⟨q, hq⟩ : ∃ q, q = (fixq na lna lda) := ⟨_, rfl⟩
  rw [← hq] at hres s1 ⊢
  obtain ⟨r, hr⟩ : ∃ r : Rat, r = (rfloor q : Int) := ⟨_, rfl⟩
  rw [← hr] at hres ⊢
  have HR := Lib.hid hr
  have HQ := Lib.hid hq
  have hd0 := q.den_pos
  have y1 : (dg q.num.natAbs).length ≤ 1073741823 := Nat.le_trans s1.1 (by omega)
  clear hq hr
  go_enter Try.func28, Try.ntmps28
  go_wp2_with fail
  refine (taken_calls _ _ na lna lda (hf.below H.bl) hsa).mono ?_
  rintro e w1 ⟨v, rfl, hva, hb1⟩
  rw [← HQ.out] at hva
  have Ha := Held1.next hb1 H
  obtain ⟨B3, d3, B4, d4, rfl, hn, hd⟩ := hva.open
  have K := Blk.new w1 59 #[.slice B3 (dg q.num.natAbs).length d3, .slice B4 (dg q.den).length d4, .bool (decide (q.num < 0))]
  have hb2 := below_alloc0 w1 (.cells #[.slice B3 (dg q.num.natAbs).length d3, .slice B4 (dg q.den).length d4, .bool (decide (q.num < 0))] 59)
  replace hn := hn.below hb2
  replace hd := hd.below hb2
  replace Ha := Held1.next hb2 Ha
  clear hf hva H
  go_wp2_with fail
  refine (div_calls _ _ _ _ _ hn hd hd0 y1).mono ?_
  rintro e w3 ⟨vq, vr, rfl, hvq, hvr, hb3⟩
  replace K := K.below hb3
  replace Ha := Held1.next hb3 Ha
  have m2 := K.cell 2
  obtain ⟨B5, d5, rfl⟩ := hvq.shape
  obtain ⟨B6, d6, rfl⟩ := hvr.shape
  clear hn hd hb1 hb2 hb3
  obtain ⟨m, hm⟩ : ∃ m, m = q.num.natAbs / q.den := ⟨_, rfl⟩
  rw [← hm] at hvq ⊢
  by_cases hn : q.num < 0
  · have e1 := decide_eq_true hn
    rw [e1] at K m2 ⊢
    by_cases hr : q.num.natAbs % q.den = 0
    · obtain ⟨hF, hp⟩ := floor_neg hn hr
      rw [← hm] at hF hp
      have e2 : (dg (q.num.natAbs % q.den)).length = 0 := dg_len_zero.2 hr
      have e3 : 0 < (dg m).length := Nat.pos_of_ne_zero (fun h => by have := dg_len_zero.1 h; omega)
      have HR2 := Lib.hid (show r = ((-(m : Int) : Int) : Rat) by rw [HR.out, hF])
      have HV := hvq
      clear hn hr hd0 s1 y1 hF hm hvq hvr
      have mA := fun o => (K.below (below_alloc0 w3 o)).cell 2
      have H2 := Held1.next (below_alloc0 w3 (.cells #[.int .u32 1] 38)) Ha
      go_wp2_with fail
      refine (told_calls _ _ r (RtV.whole (-(m : Int)) (by omega) true (by first | (simp; done) | (simp; omega)) HV r HR2.out) hres).mono ?_
      rintro e w5 ⟨v5, rfl, hfr, hb5⟩
      have H1 := Held1.next hb5 H2
      clear Ha H2 K m2 hres mA HV
      obtain ⟨B1, d1, B2, d2, rfl, r1, r2, r3, r4⟩ := FrIn.shape hfr
      obtain ⟨⟨x0, x1, x2, m0, m1, m2⟩, f1⟩ := H1.store
      go_wp2
      obtain ⟨t1, t2⟩ := H1.res (.bool (decide (r.num < 0))) (.slice B1 (dg r.num.natAbs).length d1) (.slice B2 (dg r.den).length d2)
      exact bodyPost_ret (results_cell_row rfl _ _ (w.heap.size + 1) 24 _ (0, 0) _ rfl t2 Try.underlying24 rfl (by kernel_rfl)) rfl ⟨_, rfl, ⟨_, _, rfl, H1.kept r1 _ _ _, H1.kept r2 _ _ _, r3, r4⟩, t1⟩
    · have hp : 0 < q.num.natAbs % q.den := Nat.pos_of_ne_zero hr
      have hF := floor_neg2 hn hp
      rw [← hm] at hF
      have e2 : 0 < (dg (q.num.natAbs % q.den)).length := Nat.pos_of_ne_zero (fun h => hr (dg_len_zero.1 h))
      have sm : (dg m).length ≤ 1073741824 := Nat.le_trans (dg_len_mono (by rw [hm]; exact Nat.div_le_self _ _)) (Nat.le_trans y1 (by omega))
      have HR2 := Lib.hid (show r = ((-((m + 1 : Nat) : Int) : Int) : Rat) by rw [HR.out, hF])
      have HL := RtV.one_lit w3
      clear hn hr hd0 s1 y1 hF hm hvr hp
      go_wp2_with fail
      have hb3 := below_alloc0 w3 (.cells #[.int .u32 1] 38)
      refine (add_calls _ _ _ m 1 (hvq.below hb3) HL sm (by rw [dg_one]; simp)).mono ?_
      rintro e w4 ⟨v4, rfl, HV, hb4⟩
      replace K := (K.below hb3).below hb4
      replace Ha := Held1.next hb4 (Held1.next hb3 Ha)
      have m3 := K.cell 2
      have e3 : 0 < (dg (m + 1)).length := Nat.pos_of_ne_zero (fun h => by have := dg_len_zero.1 h; omega)
      obtain ⟨B5, d5, rfl⟩ := HV.shape
      clear HL hvq sm
      have mA := fun o => (K.below (below_alloc0 w4 o)).cell 2
      have H2 := Held1.next (below_alloc0 w4 (.cells #[.int .u32 1] 38)) Ha
      go_wp2_with fail
      refine (told_calls _ _ r (RtV.whole (-((m + 1 : Nat) : Int)) (by omega) true (by first | (simp; done) | (simp; omega)) HV r HR2.out) hres).mono ?_
      rintro e w5 ⟨v5, rfl, hfr, hb5⟩
      have H1 := Held1.next hb5 H2
      clear Ha H2 K m2 hres mA HV
      obtain ⟨B1, d1, B2, d2, rfl, r1, r2, r3, r4⟩ := FrIn.shape hfr
      obtain ⟨⟨x0, x1, x2, m0, m1, m2⟩, f1⟩ := H1.store
      go_wp2
      obtain ⟨t1, t2⟩ := H1.res (.bool (decide (r.num < 0))) (.slice B1 (dg r.num.natAbs).length d1) (.slice B2 (dg r.den).length d2)
      exact bodyPost_ret (results_cell_row rfl _ _ (w.heap.size + 1) 24 _ (0, 0) _ rfl t2 Try.underlying24 rfl (by kernel_rfl)) rfl ⟨_, rfl, ⟨_, _, rfl, H1.kept r1 _ _ _, H1.kept r2 _ _ _, r3, r4⟩, t1⟩
  · have e1 := decide_eq_false hn
    rw [e1] at K m2 ⊢
    have hF := floor_pos hn
    rw [← hm] at hF
    have HR2 := Lib.hid (show r = (((m : Nat) : Int) : Rat) by rw [HR.out, hF])
    have HV := hvq
    clear hn hd0 s1 y1 hF hm hvq hvr
    have mA := fun o => (K.below (below_alloc0 w3 o)).cell 2
    have H2 := Held1.next (below_alloc0 w3 (.cells #[.int .u32 1] 38)) Ha
    go_wp2_with fail
    refine (told_calls _ _ r (RtV.whole ((m : Int)) (by omega) false (by first | (simp; done) | (simp; omega)) HV r HR2.out) hres).mono ?_
    rintro e w5 ⟨v5, rfl, hfr, hb5⟩
    have H1 := Held1.next hb5 H2
    clear Ha H2 K m2 hres mA HV
    obtain ⟨B1, d1, B2, d2, rfl, r1, r2, r3, r4⟩ := FrIn.shape hfr
    obtain ⟨⟨x0, x1, x2, m0, m1, m2⟩, f1⟩ := H1.store
    go_wp2
    obtain ⟨t1, t2⟩ := H1.res (.bool (decide (r.num < 0))) (.slice B1 (dg r.num.natAbs).length d1) (.slice B2 (dg r.den).length d2)
    exact bodyPost_ret (results_cell_row rfl _ _ (w.heap.size + 1) 24 _ (0, 0) _ rfl t2 Try.underlying24 rfl (by kernel_rfl)) rfl ⟨_, rfl, ⟨_, _, rfl, H1.kept r1 _ _ _, H1.kept r2 _ _ _, r3, r4⟩, t1⟩
end Go.Proofs.Ytdmgceckmciifaa
