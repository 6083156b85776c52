/- Words: div. -/
import Derived.Test.YtajckdheecgceaaDigit2
import Derived.Test.YtajckdheecgceaaSmall
set_option linter.unusedVariables false
set_option linter.unusedSimpArgs false
namespace Go.Proofs.Ytajckdheecgceaa
open Go.RowKit

/-- trim, of whatever is read. -/
def NmPost (n : Nat) (w : World) (e : Ending) (w' : World) : Prop := ∃ v, e = .returned v ∧ Nm w' v n ∧ Below w.heap.size w w'
theorem RdI.take {k : IntKind} {w : World} {A : Option Addr} {l : List Int} {n c c' : Nat} (h : RdI k w (.slice A n c) l) (m : Nat) (hm : m ≤ l.length) (hc : m ≤ c') (hm2 : c' ≤ 9223372036854775807) : RdI k w (.slice A m c') (l.take m) := by
  obtain ⟨A', c1, hv, hl, hcc, hr⟩ := h
  injection hv with ha hn hc1
  subst ha hc1
  have hlen : (l.take m).length = m := by rw [List.length_take]; omega
  refine ⟨A, c', by rw [hlen], by omega, hm2, fun h0 => ?_⟩
  obtain ⟨ad, hA, hcell⟩ := hr (by omega)
  refine ⟨ad, hA, fun j hj => ?_⟩
  rw [hcell j (by omega)]
  simp only [wat, List.getD_eq_getElem?_getD]
  rw [List.getElem?_take_of_lt (by omega)]
theorem trim_rd (w : World) (va : Value) (l : List Int) (ha : RdI .u32 w va l) (hw : Wd l) :
    Calls Try.prog 127 #[va] w (NmPost (nv l) w) := by
  have ha0 := ha
  obtain ⟨A, c, rfl, hl, hc, hr⟩ := ha
  by_cases hl0 : l.length = 0
  · have e : l = [] := List.length_eq_zero_iff.1 hl0
    subst e
    clear hr ha0
    go_enter Try.func127, Try.ntmps127
    go_wp2
    go_loop [3] (fun i => i = .int .i64 0) (fun i => (intOf i).toNat)
    case atStart => rfl
    case round =>
      subst hrel
      go_wp2
      go_ret
      refine ⟨_, rfl, ?_, Below.refl _ _⟩
      show RdI .u32 w _ (dg 0)
      rw [dg_zero]
      exact ⟨_, 0, rfl, by simp, by omega, fun h => absurd h (by simp)⟩
  · obtain ⟨ad, rfl, hcell⟩ := hr (by omega)
    go_enter Try.func127, Try.ntmps127
    go_wp2
    go_loop [3] (fun i => ∃ k : Nat, k ≤ l.length ∧ i = .int .i64 k ∧ nv (l.drop k) = 0) (fun i => (intOf i).toNat)
    case atStart => exact ⟨_, Nat.le_refl _, rfl, nv_drop_all _ (Nat.le_refl _)⟩
    case round =>
      obtain ⟨k, hk, rfl, hz⟩ := hrel
      have HZ := Lib.hid hz
      have HA := Lib.hid ha0
      clear hz hr ha0
      by_cases h0 : 0 < k
      · obtain ⟨j, rfl⟩ : ∃ j, k = j + 1 := ⟨k - 1, by omega⟩
        have e1 := hcell j (by omega)
        clear hcell
        by_cases h1 : wat l j = 0
        · have g1 : (wat l j == 0) = true := by simp [h1]
          have H1 := Lib.hid h1
          clear h1
          go_wp2
          exact ⟨⟨j, by omega, rfl, by rw [nv_drop_wat (by omega), HZ.out, H1.out]; rfl⟩, by simp [intOf]⟩
        · have g1 : (wat l j == 0) = false := by simp [h1]
          have H1 := Lib.hid h1
          clear h1
          go_wp2
          go_ret
          refine ⟨_, rfl, ?_, Below.refl _ _⟩
          have := HA.out.take (j + 1) hk (Nat.le_refl _) (by omega)
          rw [dg_trim hw hk HZ.out (fun _ => H1.out)] at this
          exact this
      · obtain rfl : k = 0 := by omega
        clear hcell
        go_wp2
        go_ret
        refine ⟨_, rfl, ?_, Below.refl _ _⟩
        have := HA.out.take 0 hk (Nat.le_refl _) (by omega)
        rw [dg_trim hw hk HZ.out (fun h => absurd h (by omega))] at this
        exact this

/-- What holds of the rest R and the quotient's words Q, k of them to come. -/
structure DivRel (R Q : List Int) (D N len m k : Nat) : Prop where
  lenR : R.length = len
  lenQ : Q.length + m = len
  wdR : Wd R
  wdQ : Wd Q
  kq : k ≤ Q.length
  sum : N = nv R + D * (4294967296 ^ k * nv (Q.drop k))
  top : nv (R.drop k) < D
theorem DivRel.win {R Q : List Int} {D N len m k : Nat} (h : DivRel R Q D N len m (k + 1)) (hD : D < 4294967296 ^ m) :
    nv (R.drop (k + m + 1)) = 0 ∧ ((R.drop k).take (m + 1)).length = m + 1 ∧ nv ((R.drop k).take (m + 1)) = nv (R.drop k) ∧ nv (R.drop k) < D * 4294967296 := by
  obtain ⟨h1, h2, h3, h4, h5, h6, h7⟩ := h
  have s1 := nv_split (R.drop (k + 1)) m (by simp; omega)
  rw [List.drop_drop, show k + 1 + m = k + m + 1 by omega] at s1
  have z : nv (R.drop (k + m + 1)) = 0 := by
    rcases Nat.eq_zero_or_pos (nv (R.drop (k + m + 1))) with h0 | h0
    · exact h0
    · have := Nat.mul_le_mul_left (4294967296 ^ m) h0
      rw [Nat.mul_one] at this
      omega
  have s2 := nv_split (R.drop k) (m + 1) (by simp; omega)
  rw [List.drop_drop, show k + (m + 1) = k + m + 1 by omega, z, Nat.mul_zero, Nat.add_zero] at s2
  have s3 := nv_drop_wat (l := R) (k := k) (by omega)
  have r := wat_range h3 k
  refine ⟨z, by simp; omega, s2.symm, ?_⟩
  rw [s3]
  omega
theorem DivRel.step {R Q u : List Int} {D N len m k : Nat} (h : DivRel R Q D N len m (k + 1)) (hD : D < 4294967296 ^ m) (hD0 : 0 < D) (hul : u.length = m + 1) (hwu : Wd u) (hu : nv u = nv (R.drop k) % D) (q : Int) (hq : q = ((nv (R.drop k) / D : Nat) : Int)) :
    DivRel (R.take k ++ (u ++ R.drop (k + m + 1))) (Q.set k q) D N len m k := by
  obtain ⟨z, w1, w2, w3⟩ := h.win hD
  obtain ⟨h1, h2, h3, h4, h5, h6, h7⟩ := h
  have hqlt : nv (R.drop k) / D < 4294967296 := by rw [Nat.div_lt_iff_lt_mul hD0, Nat.mul_comm]; exact w3
  have hq2 : 0 ≤ q ∧ q < 4294967296 := by
    obtain ⟨a, ha⟩ : ∃ a, a = nv (R.drop k) / D := ⟨_, rfl⟩
    rw [← ha] at hq hqlt
    omega
  have e1 : nv (R.take k ++ (u ++ R.drop (k + m + 1))) = nv (R.take k) + 4294967296 ^ k * nv u := by
    rw [nv_append, nv_append, z, Nat.mul_zero, Nat.add_zero, List.length_take, Nat.min_eq_left (by omega)]
  have e2 := nv_split R k (by omega)
  have e3 := Nat.div_add_mod (nv (R.drop k)) D
  refine ⟨by simp; omega, by simp; omega, ?_, Wd_set h4 _ _ hq2, by simp; omega, ?_, ?_⟩
  · rw [Wd_append, Wd_append]; exact ⟨Wd_take h3 _, hwu, Wd_drop h3 _⟩
  · rw [e1, nv_drop_set (by omega), hq, Int.toNat_natCast, h6, e2, hu]
    generalize nv (R.drop k) / D = a at *
    generalize nv (R.drop k) % D = b at *
    rw [← e3, Nat.pow_succ, Nat.mul_add, Nat.mul_add, Nat.mul_add]
    rw [show 4294967296 ^ k * (D * a) = D * (4294967296 ^ k * a) by simp only [Nat.mul_assoc, Nat.mul_comm, Nat.mul_left_comm]]
    rw [show 4294967296 ^ k * 4294967296 * nv (Q.drop (k + 1)) = 4294967296 ^ k * (4294967296 * nv (Q.drop (k + 1))) by rw [Nat.mul_assoc]]
    omega
  · rw [List.drop_append, List.drop_of_length_le (by simp; omega)]
    have : k - (R.take k).length = 0 := by rw [List.length_take]; omega
    rw [this, List.drop_zero, List.nil_append, nv_append, z, Nat.mul_zero, Nat.add_zero, hu]
    exact Nat.mod_lt _ hD0
def OfPost (n : Nat) (w : World) (e : Ending) (w' : World) : Prop := ∃ v, e = .returned v ∧ Nm w' v n ∧ Below w.heap.size w w'
/-- What div leaves. -/
def DivPost (a b : Nat) (w : World) (e : Ending) (w' : World) : Prop := ∃ q r, e = .returned (.tuple #[q, r]) ∧ Nm w' q (a / b) ∧ Nm w' r (a % b) ∧ Below w.heap.size w w'

theorem div_less (w : World) (va vb : Value) (a b : Nat) (ha : Nm w va a) (hb : Nm w vb b) (hlt : a < b) (sa : (dg a).length ≤ 1073741824) :
    Calls Try.prog 128 #[va, vb] w (DivPost a b w) := by
  go_enter Try.func128, Try.ntmps128
  go_wp2_with fail
  refine (cmp_calls _ _ _ _ _ ha hb).mono ?_
  rintro e w1 ⟨rfl, hb1⟩
  rw [ncmp_lt hlt]
  go_wp2_with fail
  refine (own_calls _ _ _ (RdI.below ha hb1) sa).mono ?_
  rintro e w2 ⟨v, rfl, hv, hb2⟩
  go_wp2
  go_ret2
  exact ⟨_, _, rfl, by rw [Nat.div_eq_of_lt hlt]; exact Nm.nil _, by rw [Nat.mod_eq_of_lt hlt]; exact hv, bl_trans hb1 hb2⟩

/-- n is the number m, of 64 bits. -/
def Is64 (n : Int) (m : Nat) : Prop := n = (m : Int) ∧ m < 18446744073709551616
theorem of_any (w : World) (n : Int) (m : Nat) (h : Is64 n m) : Calls Try.prog 120 #[.int .u64 n] w (OfPost m w) :=
  of_calls w n m h.1 h.2
theorem Is64.wrap {n : Int} {m : Nat} (h : Is64 n m) : Is64 (IntKind.u64.wrap n) m := by
  obtain ⟨rfl, h2⟩ := h
  refine ⟨?_, h2⟩
  rw [IntKind.wrap_u64]
  omega
theorem Is64.div (a b : Nat) (h : a < 18446744073709551616) : Is64 ((a : Int) / (b : Int)) (a / b) := ⟨by simp, Nat.lt_of_le_of_lt (Nat.div_le_self a b) h⟩
theorem Is64.mod (a b : Nat) (h : a < 18446744073709551616) : Is64 ((a : Int) % (b : Int)) (a % b) := ⟨by simp, Nat.lt_of_le_of_lt (Nat.mod_le a b) h⟩
theorem Is64.tdiv (a b : Nat) (h : a < 18446744073709551616) : Is64 ((a : Int).tdiv (b : Int)) (a / b) := ⟨rfl, Nat.lt_of_le_of_lt (Nat.div_le_self a b) h⟩
theorem Is64.tmod (a b : Nat) (h : a < 18446744073709551616) : Is64 ((a : Int).tmod (b : Int)) (a % b) := ⟨rfl, Nat.lt_of_le_of_lt (Nat.mod_le a b) h⟩
set_option maxRecDepth 100000 in
theorem div_small (w : World) (va vb : Value) (a b : Nat) (ha : Nm w va a) (hb : Nm w vb b) (hle : b ≤ a) (hb0 : 0 < b) (sa : (dg a).length ≤ 2) :
    Calls Try.prog 128 #[va, vb] w (DivPost a b w) := by
  have sb : (dg b).length ≤ 2 := Nat.le_trans (dg_len_mono hle) sa
  have ha64 : a < 18446744073709551616 := dg_len.1 sa
  have hc : ncmp a b = 0 ∨ ncmp a b = 1 := by
    rcases Nat.eq_or_lt_of_le hle with h | h
    · exact .inl (ncmp_eq h.symm)
    · exact .inr (ncmp_gt h)
  have hb1 : ((b : Int) == 0) = false := int_ne0 hb0
  have HA := Lib.hid ha64
  clear ha64
  go_enter Try.func128, Try.ntmps128
  go_wp2_with fail
  refine (cmp_calls _ _ _ _ _ ha hb).mono ?_
  rintro e w1 ⟨rfl, hb1⟩
  have hn : 0 ≤ ncmp a b := by omega
  clear hc
  go_wp2_with fail
  refine (small_yes _ _ _ (ha.below hb1) sa).mono ?_
  rintro e w2 ⟨rfl, hb2⟩
  go_wp2_with fail
  refine (small_yes _ _ _ ((hb.below hb1).below hb2) sb).mono ?_
  rintro e w3 ⟨rfl, hb3⟩
  have k1 := Is64.div a b HA.out
  have k2 := Is64.mod a b HA.out
  have k3 := Is64.tdiv a b HA.out
  have k4 := Is64.tmod a b HA.out
  have k5 := k3.wrap
  have k6 := k4.wrap
  have k7 := k1.wrap
  have k8 := k2.wrap
  go_wp2_with fail
  go_region_with (go_at_call 120; (with_reducible refine (of_any _ _ _ (by assumption)).mono ?_); rintro e w4 ⟨v, rfl, hv, hb4⟩)
  all_goals go_wp2
  all_goals go_ret2
  all_goals
    refine ⟨_, _, rfl, Nm.below (by assumption) hb4, hv, ?_⟩
    refine bl_trans (bl_trans ?_ (by assumption)) hb4
    repeat first | exact bl_trans (bl_trans hb1 hb2) hb3 | refine bl_trans ?_ (bl_drew _)

theorem ncmp_nonneg {a b : Nat} (hle : b ≤ a) : 0 ≤ ncmp a b := by
  rcases Nat.eq_or_lt_of_le hle with h | h
  · rw [ncmp_eq h.symm]; omega
  · rw [ncmp_gt h]; omega

set_option maxRecDepth 100000 in
theorem div_one (w : World) (va vb : Value) (a b : Nat) (ha : Nm w va a) (hb : Nm w vb b) (hle : b ≤ a) (hb0 : 0 < b) (sa : 2 < (dg a).length) (sb : (dg b).length = 1) (sm : (dg a).length ≤ 1073741824) :
    Calls Try.prog 128 #[va, vb] w (DivPost a b w) := by
  have hb32 : b < 4294967296 := by have := dg_len.1 (Nat.le_of_eq sb); simpa using this
  have hdb : dg b = [(b : Int)] := dg_small (by omega) hb32
  have hn := ncmp_nonneg hle
  have hb' := hb
  obtain ⟨A, c, rfl, hl, hc, hr⟩ := hb'
  rw [hdb] at hl hr ⊢
  obtain ⟨ad, rfl, hcell⟩ := hr (by simp)
  have c0 := hcell 0 (by simp)
  rw [add0, show wat [(b : Int)] 0 = (b : Int) from rfl] at c0
  have HM := Lib.hid (Nat.mod_lt a hb0)
  rw [hdb] at hb
  clear hr hcell hl sb hle hdb
  go_enter Try.func128, Try.ntmps128
  go_wp2_with fail
  refine (cmp_calls _ _ _ _ _ ha hb).mono ?_
  rintro e w1 ⟨rfl, hb1⟩
  go_wp2_with fail
  refine (small_no _ _ _ (ha.below hb1) sa).mono ?_
  rintro e w2 ⟨rfl, hb2⟩
  have c2 := cell_below (bl_trans hb1 hb2) c0
  go_wp2_with fail
  refine (short_calls _ _ _ _ _ rfl ((ha.below hb1).below hb2) hb0 hb32 sm).mono ?_
  rintro e w3 ⟨v, rfl, hv, hb3⟩
  have k0 : 0 ≤ ((a % b : Nat) : Int) := Int.natCast_nonneg _
  have k2 : ((a % b : Nat) : Int) < 18446744073709551616 := by have := HM.out; omega
  have k1 : Is64 ((a : Int) % (b : Int)) (a % b) := ⟨by simp, Nat.lt_trans HM.out (Nat.lt_of_lt_of_le hb32 (by decide))⟩
  go_wp2_with fail
  refine (of_any _ _ _ k1).mono ?_
  rintro e w4 ⟨r, rfl, hr, hb4⟩
  go_wp2
  go_ret2
  exact ⟨_, _, rfl, hv.below hb4, hr, bl_trans (bl_trans (bl_trans hb1 hb2) hb3) hb4⟩

/-- The multiple of b whose greatest word is at least 2^31. -/
theorem norm_len {b n : Nat} (hb : 2 ≤ (dg b).length) (hn : n < 32) (h1 : 2147483648 ≤ (wat (dg b) ((dg b).length - 1)).toNat * 2 ^ n) (h2 : (wat (dg b) ((dg b).length - 1)).toNat * 2 ^ n < 4294967296) :
    (dg (b * 2 ^ n)).length = (dg b).length ∧ 2147483648 * 4294967296 ^ ((dg b).length - 1) ≤ b * 2 ^ n ∧ b * 2 ^ n < 4294967296 ^ (dg b).length ∧ 2147483648 ≤ wat (dg (b * 2 ^ n)) ((dg b).length - 1) := by
  obtain ⟨m, hm⟩ : ∃ m, (dg b).length = m + 1 := ⟨(dg b).length - 1, by omega⟩
  have e := nv_last (u := dg b) hm
  rw [nv_dg] at e
  rw [hm, show m + 1 - 1 = m by omega] at h1 h2 ⊢
  have t := nv_lt (Wd_take (Wd_dg b) m)
  rw [List.length_take, hm, Nat.min_eq_left (by omega)] at t
  generalize (wat (dg b) m).toNat = x at *
  generalize nv ((dg b).take m) = r at *
  have hp := Nat.two_pow_pos n
  have lo : 2147483648 * 4294967296 ^ m ≤ b * 2 ^ n := by
    rw [e, Nat.add_mul, Nat.mul_assoc]
    have := Nat.mul_le_mul_left (4294967296 ^ m) h1
    rw [Nat.mul_comm 2147483648]
    omega
  have hi : b * 2 ^ n < 4294967296 ^ (m + 1) := by
    have h3 : b + 1 ≤ 4294967296 ^ m * (x + 1) := by rw [e, Nat.mul_add]; omega
    have h4 : b * 2 ^ n < 4294967296 ^ m * (x + 1) * 2 ^ n := Nat.mul_lt_mul_of_pos_right h3 hp
    have e0 := pow_split n hn
    have h5 : (x + 1) * 2 ^ n ≤ 4294967296 := by
      rw [← e0, Nat.mul_comm] at h2 ⊢
      exact Nat.mul_le_mul_left _ (Nat.lt_of_mul_lt_mul_left h2)
    have h6 := Nat.mul_le_mul_left (4294967296 ^ m) h5
    rw [Nat.pow_succ]
    rw [Nat.mul_assoc] at h4
    omega
  have hlen : (dg (b * 2 ^ n)).length = m + 1 := by
    apply Nat.le_antisymm (dg_len.2 hi)
    apply Nat.le_of_not_lt
    intro hlt
    have := dg_len.1 (show (dg (b * 2 ^ n)).length ≤ m by omega)
    have hp2 := Nat.pow_pos (n := m) (show 0 < 4294967296 by omega)
    omega
  refine ⟨hlen, lo, hi, ?_⟩
  have e2 := nv_last (u := dg (b * 2 ^ n)) hlen
  rw [nv_dg] at e2
  have t2 := nv_lt (Wd_take (Wd_dg (b * 2 ^ n)) m)
  rw [List.length_take, hlen, Nat.min_eq_left (by omega)] at t2
  have r2 := wat_range (Wd_dg (b * 2 ^ n)) m
  apply Int.not_lt.1
  intro hlt
  have h7 : (wat (dg (b * 2 ^ n)) m).toNat + 1 ≤ 2147483648 := by omega
  have h8 := Nat.mul_le_mul_left (4294967296 ^ m) h7
  rw [Nat.mul_add, Nat.mul_one] at h8
  rw [Nat.mul_comm] at lo
  omega
theorem DivRel.start {R : List Int} {a b n : Nat} (hR : R.length = (dg a).length + 1) (hw : Wd R) (hv : nv R = a * 2 ^ n) (hn : n < 32) (hba : (dg b).length ≤ (dg a).length) (hb : 2 ≤ (dg b).length)
    (lo : 2147483648 * 4294967296 ^ ((dg b).length - 1) ≤ b * 2 ^ n) :
    DivRel R (List.replicate ((dg a).length + 1 - (dg b).length) 0) (b * 2 ^ n) (a * 2 ^ n) ((dg a).length + 1) (dg b).length ((dg a).length + 1 - (dg b).length) := by
  refine ⟨hR, by simp; omega, hw, Wd_replicate _, by simp, ?_, ?_⟩
  · rw [nv_drop_all _ (by simp), hv]; simp
  · have s := nv_split R ((dg a).length + 1 - (dg b).length) (by omega)
    rw [hv] at s
    have h1 := dg_lt a
    have h2 := pow_le31 n hn
    obtain ⟨k, hk⟩ : ∃ k, (dg b).length = k + 1 := ⟨(dg b).length - 1, by omega⟩
    rw [hk, show k + 1 - 1 = k by omega] at lo
    rw [hk] at s hb hba ⊢
    obtain ⟨j, hj⟩ : ∃ j, (dg a).length = j + k := ⟨(dg a).length - k, by omega⟩
    rw [hj] at h1
    rw [hj, show j + k + 1 - (k + 1) = j by omega] at s ⊢
    refine Nat.lt_of_lt_of_le ?_ lo
    apply Nat.lt_of_mul_lt_mul_left (a := 4294967296 ^ j)
    have h3 : a * 2 ^ n < 4294967296 ^ (j + k) * 2 ^ n := Nat.mul_lt_mul_of_pos_right h1 (Nat.two_pow_pos n)
    have h4 : 4294967296 ^ (j + k) * 2 ^ n ≤ 4294967296 ^ (j + k) * 2147483648 := Nat.mul_le_mul_left _ h2
    have h5 : 4294967296 ^ (j + k) * 2147483648 = 4294967296 ^ j * (2147483648 * 4294967296 ^ k) := by
      rw [Nat.pow_add]
      simp only [Nat.mul_assoc, Nat.mul_comm, Nat.mul_left_comm]
    omega
theorem DivRel.done {R Q : List Int} {a b n len m : Nat} (h : DivRel R Q (b * 2 ^ n) (a * 2 ^ n) len m 0) (hb : 0 < b) : nv Q = a / b ∧ nv R / 2 ^ n = a % b := by
  obtain ⟨h1, h2, h3, h4, h5, h6, h7⟩ := h
  have hp := Nat.two_pow_pos n
  simp only [Nat.pow_zero, Nat.one_mul, List.drop_zero] at h6 h7
  have e1 : a * 2 ^ n / (b * 2 ^ n) = nv Q := by
    rw [h6, Nat.add_mul_div_left _ _ (Nat.mul_pos hb hp), Nat.div_eq_of_lt h7, Nat.zero_add]
  have e2 : a * 2 ^ n % (b * 2 ^ n) = nv R := by
    rw [h6, Nat.add_mul_mod_self_left, Nat.mod_eq_of_lt h7]
  rw [Nat.mul_div_mul_right _ _ hp] at e1
  rw [Nat.mul_mod_mul_right] at e2
  refine ⟨e1.symm, ?_⟩
  rw [← e2, Nat.mul_div_cancel _ hp]

set_option maxHeartbeats 1000000 in
set_option maxRecDepth 100000 in
theorem div_long (w : World) (va vb : Value) (a b : Nat) (ha : Nm w va a) (hb : Nm w vb b) (hle : b ≤ a) (hb0 : 0 < b) (sa : 2 < (dg a).length) (sb : 2 ≤ (dg b).length) (sm : (dg a).length ≤ 1073741823) :
    Calls Try.prog 128 #[va, vb] w (DivPost a b w) := by
  have hn := ncmp_nonneg hle
  have hlen := dg_len_mono hle
  have hbl := Nat.lt_of_lt_of_le (show 0 < 2 by omega) sb
  have r := wat_range (Wd_dg b) ((dg b).length - 1)
  have hx0 : 0 < wat (dg b) ((dg b).length - 1) := by
    have := dg_last (n := b) (by omega)
    have h : wat (dg b) ((dg b).length - 1) ≠ 0 := this
    omega
  have hx1 := r.2
  have hb' := hb
  obtain ⟨A, c, rfl, hl, hc, hr⟩ := hb'
  obtain ⟨ad, rfl, hcell⟩ := hr hbl
  have c0 := hcell ((dg b).length - 1) (by omega)
  clear hr hcell r
  have g1 : (((dg b).length : Int) == 1) = false := beq_eq_false_iff_ne.2 (by omega)
  go_enter Try.func128, Try.ntmps128
  go_wp2_with fail
  refine (cmp_calls _ _ _ _ _ ha hb).mono ?_
  rintro e w1 ⟨rfl, hb1⟩
  go_wp2_with fail
  refine (small_no _ _ _ (ha.below hb1) sa).mono ?_
  rintro e w2 ⟨rfl, hb2⟩
  have hb12 := bl_trans hb1 hb2
  have c2 := cell_below hb12 c0
  go_wp2_with fail
  refine (lz_calls _ _ hx0 hx1).mono ?_
  rintro e w2' ⟨n, rfl, hn32, hz1, hz2, rfl⟩
  have HN := Lib.hid (norm_len sb hn32 hz1 hz2)
  clear hz1 hz2
  go_wp2_with fail
  refine (shifted_post _ _ _ n (RdI.below ha hb12) (Wd_dg a) hn32 (by omega)).mono ?_
  rintro e w3 ⟨gu, R, rfl, hgu, ou, wu, lu, nu, hb3⟩
  have LU := ou.lt
  go_wp2_with fail
  refine (shifted_post _ _ _ n (RdI.below hb (bl_trans hb12 hb3)) (Wd_dg b) hn32 (by omega)).mono ?_
  rintro e w4 ⟨gv, V, rfl, hgv, ov, wv, lv, nv4, hb4⟩
  have LV := ov.lt
  have NV := Lib.hid nv4
  have NU := Lib.hid nu
  clear nv4 nu
  go_wp2_with fail
  refine (trim_calls _ _ _ _ _ ov wv (by omega) (Nat.le_refl _) (by omega)).mono ?_
  rintro e w4' ⟨m, hm, rfl, hmt, rfl⟩
  rw [NV.out, nv_dg] at hmt
  have hm2 : m = (dg b).length := by
    have := congrArg List.length hmt
    rw [HN.out.1, List.length_take] at this
    omega
  subst hm2
  have MT := Lib.hid hmt
  clear hmt
  have hmk := fun w => mk_words (((dg a).length : Int) + 1 - ((dg b).length : Int)) (by omega) (by omega) w
  have hbb : Below w.heap.size w w4' := bl_trans (bl_trans hb12 hb3) hb4
  have hB4 := hbb.size
  have hB3 := (bl_trans hb12 hb3).size
  have hB2 := hb12.size
  have ou4 := ou.below hb4
  have D0 := Lib.hid (DivRel.start lu wu (by rw [NU.out, nv_dg]) hn32 hlen sb HN.out.2.1)
  clear hb1 hb2 hb12 hb3 hb4 ou c0 c2 NU
  go_wp2
  obtain ⟨gq, hgq⟩ : ∃ g, g = w4'.heap.size := ⟨_, rfl⟩
  rw [← hgq]
  go_loopw [16] (fun i wr => ∃ (k : Nat) (R Q : List Int), k ≤ (dg a).length + 1 - (dg b).length ∧ i = .int .i64 ((k : Int) - 1) ∧ DivRel R Q (b * 2 ^ n) (a * 2 ^ n) ((dg a).length + 1) (dg b).length k ∧ Ow wr gu R ∧ Ow wr gv V ∧ Ow wr gq Q ∧ Below w.heap.size w wr)
    (fun i _ => (intOf i + 1).toNat)
  case atStart =>
    refine ⟨_, _, _, Nat.le_refl _, rfl, D0.out, ou4.below (below_alloc0 _ _), ov.below (below_alloc0 _ _), ?_, hbb.alloc hB4 _⟩
    rw [hgq]
    exact Ow.zeros _ _
  case round =>
    have hvq : gv < gq := by omega
    clear D0 ou4 ov hbb hmk hgq
    obtain ⟨k, R, Q, hk, rfl, hd, ou, ov, oq, hbb⟩ := hrel
    have HD := Lib.hid hd
    have lR := hd.lenR
    have lQ := hd.lenQ
    clear hd
    by_cases h0 : 0 < k
    · obtain ⟨j, rfl⟩ : ∃ j, k = j + 1 := ⟨k - 1, by omega⟩
      rw [show ((j + 1 : Nat) : Int) - 1 = (j : Int) by omega]
      have hwin := HD.out.win HN.out.2.2.1
      have HWIN := Lib.hid hwin
      have lq : gq < wr.heap.size := oq.lt
      have hne1 : gv ≠ gu := by omega
      have hne2 : gq ≠ gu := by omega
      have hne3 : gq ≠ gv := by omega
      have hVn : wat V ((dg b).length - 1) = wat (dg (b * 2 ^ n)) ((dg b).length - 1) := by
        rw [← MT.out]
        simp only [wat, List.getD_eq_getElem?_getD]
        rw [List.getElem?_take_of_lt (by omega)]
      have hRe : R.take j ++ ((R.drop j).take ((dg b).length + 1) ++ R.drop (j + (dg b).length + 1)) = R := by
        rw [show j + (dg b).length + 1 = j + ((dg b).length + 1) by omega, ← List.drop_drop, List.take_append_drop, List.take_append_drop]
      have hWin : Win wr gu j (R.take j) ((R.drop j).take ((dg b).length + 1)) (R.drop (j + (dg b).length + 1)) :=
        ⟨by rw [hRe]; exact ou, by rw [List.length_take]; omega⟩
      have WIN := Lib.hid hWin
      have HNR := Lib.hid (show 2147483648 ≤ wat V ((dg b).length - 1) by rw [hVn]; exact HN.out.2.2.2)
      have HSM := Lib.hid (show nv ((R.drop j).take ((dg b).length + 1)) < nv (V.take (dg b).length) * 4294967296 by rw [MT.out, nv_dg, hwin.2.2.1]; exact hwin.2.2.2)
      clear hwin hVn hRe hWin
      go_wp2_with fail
      rw [show j + (dg b).length + 1 - j = (dg b).length + 1 by omega]
      refine (digit_calls w.heap.size w wr gu j gv (dg b).length (dg b).length _ _ _ V WIN.out HWIN.out.2.1 (Wd_take (Wd_drop HD.out.wdR _) _) sb (by omega) (by omega) ov (by omega) wv hne1 (Nat.le_refl _) (by omega) HNR.out HSM.out hbb (by omega)).mono ?_
      rintro e w5 ⟨u', rfl, hw5, lu', wu', nu', ov5, bs5⟩
      rw [MT.out, nv_dg, HWIN.out.2.2.1] at nu' ⊢
      obtain ⟨q, hq⟩ : ∃ q : Int, q = ((nv (R.drop j) / (b * 2 ^ n) : Nat) : Int) := ⟨_, rfl⟩
      rw [← hq]
      have hst := Lib.hid (HD.out.step (u := u') HN.out.2.2.1 (Nat.mul_pos hb0 (Nat.two_pow_pos n)) lu' wu' nu' q hq)
      have oq5 : Ow w5 gq Q := (bs5.2.2 gq hne2 lq).trans oq
      have ou5 := hw5.1
      have hbb5 := bs5.1
      have f5 := oq5.free j
      have c5 := oq5.cell (j := j) (by omega)
      clear WIN hw5 bs5 nu' ou ov oq hq
      go_wp2
      refine ⟨⟨j, _, _, by omega, rfl, hst.out, ou5.other _ hne2.symm _, ov5.other _ hne3.symm _, oq5.set _ _, hbb5.setCell (show w.heap.size ≤ gq by omega) _⟩, by simp [intOf]; try omega⟩
    · obtain rfl : k = 0 := by omega
      have HE := Lib.hid (HD.out.done hb0)
      go_wp2_with fail
      refine (trim_nm _ _ _ _ _ oq HD.out.wdQ (by omega) (Nat.le_refl _) (by omega)).mono ?_
      rintro e w5 ⟨v5, rfl, hv5, rfl⟩
      have HR := Lib.hid (show RdI .u32 wr (.slice (some ⟨gu, 0, none⟩) ((dg a).length + 1) ((dg a).length + 1)) R by
        have := ou.rd ((dg a).length + 1) ((dg a).length + 1) (by omega) (Nat.le_refl _) (by omega)
        rw [List.take_of_length_le (by omega)] at this
        exact this)
      go_wp2_with fail
      refine (unshifted_calls _ _ _ n HR.out HD.out.wdR hn32 (by omega)).mono ?_
      rintro e w6 ⟨v6, rfl, hv6, hb6⟩
      go_wp2_with fail
      refine (trim_rd _ _ _ hv6 (Wd_dg _)).mono ?_
      rintro e w7 ⟨v7, rfl, hv7, hb7⟩
      rw [nv_dg, HE.out.2] at hv7
      rw [HE.out.1] at hv5
      go_wp2
      go_ret2
      exact ⟨_, _, rfl, (hv5.below hb6).below hb7, hv7, bl_trans (bl_trans hbb hb6) hb7⟩

/-- div. -/
theorem div_calls (w : World) (va vb : Value) (a b : Nat) (ha : Nm w va a) (hb : Nm w vb b) (hb0 : 0 < b) (sm : (dg a).length ≤ 1073741823) :
    Calls Try.prog 128 #[va, vb] w (DivPost a b w) := by
  by_cases hlt : a < b
  · exact div_less w va vb a b ha hb hlt (by omega)
  · by_cases s2 : (dg a).length ≤ 2
    · exact div_small w va vb a b ha hb (by omega) hb0 s2
    · have hb1 : (dg b).length ≠ 0 := fun h => by have := dg_len_zero.1 h; omega
      by_cases s1 : (dg b).length = 1
      · exact div_one w va vb a b ha hb (by omega) hb0 (by omega) s1 (by omega)
      · exact div_long w va vb a b ha hb (by omega) hb0 (by omega) (by omega) sm

/-- What is handed back reads as the number n. -/
def NumPost (n : Nat) (w : World) (e : Ending) (w' : World) : Prop := ∃ v, e = .returned v ∧ Nm w' v n ∧ Below w.heap.size w w'
/-- The two numbers of a round. -/
def GcdRel (w : World) (a b g : Nat) (va vb : Value) (wr : World) : Prop := ∃ x y, Nm wr va x ∧ Nm wr vb y ∧ Nat.gcd x y = Nat.gcd a b ∧ (dg x).length ≤ 1073741823 ∧ (dg y).length ≤ 1073741823 ∧ y ≤ g ∧ Below w.heap.size w wr

theorem gcd_calls (w : World) (va vb : Value) (a b : Nat) (ha : Nm w va a) (hb : Nm w vb b) (sa : (dg a).length ≤ 1073741823) (sb : (dg b).length ≤ 1073741823) :
    Calls Try.prog 126 #[va, vb] w (NumPost (Nat.gcd a b) w) := by
  go_enter Try.func126, Try.ntmps126
  go_wp2
  go_loopg [0, 1] b (fun g s0 s1 wr => GcdRel w a b g s0 s1 wr)
  case atStart => exact ⟨a, b, ha, hb, rfl, sa, sb, Nat.le_refl _, Below.refl _ _⟩
  case round =>
    clear ha hb
    obtain ⟨x, y, hx, hy, hg, sx, sy, hle, hbl⟩ := hrel
    have HG := Lib.hid hg
    clear hg
    by_cases hy0 : y = 0
    · have hy' := hy
      obtain ⟨A, c, hv, hl, hc, hr⟩ := hy'
      subst hy0
      rw [dg_zero] at hv
      subst hv
      clear hr hl
      go_wp2
      go_ret
      exact ⟨_, rfl, by rw [← HG.out, Nat.gcd_zero_right]; exact hx, hbl⟩
    · have ly : 0 < (dg y).length := Nat.pos_of_ne_zero (fun h => hy0 (dg_len_zero.1 h))
      have hy' := hy
      obtain ⟨A, c, rfl, hl, hc, hr⟩ := hy'
      clear hr
      by_cases hs : (dg x).length ≤ 2 ∧ (dg y).length ≤ 2
      · obtain ⟨hs1, hs2⟩ := hs
        go_wp2_with fail
        refine (small_yes _ _ _ hx hs1).mono ?_
        rintro e w1 ⟨rfl, hb1⟩
        go_wp2_with fail
        refine (small_yes _ _ _ (hy.below hb1) hs2).mono ?_
        rintro e w2 ⟨rfl, hb2⟩
        have hbw := bl_trans (bl_trans hbl hb1) hb2
        have S1 := Lib.hid (dg_len.1 hs1)
        have S2 := Lib.hid (dg_len.1 hs2)
        clear hs1 hs2
        go_wp2
        go_loopw [5, 7] (fun s t wr => ∃ p q : Nat, s = .int .u64 (p : Int) ∧ t = .int .u64 (q : Int) ∧ Nat.gcd p q = Nat.gcd a b ∧ p < 18446744073709551616 ∧ q < 18446744073709551616 ∧ Below w.heap.size w wr)
          (fun _ t _ => (intOf t).toNat)
        case atStart => exact ⟨x, y, rfl, rfl, HG.out, S1.out, S2.out, hbw⟩
        case round =>
          clear S1 S2 hbw hb1 hb2 HG
          obtain ⟨p, q, rfl, rfl, hg, hp, hq, hbl⟩ := hrel
          have HG := Lib.hid hg
          clear hg
          by_cases hq0 : q = 0
          · subst hq0
            have hg := HG.out
            rw [Nat.gcd_zero_right] at hg
            have HG2 := Lib.hid hg
            have HP := Lib.hid hp
            clear hg hp
            go_wp2_with fail
            refine (of_any _ _ p ⟨rfl, HP.out⟩).mono ?_
            rintro e w3 ⟨v, rfl, hv, hb3⟩
            go_wp2
            go_ret
            exact ⟨_, rfl, by rw [← HG2.out]; exact hv, bl_trans hbl hb3⟩
          · have g1 : ((q : Int) == 0) = false := int_ne0 (by omega)
            have g2 : ((q : Int) != 0) = true := by rw [bne, g1]; rfl
            have HM := Lib.hid (Nat.mod_lt p (show 0 < q by omega))
            have HQ := Lib.hid hq
            clear hq
            go_wp2
            go_quiet (fail)
            go_wp2
            refine ⟨⟨q, p % q, rfl, by simp, ?_, HQ.out, Nat.lt_trans HM.out HQ.out, bl_trans hbl (bl_drewN _ _)⟩, ?_⟩
            · rw [← HG.out, Nat.gcd_comm p q, Nat.gcd_rec q p, Nat.gcd_comm]
            · have := HM.out
              simp only [intOf]
              rw [← Int.natCast_emod]
              omega
      · have hd : (∀ w', Below wr.heap.size wr w' → True) := fun _ _ => trivial
        have HM := Lib.hid (Nat.mod_lt x (show 0 < y by omega))
        by_cases hs1 : (dg x).length ≤ 2
        · have hs2 : 2 < (dg y).length := by omega
          clear hs hd
          go_wp2_with fail
          refine (small_yes _ _ _ hx hs1).mono ?_
          rintro e w1 ⟨rfl, hb1⟩
          go_wp2_with fail
          refine (small_no _ _ _ (hy.below hb1) hs2).mono ?_
          rintro e w2 ⟨rfl, hb2⟩
          have hbw := bl_trans hb1 hb2
          go_wp2_with fail
          refine (div_calls _ _ _ _ _ (hx.below hbw) (hy.below hbw) (by omega) sx).mono ?_
          rintro e w3 ⟨q, r, rfl, hq, hr, hb3⟩
          go_wp2
          go_roundg (x % y)
          case measure => have := HM.out; omega
          case rel => exact ⟨y, x % y, hy.below (bl_trans hbw hb3), hr, by rw [← HG.out, Nat.gcd_comm x y, Nat.gcd_rec y x, Nat.gcd_comm], sy, Nat.le_trans (dg_len_mono (Nat.mod_le x y)) sx, Nat.le_refl _, bl_trans hbl (bl_trans hbw hb3)⟩
        · have hs1' : 2 < (dg x).length := by omega
          clear hs hd hs1
          go_wp2_with fail
          refine (small_no _ _ _ hx hs1').mono ?_
          rintro e w1 ⟨rfl, hb1⟩
          go_wp2_with fail
          refine (div_calls _ _ _ _ _ (hx.below hb1) (hy.below hb1) (by omega) sx).mono ?_
          rintro e w3 ⟨q, r, rfl, hq, hr, hb3⟩
          go_wp2
          go_roundg (x % y)
          case measure => have := HM.out; omega
          case rel => exact ⟨y, x % y, hy.below (bl_trans hb1 hb3), hr, by rw [← HG.out, Nat.gcd_comm x y, Nat.gcd_rec y x, Nat.gcd_comm], sy, Nat.le_trans (dg_len_mono (Nat.mod_le x y)) sx, Nat.le_refl _, bl_trans hbl (bl_trans hb1 hb3)⟩

end Go.Proofs.Ytajckdheecgceaa
