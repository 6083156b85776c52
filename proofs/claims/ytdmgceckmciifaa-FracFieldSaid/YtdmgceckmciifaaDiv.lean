/- Words: div. -/
import Derived.Test.YtdmgceckmciifaaSmall
set_option linter.unusedVariables false
set_option linter.unusedSimpArgs false
namespace Go.Proofs.Ytdmgceckmciifaa
open Go.RowKit

/-- trim, of whatever is read. -/
def NmPost (n : Nat) (w : World) (e : Ending) (w' : World) : Prop := ∃ v, e = .returned v ∧ Nm w' v n ∧ Below w.heap.size w w'
theorem RdI.take {k : IntKind} {w : World} {A : Option Addr} {l : List Int} {n c c' : Nat} (h : RdI k w (.slice A n c) l) (m : Nat) (hm : m ≤ l.length) (hc : m ≤ c') (hm2 : c' ≤ 9223372036854775807) : RdI k w (.slice A m c') (l.take m) := by
  obtain ⟨A', c1, hv, hl, hcc, hr⟩ := h
  injection hv with ha hn hc1
  subst ha hc1
  have hlen : (l.take m).length = m := by rw [List.length_take]; omega
  refine ⟨A, c', by rw [hlen], by omega, hm2, fun h0 => ?_⟩
  obtain ⟨ad, hA, hcell⟩ := hr (by omega)
  refine ⟨ad, hA, fun j hj => ?_⟩
  rw [hcell j (by omega)]
  simp only [wat, List.getD_eq_getElem?_getD]
  rw [List.getElem?_take_of_lt (by omega)]
theorem trim_rd (w : World) (va : Value) (l : List Int) (ha : RdI .u32 w va l) (hw : Wd l) :
    Calls Try.prog 113 #[va] w (NmPost (nv l) w) := by
  have ha0 := ha
  obtain ⟨A, c, rfl, hl, hc, hr⟩ := ha
  by_cases hl0 : l.length = 0
  · have e : l = [] := List.length_eq_zero_iff.1 hl0
    subst e
    clear hr ha0
    go_enter Try.func113, Try.ntmps113
    go_wp2
    go_loop [3] (fun i => i = .int .i64 0) (fun i => (intOf i).toNat)
    case atStart => rfl
    case round =>
      subst hrel
      go_wp2
      go_ret
      refine ⟨_, rfl, ?_, Below.refl _ _⟩
      show RdI .u32 w _ (dg 0)
      rw [dg_zero]
      exact ⟨_, 0, rfl, by simp, by omega, fun h => absurd h (by simp)⟩
  · obtain ⟨ad, rfl, hcell⟩ := hr (by omega)
    go_enter Try.func113, Try.ntmps113
    go_wp2
    go_loop [3] (fun i => ∃ k : Nat, k ≤ l.length ∧ i = .int .i64 k ∧ nv (l.drop k) = 0) (fun i => (intOf i).toNat)
    case atStart => exact ⟨_, Nat.le_refl _, rfl, nv_drop_all _ (Nat.le_refl _)⟩
    case round =>
      obtain ⟨k, hk, rfl, hz⟩ := hrel
      have HZ := Lib.hid hz
      have HA := Lib.hid ha0
      clear hz hr ha0
      by_cases h0 : 0 < k
      · obtain ⟨j, rfl⟩ : ∃ j, k = j + 1 := ⟨k - 1, by omega⟩
        have e1 := hcell j (by omega)
        clear hcell
        by_cases h1 : wat l j = 0
        · have g1 : (wat l j == 0) = true := by simp [h1]
          have H1 := Lib.hid h1
          clear h1
          go_wp2
          exact ⟨⟨j, by omega, rfl, by rw [nv_drop_wat (by omega), HZ.out, H1.out]; rfl⟩, by simp [intOf]⟩
        · have g1 : (wat l j == 0) = false := by simp [h1]
          have H1 := Lib.hid h1
          clear h1
          go_wp2
          go_ret
          refine ⟨_, rfl, ?_, Below.refl _ _⟩
          have := HA.out.take (j + 1) hk (Nat.le_refl _) (by omega)
          rw [dg_trim hw hk HZ.out (fun _ => H1.out)] at this
          exact this
      · obtain rfl : k = 0 := by omega
        clear hcell
        go_wp2
        go_ret
        refine ⟨_, rfl, ?_, Below.refl _ _⟩
        have := HA.out.take 0 hk (Nat.le_refl _) (by omega)
        rw [dg_trim hw hk HZ.out (fun h => absurd h (by omega))] at this
        exact this

/-- What holds of the rest R and the quotient's words Q, k of them to come. -/
structure DivRel (R Q : List Int) (D N len m k : Nat) : Prop where
  lenR : R.length = len
  lenQ : Q.length + m = len
  wdR : Wd R
  wdQ : Wd Q
  kq : k ≤ Q.length
  sum : N = nv R + D * (4294967296 ^ k * nv (Q.drop k))
  top : nv (R.drop k) < D
theorem DivRel.win {R Q : List Int} {D N len m k : Nat} (h : DivRel R Q D N len m (k + 1)) (hD : D < 4294967296 ^ m) :
    nv (R.drop (k + m + 1)) = 0 ∧ ((R.drop k).take (m + 1)).length = m + 1 ∧ nv ((R.drop k).take (m + 1)) = nv (R.drop k) ∧ nv (R.drop k) < D * 4294967296 := by
  obtain ⟨h1, h2, h3, h4, h5, h6, h7⟩ := h
  have s1 := nv_split (R.drop (k + 1)) m (by simp; omega)
  rw [List.drop_drop, show k + 1 + m = k + m + 1 by omega] at s1
  have z : nv (R.drop (k + m + 1)) = 0 := by
    rcases Nat.eq_zero_or_pos (nv (R.drop (k + m + 1))) with h0 | h0
    · exact h0
    · have := Nat.mul_le_mul_left (4294967296 ^ m) h0
      rw [Nat.mul_one] at this
      omega
  have s2 := nv_split (R.drop k) (m + 1) (by simp; omega)
  rw [List.drop_drop, show k + (m + 1) = k + m + 1 by omega, z, Nat.mul_zero, Nat.add_zero] at s2
  have s3 := nv_drop_wat (l := R) (k := k) (by omega)
  have r := wat_range h3 k
  refine ⟨z, by simp; omega, s2.symm, ?_⟩
  rw [s3]
  omega
theorem DivRel.step {R Q u : List Int} {D N len m k : Nat} (h : DivRel R Q D N len m (k + 1)) (hD : D < 4294967296 ^ m) (hD0 : 0 < D) (hul : u.length = m + 1) (hwu : Wd u) (hu : nv u = nv (R.drop k) % D) (q : Int) (hq : q = ((nv (R.drop k) / D : Nat) : Int)) :
    DivRel (R.take k ++ (u ++ R.drop (k + m + 1))) (Q.set k q) D N len m k := by
  obtain ⟨z, w1, w2, w3⟩ := h.win hD
  obtain ⟨h1, h2, h3, h4, h5, h6, h7⟩ := h
  have hqlt : nv (R.drop k) / D < 4294967296 := by rw [Nat.div_lt_iff_lt_mul hD0, Nat.mul_comm]; exact w3
  have hq2 : 0 ≤ q ∧ q < 4294967296 := by
    obtain ⟨a, ha⟩ : ∃ a, a = nv (R.drop k) / D := ⟨_, rfl⟩
    rw [← ha] at hq hqlt
    omega
  have e1 : nv (R.take k ++ (u ++ R.drop (k + m + 1))) = nv (R.take k) + 4294967296 ^ k * nv u := by
    rw [nv_append, nv_append, z, Nat.mul_zero, Nat.add_zero, List.length_take, Nat.min_eq_left (by omega)]
  have e2 := nv_split R k (by omega)
  have e3 := Nat.div_add_mod (nv (R.drop k)) D
  refine ⟨by simp; omega, by simp; omega, ?_, Wd_set h4 _ _ hq2, by simp; omega, ?_, ?_⟩
  · rw [Wd_append, Wd_append]; exact ⟨Wd_take h3 _, hwu, Wd_drop h3 _⟩
  · rw [e1, nv_drop_set (by omega), hq, Int.toNat_natCast, h6, e2, hu]
    generalize nv (R.drop k) / D = a at *
    generalize nv (R.drop k) % D = b at *
    rw [← e3, Nat.pow_succ, Nat.mul_add, Nat.mul_add, Nat.mul_add]
    rw [show 4294967296 ^ k * (D * a) = D * (4294967296 ^ k * a) by simp only [Nat.mul_assoc, Nat.mul_comm, Nat.mul_left_comm]]
    rw [show 4294967296 ^ k * 4294967296 * nv (Q.drop (k + 1)) = 4294967296 ^ k * (4294967296 * nv (Q.drop (k + 1))) by rw [Nat.mul_assoc]]
    omega
  · rw [List.drop_append, List.drop_of_length_le (by simp; omega)]
    have : k - (R.take k).length = 0 := by rw [List.length_take]; omega
    rw [this, List.drop_zero, List.nil_append, nv_append, z, Nat.mul_zero, Nat.add_zero, hu]
    exact Nat.mod_lt _ hD0
def OfPost (n : Nat) (w : World) (e : Ending) (w' : World) : Prop := ∃ v, e = .returned v ∧ Nm w' v n ∧ Below w.heap.size w w'
/-- What div leaves. -/
def DivPost (a b : Nat) (w : World) (e : Ending) (w' : World) : Prop := ∃ q r, e = .returned (.tuple #[q, r]) ∧ Nm w' q (a / b) ∧ Nm w' r (a % b) ∧ Below w.heap.size w w'

theorem div_less (w : World) (va vb : Value) (a b : Nat) (ha : Nm w va a) (hb : Nm w vb b) (hlt : a < b) (sa : (dg a).length ≤ 1073741824) :
    Calls Try.prog 77 #[va, vb] w (DivPost a b w) := by
  go_enter Try.func77, Try.ntmps77
  go_wp2_with fail
  refine (cmp_calls _ _ _ _ _ ha hb).mono ?_
  rintro e w1 ⟨rfl, hb1⟩
  rw [ncmp_lt hlt]
  go_wp2_with fail
  refine (own_calls _ _ _ (RdI.below ha hb1) sa).mono ?_
  rintro e w2 ⟨v, rfl, hv, hb2⟩
  go_wp2
  go_ret2
  exact ⟨_, _, rfl, by rw [Nat.div_eq_of_lt hlt]; exact Nm.nil _, by rw [Nat.mod_eq_of_lt hlt]; exact hv, bl_trans hb1 hb2⟩

/-- n is the number m, of 64 bits. -/
def Is64 (n : Int) (m : Nat) : Prop := n = (m : Int) ∧ m < 18446744073709551616
theorem of_any (w : World) (n : Int) (m : Nat) (h : Is64 n m) : Calls Try.prog 101 #[.int .u64 n] w (OfPost m w) :=
  of_calls w n m h.1 h.2
theorem Is64.wrap {n : Int} {m : Nat} (h : Is64 n m) : Is64 (IntKind.u64.wrap n) m := by
  obtain ⟨rfl, h2⟩ := h
  refine ⟨?_, h2⟩
  rw [IntKind.wrap_u64]
  omega
theorem Is64.div (a b : Nat) (h : a < 18446744073709551616) : Is64 ((a : Int) / (b : Int)) (a / b) := ⟨by simp, Nat.lt_of_le_of_lt (Nat.div_le_self a b) h⟩
theorem Is64.mod (a b : Nat) (h : a < 18446744073709551616) : Is64 ((a : Int) % (b : Int)) (a % b) := ⟨by simp, Nat.lt_of_le_of_lt (Nat.mod_le a b) h⟩
theorem Is64.tdiv (a b : Nat) (h : a < 18446744073709551616) : Is64 ((a : Int).tdiv (b : Int)) (a / b) := ⟨rfl, Nat.lt_of_le_of_lt (Nat.div_le_self a b) h⟩
theorem Is64.tmod (a b : Nat) (h : a < 18446744073709551616) : Is64 ((a : Int).tmod (b : Int)) (a % b) := ⟨rfl, Nat.lt_of_le_of_lt (Nat.mod_le a b) h⟩
set_option maxRecDepth 100000 in
theorem div_small (w : World) (va vb : Value) (a b : Nat) (ha : Nm w va a) (hb : Nm w vb b) (hle : b ≤ a) (hb0 : 0 < b) (sa : (dg a).length ≤ 2) :
    Calls Try.prog 77 #[va, vb] w (DivPost a b w) := by
  have sb : (dg b).length ≤ 2 := Nat.le_trans (dg_len_mono hle) sa
  have ha64 : a < 18446744073709551616 := dg_len.1 sa
  have hc : ncmp a b = 0 ∨ ncmp a b = 1 := by
    rcases Nat.eq_or_lt_of_le hle with h | h
    · exact .inl (ncmp_eq h.symm)
    · exact .inr (ncmp_gt h)
  have hb1 : ((b : Int) == 0) = false := int_ne0 hb0
  have HA := Lib.hid ha64
  clear ha64
  go_enter Try.func77, Try.ntmps77
  go_wp2_with fail
  refine (cmp_calls _ _ _ _ _ ha hb).mono ?_
  rintro e w1 ⟨rfl, hb1⟩
  have hn : 0 ≤ ncmp a b := by omega
  clear hc
  go_wp2_with fail
  refine (small_yes _ _ _ (ha.below hb1) sa).mono ?_
  rintro e w2 ⟨rfl, hb2⟩
  go_wp2_with fail
  refine (small_yes _ _ _ ((hb.below hb1).below hb2) sb).mono ?_
  rintro e w3 ⟨rfl, hb3⟩
  have k1 := Is64.div a b HA.out
  have k2 := Is64.mod a b HA.out
  have k3 := Is64.tdiv a b HA.out
  have k4 := Is64.tmod a b HA.out
  have k5 := k3.wrap
  have k6 := k4.wrap
  have k7 := k1.wrap
  have k8 := k2.wrap
  go_wp2_with fail
  go_region_with (go_at_call 101; (with_reducible refine (of_any _ _ _ (by assumption)).mono ?_); rintro e w4 ⟨v, rfl, hv, hb4⟩)
  all_goals go_wp2
  all_goals go_ret2
  all_goals
    refine ⟨_, _, rfl, Nm.below (by assumption) hb4, hv, ?_⟩
    refine bl_trans (bl_trans ?_ (by assumption)) hb4
    repeat first | exact bl_trans (bl_trans hb1 hb2) hb3 | refine bl_trans ?_ (bl_drew _)
end Go.Proofs.Ytdmgceckmciifaa
