/- Words: shifted, unshifted. -/
import Derived.Test.YtajckdheecgceaaCmp
set_option linter.unusedVariables false
set_option linter.unusedSimpArgs false
namespace Go.Proofs.Ytajckdheecgceaa
open Go.RowKit

theorem pow_split (n : Nat) (hn : n < 32) : (2 ^ n * 2 ^ (32 - n) : Nat) = 4294967296 := by
  rw [← Nat.pow_add, show n + (32 - n) = 32 by omega]
theorem pow_cast (n : Nat) : (2 : Int) ^ n = ((2 ^ n : Nat) : Int) := by simp
theorem pow_le31 (n : Nat) (hn : n < 32) : (2 ^ n : Nat) ≤ 2147483648 := Nat.pow_le_pow_right (by omega) (show n ≤ 31 by omega)
theorem set_get_self {L : List Int} {k : Nat} {x : Int} (h : k < L.length) : wat (L.set k x) k = x := by
  simp [wat, List.getD_eq_getElem?_getD, h]
theorem set_get_ne {L : List Int} {k j : Nat} {x : Int} (h : k ≠ j) : wat (L.set k x) j = wat L j := by
  simp [wat, List.getD_eq_getElem?_getD, List.getElem?_set_ne h]
theorem wrap_shl {x : Int} {n : Nat} (h0 : 0 ≤ x) (h1 : x < 4294967296) (hn : n ≤ 32) : IntKind.u64.wrap (x * 2 ^ n) = x * 2 ^ n := by
  rw [IntKind.wrap_u64, pow_cast]
  obtain ⟨m, rfl⟩ := Int.eq_ofNat_of_zero_le h0
  have h2 : (2 ^ n : Nat) ≤ 4294967296 := Nat.pow_le_pow_right (by omega) hn
  have h3 : m * 2 ^ n ≤ 4294967295 * 4294967296 := Nat.mul_le_mul (by omega) h2
  rw [← Int.natCast_mul]
  omega

structure ShRel (X L : List Int) (n k : Nat) : Prop where
  len : L.length = X.length + 1
  wd : Wd L
  top : wat L k < 2 ^ n
  sum : nv (L.take (k + 1)) = nv (X.take k) * 2 ^ n
theorem ShRel.start (X : List Int) (n : Nat) : ShRel X (List.replicate (X.length + 1) 0) n 0 := by
  refine ⟨by simp, Wd_replicate _, ?_, ?_⟩
  · rw [pow_cast]
    have := Nat.two_pow_pos n
    have e : wat (List.replicate (X.length + 1) 0) 0 = 0 := by simp [wat, List.getD_eq_getElem?_getD]
    rw [e]
    omega
  · rw [List.take_replicate, nv_replicate]; simp [nv]
theorem ShRel.step {X L : List Int} {n k : Nat} (h : ShRel X L n k) (hX : Wd X) (hk : k < X.length) (hn : n < 32) :
    bits .or .u32 (wat L k) (wat X k * 2 ^ n % 4294967296) = wat L k + wat X k * 2 ^ n % 4294967296 ∧ wat X k * 2 ^ n / 4294967296 < 4294967296 ∧ 0 ≤ wat X k * 2 ^ n / 4294967296 ∧
    ShRel X ((L.set k (wat L k + wat X k * 2 ^ n % 4294967296)).set (k + 1) (wat X k * 2 ^ n / 4294967296)) n (k + 1) := by
  obtain ⟨h1, h2, h3, h4⟩ := h
  have r1 := wat_range hX k
  have r2 := wat_range h2 k
  obtain ⟨x, hx⟩ := Int.eq_ofNat_of_zero_le r1.1
  obtain ⟨o, ho⟩ := Int.eq_ofNat_of_zero_le r2.1
  have e0 := pow_split n hn
  have e1 := pow_le31 n hn
  have e2 := Nat.two_pow_pos n
  rw [pow_cast] at h3
  rw [ho] at h3 r2
  rw [hx] at r1
  rw [hx, ho]
  simp only [pow_cast, ← Int.natCast_mul]
  generalize hp : 2 ^ n = p at *
  generalize 2 ^ (32 - n) = r at *
  have e3 : x * p < p * 4294967296 := by rw [Nat.mul_comm]; exact Nat.mul_lt_mul_of_pos_left (by omega) (by omega)
  have d1 : x * p % 4294967296 % p = 0 := by
    rw [← e0, Nat.mod_mul_right_mod]; simp
  have d2 : x * p % 4294967296 + p ≤ 4294967296 := by
    have m1 : x * p % 4294967296 < p * r := by rw [e0]; omega
    obtain ⟨q, hq⟩ := Nat.dvd_of_mod_eq_zero d1
    rw [hq] at m1 ⊢
    have : q < r := Nat.lt_of_mul_lt_mul_left m1
    rw [← e0, ← Nat.mul_succ]
    exact Nat.mul_le_mul_left _ this
  have d3 : x * p / 4294967296 < p := by
    rw [Nat.div_lt_iff_lt_mul (by omega)]; exact e3
  have hor : bits .or .u32 ((o : Nat) : Int) (((x * p : Nat) : Int) % 4294967296) = (o : Int) + ((x * p : Nat) : Int) % 4294967296 := by
    refine or_join32 n _ _ (by omega) (by rw [pow_cast, hp]; omega) (by omega) (by omega) ?_ (by omega)
    rw [pow_cast, hp]
    have : (((x * p % 4294967296 % p : Nat)) : Int) = 0 := by rw [d1]; rfl
    simpa using this
  refine ⟨hor, by omega, by omega, ⟨by simpa using h1, Wd_set (Wd_set h2 _ _ (by omega)) _ _ (by omega), ?_, ?_⟩⟩
  · rw [set_get_self (by simp; omega), pow_cast, hp]; omega
  · rw [nv_set_take (by simp; omega), nv_set_take (by omega), nv_take_wat hk, hx, Int.toNat_natCast, hp]
    rw [nv_take_wat (by omega), ho, Int.toNat_natCast] at h4
    rw [Nat.add_mul, ← h4, Nat.pow_succ]
    have e5 : (((o : Nat) : Int) + ((x * p : Nat) : Int) % 4294967296).toNat = o + x * p % 4294967296 := by omega
    have e6 : ((((x * p : Nat)) : Int) / 4294967296).toNat = x * p / 4294967296 := by omega
    rw [e5, e6, Nat.mul_assoc, Nat.mul_assoc, Nat.mul_add]
    have e7 : x * p = x * p % 4294967296 + 4294967296 * (x * p / 4294967296) := by omega
    generalize hw : x * p % 4294967296 = a at *
    generalize x * p / 4294967296 = b at *
    rw [e7, Nat.mul_add]
    omega

theorem shifted_calls (w : World) (va : Value) (X : List Int) (n : Nat) (ha : RdI .u32 w va X) (hX : Wd X) (hn : n < 32) (sa : X.length ≤ 1073741824) :
    Calls Try.prog 132 #[va, .int .i64 n] w fun e w' => ∃ L, e = .returned (.slice (some ⟨w.heap.size, 0, none⟩) (X.length + 1) (X.length + 1)) ∧ Ow w' w.heap.size L ∧ Wd L ∧ L.length = X.length + 1 ∧ nv L = nv X * 2 ^ n ∧ Below w.heap.size w w' := by
  obtain ⟨A, c, rfl, hl, hc, hr⟩ := ha
  have hmk := fun w => mk_words ((X.length : Int) + 1) (by omega) (by omega) w
  go_enter Try.func132, Try.ntmps132
  go_wp2
  go_loopw [15] (fun i wr => ∃ (k : Nat) (L : List Int), k ≤ X.length ∧ i = .int .i64 (k : Int) ∧ ShRel X L n k ∧ Ow wr w.heap.size L ∧ Below w.heap.size w wr)
    (fun i _ => X.length - (intOf i).toNat)
  case atStart => exact ⟨0, _, by omega, rfl, ShRel.start _ _, Ow.zeros _ _, (Below.refl _ _).alloc (Nat.le_refl _) _⟩
  case round =>
    obtain ⟨k, L, hk, rfl, ho, hg, hbl⟩ := hrel
    have HO := Lib.hid ho
    have h3 := ho.len
    clear ho
    by_cases hx : k < X.length
    · obtain ⟨ad, rfl, hcell⟩ := hr (by omega)
      have e1 := cell_below hbl (hcell k (by omega))
      have r1 := wat_range hX k
      have r1a := r1.1
      have r1b := r1.2
      have f1 := hg.free k
      have f2 := hg.free (k + 1)
      have e3 := hg.cell (j := k) (by omega)
      have e4 := hg.cell (j := k + 1) (by omega)
      have hst := HO.out.step hX hx hn
      have hwr := wrap_shl (n := n) r1a r1b (by omega)
      have HS := Lib.hid hst
      have HW := Lib.hid hwr
      clear hcell hr r1 hmk hst hwr
      go_wp2
      rw [HW.out, HS.out.1, show wat X k * 2 ^ n / 4294967296 % 4294967296 = wat X k * 2 ^ n / 4294967296 from Int.emod_eq_of_lt HS.out.2.2.1 HS.out.2.1]
      exact ⟨⟨k + 1, _, by omega, by go_num, HS.out.2.2.2, (hg.set _ _).set _ _, (hbl.setCell (Nat.le_refl _) _).setCell (Nat.le_refl _) _⟩, by simp [intOf]; try omega⟩
    · obtain rfl : k = X.length := by omega
      have hs := HO.out.sum
      rw [nv_take_all _ (by omega), nv_take_all _ (Nat.le_refl _)] at hs
      have HS := Lib.hid hs
      clear hs hmk
      go_wp2
      go_ret
      exact ⟨L, rfl, hg, HO.out.wd, h3, HS.out, hbl⟩
/-- What shifted leaves. -/
def ShiftPost (X : List Int) (n : Nat) (w : World) (e : Ending) (w' : World) : Prop :=
  ∃ g L, e = .returned (.slice (some ⟨g, 0, none⟩) (X.length + 1) (X.length + 1)) ∧ w.heap.size ≤ g ∧ Ow w' g L ∧ Wd L ∧ L.length = X.length + 1 ∧ nv L = nv X * 2 ^ n ∧ Below w.heap.size w w'
theorem shifted_post (w : World) (va : Value) (X : List Int) (n : Nat) (ha : RdI .u32 w va X) (hX : Wd X) (hn : n < 32) (sa : X.length ≤ 1073741824) :
    Calls Try.prog 132 #[va, .int .i64 n] w (ShiftPost X n w) := by
  refine (shifted_calls w va X n ha hX hn sa).mono ?_
  rintro e w' ⟨L, he, ho, hw, hl, hv, hb⟩
  exact ⟨_, L, he, Nat.le_refl _, ho, hw, hl, hv, hb⟩

structure UnRel (X L : List Int) (n k : Nat) : Prop where
  len : L.length = X.length
  wd : Wd L
  top : 0 < k → wat L (k - 1) < 2 ^ (32 - n)
  zero : ∀ j, k ≤ j → wat L j = 0
  sum : nv (L.take k) = nv (X.take k) / 2 ^ n
theorem UnRel.start (X : List Int) (n : Nat) : UnRel X (List.replicate X.length 0) n 0 := by
  refine ⟨by simp, Wd_replicate _, fun h => absurd h (by omega), fun j _ => ?_, by simp [nv]⟩
  by_cases hj : j < X.length <;> simp [wat, List.getD_eq_getElem?_getD, hj]
/-- The first word. -/
theorem UnRel.first {X L : List Int} {n : Nat} (h : UnRel X L n 0) (hX : Wd X) (hk : 0 < X.length) (hn : n < 32) : bits .or .u32 (wat L 0) (wat X 0 / 2 ^ n) = wat X 0 / 2 ^ n ∧ UnRel X (L.set 0 (wat X 0 / 2 ^ n)) n 1 := by
  obtain ⟨h1, h2, h3, h4, h5⟩ := h
  have r1 := wat_range hX 0
  obtain ⟨x, hx⟩ := Int.eq_ofNat_of_zero_le r1.1
  have e0 := pow_split n hn
  have e2 := Nat.two_pow_pos n
  rw [hx] at r1
  rw [hx, h4 0 (by omega)]
  simp only [pow_cast, ← Int.natCast_ediv]
  generalize hp : 2 ^ n = p at *
  generalize hr : 2 ^ (32 - n) = r at *
  have e3 : x / p ≤ x := Nat.div_le_self _ _
  have e4 : x / p < r := by rw [Nat.div_lt_iff_lt_mul e2, Nat.mul_comm, e0]; omega
  generalize hd : x / p = d at *
  refine ⟨?_, ⟨by simpa using h1, Wd_set h2 _ _ (by omega), fun _ => ?_, fun j hj => ?_, ?_⟩⟩
  · have := or_join32 0 0 ((d : Nat) : Int) (by omega) (by omega) (by omega) (by omega) (by omega) (by omega)
    omega
  · rw [set_get_self (by omega), pow_cast, hr]; omega
  · rw [set_get_ne (by omega)]; exact h4 j (by omega)
  · rw [nv_set_take (by omega), nv_take_wat hk, hx, hp]
    simp [nv, hd]
/-- A further word. -/
theorem UnRel.step {X L : List Int} {n k : Nat} (h : UnRel X L n k) (hX : Wd X) (hk : k < X.length) (h0 : 0 < k) (hn : n < 32) :
    bits .or .u32 (wat L k) (wat X k / 2 ^ n) = wat X k / 2 ^ n ∧ bits .or .u32 (wat L (k - 1)) (wat X k * 2 ^ (32 - n) % 4294967296) = wat L (k - 1) + wat X k * 2 ^ (32 - n) % 4294967296 ∧
    UnRel X ((L.set k (wat X k / 2 ^ n)).set (k - 1) (wat L (k - 1) + wat X k * 2 ^ (32 - n) % 4294967296)) n (k + 1) := by
  obtain ⟨h1, h2, h3, h4, h5⟩ := h
  have h3 := h3 h0
  have r1 := wat_range hX k
  have r2 := wat_range h2 (k - 1)
  obtain ⟨x, hx⟩ := Int.eq_ofNat_of_zero_le r1.1
  obtain ⟨o, ho⟩ := Int.eq_ofNat_of_zero_le r2.1
  have e0 := pow_split n hn
  have e2 := Nat.two_pow_pos n
  have e2' := Nat.two_pow_pos (32 - n)
  rw [pow_cast] at h3
  rw [ho] at h3 r2
  rw [hx] at r1
  rw [hx, ho, h4 k (by omega)]
  simp only [pow_cast, ← Int.natCast_mul, ← Int.natCast_ediv]
  generalize hp : 2 ^ n = p at *
  generalize hr : 2 ^ (32 - n) = r at *
  have e3 : x / p ≤ x := Nat.div_le_self _ _
  have d1 : x * r % 4294967296 % r = 0 := by
    rw [← e0, Nat.mul_comm p r, Nat.mod_mul_right_mod]; simp
  have d2 : x * r % 4294967296 + r ≤ 4294967296 := by
    have m1 : x * r % 4294967296 < r * p := by rw [Nat.mul_comm r p, e0]; omega
    obtain ⟨q, hq⟩ := Nat.dvd_of_mod_eq_zero d1
    rw [hq] at m1 ⊢
    have : q < p := Nat.lt_of_mul_lt_mul_left m1
    rw [← e0, Nat.mul_comm p r, ← Nat.mul_succ]
    exact Nat.mul_le_mul_left _ this
  have d4 : x * r / 4294967296 = x / p := by
    rw [← e0, Nat.mul_div_mul_right _ _ e2']
  have hor1 : bits .or .u32 0 ((x / p : Nat) : Int) = ((x / p : Nat) : Int) := by
    have := or_join32 0 0 ((x / p : Nat) : Int) (by omega) (by omega) (by omega) (by omega) (by omega) (by omega)
    omega
  have hor2 : bits .or .u32 ((o : Nat) : Int) (((x * r : Nat) : Int) % 4294967296) = (o : Int) + ((x * r : Nat) : Int) % 4294967296 := by
    refine or_join32 (32 - n) _ _ (by omega) (by rw [pow_cast, hr]; omega) (by omega) (by omega) ?_ (by omega)
    rw [pow_cast, hr]
    have : (((x * r % 4294967296 % r : Nat)) : Int) = 0 := by rw [d1]; rfl
    simpa using this
  obtain ⟨j, rfl⟩ : ∃ j, k = j + 1 := ⟨k - 1, by omega⟩
  rw [show j + 1 - 1 = j by omega] at *
  refine ⟨hor1, hor2, ⟨by simpa using h1, Wd_set (Wd_set h2 _ _ (by omega)) _ _ (by omega), fun _ => ?_, fun i hi => ?_, ?_⟩⟩
  · rw [show j + 1 + 1 - 1 = j + 1 by omega, set_get_ne (by omega), set_get_self (by omega), pow_cast, hr]
    have : x / p < r := by rw [Nat.div_lt_iff_lt_mul e2, Nat.mul_comm, e0]; omega
    omega
  · rw [set_get_ne (by omega), set_get_ne (by omega)]; exact h4 i (by omega)
  · have e5 : ((o : Int) + ((x * r : Nat) : Int) % 4294967296).toNat = o + x * r % 4294967296 := by omega
    rw [nv_take_wat (by simp; omega), set_get_ne (by omega), set_get_self (by omega), nv_set_take (by simp; omega), List.take_set_of_le (by omega), nv_take_wat hk, hx, Int.toNat_natCast, Int.toNat_natCast, e5]
    rw [nv_take_wat (by omega), ho, Int.toNat_natCast] at h5
    generalize nv (X.take (j + 1)) = T at *
    have e6 : 4294967296 ^ (j + 1) * x = p * (4294967296 ^ j * (x * r)) := by
      rw [Nat.pow_succ, ← e0]
      simp only [Nat.mul_assoc, Nat.mul_comm, Nat.mul_left_comm]
    rw [e6, hp, Nat.add_mul_div_left _ _ e2, ← h5, Nat.mul_add, Nat.pow_succ, Nat.mul_assoc]
    have e7 : x * r = x * r % 4294967296 + 4294967296 * (x / p) := by rw [← d4]; omega
    generalize x * r % 4294967296 = a at *
    rw [e7, Nat.mul_add]
    omega

theorem unshifted_calls (w : World) (va : Value) (X : List Int) (n : Nat) (ha : RdI .u32 w va X) (hX : Wd X) (hn : n < 32) (sa : X.length ≤ 1073741824) :
    Calls Try.prog 134 #[va, .int .i64 n] w fun e w' => ∃ v, e = .returned v ∧ Nm w' v (nv X / 2 ^ n) ∧ Below w.heap.size w w' := by
  obtain ⟨A, c, rfl, hl, hc, hr⟩ := ha
  have hmk := fun w => mk_words (X.length : Int) (by omega) (by omega) w
  go_enter Try.func134, Try.ntmps134
  go_wp2
  go_loopw [13] (fun i wr => ∃ (k : Nat) (L : List Int), k ≤ X.length ∧ i = .int .i64 (k : Int) ∧ UnRel X L n k ∧ Ow wr w.heap.size L ∧ Below w.heap.size w wr)
    (fun i _ => X.length - (intOf i).toNat)
  case atStart => exact ⟨0, _, by omega, rfl, UnRel.start _ _, Ow.zeros _ _, (Below.refl _ _).alloc (Nat.le_refl _) _⟩
  case round =>
    obtain ⟨k, L, hk, rfl, ho, hg, hbl⟩ := hrel
    have HO := Lib.hid ho
    have h3 := ho.len
    clear ho
    by_cases hx : k < X.length
    · obtain ⟨ad, rfl, hcell⟩ := hr (by omega)
      have e1 := cell_below hbl (hcell k (by omega))
      have r1 := wat_range hX k
      have r1a := r1.1
      have r1b := r1.2
      have f1 := hg.free k
      have e3 := hg.cell (j := k) (by omega)
      by_cases h0 : 0 < k
      · have f2 := hg.free (k - 1)
        have e4 := hg.cell (j := k - 1) (by omega)
        have HS := Lib.hid (HO.out.step hX hx h0 hn)
        have HW := Lib.hid (wrap_shl (n := 32 - n) r1a r1b (by omega))
        clear hcell hr r1 hmk
        go_wp2
        go_region
        all_goals go_wp2
        all_goals go_region
        all_goals go_wp2
        all_goals rw [HW.out, HS.out.1, HS.out.2.1]
        all_goals exact ⟨⟨k + 1, _, by omega, by go_num, HS.out.2.2, (((hg.set _ _).set _ _).below (Below.refl _ _).drew).below (Below.refl _ _).drew, (((hbl.setCell (Nat.le_refl _) _).setCell (Nat.le_refl _) _).drew).drew⟩, by simp [intOf]; try omega⟩
      · obtain rfl : k = 0 := by omega
        have HS := Lib.hid (HO.out.first hX hx hn)
        rw [add0] at e1
        clear hcell hr r1 hmk
        go_wp2
        go_region
        all_goals go_wp2
        all_goals rw [HS.out.1]
        all_goals exact ⟨⟨1, _, by omega, by go_num, HS.out.2, (hg.set _ _).below (Below.refl _ _).drew, (hbl.setCell (Nat.le_refl _) _).drew⟩, by simp [intOf]; try omega⟩
    · obtain rfl : k = X.length := by omega
      have hs := HO.out.sum
      rw [nv_take_all _ (by omega), nv_take_all _ (Nat.le_refl _)] at hs
      have HS := Lib.hid hs
      clear hs hmk
      go_wp2_with fail
      refine (trim_nm _ _ _ _ _ hg HO.out.wd (by omega) (by omega) (by omega)).mono ?_
      rintro e w' ⟨v, rfl, hv, rfl⟩
      rw [HS.out] at hv
      go_wp2
      go_ret
      exact ⟨_, rfl, hv, hbl⟩

end Go.Proofs.Ytajckdheecgceaa
