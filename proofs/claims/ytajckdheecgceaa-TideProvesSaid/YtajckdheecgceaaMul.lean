/- Words: mul. -/
import Derived.Test.YtajckdheecgceaaCmp
set_option linter.unusedVariables false
set_option linter.unusedSimpArgs false
namespace Go.Proofs.Ytajckdheecgceaa
open Go.RowKit

/-- What holds of mul's words in the round i, k of the words of b done: S was the number of the words ahead. -/
structure MulRel (Y L : List Int) (len i k S : Nat) (x c : Int) : Prop where
  len : L.length = len
  wd : Wd L
  lo : 0 ≤ c
  hi : c < 4294967296
  sum : nv (L.take (i + Y.length)) + 4294967296 ^ (i + k) * c.toNat = S + 4294967296 ^ i * (x.toNat * nv (Y.take k))
theorem mul_bound {x y : Int} (h0 : 0 ≤ x) (h1 : x < 4294967296) (h2 : 0 ≤ y) (h3 : y < 4294967296) : 0 ≤ x * y ∧ x * y ≤ 18446744065119617025 := by
  obtain ⟨a, rfl⟩ := Int.eq_ofNat_of_zero_le h0
  obtain ⟨b, rfl⟩ := Int.eq_ofNat_of_zero_le h2
  have : a * b ≤ 4294967295 * 4294967295 := Nat.mul_le_mul (by omega) (by omega)
  rw [← Int.natCast_mul]
  omega
theorem MulRel.step {Y L : List Int} {len i k S : Nat} {x c : Int} (h : MulRel Y L len i k S x c) (hY : Wd Y) (hx : 0 ≤ x ∧ x < 4294967296) (hk : k < Y.length) (hl : i + Y.length ≤ len) (s : Int) (hs : s = c + (x * wat Y k + wat L (i + k))) :
    MulRel Y (L.set (i + k) (s % 4294967296)) len i (k + 1) S x (s / 4294967296) := by
  obtain ⟨h1, h2, h3, h4, h5⟩ := h
  have r1 := wat_range hY k
  have r2 := wat_range h2 (i + k)
  have r3 := mul_bound hx.1 hx.2 r1.1 r1.2
  refine ⟨by simpa using h1, Wd_set h2 _ _ (by omega), by omega, by omega, ?_⟩
  have e1 := nv_take_set (L := L) (j := i + k) (n := i + Y.length) (v := s % 4294967296) (by omega) (by omega)
  rw [nv_take_wat hk, show i + (k + 1) = i + k + 1 by omega, Nat.pow_succ, Nat.mul_add, Nat.mul_add, ← Nat.add_assoc, ← h5]
  have e2 : (s % 4294967296).toNat + 4294967296 * (s / 4294967296).toNat = c.toNat + x.toNat * (wat Y k).toNat + (wat L (i + k)).toNat := by
    have e3 : x.toNat * (wat Y k).toNat = (x * wat Y k).toNat := by
      rw [Int.toNat_mul hx.1 r1.1]
    omega
  have e4 := congrArg (fun z => 4294967296 ^ (i + k) * z) e2
  simp only [Nat.mul_add, ← Nat.mul_assoc] at e4
  have e5 : 4294967296 ^ i * (x.toNat * (4294967296 ^ k * (wat Y k).toNat)) = 4294967296 ^ (i + k) * x.toNat * (wat Y k).toNat := by
    rw [Nat.pow_add]
    simp only [Nat.mul_assoc, Nat.mul_comm, Nat.mul_left_comm]
  rw [e5]
  omega
theorem MulRel.done {Y L : List Int} {len i S : Nat} {x c : Int} (h : MulRel Y L len i Y.length S x c) (hl : i + Y.length < len) :
    (L.set (i + Y.length) c).length = len ∧ Wd (L.set (i + Y.length) c) ∧ nv ((L.set (i + Y.length) c).take (i + 1 + Y.length)) = S + 4294967296 ^ i * (x.toNat * nv Y) := by
  obtain ⟨h1, h2, h3, h4, h5⟩ := h
  refine ⟨by simpa using h1, Wd_set h2 _ _ ⟨h3, h4⟩, ?_⟩
  rw [show i + 1 + Y.length = i + Y.length + 1 by omega, nv_set_take (by omega), h5, nv_take_all _ (Nat.le_refl _)]

theorem mul_calls (w : World) (va vb : Value) (a b : Nat) (ha : Nm w va a) (hb : Nm w vb b) (sa : (dg a).length ≤ 1073741824) (sb : (dg b).length ≤ 1073741824) :
    Calls Try.prog 116 #[va, vb] w fun e w' => ∃ v, e = .returned v ∧ Nm w' v (a * b) ∧ Below w.heap.size w w' := by
  have ha0 := ha
  have hb0 := hb
  obtain ⟨A, c, rfl, hl, hc, hr⟩ := ha
  obtain ⟨A2, c2, rfl, hl2, hc2, hr2⟩ := hb
  by_cases za : a = 0
  · subst za
    rw [dg_zero] at *
    go_enter Try.func116, Try.ntmps116
    go_wp2
    go_ret
    exact ⟨_, rfl, by rw [Nat.zero_mul]; exact Nm.nil w, Below.refl _ _⟩
  · have la : 0 < (dg a).length := Nat.pos_of_ne_zero (fun h => za (dg_len_zero.1 h))
    have g1 := int_ne0 la
    by_cases zb : b = 0
    · subst zb
      rw [dg_zero] at *
      clear za
      go_enter Try.func116, Try.ntmps116
      go_wp2
      go_ret
      exact ⟨_, rfl, by rw [Nat.mul_zero]; exact Nm.nil w, Below.refl _ _⟩
    · have lb : 0 < (dg b).length := Nat.pos_of_ne_zero (fun h => zb (dg_len_zero.1 h))
      have g2 := int_ne0 lb
      clear za zb
      by_cases oa : a = 1
      · have OA := Lib.hid oa
        clear oa
        go_enter Try.func116, Try.ntmps116
        go_wp2_with fail
        refine (one_nm _ _ _ ha0 true (by simp [OA.out])).mono ?_
        rintro e w1 ⟨rfl, hb1⟩
        go_wp2_with fail
        refine (own_calls _ _ _ (RdI.below hb0 hb1) sb).mono ?_
        rintro e w2 ⟨v, rfl, hv, hb2⟩
        go_wp2
        go_ret
        exact ⟨_, rfl, by rw [OA.out, Nat.one_mul]; exact hv, bl_trans hb1 hb2⟩
      · by_cases ob : b = 1
        · have OB := Lib.hid ob
          have OA := Lib.hid oa
          clear ob oa
          go_enter Try.func116, Try.ntmps116
          go_wp2_with fail
          refine (one_nm _ _ _ ha0 false (by simp [OA.out])).mono ?_
          rintro e w1 ⟨rfl, hb1⟩
          go_wp2_with fail
          refine (one_nm _ _ _ (hb0.below hb1) true (by simp [OB.out])).mono ?_
          rintro e w2 ⟨rfl, hb2⟩
          go_wp2_with fail
          refine (own_calls _ _ _ (RdI.below ha0 (bl_trans hb1 hb2)) sa).mono ?_
          rintro e w3 ⟨v, rfl, hv, hb3⟩
          go_wp2
          go_ret
          exact ⟨_, rfl, by rw [OB.out, Nat.mul_one]; exact hv, bl_trans (bl_trans hb1 hb2) hb3⟩
        · have OB := Lib.hid ob
          have OA := Lib.hid oa
          clear ob oa
          have hmk := fun w => mk_words (((dg a).length : Int) + ((dg b).length : Int)) (by omega) (by omega) w
          go_enter Try.func116, Try.ntmps116
          go_wp2_with fail
          refine (one_nm _ _ _ ha0 false (by simp [OA.out])).mono ?_
          rintro e w1 ⟨rfl, hb1⟩
          go_wp2_with fail
          refine (one_nm _ _ _ (hb0.below hb1) false (by simp [OB.out])).mono ?_
          rintro e w2 ⟨rfl, hb2⟩
          have hbw := bl_trans hb1 hb2
          have hsz := hbw.size
          go_wp2
          go_loopw [36] (fun i wr => ∃ (k : Nat) (L : List Int), k ≤ (dg a).length ∧ i = .int .i64 (k : Int) ∧ L.length = (dg a).length + (dg b).length ∧ Wd L ∧ nv (L.take (k + (dg b).length)) = nv ((dg a).take k) * b ∧ Ow wr w2.heap.size L ∧ Below w.heap.size w wr)
            (fun i _ => (dg a).length - (intOf i).toNat)
          case atStart =>
            refine ⟨0, List.replicate ((dg a).length + (dg b).length) 0, by omega, rfl, by simp, Wd_replicate _, ?_, Ow.zeros _ _, hbw.alloc hsz _⟩
            rw [List.take_replicate, nv_replicate]; simp [nv]
          case round =>
            obtain ⟨i, L, hi, rfl, hL, hWL, hsum, hg, hbl⟩ := hrel
            have HS := Lib.hid hsum
            clear hsum hmk
            by_cases hx : i < (dg a).length
            · obtain ⟨ad, rfl, hcell⟩ := hr la
              have e1 := cell_below hbl (hcell i hx)
              have r1 := wat_range (Wd_dg a) i
              have r1a := r1.1
              have r1b := r1.2
              clear hcell r1
              go_wp2
              obtain ⟨wo, hwo⟩ : ∃ wo : World, wo = wr := ⟨_, rfl⟩
              subst hwo
              go_loopw [8, 56] (fun s j wr => ∃ (k : Nat) (x : Int) (L : List Int), k ≤ (dg b).length ∧ s = .int .u64 x ∧ j = .int .i64 (k : Int) ∧ MulRel (dg b) L ((dg a).length + (dg b).length) i k (nv ((dg a).take i) * b) (wat (dg a) i) x ∧ Ow wr w2.heap.size L ∧ Below w.heap.size w wr)
                (fun _ j _ => (dg b).length - (intOf j).toNat)
              case atStart => exact ⟨0, 0, L, by omega, rfl, rfl, ⟨hL, hWL, by omega, by omega, by rw [HS.out]; simp [nv]⟩, hg, hbl⟩
              case round =>
                clear hg hbl HS hWL hL
                obtain ⟨k, x, L, hk, rfl, rfl, ho, hg, hbl⟩ := hrel
                have HO := Lib.hid ho
                have b1 := ho.lo
                have b2 := ho.hi
                have hL := ho.len
                clear ho
                by_cases hy : k < (dg b).length
                · obtain ⟨ad2, rfl, hcell2⟩ := hr2 lb
                  have e1 := cell_below hbl (hcell2 k hy)
                  have r2 := wat_range (Wd_dg b) k
                  have r2a := r2.1
                  have r2b := r2.2
                  have r3 := wat_range HO.out.wd (i + k)
                  have r3a := r3.1
                  have r3b := r3.2
                  have m1 := mul_bound r1a r1b r2a r2b
                  have m1a := m1.1
                  have m1b := m1.2
                  have f1 := hg.free (i + k)
                  have e3 := hg.cell (j := i + k) (by omega)
                  have hst := HO.out.step (Wd_dg b) ⟨r1a, r1b⟩ hy (by omega) _ rfl
                  have HST := Lib.hid hst
                  clear hcell2 hr2 hr r2 r3 m1 hst
                  go_wp2
                  exact ⟨⟨k + 1, _, _, by omega, rfl, by go_num, HST.out, hg.set _ _, hbl.setCell hsz _⟩, by simp [intOf]; try omega⟩
                · obtain rfl : k = (dg b).length := by omega
                  have f1 := hg.free (i + (dg b).length)
                  have e3 := hg.cell (j := i + (dg b).length) (by omega)
                  have HD := Lib.hid (HO.out.done (by omega))
                  clear hr2 hr
                  go_wp2
                  refine ⟨⟨i + 1, _, by omega, by go_num, HD.out.1, HD.out.2.1, ?_, hg.set _ _, hbl.setCell hsz _⟩, by simp [intOf]; try omega⟩
                  rw [HD.out.2.2, nv_take_wat hx, Nat.add_mul, nv_dg, Nat.mul_assoc]
            · obtain rfl : i = (dg a).length := by omega
              have hs := HS.out
              rw [nv_take_all _ (by omega), nv_take_all _ (Nat.le_refl _), nv_dg] at hs
              have HQ := Lib.hid hs
              clear hs hr hr2
              go_wp2_with fail
              refine (trim_nm _ _ _ _ _ hg hWL (by omega) (by omega) (by omega)).mono ?_
              rintro e w' ⟨v, rfl, hv, rfl⟩
              rw [HQ.out] at hv
              go_wp2
              go_ret
              exact ⟨_, rfl, hv, hbl⟩

end Go.Proofs.Ytajckdheecgceaa
