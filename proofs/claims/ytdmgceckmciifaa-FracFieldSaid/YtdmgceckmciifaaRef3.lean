/- The reference: times. -/
import Derived.Test.YtdmgceckmciifaaRef2
set_option linter.unusedVariables false
set_option linter.unusedSimpArgs false
namespace Go.Proofs.Ytdmgceckmciifaa
open Go.RowKit

theorem rtimes_calls (w : World) (va vb : Value) (a b : Nat) (ha : Nm w va a) (hb : Nm w vb b) (sa : (dg a).length ≤ 1073741824) (sb : (dg b).length ≤ 1073741824) :
    Calls Try.prog 86 #[va, vb] w (NmPost (a * b) w) := by
  obtain ⟨A, c, rfl, hl, hc, hr⟩ := ha
  obtain ⟨A2, c2, rfl, hl2, hc2, hr2⟩ := hb
  have hmk := fun w => mk_u32 (((dg a).length : Int) + ((dg b).length : Int)) (by omega) (by omega) w
  go_enter Try.func86, Try.ntmps86
  go_wp2
  go_loopw [6] (fun i wr => ∃ (k : Nat) (L : List Int), k ≤ (dg a).length ∧ i = .int .i64 (k : Int) ∧ L.length = (dg a).length + (dg b).length ∧ Wd L ∧ nv (L.take (k + (dg b).length)) = nv ((dg a).take k) * b ∧ Ow wr w.heap.size L ∧ Below w.heap.size w wr)
    (fun i _ => (dg a).length - (intOf i).toNat)
  case atStart =>
    refine ⟨0, List.replicate ((dg a).length + (dg b).length) 0, by omega, rfl, by simp, Wd_replicate _, ?_, Ow.zeros _ _, (Below.refl _ _).alloc (Nat.le_refl _) _⟩
    rw [List.take_replicate, nv_replicate]; simp [nv]
  case round =>
    obtain ⟨i, L, hi, rfl, hL, hWL, hsum, hg, hbl⟩ := hrel
    have HS := Lib.hid hsum
    clear hsum hmk
    by_cases hx : i < (dg a).length
    · obtain ⟨ad, rfl, hcell⟩ := hr (by omega)
      have e1 := cell_below hbl (hcell i hx)
      have r1 := wat_range (Wd_dg a) i
      have r1a := r1.1
      have r1b := r1.2
      clear r1 e1
      go_wp2
      obtain ⟨wo, hwo⟩ : ∃ wo : World, wo = wr := ⟨_, rfl⟩
      subst hwo
      go_loopw [7, 8] (fun s j wr => ∃ (k : Nat) (x : Int) (L : List Int), k ≤ (dg b).length ∧ s = .int .u64 x ∧ j = .int .i64 (k : Int) ∧ MulRel (dg b) L ((dg a).length + (dg b).length) i k (nv ((dg a).take i) * b) (wat (dg a) i) x ∧ Ow wr w.heap.size L ∧ Below w.heap.size w wr)
        (fun _ j _ => (dg b).length - (intOf j).toNat)
      case atStart => exact ⟨0, 0, L, by omega, rfl, rfl, ⟨hL, hWL, by omega, by omega, by rw [HS.out]; simp [nv]⟩, hg, hbl⟩
      case round =>
        clear hg hbl HS hWL hL
        obtain ⟨k, x, L, hk, rfl, rfl, ho, hg, hbl⟩ := hrel
        have HO := Lib.hid ho
        have b1 := ho.lo
        have b2 := ho.hi
        have hL := ho.len
        clear ho
        by_cases hy : k < (dg b).length
        · obtain ⟨ad2, rfl, hcell2⟩ := hr2 (by omega)
          have e1 := cell_below hbl (hcell2 k hy)
          have e0 := cell_below hbl (hcell i hx)
          have r2 := wat_range (Wd_dg b) k
          have r2a := r2.1
          have r2b := r2.2
          have r3 := wat_range HO.out.wd (i + k)
          have r3a := r3.1
          have r3b := r3.2
          have m1 := mul_bound r1a r1b r2a r2b
          have m1a := m1.1
          have m1b := m1.2
          have f1 := hg.free (i + k)
          have e3 := hg.cell (j := i + k) (by omega)
          have am := and_mask (wat (dg a) i * wat (dg b) k + wat L (i + k) + x) (by omega) (by omega)
          have hst := HO.out.step (Wd_dg b) ⟨r1a, r1b⟩ hy (by omega) _ rfl
          have HST := Lib.hid hst
          clear hcell hcell2 hr2 hr r2 r3 m1 hst
          have q1 : IntKind.i64.wrap ((i : Int) + (k : Int)) = ((i + k : Nat) : Int) := by rw [IntWalk.i64_in _ (by omega)]; simp
          have q2 : IntKind.u64.wrap (wat (dg a) i * wat (dg b) k) = wat (dg a) i * wat (dg b) k := IntWalk.u64_in _ (by omega)
          have q3 : IntKind.u64.wrap (wat (dg a) i * wat (dg b) k + wat L (i + k)) = wat (dg a) i * wat (dg b) k + wat L (i + k) := IntWalk.u64_in _ (by omega)
          have q4 : IntKind.u64.wrap (wat (dg a) i * wat (dg b) k + wat L (i + k) + x) = wat (dg a) i * wat (dg b) k + wat L (i + k) + x := IntWalk.u64_in _ (by omega)
          go_wp2
          go_quiet (fail)
          go_wp2
          exact ⟨⟨k + 1, _, _, by omega, rfl, by go_num, (by rw [show wat (dg a) i * wat (dg b) k + wat L (i + k) + x = x + (wat (dg a) i * wat (dg b) k + wat L (i + k)) by omega]; exact HST.out), (hg.below (bl_drewN _ _)).set _ _, (bl_trans hbl (bl_drewN _ _)).setCell (Nat.le_refl _) _⟩, by simp [intOf]; try omega⟩
        · obtain rfl : k = (dg b).length := by omega
          have f1 := hg.free (i + (dg b).length)
          have e3 := hg.cell (j := i + (dg b).length) (by omega)
          have HD := Lib.hid (HO.out.done (by omega))
          clear hr2 hr
          go_wp2
          refine ⟨⟨i + 1, _, by omega, by go_num, HD.out.1, HD.out.2.1, ?_, hg.set _ _, hbl.setCell (Nat.le_refl _) _⟩, by simp [intOf]; try omega⟩
          rw [HD.out.2.2, nv_take_wat hx, Nat.add_mul, nv_dg, Nat.mul_assoc]
    · obtain rfl : i = (dg a).length := by omega
      have hs := HS.out
      rw [nv_take_all _ (by omega), nv_take_all _ (Nat.le_refl _), nv_dg] at hs
      have HQ := Lib.hid hs
      clear hs hr hr2
      have hrd := hg.rd ((dg a).length + (dg b).length) ((dg a).length + (dg b).length) (by omega) (by omega) (by omega)
      rw [show L.take ((dg a).length + (dg b).length) = L by rw [← hL, List.take_length]] at hrd
      go_wp2_with fail
      refine (rtrim _ _ _ hrd hWL).mono ?_
      rintro e w' ⟨v, rfl, hv, hb'⟩
      rw [HQ.out] at hv
      go_wp2
      go_ret
      exact ⟨_, rfl, hv, bl_trans hbl hb'⟩
end Go.Proofs.Ytdmgceckmciifaa
