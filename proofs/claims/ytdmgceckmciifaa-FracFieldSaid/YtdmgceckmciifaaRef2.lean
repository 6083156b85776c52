/- The reference: minus, times. -/
import Derived.Test.YtdmgceckmciifaaRef1b
set_option linter.unusedVariables false
set_option linter.unusedSimpArgs false
namespace Go.Proofs.Ytdmgceckmciifaa
open Go.RowKit

theorem rminus_calls (w : World) (va vb : Value) (a b : Nat) (ha : Nm w va a) (hb : Nm w vb b) (hle : b ≤ a) (sa : (dg a).length ≤ 1073741824) :
    Calls Try.prog 116 #[va, vb] w (NmPost (a - b) w) := by
  obtain ⟨A, c, rfl, hl, hc, hr⟩ := ha
  obtain ⟨A2, c2, rfl, hl2, hc2, hr2⟩ := hb
  have hmk := fun w => mk_u32 ((dg a).length : Int) (by omega) (by omega) w
  have hlen := dg_len_mono hle
  go_enter Try.func116, Try.ntmps116
  go_wp2
  go_loopw [6, 7] (fun s i wr => ∃ (k : Nat) (x : Int) (L : List Int), k ≤ (dg a).length ∧ s = .int .u64 x ∧ i = .int .i64 k ∧ SubRel (dg a) (dg b) L k x ∧ Ow wr w.heap.size L ∧ Below w.heap.size w wr)
    (fun _ i _ => (dg a).length - (intOf i).toNat)
  case atStart => exact ⟨0, 0, _, by omega, rfl, rfl, SubRel.start _ _, Ow.zeros _ _, (Below.refl _ _).alloc (Nat.le_refl _) _⟩
  case round =>
    obtain ⟨k, x, L, hk, rfl, rfl, ho, hg, hbl⟩ := hrel
    have HO := Lib.hid ho
    have b1 := ho.lo
    have b2 := ho.hi
    have b3 := ho.len
    clear ho hmk
    by_cases hx : k < (dg a).length
    · have f1 := hg.free k
      obtain ⟨adx, rfl, hcellx⟩ := hr (by omega)
      have e2 := cell_below hbl (hcellx k (by omega))
      have r1 := wat_range (Wd_dg a) k
      have r1a := r1.1
      have r1b := r1.2
      have e3 := hg.cell (j := k) (by omega)
      by_cases hy : k < (dg b).length
      · obtain ⟨ad, rfl, hcell⟩ := hr2 (by omega)
        have e1 := cell_below hbl (hcell k (by omega))
        have r2 := wat_range (Wd_dg b) k
        have r2a := r2.1
        have r2b := r2.2
        clear hcell hcellx hr hr2 r1 r2
        by_cases hb : wat (dg a) k < x + wat (dg b) k
        · have am := and_mask (wat (dg a) k + 4294967296 - (x + wat (dg b) k)) (by omega) (by omega)
          go_wp2
          exact ⟨⟨k + 1, _, _, by omega, rfl, by go_num, HO.out.step (Wd_dg _) (Wd_dg _) hx (by omega) (by omega) (by omega), hg.set _ _, hbl.setCell (Nat.le_refl _) _⟩, by simp [intOf]; try omega⟩
        · have am := and_mask (wat (dg a) k - (x + wat (dg b) k)) (by omega) (by omega)
          go_wp2
          exact ⟨⟨k + 1, _, _, by omega, rfl, by go_num, HO.out.step (Wd_dg _) (Wd_dg _) hx (by omega) (by omega) (by omega), hg.set _ _, hbl.setCell (Nat.le_refl _) _⟩, by simp [intOf]; try omega⟩
      · have hy0 := wat_over (l := dg b) (k := k) (by omega)
        have HY := Lib.hid hy0
        clear hcellx hr hr2 r1 hy0
        by_cases hb : wat (dg a) k < x
        · have am := and_mask (wat (dg a) k + 4294967296 - x) (by omega) (by omega)
          go_wp2
          exact ⟨⟨k + 1, _, _, by omega, rfl, by go_num, HO.out.step (Wd_dg _) (Wd_dg _) hx (by omega) (by omega) (by rw [HY.out]; omega), hg.set _ _, hbl.setCell (Nat.le_refl _) _⟩, by simp [intOf]; try omega⟩
        · have am := and_mask (wat (dg a) k - x) (by omega) (by omega)
          go_wp2
          exact ⟨⟨k + 1, _, _, by omega, rfl, by go_num, HO.out.step (Wd_dg _) (Wd_dg _) hx (by omega) (by omega) (by rw [HY.out]; omega), hg.set _ _, hbl.setCell (Nat.le_refl _) _⟩, by simp [intOf]; try omega⟩
    · obtain rfl : k = (dg a).length := by omega
      have hd := HO.out.done (by rw [nv_dg, nv_dg]; exact hle) hlen
      rw [nv_dg, nv_dg] at hd
      have HD := Lib.hid hd
      have hrd := hg.rd (dg a).length (dg a).length (by omega) (by omega) (by omega)
      rw [show L.take (dg a).length = L by rw [← b3, List.take_length]] at hrd
      clear hd hr hr2
      go_wp2_with fail
      refine (rtrim _ _ _ hrd HO.out.wd).mono ?_
      rintro e w' ⟨v, rfl, hv, hb'⟩
      rw [HD.out] at hv
      go_wp2
      go_ret
      exact ⟨_, rfl, hv, bl_trans hbl hb'⟩
end Go.Proofs.Ytdmgceckmciifaa
