/- Words: of, own, sub, short. -/
import Derived.Test.YtdmgceckmciifaaAdd
set_option linter.unusedVariables false
set_option linter.unusedSimpArgs false
namespace Go.Proofs.Ytdmgceckmciifaa
open Go.RowKit

theorem of_calls (w : World) (n : Int) (m : Nat) (hnm : n = (m : Int)) (hm : m < 18446744073709551616) :
    Calls Try.prog 101 #[.int .u64 n] w fun e w' => ∃ v, e = .returned v ∧ Nm w' v m ∧ Below w.heap.size w w' := by
  subst hnm
  have h1 : ((m : Int) % 4294967296, (m : Int) / 4294967296) = (((m % 4294967296 : Nat) : Int), ((m / 4294967296 : Nat) : Int)) := by simp
  have hw : Wd [(m : Int) % 4294967296, (m : Int) / 4294967296] := by
    intro x hx
    simp at hx
    omega
  have hv : nv [(m : Int) % 4294967296, (m : Int) / 4294967296] = m := by simp only [nv]; omega
  have HV := Lib.hid hv
  clear h1 hv
  go_enter Try.func101, Try.ntmps101
  go_wp2_with fail
  refine (trim_nm _ _ 2 2 [(m : Int) % 4294967296, (m : Int) / 4294967296] (Ow.made w _) hw rfl (by omega) (by omega)).mono ?_
  rintro e w' ⟨v, rfl, hv, rfl⟩
  rw [HV.out] at hv
  go_wp2
  go_ret
  exact ⟨_, rfl, hv, (Below.refl _ _).alloc (Nat.le_refl _) _⟩

theorem own_calls (w : World) (va : Value) (l : List Int) (ha : RdI .u32 w va l) (hs : l.length ≤ 1073741824) :
    Calls Try.prog 104 #[va] w fun e w' => ∃ v, e = .returned v ∧ RdI .u32 w' v l ∧ Below w.heap.size w w' := by
  obtain ⟨A, c, rfl, hl, hc, hr⟩ := ha
  have hmk := fun w => mk_words (l.length : Int) (by omega) (by omega) w
  go_enter Try.func104, Try.ntmps104
  go_wp2_with (with_reducible refine wpList_copy_splice rfl (.tmp 7) (.tmp 8) _ _ rfl 38 Try.underlying57 (by kernel_rfl) _ _ _ _ _ _ rfl rfl w.heap.size 0 (List.replicate l.length (Value.int .u32 0)) 38 ?g1 (l.map (Value.int .u32)) ?g2 ?g3 ?g4 ?g5 w.heap.size w ?g6 ?g7 ?_)
  case g1 => simpa using heap_alloc_new w (.cells (Array.replicate l.length (Value.int .u32 0)) 38)
  case g2 => simp
  case g3 =>
    intro h0
    obtain ⟨ad, hA, hcell⟩ := hr h0
    exact ⟨ad, hA, fun j x hx => by
      have hj2 : j < l.length := (List.getElem?_eq_some_iff.1 hx).1
      have := cell_below ((Below.refl _ _).alloc (Nat.le_refl _) (.cells (Array.replicate l.length (Value.int .u32 0)) 38)) (hcell j hj2)
      rw [this]
      simp [wat, List.getD_eq_getElem?_getD, hx]⟩
  case g4 => simp
  case g5 =>
    intro v hv
    obtain ⟨x, _, rfl⟩ := List.mem_map.1 hv
    rfl
  case g6 => exact (Below.refl _ _).alloc (Nat.le_refl _) _
  case g7 => exact Nat.le_refl _
  intro w1 h1 hb
  have e : splice (List.replicate l.length (Value.int .u32 0)) 0 (l.map (Value.int .u32)) = l.map (Value.int .u32) := by simp [splice]
  have ho : Ow w1 w.heap.size l := by
    unfold Ow
    rw [h1.out, e]
  clear h1 e hr hmk
  go_wp2
  go_ret
  refine ⟨_, rfl, ?_, hb⟩
  have := ho.rd l.length l.length (Nat.le_refl _) (Nat.le_refl _) (by omega)
  rw [List.take_length] at this
  exact this

/-- What holds of sub's words, k of them done. -/
structure SubRel (X Y L : List Int) (k : Nat) (x : Int) : Prop where
  len : L.length = X.length
  wd : Wd L
  lo : 0 ≤ x
  hi : x ≤ 1
  sum : nv (L.take k) + nv (Y.take k) = nv (X.take k) + 4294967296 ^ k * x.toNat
theorem SubRel.start (X Y : List Int) : SubRel X Y (List.replicate X.length 0) 0 0 := ⟨by simp, Wd_replicate _, by omega, by omega, by simp [nv]⟩
theorem SubRel.step {X Y L : List Int} {k : Nat} {x y s : Int} (h : SubRel X Y L k x) (hX : Wd X) (hY : Wd Y) (hk : k < X.length) (hs0 : 0 ≤ s ∧ s < 4294967296) (hy : 0 ≤ y ∧ y ≤ 1) (hs : s = wat X k + 4294967296 * y - (x + wat Y k)) :
    SubRel X Y (L.set k s) (k + 1) y := by
  have r1 := wat_range hX k
  have r2 := wat_range hY k
  obtain ⟨h1, h2, h3, h4, h5⟩ := h
  refine ⟨by simpa using h1, Wd_set h2 _ _ hs0, by omega, by omega, ?_⟩
  rw [nv_set_take (by omega), nv_take_wat hk]
  have e2 : nv (Y.take (k + 1)) = nv (Y.take k) + 4294967296 ^ k * (wat Y k).toNat := by
    by_cases hy : k < Y.length
    · exact nv_take_wat hy
    · rw [wat_over (by omega), nv_take_all _ (by omega), nv_take_all _ (by omega)]; simp
  rw [e2, Nat.pow_succ]
  have e3 : s.toNat + (wat Y k).toNat + x.toNat = (wat X k).toNat + 4294967296 * y.toNat := by omega
  have e4 := congrArg (fun z => 4294967296 ^ k * z) e3
  simp only [Nat.mul_add, ← Nat.mul_assoc] at e4
  omega
theorem SubRel.done {X Y L : List Int} {x : Int} (h : SubRel X Y L X.length x) (hL : nv Y ≤ nv X) (hl : Y.length ≤ X.length) : nv L = nv X - nv Y := by
  obtain ⟨h1, h2, h3, h4, h5⟩ := h
  rw [nv_take_all _ (by omega), nv_take_all _ hl, nv_take_all _ (Nat.le_refl _)] at h5
  by_cases hx : x = 0
  · subst hx
    simp at h5
    omega
  · have hx1 : x = 1 := by omega
    subst hx1
    have := nv_lt h2
    rw [h1] at this
    simp at h5
    omega

theorem sub_calls (w : World) (va vb : Value) (a b : Nat) (ha : Nm w va a) (hb : Nm w vb b) (hle : b ≤ a) (sa : (dg a).length ≤ 1073741824) :
    Calls Try.prog 109 #[va, vb] w fun e w' => ∃ v, e = .returned v ∧ Nm w' v (a - b) ∧ Below w.heap.size w w' := by
  obtain ⟨A, c, rfl, hl, hc, hr⟩ := ha
  obtain ⟨A2, c2, rfl, hl2, hc2, hr2⟩ := hb
  have hmk := fun w => mk_words ((dg a).length : Int) (by omega) (by omega) w
  have hlen := dg_len_mono hle
  go_enter Try.func109, Try.ntmps109
  go_wp2
  go_loopw [6, 15] (fun s i wr => ∃ (k : Nat) (x : Int) (L : List Int), k ≤ (dg a).length ∧ s = .int .u64 x ∧ i = .int .i64 k ∧ SubRel (dg a) (dg b) L k x ∧ Ow wr w.heap.size L ∧ Below w.heap.size w wr)
    (fun _ i _ => (dg a).length - (intOf i).toNat)
  case atStart => exact ⟨0, 0, _, by omega, rfl, rfl, SubRel.start _ _, Ow.zeros _ _, (Below.refl _ _).alloc (Nat.le_refl _) _⟩
  case round =>
    obtain ⟨k, x, L, hk, rfl, rfl, ho, hg, hbl⟩ := hrel
    have HO := Lib.hid ho
    have b1 := ho.lo
    have b2 := ho.hi
    have b3 := ho.len
    clear ho hmk
    by_cases hx : k < (dg a).length
    · have f1 := hg.free k
      obtain ⟨adx, rfl, hcellx⟩ := hr (by omega)
      have e2 := cell_below hbl (hcellx k (by omega))
      have r1 := wat_range (Wd_dg a) k
      have r1a := r1.1
      have r1b := r1.2
      have e3 := hg.cell (j := k) (by omega)
      by_cases hy : k < (dg b).length
      · obtain ⟨ad, rfl, hcell⟩ := hr2 (by omega)
        have e1 := cell_below hbl (hcell k (by omega))
        have r2 := wat_range (Wd_dg b) k
        have r2a := r2.1
        have r2b := r2.2
        clear hcell hcellx hr hr2 r1 r2
        by_cases hb : wat (dg a) k < x + wat (dg b) k
        · go_wp2
          exact ⟨⟨k + 1, _, _, by omega, rfl, by go_num, HO.out.step (Wd_dg _) (Wd_dg _) hx (by omega) (by omega) (by omega), hg.set _ _, hbl.setCell (Nat.le_refl _) _⟩, by simp [intOf]; try omega⟩
        · go_wp2
          exact ⟨⟨k + 1, _, _, by omega, rfl, by go_num, HO.out.step (Wd_dg _) (Wd_dg _) hx (by omega) (by omega) (by omega), hg.set _ _, hbl.setCell (Nat.le_refl _) _⟩, by simp [intOf]; try omega⟩
      · have hy0 := wat_over (l := dg b) (k := k) (by omega)
        have HY := Lib.hid hy0
        clear hcellx hr hr2 r1 hy0
        by_cases hb : wat (dg a) k < x
        · go_wp2
          exact ⟨⟨k + 1, _, _, by omega, rfl, by go_num, HO.out.step (Wd_dg _) (Wd_dg _) hx (by omega) (by omega) (by rw [HY.out]; omega), hg.set _ _, hbl.setCell (Nat.le_refl _) _⟩, by simp [intOf]; try omega⟩
        · go_wp2
          exact ⟨⟨k + 1, _, _, by omega, rfl, by go_num, HO.out.step (Wd_dg _) (Wd_dg _) hx (by omega) (by omega) (by rw [HY.out]; omega), hg.set _ _, hbl.setCell (Nat.le_refl _) _⟩, by simp [intOf]; try omega⟩
    · obtain rfl : k = (dg a).length := by omega
      have hd := HO.out.done (by rw [nv_dg, nv_dg]; exact hle) hlen
      rw [nv_dg, nv_dg] at hd
      have HD := Lib.hid hd
      clear hd
      go_wp2_with fail
      refine (trim_nm _ _ _ _ _ hg HO.out.wd (by omega) (by omega) (by omega)).mono ?_
      rintro e w' ⟨v, rfl, hv, rfl⟩
      rw [HD.out] at hv
      go_wp2
      go_ret
      exact ⟨_, rfl, hv, hbl⟩
end Go.Proofs.Ytdmgceckmciifaa
