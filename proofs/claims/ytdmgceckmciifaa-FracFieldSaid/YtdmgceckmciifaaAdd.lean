/- Words: trim, add. -/
import Derived.Test.YtdmgceckmciifaaCmp
set_option linter.unusedVariables false
set_option linter.unusedSimpArgs false
namespace Go.Proofs.Ytdmgceckmciifaa
open Go.RowKit

theorem ret_sl {A A2 : Option Addr} {n n2 c c2 : Nat} (h : A = A2) (h1 : n = n2) (h2 : c = c2) : Ending.returned (.slice A n c) = .returned (.slice A2 n2 c2) := by rw [h, h1, h2]

theorem trim_calls (w : World) (g n c : Nat) (l : List Int) (ho : Ow w g l) (hw : Wd l) (hn : n = l.length) (hc : n ≤ c) (hm : c ≤ 9223372036854775807) :
    Calls Try.prog 113 #[.slice (some ⟨g, 0, none⟩) n c] w fun e w' => ∃ m, m ≤ n ∧ e = .returned (.slice (some ⟨g, 0, none⟩) m m) ∧ l.take m = dg (nv l) ∧ w' = w := by
  subst hn
  go_enter Try.func113, Try.ntmps113
  go_wp2
  go_loop [3] (fun i => ∃ k : Nat, k ≤ l.length ∧ i = .int .i64 k ∧ nv (l.drop k) = 0) (fun i => (intOf i).toNat)
  case atStart => exact ⟨_, Nat.le_refl _, rfl, nv_drop_all _ (Nat.le_refl _)⟩
  case round =>
    obtain ⟨k, hk, rfl, hz⟩ := hrel
    have HZ := Lib.hid hz
    clear hz
    by_cases h0 : 0 < k
    · obtain ⟨j, rfl⟩ : ∃ j, k = j + 1 := ⟨k - 1, by omega⟩
      have e1 := ho.cell (j := j) (by omega)
      by_cases h1 : wat l j = 0
      · have g1 : (wat l j == 0) = true := by simp [h1]
        have H1 := Lib.hid h1
        clear h1
        go_wp2
        exact ⟨⟨j, by omega, rfl, by rw [nv_drop_wat (by omega), HZ.out, H1.out]; rfl⟩, by simp [intOf]⟩
      · have g1 : (wat l j == 0) = false := by simp [h1]
        have H1 := Lib.hid h1
        clear h1
        go_wp2
        go_ret
        exact ⟨j + 1, hk, rfl, dg_trim hw hk HZ.out (fun _ => H1.out), rfl⟩
    · obtain rfl : k = 0 := by omega
      go_wp2
      go_ret
      exact ⟨0, by omega, rfl, dg_trim hw (by omega) HZ.out (fun h => absurd h (by omega)), rfl⟩

/-- What trim hands back, told as a number. -/
theorem trim_nm (w : World) (g n c : Nat) (l : List Int) (ho : Ow w g l) (hw : Wd l) (hn : n = l.length) (hc : n ≤ c) (hm : c ≤ 9223372036854775807) :
    Calls Try.prog 113 #[.slice (some ⟨g, 0, none⟩) n c] w fun e w' => ∃ v, e = .returned v ∧ Nm w v (nv l) ∧ w = w' := by
  refine (trim_calls w g n c l ho hw hn hc hm).mono ?_
  rintro e w' ⟨m, hmn, rfl, ht, rfl⟩
  refine ⟨_, rfl, ?_, rfl⟩
  have := ho.rd m m (by omega) (Nat.le_refl _) (by omega)
  rw [ht] at this
  exact this

/-- What holds of add's words, k of them done. -/
structure AddRel (X Y L : List Int) (k : Nat) (x : Int) : Prop where
  len : L.length = X.length + 1
  wd : Wd L
  lo : 0 ≤ x
  hi : x ≤ 1
  sum : nv (L.take k) + 4294967296 ^ k * x.toNat = nv (X.take k) + nv (Y.take k)
theorem AddRel.start (X Y : List Int) : AddRel X Y (List.replicate (X.length + 1) 0) 0 0 := ⟨by simp, Wd_replicate _, by omega, by omega, by simp [nv]⟩
theorem AddRel.step {X Y L : List Int} {k : Nat} {x s : Int} (h : AddRel X Y L k x) (hX : Wd X) (hY : Wd Y) (hk : k < X.length) (hs : s = wat X k + x + wat Y k) :
    AddRel X Y (L.set k (s % 4294967296)) (k + 1) (s / 4294967296) := by
  have r1 := wat_range hX k
  have r2 := wat_range hY k
  obtain ⟨h1, h2, h3, h4, h5⟩ := h
  refine ⟨by simpa using h1, Wd_set h2 _ _ (by omega), by omega, by omega, ?_⟩
  rw [nv_set_take (by omega), nv_take_wat hk]
  have e2 : nv (Y.take (k + 1)) = nv (Y.take k) + 4294967296 ^ k * (wat Y k).toNat := by
    by_cases hy : k < Y.length
    · exact nv_take_wat hy
    · rw [wat_over (by omega), nv_take_all _ (by omega), nv_take_all _ (by omega)]; simp
  rw [e2, Nat.pow_succ]
  have e3 : (s % 4294967296).toNat + 4294967296 * (s / 4294967296).toNat = (wat X k).toNat + x.toNat + (wat Y k).toNat := by omega
  have e4 := congrArg (fun z => 4294967296 ^ k * z) e3
  simp only [Nat.mul_add, ← Nat.mul_assoc] at e4
  omega
theorem AddRel.done {X Y L : List Int} {x : Int} (h : AddRel X Y L X.length x) (hY : Y.length ≤ X.length) : nv (L.set X.length x) = nv X + nv Y ∧ Wd (L.set X.length x) := by
  obtain ⟨h1, h2, h3, h4, h5⟩ := h
  refine ⟨?_, Wd_set h2 _ _ (by omega)⟩
  rw [← nv_take_all (L.set X.length x) (k := X.length + 1) (by simp; omega), nv_set_take (by omega), h5, nv_take_all _ (Nat.le_refl _), nv_take_all _ hY]

theorem add_calls (w : World) (va vb : Value) (a b : Nat) (ha : Nm w va a) (hb : Nm w vb b) (sa : (dg a).length ≤ 1073741824) (sb : (dg b).length ≤ 1073741824) :
    Calls Try.prog 78 #[va, vb] w fun e w' => ∃ v, e = .returned v ∧ Nm w' v (a + b) ∧ Below w.heap.size w w' := by
  obtain ⟨A, c, rfl, hl, hc, hr⟩ := ha
  obtain ⟨A2, c2, rfl, hl2, hc2, hr2⟩ := hb
  by_cases h1 : (dg a).length < (dg b).length
  · have hmk := fun w => mk_words (((dg b).length : Int) + 1) (by omega) (by omega) w
    go_enter Try.func78, Try.ntmps78
    go_wp2
    go_loopw [6, 22] (fun s i wr => ∃ (k : Nat) (x : Int) (L : List Int), k ≤ (dg b).length ∧ s = .int .u64 x ∧ i = .int .i64 k ∧ AddRel (dg b) (dg a) L k x ∧ Ow wr w.heap.size L ∧ Below w.heap.size w wr)
      (fun _ i _ => (dg b).length - (intOf i).toNat)
    case atStart => exact ⟨0, 0, _, by omega, rfl, rfl, AddRel.start _ _, Ow.zeros _ _, (Below.refl _ _).alloc (Nat.le_refl _) _⟩
    case round =>
      obtain ⟨k, x, L, hk, rfl, rfl, ho, hg, hbl⟩ := hrel
      have HO := Lib.hid ho
      have b1 := ho.lo
      have b2 := ho.hi
      have b3 := ho.len
      clear ho hmk
      by_cases hx : k < (dg b).length
      · have f1 := hg.free k
        obtain ⟨adx, rfl, hcellx⟩ := hr2 (by omega)
        have e2 := cell_below hbl (hcellx k (by omega))
        have r1 := wat_range (Wd_dg b) k
        have r1a := r1.1
        have r1b := r1.2
        have e3 := hg.cell (j := k) (by omega)
        by_cases hy : k < (dg a).length
        · obtain ⟨ad, rfl, hcell⟩ := hr (by omega)
          have e1 := cell_below hbl (hcell k (by omega))
          have r2 := wat_range (Wd_dg a) k
          have r2a := r2.1
          have r2b := r2.2
          clear hcell hcellx hr hr2 r1 r2
          go_wp2
          exact ⟨⟨k + 1, _, _, by omega, rfl, by go_num, HO.out.step (Wd_dg _) (Wd_dg _) hx rfl, hg.set _ _, hbl.setCell (Nat.le_refl _) _⟩, by simp [intOf]; try omega⟩
        · have hy0 := wat_over (l := dg a) (k := k) (by omega)
          have HY := Lib.hid hy0
          clear hcellx hr hr2 r1 hy0
          go_wp2
          exact ⟨⟨k + 1, _, _, by omega, rfl, by go_num, HO.out.step (Wd_dg _) (Wd_dg _) hx (by rw [HY.out]; omega), hg.set _ _, hbl.setCell (Nat.le_refl _) _⟩, by simp [intOf]; try omega⟩
      · obtain rfl : k = (dg b).length := by omega
        have f1 := hg.free (dg b).length
        have e3 := hg.cell (j := (dg b).length) (by omega)
        have hd := HO.out.done (by omega)
        rw [nv_dg, nv_dg] at hd
        have HD := Lib.hid hd
        clear hd
        go_wp2_with fail
        refine (trim_nm _ _ _ _ _ (hg.set _ x) HD.out.2 (by simp; omega) (by omega) (by omega)).mono ?_
        rintro e w' ⟨v, rfl, hv, rfl⟩
        rw [HD.out.1, Nat.add_comm b a] at hv
        go_wp2
        go_ret
        exact ⟨_, rfl, hv, hbl.setCell (Nat.le_refl _) _⟩
  · have hmk := fun w => mk_words (((dg a).length : Int) + 1) (by omega) (by omega) w
    go_enter Try.func78, Try.ntmps78
    go_wp2
    go_loopw [6, 22] (fun s i wr => ∃ (k : Nat) (x : Int) (L : List Int), k ≤ (dg a).length ∧ s = .int .u64 x ∧ i = .int .i64 k ∧ AddRel (dg a) (dg b) L k x ∧ Ow wr w.heap.size L ∧ Below w.heap.size w wr)
      (fun _ i _ => (dg a).length - (intOf i).toNat)
    case atStart => exact ⟨0, 0, _, by omega, rfl, rfl, AddRel.start _ _, Ow.zeros _ _, (Below.refl _ _).alloc (Nat.le_refl _) _⟩
    case round =>
      obtain ⟨k, x, L, hk, rfl, rfl, ho, hg, hbl⟩ := hrel
      have HO := Lib.hid ho
      have b1 := ho.lo
      have b2 := ho.hi
      have b3 := ho.len
      clear ho hmk
      by_cases hx : k < (dg a).length
      · have f1 := hg.free k
        obtain ⟨adx, rfl, hcellx⟩ := hr (by omega)
        have e2 := cell_below hbl (hcellx k (by omega))
        have r1 := wat_range (Wd_dg a) k
        have r1a := r1.1
        have r1b := r1.2
        have e3 := hg.cell (j := k) (by omega)
        by_cases hy : k < (dg b).length
        · obtain ⟨ad, rfl, hcell⟩ := hr2 (by omega)
          have e1 := cell_below hbl (hcell k (by omega))
          have r2 := wat_range (Wd_dg b) k
          have r2a := r2.1
          have r2b := r2.2
          clear hcell hcellx hr hr2 r1 r2
          go_wp2
          exact ⟨⟨k + 1, _, _, by omega, rfl, by go_num, HO.out.step (Wd_dg _) (Wd_dg _) hx rfl, hg.set _ _, hbl.setCell (Nat.le_refl _) _⟩, by simp [intOf]; try omega⟩
        · have hy0 := wat_over (l := dg b) (k := k) (by omega)
          have HY := Lib.hid hy0
          clear hcellx hr hr2 r1 hy0
          go_wp2
          exact ⟨⟨k + 1, _, _, by omega, rfl, by go_num, HO.out.step (Wd_dg _) (Wd_dg _) hx (by rw [HY.out]; omega), hg.set _ _, hbl.setCell (Nat.le_refl _) _⟩, by simp [intOf]; try omega⟩
      · obtain rfl : k = (dg a).length := by omega
        have f1 := hg.free (dg a).length
        have e3 := hg.cell (j := (dg a).length) (by omega)
        have hd := HO.out.done (by omega)
        rw [nv_dg, nv_dg] at hd
        have HD := Lib.hid hd
        clear hd
        go_wp2_with fail
        refine (trim_nm _ _ _ _ _ (hg.set _ x) HD.out.2 (by simp; omega) (by omega) (by omega)).mono ?_
        rintro e w' ⟨v, rfl, hv, rfl⟩
        rw [HD.out.1] at hv
        go_wp2
        go_ret
        exact ⟨_, rfl, hv, hbl.setCell (Nat.le_refl _) _⟩
end Go.Proofs.Ytdmgceckmciifaa
