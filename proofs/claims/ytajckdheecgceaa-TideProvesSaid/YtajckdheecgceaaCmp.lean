/- Words: one, cmp. -/
import Derived.Test.YtajckdheecgceaaRd
import Derived.Laws.BitsAllLaws
import Derived.Laws.BitsLemmas
set_option linter.unusedVariables false
set_option linter.unusedSimpArgs false
namespace Go.Proofs.Ytajckdheecgceaa
open Go.RowKit

theorem one_calls (w : World) (va : Value) (l : List Int) (ha : RdI .u32 w va l) :
    Calls Try.prog 125 #[va] w fun e w' => e = .returned (.bool (decide (l = [1]))) ∧ Below w.heap.size w w' := by
  obtain ⟨A, c, rfl, hl, hc, hr⟩ := ha
  by_cases h1 : l.length = 1
  · obtain ⟨x, rfl⟩ : ∃ x, l = [x] := List.length_eq_one_iff.1 h1
    obtain ⟨ad, rfl, hcell⟩ := hr (by simp)
    have h0 := hcell 0 (by simp)
    rw [add0] at h0
    rw [show wat [x] 0 = x from rfl] at h0
    clear hcell hr h1
    go_enter Try.func125, Try.ntmps125
    go_wp2
    go_ret
    exact ⟨by simp; rfl, Below.refl _ _⟩
  · have h2 : ((l.length : Int) == 1) = false := by simp; omega
    clear hr
    go_enter Try.func125, Try.ntmps125
    go_wp2
    go_ret
    have h3 : ¬ l = [1] := by rintro rfl; simp at h1
    exact ⟨by simp [h3], Below.refl _ _⟩

theorem dg_eq_one {n : Nat} : dg n = [1] ↔ n = 1 := ⟨fun h => dg_inj (h.trans dg_one.symm), fun h => by rw [h, dg_one]⟩
theorem one_nm (w : World) (va : Value) (n : Nat) (ha : Nm w va n) (b : Bool) (hb : decide (n = 1) = b) :
    Calls Try.prog 125 #[va] w fun e w' => e = .returned (.bool b) ∧ Below w.heap.size w w' := by
  refine (one_calls w va _ ha).mono ?_
  rintro e w' ⟨rfl, h⟩
  refine ⟨?_, h⟩
  rw [← hb]
  congr 2
  simp [dg_eq_one]
theorem cmp_calls (w : World) (va vb : Value) (a b : Nat) (ha : Nm w va a) (hb : Nm w vb b) :
    Calls Try.prog 115 #[va, vb] w fun e w' => e = .returned (.int .i64 (ncmp a b)) ∧ Below w.heap.size w w' := by
  obtain ⟨A, c, rfl, hl, hc, hr⟩ := ha
  obtain ⟨A2, c2, rfl, hl2, hc2, hr2⟩ := hb
  by_cases h1 : (dg a).length = (dg b).length
  · have h3 : ((dg a).length != (dg b).length) = false := by simp [h1]
    have h5 : (((dg a).length : Int) != ((dg b).length : Int)) = false := by simp [h1]
    go_enter Try.func115, Try.ntmps115
    go_wp2
    go_loopw [5] (fun i wr => ∃ x : Int, -1 ≤ x ∧ x < (dg b).length ∧ i = .int .i64 x ∧ nv ((dg a).drop (x + 1).toNat) = nv ((dg b).drop (x + 1).toNat) ∧ Below w.heap.size w wr)
      (fun i _ => (intOf i + 1).toNat)
    case atStart => exact ⟨_, by omega, by omega, rfl, by rw [nv_drop_all _ (by omega), nv_drop_all _ (by omega)], Below.refl _ _⟩
    case round =>
      obtain ⟨x, hx1, hx2, rfl, hx3, hb⟩ := hrel
      by_cases hx : 0 ≤ x
      · obtain ⟨j, rfl⟩ := Int.eq_ofNat_of_zero_le hx
        obtain ⟨ad, rfl, hcell⟩ := hr (by omega)
        obtain ⟨ad2, rfl, hcell2⟩ := hr2 (by omega)
        have e1 := cell_below hb (hcell j (by omega))
        have e2 := cell_below hb (hcell2 j (by omega))
        have l1 : (j : Int) < ((dg a).length : Int) := by omega
        have l2 : (j : Int) < ((dg b).length : Int) := by omega
        rw [show ((j : Int) + 1).toNat = j + 1 by omega] at hx3
        have HX := Lib.hid hx3
        have H1 := Lib.hid h1
        clear hcell hcell2 hr hr2 hx3 h1
        rcases Int.lt_trichotomy (wat (dg a) j) (wat (dg b) j) with h | h | h
        · have g1 : (wat (dg a) j != wat (dg b) j) = true := by simp; omega
          go_wp2
          go_quiet (fail)
          go_wp2
          go_quiet (fail)
          go_wp2
          go_ret
          exact ⟨by rw [ncmp_lt]; · rfl
                    rw [← nv_dg a, ← nv_dg b]
                    exact nv_lt_of (Wd_dg a) (Wd_dg b) HX.out H1.out (by omega) h, bl_trans hb (by rw [World.drewN_drewN]; exact bl_drewN _ _)⟩
        · have g1 : (wat (dg a) j != wat (dg b) j) = false := by simp [h]
          go_wp2
          go_quiet (fail)
          go_wp2
          go_roundw
          case rel =>
            refine ⟨_, by omega, by omega, rfl, ?_, ?_⟩
            · rw [show ((j : Int) - 1 + 1).toNat = j by omega, nv_drop_wat (by omega), nv_drop_wat (l := dg b) (by omega), HX.out, h]
            · exact bl_trans hb (bl_drewN _ _)
          case measure => simp [intOf]; try omega
        · have g1 : (wat (dg a) j != wat (dg b) j) = true := by simp; omega
          go_wp2
          go_quiet (fail)
          go_wp2
          go_quiet (fail)
          go_wp2
          go_ret
          exact ⟨by rw [ncmp_gt]; · rfl
                    rw [← nv_dg a, ← nv_dg b]
                    exact nv_lt_of (Wd_dg b) (Wd_dg a) HX.out.symm H1.out.symm (by omega) h, bl_trans hb (by rw [World.drewN_drewN]; exact bl_drewN _ _)⟩
      · obtain rfl : x = -1 := by omega
        go_wp2
        go_ret
        have e : nv (dg a) = nv (dg b) := by simpa using hx3
        rw [nv_dg, nv_dg] at e
        exact ⟨by rw [ncmp_eq e]; rfl, hb⟩
  · have h3 : ((dg a).length != (dg b).length) = true := by simp [h1]
    have h5 : (((dg a).length : Int) != ((dg b).length : Int)) = true := by simp; omega
    rcases Nat.lt_or_gt_of_ne h1 with h | h
    · go_enter Try.func115, Try.ntmps115
      go_wp2
      go_ret
      exact ⟨by rw [ncmp_lt (dg_lt_of_len h)]; rfl, Below.refl _ _⟩
    · have h' : ¬ (dg a).length < (dg b).length := by omega
      go_enter Try.func115, Try.ntmps115
      go_wp2
      go_ret
      exact ⟨by rw [ncmp_gt (dg_lt_of_len h)]; rfl, Below.refl _ _⟩

theorem ret_sl {A A2 : Option Addr} {n n2 c c2 : Nat} (h : A = A2) (h1 : n = n2) (h2 : c = c2) : Ending.returned (.slice A n c) = .returned (.slice A2 n2 c2) := by rw [h, h1, h2]

theorem trim_calls (w : World) (g n c : Nat) (l : List Int) (ho : Ow w g l) (hw : Wd l) (hn : n = l.length) (hc : n ≤ c) (hm : c ≤ 9223372036854775807) :
    Calls Try.prog 127 #[.slice (some ⟨g, 0, none⟩) n c] w fun e w' => ∃ m, m ≤ n ∧ e = .returned (.slice (some ⟨g, 0, none⟩) m m) ∧ l.take m = dg (nv l) ∧ w' = w := by
  subst hn
  go_enter Try.func127, Try.ntmps127
  go_wp2
  go_loop [3] (fun i => ∃ k : Nat, k ≤ l.length ∧ i = .int .i64 k ∧ nv (l.drop k) = 0) (fun i => (intOf i).toNat)
  case atStart => exact ⟨_, Nat.le_refl _, rfl, nv_drop_all _ (Nat.le_refl _)⟩
  case round =>
    obtain ⟨k, hk, rfl, hz⟩ := hrel
    have HZ := Lib.hid hz
    clear hz
    by_cases h0 : 0 < k
    · obtain ⟨j, rfl⟩ : ∃ j, k = j + 1 := ⟨k - 1, by omega⟩
      have e1 := ho.cell (j := j) (by omega)
      by_cases h1 : wat l j = 0
      · have g1 : (wat l j == 0) = true := by simp [h1]
        have H1 := Lib.hid h1
        clear h1
        go_wp2
        exact ⟨⟨j, by omega, rfl, by rw [nv_drop_wat (by omega), HZ.out, H1.out]; rfl⟩, by simp [intOf]⟩
      · have g1 : (wat l j == 0) = false := by simp [h1]
        have H1 := Lib.hid h1
        clear h1
        go_wp2
        go_ret
        exact ⟨j + 1, hk, rfl, dg_trim hw hk HZ.out (fun _ => H1.out), rfl⟩
    · obtain rfl : k = 0 := by omega
      go_wp2
      go_ret
      exact ⟨0, by omega, rfl, dg_trim hw (by omega) HZ.out (fun h => absurd h (by omega)), rfl⟩

/-- What trim hands back, told as a number. -/
theorem trim_nm (w : World) (g n c : Nat) (l : List Int) (ho : Ow w g l) (hw : Wd l) (hn : n = l.length) (hc : n ≤ c) (hm : c ≤ 9223372036854775807) :
    Calls Try.prog 127 #[.slice (some ⟨g, 0, none⟩) n c] w fun e w' => ∃ v, e = .returned v ∧ Nm w v (nv l) ∧ w = w' := by
  refine (trim_calls w g n c l ho hw hn hc hm).mono ?_
  rintro e w' ⟨m, hmn, rfl, ht, rfl⟩
  refine ⟨_, rfl, ?_, rfl⟩
  have := ho.rd m m (by omega) (Nat.le_refl _) (by omega)
  rw [ht] at this
  exact this

/-- What holds of add's words, k of them done. -/
structure AddRel (X Y L : List Int) (k : Nat) (x : Int) : Prop where
  len : L.length = X.length + 1
  wd : Wd L
  lo : 0 ≤ x
  hi : x ≤ 1
  sum : nv (L.take k) + 4294967296 ^ k * x.toNat = nv (X.take k) + nv (Y.take k)
theorem AddRel.start (X Y : List Int) : AddRel X Y (List.replicate (X.length + 1) 0) 0 0 := ⟨by simp, Wd_replicate _, by omega, by omega, by simp [nv]⟩
theorem AddRel.step {X Y L : List Int} {k : Nat} {x s : Int} (h : AddRel X Y L k x) (hX : Wd X) (hY : Wd Y) (hk : k < X.length) (hs : s = wat X k + x + wat Y k) :
    AddRel X Y (L.set k (s % 4294967296)) (k + 1) (s / 4294967296) := by
  have r1 := wat_range hX k
  have r2 := wat_range hY k
  obtain ⟨h1, h2, h3, h4, h5⟩ := h
  refine ⟨by simpa using h1, Wd_set h2 _ _ (by omega), by omega, by omega, ?_⟩
  rw [nv_set_take (by omega), nv_take_wat hk]
  have e2 : nv (Y.take (k + 1)) = nv (Y.take k) + 4294967296 ^ k * (wat Y k).toNat := by
    by_cases hy : k < Y.length
    · exact nv_take_wat hy
    · rw [wat_over (by omega), nv_take_all _ (by omega), nv_take_all _ (by omega)]; simp
  rw [e2, Nat.pow_succ]
  have e3 : (s % 4294967296).toNat + 4294967296 * (s / 4294967296).toNat = (wat X k).toNat + x.toNat + (wat Y k).toNat := by omega
  have e4 := congrArg (fun z => 4294967296 ^ k * z) e3
  simp only [Nat.mul_add, ← Nat.mul_assoc] at e4
  omega
theorem AddRel.done {X Y L : List Int} {x : Int} (h : AddRel X Y L X.length x) (hY : Y.length ≤ X.length) : nv (L.set X.length x) = nv X + nv Y ∧ Wd (L.set X.length x) := by
  obtain ⟨h1, h2, h3, h4, h5⟩ := h
  refine ⟨?_, Wd_set h2 _ _ (by omega)⟩
  rw [← nv_take_all (L.set X.length x) (k := X.length + 1) (by simp; omega), nv_set_take (by omega), h5, nv_take_all _ (Nat.le_refl _), nv_take_all _ hY]

theorem add_calls (w : World) (va vb : Value) (a b : Nat) (ha : Nm w va a) (hb : Nm w vb b) (sa : (dg a).length ≤ 1073741824) (sb : (dg b).length ≤ 1073741824) :
    Calls Try.prog 118 #[va, vb] w fun e w' => ∃ v, e = .returned v ∧ Nm w' v (a + b) ∧ Below w.heap.size w w' := by
  obtain ⟨A, c, rfl, hl, hc, hr⟩ := ha
  obtain ⟨A2, c2, rfl, hl2, hc2, hr2⟩ := hb
  by_cases h1 : (dg a).length < (dg b).length
  · have hmk := fun w => mk_words (((dg b).length : Int) + 1) (by omega) (by omega) w
    go_enter Try.func118, Try.ntmps118
    go_wp2
    go_loopw [6, 22] (fun s i wr => ∃ (k : Nat) (x : Int) (L : List Int), k ≤ (dg b).length ∧ s = .int .u64 x ∧ i = .int .i64 k ∧ AddRel (dg b) (dg a) L k x ∧ Ow wr w.heap.size L ∧ Below w.heap.size w wr)
      (fun _ i _ => (dg b).length - (intOf i).toNat)
    case atStart => exact ⟨0, 0, _, by omega, rfl, rfl, AddRel.start _ _, Ow.zeros _ _, (Below.refl _ _).alloc (Nat.le_refl _) _⟩
    case round =>
      obtain ⟨k, x, L, hk, rfl, rfl, ho, hg, hbl⟩ := hrel
      have HO := Lib.hid ho
      have b1 := ho.lo
      have b2 := ho.hi
      have b3 := ho.len
      clear ho hmk
      by_cases hx : k < (dg b).length
      · have f1 := hg.free k
        obtain ⟨adx, rfl, hcellx⟩ := hr2 (by omega)
        have e2 := cell_below hbl (hcellx k (by omega))
        have r1 := wat_range (Wd_dg b) k
        have r1a := r1.1
        have r1b := r1.2
        have e3 := hg.cell (j := k) (by omega)
        by_cases hy : k < (dg a).length
        · obtain ⟨ad, rfl, hcell⟩ := hr (by omega)
          have e1 := cell_below hbl (hcell k (by omega))
          have r2 := wat_range (Wd_dg a) k
          have r2a := r2.1
          have r2b := r2.2
          clear hcell hcellx hr hr2 r1 r2
          go_wp2
          exact ⟨⟨k + 1, _, _, by omega, rfl, by go_num, HO.out.step (Wd_dg _) (Wd_dg _) hx rfl, hg.set _ _, hbl.setCell (Nat.le_refl _) _⟩, by simp [intOf]; try omega⟩
        · have hy0 := wat_over (l := dg a) (k := k) (by omega)
          have HY := Lib.hid hy0
          clear hcellx hr hr2 r1 hy0
          go_wp2
          exact ⟨⟨k + 1, _, _, by omega, rfl, by go_num, HO.out.step (Wd_dg _) (Wd_dg _) hx (by rw [HY.out]; omega), hg.set _ _, hbl.setCell (Nat.le_refl _) _⟩, by simp [intOf]; try omega⟩
      · obtain rfl : k = (dg b).length := by omega
        have f1 := hg.free (dg b).length
        have e3 := hg.cell (j := (dg b).length) (by omega)
        have hd := HO.out.done (by omega)
        rw [nv_dg, nv_dg] at hd
        have HD := Lib.hid hd
        clear hd
        go_wp2_with fail
        refine (trim_nm _ _ _ _ _ (hg.set _ x) HD.out.2 (by simp; omega) (by omega) (by omega)).mono ?_
        rintro e w' ⟨v, rfl, hv, rfl⟩
        rw [HD.out.1, Nat.add_comm b a] at hv
        go_wp2
        go_ret
        exact ⟨_, rfl, hv, hbl.setCell (Nat.le_refl _) _⟩
  · have hmk := fun w => mk_words (((dg a).length : Int) + 1) (by omega) (by omega) w
    go_enter Try.func118, Try.ntmps118
    go_wp2
    go_loopw [6, 22] (fun s i wr => ∃ (k : Nat) (x : Int) (L : List Int), k ≤ (dg a).length ∧ s = .int .u64 x ∧ i = .int .i64 k ∧ AddRel (dg a) (dg b) L k x ∧ Ow wr w.heap.size L ∧ Below w.heap.size w wr)
      (fun _ i _ => (dg a).length - (intOf i).toNat)
    case atStart => exact ⟨0, 0, _, by omega, rfl, rfl, AddRel.start _ _, Ow.zeros _ _, (Below.refl _ _).alloc (Nat.le_refl _) _⟩
    case round =>
      obtain ⟨k, x, L, hk, rfl, rfl, ho, hg, hbl⟩ := hrel
      have HO := Lib.hid ho
      have b1 := ho.lo
      have b2 := ho.hi
      have b3 := ho.len
      clear ho hmk
      by_cases hx : k < (dg a).length
      · have f1 := hg.free k
        obtain ⟨adx, rfl, hcellx⟩ := hr (by omega)
        have e2 := cell_below hbl (hcellx k (by omega))
        have r1 := wat_range (Wd_dg a) k
        have r1a := r1.1
        have r1b := r1.2
        have e3 := hg.cell (j := k) (by omega)
        by_cases hy : k < (dg b).length
        · obtain ⟨ad, rfl, hcell⟩ := hr2 (by omega)
          have e1 := cell_below hbl (hcell k (by omega))
          have r2 := wat_range (Wd_dg b) k
          have r2a := r2.1
          have r2b := r2.2
          clear hcell hcellx hr hr2 r1 r2
          go_wp2
          exact ⟨⟨k + 1, _, _, by omega, rfl, by go_num, HO.out.step (Wd_dg _) (Wd_dg _) hx rfl, hg.set _ _, hbl.setCell (Nat.le_refl _) _⟩, by simp [intOf]; try omega⟩
        · have hy0 := wat_over (l := dg b) (k := k) (by omega)
          have HY := Lib.hid hy0
          clear hcellx hr hr2 r1 hy0
          go_wp2
          exact ⟨⟨k + 1, _, _, by omega, rfl, by go_num, HO.out.step (Wd_dg _) (Wd_dg _) hx (by rw [HY.out]; omega), hg.set _ _, hbl.setCell (Nat.le_refl _) _⟩, by simp [intOf]; try omega⟩
      · obtain rfl : k = (dg a).length := by omega
        have f1 := hg.free (dg a).length
        have e3 := hg.cell (j := (dg a).length) (by omega)
        have hd := HO.out.done (by omega)
        rw [nv_dg, nv_dg] at hd
        have HD := Lib.hid hd
        clear hd
        go_wp2_with fail
        refine (trim_nm _ _ _ _ _ (hg.set _ x) HD.out.2 (by simp; omega) (by omega) (by omega)).mono ?_
        rintro e w' ⟨v, rfl, hv, rfl⟩
        rw [HD.out.1] at hv
        go_wp2
        go_ret
        exact ⟨_, rfl, hv, hbl.setCell (Nat.le_refl _) _⟩

theorem of_calls (w : World) (n : Int) (m : Nat) (hnm : n = (m : Int)) (hm : m < 18446744073709551616) :
    Calls Try.prog 120 #[.int .u64 n] w fun e w' => ∃ v, e = .returned v ∧ Nm w' v m ∧ Below w.heap.size w w' := by
  subst hnm
  have h1 : ((m : Int) % 4294967296, (m : Int) / 4294967296) = (((m % 4294967296 : Nat) : Int), ((m / 4294967296 : Nat) : Int)) := by simp
  have hw : Wd [(m : Int) % 4294967296, (m : Int) / 4294967296] := by
    intro x hx
    simp at hx
    omega
  have hv : nv [(m : Int) % 4294967296, (m : Int) / 4294967296] = m := by simp only [nv]; omega
  have HV := Lib.hid hv
  clear h1 hv
  go_enter Try.func120, Try.ntmps120
  go_wp2_with fail
  refine (trim_nm _ _ 2 2 [(m : Int) % 4294967296, (m : Int) / 4294967296] (Ow.made w _) hw rfl (by omega) (by omega)).mono ?_
  rintro e w' ⟨v, rfl, hv, rfl⟩
  rw [HV.out] at hv
  go_wp2
  go_ret
  exact ⟨_, rfl, hv, (Below.refl _ _).alloc (Nat.le_refl _) _⟩

theorem own_calls (w : World) (va : Value) (l : List Int) (ha : RdI .u32 w va l) (hs : l.length ≤ 1073741824) :
    Calls Try.prog 114 #[va] w fun e w' => ∃ v, e = .returned v ∧ RdI .u32 w' v l ∧ Below w.heap.size w w' := by
  obtain ⟨A, c, rfl, hl, hc, hr⟩ := ha
  have hmk := fun w => mk_words (l.length : Int) (by omega) (by omega) w
  go_enter Try.func114, Try.ntmps114
  go_wp2_with (with_reducible refine wpList_copy_splice rfl (.tmp 7) (.tmp 8) _ _ rfl 101 Try.underlying111 (by kernel_rfl) _ _ _ _ _ _ rfl rfl w.heap.size 0 (List.replicate l.length (Value.int .u32 0)) 101 ?g1 (l.map (Value.int .u32)) ?g2 ?g3 ?g4 ?g5 w.heap.size w ?g6 ?g7 ?_)
  case g1 => simpa using heap_alloc_new w (.cells (Array.replicate l.length (Value.int .u32 0)) 101)
  case g2 => simp
  case g3 =>
    intro h0
    obtain ⟨ad, hA, hcell⟩ := hr h0
    exact ⟨ad, hA, fun j x hx => by
      have hj2 : j < l.length := (List.getElem?_eq_some_iff.1 hx).1
      have := cell_below ((Below.refl _ _).alloc (Nat.le_refl _) (.cells (Array.replicate l.length (Value.int .u32 0)) 101)) (hcell j hj2)
      rw [this]
      simp [wat, List.getD_eq_getElem?_getD, hx]⟩
  case g4 => simp
  case g5 =>
    intro v hv
    obtain ⟨x, _, rfl⟩ := List.mem_map.1 hv
    rfl
  case g6 => exact (Below.refl _ _).alloc (Nat.le_refl _) _
  case g7 => exact Nat.le_refl _
  intro w1 h1 hb
  have e : splice (List.replicate l.length (Value.int .u32 0)) 0 (l.map (Value.int .u32)) = l.map (Value.int .u32) := by simp [splice]
  have ho : Ow w1 w.heap.size l := by
    unfold Ow
    rw [h1.out, e]
  clear h1 e hr hmk
  go_wp2
  go_ret
  refine ⟨_, rfl, ?_, hb⟩
  have := ho.rd l.length l.length (Nat.le_refl _) (Nat.le_refl _) (by omega)
  rw [List.take_length] at this
  exact this

/-- What holds of sub's words, k of them done. -/
structure SubRel (X Y L : List Int) (k : Nat) (x : Int) : Prop where
  len : L.length = X.length
  wd : Wd L
  lo : 0 ≤ x
  hi : x ≤ 1
  sum : nv (L.take k) + nv (Y.take k) = nv (X.take k) + 4294967296 ^ k * x.toNat
theorem SubRel.start (X Y : List Int) : SubRel X Y (List.replicate X.length 0) 0 0 := ⟨by simp, Wd_replicate _, by omega, by omega, by simp [nv]⟩
theorem SubRel.step {X Y L : List Int} {k : Nat} {x y s : Int} (h : SubRel X Y L k x) (hX : Wd X) (hY : Wd Y) (hk : k < X.length) (hs0 : 0 ≤ s ∧ s < 4294967296) (hy : 0 ≤ y ∧ y ≤ 1) (hs : s = wat X k + 4294967296 * y - (x + wat Y k)) :
    SubRel X Y (L.set k s) (k + 1) y := by
  have r1 := wat_range hX k
  have r2 := wat_range hY k
  obtain ⟨h1, h2, h3, h4, h5⟩ := h
  refine ⟨by simpa using h1, Wd_set h2 _ _ hs0, by omega, by omega, ?_⟩
  rw [nv_set_take (by omega), nv_take_wat hk]
  have e2 : nv (Y.take (k + 1)) = nv (Y.take k) + 4294967296 ^ k * (wat Y k).toNat := by
    by_cases hy : k < Y.length
    · exact nv_take_wat hy
    · rw [wat_over (by omega), nv_take_all _ (by omega), nv_take_all _ (by omega)]; simp
  rw [e2, Nat.pow_succ]
  have e3 : s.toNat + (wat Y k).toNat + x.toNat = (wat X k).toNat + 4294967296 * y.toNat := by omega
  have e4 := congrArg (fun z => 4294967296 ^ k * z) e3
  simp only [Nat.mul_add, ← Nat.mul_assoc] at e4
  omega
theorem SubRel.done {X Y L : List Int} {x : Int} (h : SubRel X Y L X.length x) (hL : nv Y ≤ nv X) (hl : Y.length ≤ X.length) : nv L = nv X - nv Y := by
  obtain ⟨h1, h2, h3, h4, h5⟩ := h
  rw [nv_take_all _ (by omega), nv_take_all _ hl, nv_take_all _ (Nat.le_refl _)] at h5
  by_cases hx : x = 0
  · subst hx
    simp at h5
    omega
  · have hx1 : x = 1 := by omega
    subst hx1
    have := nv_lt h2
    rw [h1] at this
    simp at h5
    omega

theorem sub_calls (w : World) (va vb : Value) (a b : Nat) (ha : Nm w va a) (hb : Nm w vb b) (hle : b ≤ a) (sa : (dg a).length ≤ 1073741824) :
    Calls Try.prog 119 #[va, vb] w fun e w' => ∃ v, e = .returned v ∧ Nm w' v (a - b) ∧ Below w.heap.size w w' := by
  obtain ⟨A, c, rfl, hl, hc, hr⟩ := ha
  obtain ⟨A2, c2, rfl, hl2, hc2, hr2⟩ := hb
  have hmk := fun w => mk_words ((dg a).length : Int) (by omega) (by omega) w
  have hlen := dg_len_mono hle
  go_enter Try.func119, Try.ntmps119
  go_wp2
  go_loopw [6, 15] (fun s i wr => ∃ (k : Nat) (x : Int) (L : List Int), k ≤ (dg a).length ∧ s = .int .u64 x ∧ i = .int .i64 k ∧ SubRel (dg a) (dg b) L k x ∧ Ow wr w.heap.size L ∧ Below w.heap.size w wr)
    (fun _ i _ => (dg a).length - (intOf i).toNat)
  case atStart => exact ⟨0, 0, _, by omega, rfl, rfl, SubRel.start _ _, Ow.zeros _ _, (Below.refl _ _).alloc (Nat.le_refl _) _⟩
  case round =>
    obtain ⟨k, x, L, hk, rfl, rfl, ho, hg, hbl⟩ := hrel
    have HO := Lib.hid ho
    have b1 := ho.lo
    have b2 := ho.hi
    have b3 := ho.len
    clear ho hmk
    by_cases hx : k < (dg a).length
    · have f1 := hg.free k
      obtain ⟨adx, rfl, hcellx⟩ := hr (by omega)
      have e2 := cell_below hbl (hcellx k (by omega))
      have r1 := wat_range (Wd_dg a) k
      have r1a := r1.1
      have r1b := r1.2
      have e3 := hg.cell (j := k) (by omega)
      by_cases hy : k < (dg b).length
      · obtain ⟨ad, rfl, hcell⟩ := hr2 (by omega)
        have e1 := cell_below hbl (hcell k (by omega))
        have r2 := wat_range (Wd_dg b) k
        have r2a := r2.1
        have r2b := r2.2
        clear hcell hcellx hr hr2 r1 r2
        by_cases hb : wat (dg a) k < x + wat (dg b) k
        · go_wp2
          exact ⟨⟨k + 1, _, _, by omega, rfl, by go_num, HO.out.step (Wd_dg _) (Wd_dg _) hx (by omega) (by omega) (by omega), hg.set _ _, hbl.setCell (Nat.le_refl _) _⟩, by simp [intOf]; try omega⟩
        · go_wp2
          exact ⟨⟨k + 1, _, _, by omega, rfl, by go_num, HO.out.step (Wd_dg _) (Wd_dg _) hx (by omega) (by omega) (by omega), hg.set _ _, hbl.setCell (Nat.le_refl _) _⟩, by simp [intOf]; try omega⟩
      · have hy0 := wat_over (l := dg b) (k := k) (by omega)
        have HY := Lib.hid hy0
        clear hcellx hr hr2 r1 hy0
        by_cases hb : wat (dg a) k < x
        · go_wp2
          exact ⟨⟨k + 1, _, _, by omega, rfl, by go_num, HO.out.step (Wd_dg _) (Wd_dg _) hx (by omega) (by omega) (by rw [HY.out]; omega), hg.set _ _, hbl.setCell (Nat.le_refl _) _⟩, by simp [intOf]; try omega⟩
        · go_wp2
          exact ⟨⟨k + 1, _, _, by omega, rfl, by go_num, HO.out.step (Wd_dg _) (Wd_dg _) hx (by omega) (by omega) (by rw [HY.out]; omega), hg.set _ _, hbl.setCell (Nat.le_refl _) _⟩, by simp [intOf]; try omega⟩
    · obtain rfl : k = (dg a).length := by omega
      have hd := HO.out.done (by rw [nv_dg, nv_dg]; exact hle) hlen
      rw [nv_dg, nv_dg] at hd
      have HD := Lib.hid hd
      clear hd
      go_wp2_with fail
      refine (trim_nm _ _ _ _ _ hg HO.out.wd (by omega) (by omega) (by omega)).mono ?_
      rintro e w' ⟨v, rfl, hv, rfl⟩
      rw [HD.out] at hv
      go_wp2
      go_ret
      exact ⟨_, rfl, hv, hbl⟩

theorem wraps_u64 (n : Int) (h₀ : 0 ≤ n) (h₁ : n < 2 ^ 64) : IntKind.u64.wrap n = n := by
  rw [IntKind.wrap_u64]; omega
theorem wraps_u32 (n : Int) (h₀ : 0 ≤ n) (h₁ : n < 2 ^ 32) : IntKind.u32.wrap n = n := by
  rw [IntKind.wrap_u32]; omega
theorem bits_or_comm (k : IntKind) (x y : Int) : bits .or k x y = bits .or k y x := by
  simp only [bits, BitVec.or_comm]
theorem or_shl64 (x y : Int) (h0 : 0 ≤ x) (h1 : x < 4294967296) (h2 : 0 ≤ y) (h3 : y < 4294967296) : bits .or .u64 (x * 4294967296) y = x * 4294967296 + y :=
  bits_join .u64 64 (by decide) wraps_u64 32 _ _ (by omega) (by omega) (by omega) h2 (by omega) (by omega)
/-- A word below 2^n, and one that ends in n zeros. -/
theorem or_join32 (n : Nat) (x y : Int) (h0 : 0 ≤ x) (h1 : x < 2 ^ n) (h2 : 0 ≤ y) (h3 : y < 4294967296) (h4 : y % 2 ^ n = 0) (h5 : x < 4294967296) : bits .or .u32 x y = x + y := by
  rw [bits_or_comm, bits_join .u32 32 (by decide) wraps_u32 n y x h2 h4 (by omega) h0 h1 (by omega)]
  omega

/-- What holds of short's words: those from k on are done. -/
structure ShortRel (X L : List Int) (d : Nat) (k : Nat) (x : Int) : Prop where
  len : L.length = X.length
  wd : Wd L
  lo : 0 ≤ x
  hi : x < d
  sum : nv (X.drop k) = nv (L.drop k) * d + x.toNat
theorem ShortRel.start (X : List Int) (d : Nat) (hd : 0 < d) : ShortRel X (List.replicate X.length 0) d X.length 0 :=
  ⟨by simp, Wd_replicate _, by omega, by omega, by rw [nv_drop_all _ (Nat.le_refl _), nv_drop_all _ (by simp)]; simp⟩
theorem nv_drop_set {L : List Int} {k : Nat} {x : Int} (h : k < L.length) : nv ((L.set k x).drop k) = x.toNat + 4294967296 * nv (L.drop (k + 1)) := by
  rw [nv_drop_wat (by simpa using h)]
  congr 2
  · simp [wat, List.getD_eq_getElem?_getD, h]
  · rw [List.drop_set_of_lt (by omega)]
theorem ShortRel.step {X L : List Int} {d k : Nat} {x : Int} (h : ShortRel X L d (k + 1) x) (hX : Wd X) (hk : k < X.length) (hd : d ≤ 4294967296) (y : Int) (hy : y = x * 4294967296 + wat X k) :
    ShortRel X (L.set k (y / d)) d k (y % d) := by
  have r1 := wat_range hX k
  obtain ⟨h1, h2, h3, h4, h5⟩ := h
  have hd0 : (0 : Int) < d := by omega
  have hx : x ≤ (d : Int) - 1 := by omega
  have hdv := Int.mul_ediv_add_emod y d
  have hm0 := Int.emod_nonneg y (show (d : Int) ≠ 0 by omega)
  have hm1 := Int.emod_lt_of_pos y hd0
  have hq0 : 0 ≤ y / d := Int.ediv_nonneg (by omega) (by omega)
  have hq1 : y / d < 4294967296 := by
    apply Int.ediv_lt_of_lt_mul hd0
    have : (x + 1) * 4294967296 ≤ (d : Int) * 4294967296 := Int.mul_le_mul_of_nonneg_right (by omega) (by omega)
    rw [Int.mul_comm 4294967296]
    omega
  refine ⟨by simpa using h1, Wd_set h2 _ _ ⟨hq0, hq1⟩, hm0, hm1, ?_⟩
  rw [nv_drop_set (by omega), nv_drop_wat hk, h5]
  generalize nv (L.drop (k + 1)) = N at *
  obtain ⟨q, hq⟩ := Int.eq_ofNat_of_zero_le hq0
  obtain ⟨r, hr⟩ := Int.eq_ofNat_of_zero_le hm0
  rw [hq, hr, hy] at hdv
  rw [hq, hr, Int.toNat_natCast, Int.toNat_natCast]
  have e1 : d * q + r = x.toNat * 4294967296 + (wat X k).toNat := by omega
  rw [Nat.add_mul, Nat.mul_assoc, Nat.mul_comm q d]
  omega

theorem short_calls (w : World) (va : Value) (a : Nat) (d : Int) (dn : Nat) (hdn : d = (dn : Int)) (ha : Nm w va a) (h0 : 0 < dn) (h1 : dn < 4294967296) (sa : (dg a).length ≤ 1073741824) :
    Calls Try.prog 130 #[va, .int .u32 d] w fun e w' => ∃ v, e = .returned (.tuple #[v, .int .u32 ((a % dn : Nat) : Int)]) ∧ Nm w' v (a / dn) ∧ Below w.heap.size w w' := by
  subst hdn
  obtain ⟨A, c, rfl, hl, hc, hr⟩ := ha
  have hmk := fun w => mk_words ((dg a).length : Int) (by omega) (by omega) w
  go_enter Try.func130, Try.ntmps130
  go_wp2
  go_loopw [7, 8] (fun s i wr => ∃ (k : Nat) (x : Int) (L : List Int), k ≤ (dg a).length ∧ s = .int .u64 x ∧ i = .int .i64 ((k : Int) - 1) ∧ ShortRel (dg a) L dn k x ∧ Ow wr w.heap.size L ∧ Below w.heap.size w wr)
    (fun _ i _ => (intOf i + 1).toNat)
  case atStart => exact ⟨(dg a).length, 0, _, Nat.le_refl _, rfl, rfl, ShortRel.start _ _ h0, Ow.zeros _ _, (Below.refl _ _).alloc (Nat.le_refl _) _⟩
  case round =>
    obtain ⟨k, x, L, hk, rfl, rfl, ho, hg, hbl⟩ := hrel
    have HO := Lib.hid ho
    have b1 := ho.lo
    have b2 := ho.hi
    have b3 := ho.len
    clear ho hmk
    by_cases hx : 0 < k
    · obtain ⟨j, rfl⟩ : ∃ j, k = j + 1 := ⟨k - 1, by omega⟩
      obtain ⟨ad, rfl, hcell⟩ := hr (by omega)
      have e1 := cell_below hbl (hcell j (by omega))
      have r1 := wat_range (Wd_dg a) j
      have r1a := r1.1
      have r1b := r1.2
      have f1 := hg.free j
      have e3 := hg.cell (j := j) (by omega)
      have ho := or_shl64 x (wat (dg a) j) b1 (by omega) r1a r1b
      rw [show ((j + 1 : Nat) : Int) - 1 = (j : Int) by omega]
      clear hcell hr r1
      go_wp2
      have hst := HO.out.step (Wd_dg _) hk (by omega) _ rfl
      refine ⟨⟨j, _, _, by omega, rfl, rfl, hst, ?_, hbl.setCell (Nat.le_refl _) _⟩, by simp [intOf]; try omega⟩
      have hlt := Wd_getD hst.wd j
      rw [show (L.set j ((x * 4294967296 + wat (dg a) j) / dn)).getD j 0 = (x * 4294967296 + wat (dg a) j) / dn by simp [List.getD_eq_getElem?_getD, show j < L.length by omega]] at hlt
      rw [show ∀ z : Int, 0 ≤ z ∧ z < 4294967296 → z % 4294967296 = z from fun z hz => by omega] <;> first | exact hlt | exact hg.set _ _
    · obtain rfl : k = 0 := by omega
      have hs := HO.out.sum
      simp only [List.drop_zero, nv_dg] at hs
      have hq : nv L = a / dn := by
        rw [hs, Nat.add_comm, Nat.add_mul_div_right _ _ h0, Nat.div_eq_of_lt (by omega)]; omega
      have hm : x = ((a % dn : Nat) : Int) := by
        rw [hs, Nat.add_comm, Nat.add_mul_mod_self_right, Nat.mod_eq_of_lt (by omega)]; omega
      have HQ := Lib.hid hq
      have HM := Lib.hid hm
      clear hs hq hm
      go_wp2_with fail
      refine (trim_nm _ _ _ _ _ hg HO.out.wd (by omega) (by omega) (by omega)).mono ?_
      rintro e w' ⟨v, rfl, hv, rfl⟩
      rw [HQ.out] at hv
      go_wp2
      go_ret2
      exact ⟨_, by rw [← HM.out]; rfl, hv, hbl⟩

end Go.Proofs.Ytajckdheecgceaa
