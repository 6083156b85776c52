/- Words: digit, the walk. -/
import Derived.Test.YtajckdheecgceaaKnuth
import Derived.Test.YtajckdheecgceaaDigit
set_option linter.unusedVariables false
set_option linter.unusedSimpArgs false
namespace Go.Proofs.Ytajckdheecgceaa
open Go.RowKit

theorem kn_of {u V : List Int} {n : Nat} (hn : 2 ≤ n) (hul : u.length = n + 1) (hwu : Wd u) (hvl : n ≤ V.length) (hwV : Wd V) (hnorm : 2147483648 ≤ wat V (n - 1)) (hsm : nv u < nv (V.take n) * 4294967296) :
    Kn (nv u) (nv (V.take n)) (4294967296 ^ (n - 2)) (wat V (n - 1)).toNat (wat V (n - 2)).toNat ((wat u n).toNat * 4294967296 + (wat u (n - 1)).toNat) (wat u (n - 2)).toNat := by
  obtain ⟨m, rfl⟩ : ∃ m, n = m + 2 := ⟨n - 2, by omega⟩
  simp only [show m + 2 - 1 = m + 1 by omega, show m + 2 - 2 = m by omega] at *
  have r0 := wat_range hwV m
  have r1 := wat_range hwV (m + 1)
  have s0 := wat_range hwu m
  have s1 := wat_range hwu (m + 1)
  have s2 := wat_range hwu (m + 2)
  have t1 := nv_lt (Wd_take hwV m)
  have t2 := nv_lt (Wd_take hwu m)
  rw [List.length_take, Nat.min_eq_left (by omega)] at t1 t2
  have e1 : nv (V.take (m + 2)) = nv (V.take m) + ((wat V (m + 1)).toNat * 4294967296 + (wat V m).toNat) * 4294967296 ^ m := by
    rw [show m + 2 = m + 1 + 1 by omega, nv_take_wat (by omega), nv_take_wat (by omega), Nat.pow_succ, Nat.add_mul, Nat.mul_comm (wat V m).toNat]
    rw [show 4294967296 ^ m * 4294967296 * (wat V (m + 1)).toNat = (wat V (m + 1)).toNat * 4294967296 * 4294967296 ^ m by simp only [Nat.mul_assoc, Nat.mul_comm, Nat.mul_left_comm]]
    omega
  have e2 : nv u = nv (u.take m) + (((wat u (m + 2)).toNat * 4294967296 + (wat u (m + 1)).toNat) * 4294967296 + (wat u m).toNat) * 4294967296 ^ m := by
    rw [nv_last hul, show m + 2 = m + 1 + 1 by omega, nv_take_wat (by omega), nv_take_wat (by omega), show (4294967296 : Nat) ^ (m + 1 + 1) = 4294967296 ^ m * 4294967296 * 4294967296 by rw [Nat.pow_succ, Nat.pow_succ], Nat.pow_succ, Nat.add_mul, Nat.add_mul, Nat.add_mul, Nat.mul_comm (wat u m).toNat]
    rw [show 4294967296 ^ m * 4294967296 * 4294967296 * (wat u (m + 1 + 1)).toNat = (wat u (m + 1 + 1)).toNat * 4294967296 * 4294967296 * 4294967296 ^ m by simp only [Nat.mul_assoc, Nat.mul_comm, Nat.mul_left_comm]]
    rw [show 4294967296 ^ m * 4294967296 * (wat u (m + 1)).toNat = (wat u (m + 1)).toNat * 4294967296 * 4294967296 ^ m by simp only [Nat.mul_assoc, Nat.mul_comm, Nat.mul_left_comm]]
    omega
  refine ⟨by omega, ?_, by omega, ?_, by omega, by omega, by omega, by omega, Nat.pow_pos (by omega), hsm⟩
  · rw [Nat.add_mul _ 1]; omega
  · rw [Nat.add_mul _ 1]; omega

/-- A guess and its rest. -/
structure Guess (U V : Nat) (v1 : Int) (top : Nat) (g r : Int) : Prop where
  g0 : 0 ≤ g
  g1 : g ≤ 4294967300
  r0 : 0 ≤ r
  r1 : r < 8589934592
  eq : g.toNat * v1.toNat + r.toNat = top
  ge : U / V ≤ g.toNat
theorem Guess.start {U V E v2 u2 : Nat} {v1 a b : Int} (h : Kn U V E v1.toNat v2 (a.toNat * 4294967296 + b.toNat) u2) (ha : 0 ≤ a) (hb : 0 ≤ b) (hv : 0 ≤ v1) :
    Guess U V v1 (a.toNat * 4294967296 + b.toNat) ((a * 4294967296 + b) / v1) ((a * 4294967296 + b) % v1) ∧ (a * 4294967296 + b) % v1 < 4294967296 := by
  have h1 := h.norm
  have h2 := h.v1hi
  have h3 := h.start
  have h4 := h.top_lt
  obtain ⟨v, rfl⟩ := Int.eq_ofNat_of_zero_le hv
  obtain ⟨x, rfl⟩ := Int.eq_ofNat_of_zero_le ha
  obtain ⟨y, rfl⟩ := Int.eq_ofNat_of_zero_le hb
  simp only [Int.toNat_natCast] at *
  have e : ((x : Int) * 4294967296 + (y : Int)) = ((x * 4294967296 + y : Nat) : Int) := by omega
  rw [e]
  simp only [← Int.natCast_ediv, ← Int.natCast_emod]
  clear e
  obtain ⟨top, ht⟩ : ∃ top, top = x * 4294967296 + y := ⟨_, rfl⟩
  rw [← ht] at h h3 h4 ⊢
  clear ht h
  have m1 := Nat.mod_lt top (show 0 < v by omega)
  have d1 := Nat.div_add_mod top v
  have q1 : top / v ≤ 4294967300 := by
    apply Nat.le_of_lt_succ
    rw [Nat.div_lt_iff_lt_mul (by omega)]
    omega
  obtain ⟨q, hq⟩ : ∃ q, q = top / v := ⟨_, rfl⟩
  obtain ⟨m, hm⟩ : ∃ m, m = top % v := ⟨_, rfl⟩
  rw [← hq, ← hm] at d1 ⊢
  rw [← hm] at m1
  rw [← hq] at q1 h3
  refine ⟨⟨by omega, by omega, by omega, by omega, ?_, by rw [Int.toNat_natCast]; exact h3⟩, by omega⟩
  rw [Int.toNat_natCast, Int.toNat_natCast, Int.toNat_natCast, Nat.mul_comm]
  exact d1
theorem Guess.down {U V E u2 top : Nat} {v1 v2 g r : Int} (h : Guess U V v1 top g r) (k : Kn U V E v1.toNat v2.toNat top u2) (hr : r < 4294967296) (hv : 0 ≤ v1) (hv1 : v1 < 4294967296) (hc : 4294967296 ≤ g ∨ r.toNat * 4294967296 + u2 < g.toNat * v2.toNat) :
    1 ≤ g ∧ Guess U V v1 top (g - 1) (r + v1) := by
  obtain ⟨a1, a2, a3, a4, a5, a6⟩ := h
  have := k.down a5 (by omega)
  obtain ⟨q, hq⟩ : ∃ q, q = U / V := ⟨_, rfl⟩
  rw [← hq] at this a6
  have hg : 1 ≤ g := by omega
  refine ⟨hg, by omega, by omega, by omega, by omega, ?_, by rw [← hq]; omega⟩
  obtain ⟨m, rfl⟩ : ∃ m : Nat, g = (m : Int) + 1 := ⟨(g - 1).toNat, by omega⟩
  rw [← a5, show ((m : Int) + 1 - 1).toNat = m by omega, show ((m : Int) + 1).toNat = m + 1 by omega, Nat.add_mul]
  omega
/-- What is known of the guess behind the loop. -/
structure Guessed (U V : Nat) (g : Int) : Prop where
  g0 : 0 ≤ g
  g1 : g < 4294967296
  ge : U / V ≤ g.toNat
  le : g.toNat ≤ U / V + 1
theorem Guess.fin {U V E u2 top : Nat} {v1 v2 g r : Int} (h : Guess U V v1 top g r) (k : Kn U V E v1.toNat v2.toNat top u2) (hc : (g < 4294967296 ∧ g.toNat * v2.toNat ≤ r.toNat * 4294967296 + u2) ∨ 4294967296 ≤ r) : Guessed U V g := by
  obtain ⟨a1, a2, a3, a4, a5, a6⟩ := h
  have hb : g.toNat < 4294967296 := by
    rcases hc with hc | hc
    · omega
    · exact Kn.brk (u := 0) a5 (by omega) k.top_lt
  exact ⟨a1, by omega, a6, k.fin a5 hb (by rcases hc with hc | hc; · exact .inl hc.2
                                           · exact .inr (by omega))⟩
theorem toNat_lt_mul {a b x y : Int} (ha : 0 ≤ a) (hb : 0 ≤ b) (hx : 0 ≤ x) (hy : 0 ≤ y) (h : x * 4294967296 + y < a * b) : x.toNat * 4294967296 + y.toNat < a.toNat * b.toNat := by
  rw [← Int.toNat_mul ha hb]; omega
theorem toNat_le_mul {a b x y : Int} (ha : 0 ≤ a) (hb : 0 ≤ b) (hx : 0 ≤ x) (hy : 0 ≤ y) (h : ¬ x * 4294967296 + y < a * b) : a.toNat * b.toNat ≤ x.toNat * 4294967296 + y.toNat := by
  rw [← Int.toNat_mul ha hb]; omega

/-- Below B the world is as w0; of w's blocks only g was written. -/
def BS (B g : Nat) (w0 w wr : World) : Prop := Below B w0 wr ∧ w.heap.size ≤ wr.heap.size ∧ ∀ k, k ≠ g → k < w.heap.size → wr.heap[k]? = w.heap[k]?
theorem BS.set {B g j : Nat} {w0 w wr : World} (h : BS B g w0 w wr) (hB : B ≤ g) (x : Value) : BS B g w0 w (wr.setCell ⟨g, j, none⟩ x) :=
  ⟨h.1.setCell hB _, by simpa using h.2.1, fun k hk hl => (heap_setCell_other wr ⟨g, j, none⟩ k x hk).trans (h.2.2 k hk hl)⟩
theorem BS.drewN {B g : Nat} {w0 w wr : World} (h : BS B g w0 w wr) (hB : B ≤ wr.heap.size) (n : Nat) : BS B g w0 w (wr.drewN n) :=
  ⟨below_then h.1 hB (bl_drewN _ _), Nat.le_trans h.2.1 (bl_drewN wr n).size, fun k hk hl => ((bl_drewN wr n).block k (Nat.lt_of_lt_of_le hl h.2.1)).trans (h.2.2 k hk hl)⟩
/-- What digit leaves. -/
def DigitPost (B : Nat) (w0 w : World) (g j gv : Nat) (P S V : List Int) (U D n : Nat) (e : Ending) (w' : World) : Prop :=
  ∃ u', e = .returned (.int .u32 ((U / D : Nat) : Int)) ∧ Win w' g j P u' S ∧ u'.length = n + 1 ∧ Wd u' ∧ nv u' = U % D ∧ Ow w' gv V ∧ BS B g w0 w w'

set_option maxHeartbeats 4000000 in
set_option maxRecDepth 100000 in
theorem digit_calls (B : Nat) (w0 w : World) (g j gv cv n : Nat) (P u S V : List Int)
    (hu : Win w g j P u S) (hul : u.length = n + 1) (hwu : Wd u) (hn : 2 ≤ n) (hnm : n ≤ 2147483648) (hj : j ≤ 2147483648)
    (hv : Ow w gv V) (hvl : n ≤ V.length) (hwV : Wd V) (hne : gv ≠ g) (hcv : n ≤ cv) (hcm : cv ≤ 9223372036854775807)
    (hnorm : 2147483648 ≤ wat V (n - 1)) (hsm : nv u < nv (V.take n) * 4294967296) (hbl : Below B w0 w) (hB : B ≤ g) :
    Calls Try.prog 133 #[.slice (some ⟨g, j, none⟩) (n + 1) (n + 1), .slice (some ⟨gv, 0, none⟩) n cv] w (DigitPost B w0 w g j gv P S V (nv u) (nv (V.take n)) n) := by
  have KN := Lib.hid (kn_of hn hul hwu hvl hwV hnorm hsm)
  have r0 := wat_range hwV (n - 1)
  have r1 := wat_range hwV (n - 2)
  have s0 := wat_range hwu (n - 2)
  have s1 := wat_range hwu (n - 1)
  have s2 := wat_range hwu n
  have r0a := r0.1
  have r0b := r0.2
  have r1a := r1.1
  have r1b := r1.2
  have s0a := s0.1
  have s0b := s0.2
  have s1a := s1.1
  have s1b := s1.2
  have s2a := s2.1
  have s2b := s2.2
  clear r0 r1 s0 s1 s2
  have c0 := hv.cell (j := n - 1) (by omega)
  have c1 := hv.cell (j := n - 2) (by omega)
  have d0 := hu.cell (i := n - 2) (by omega)
  have d1 := hu.cell (i := n - 1) (by omega)
  have d2 := hu.cell (i := n) (by omega)
  have ho := or_shl64 (wat u n) (wat u (n - 1)) s2a s2b s1a s1b
  go_enter Try.func133, Try.ntmps133
  go_wp2
  go_quiet (fail)
  go_wp2
  go_quiet (fail)
  generalize hw1 : World.drewN _ _ = w1
  have U1 : Win w1 g j P u S := by rw [← hw1]; exact (hu.drewN _).drewN _
  have V1 : Ow w1 gv V := by rw [← hw1]; exact (hv.drewN _).drewN _
  have B1 : BS B g w0 w w1 := by
    rw [← hw1]
    exact ((show BS B g w0 w w from ⟨hbl, Nat.le_refl _, fun _ _ _ => rfl⟩).drewN (Nat.le_trans hB (Nat.le_of_lt hu.1.lt)) _).drewN (Nat.le_trans hB (Nat.le_of_lt (hu.drewN _).1.lt)) _
  have hBs : B ≤ w1.heap.size := Nat.le_trans hB (Nat.le_of_lt U1.1.lt)
  clear hw1 hu hv hbl c0 c1 d0 d1 d2
  have G0 := Lib.hid (Guess.start KN.out s2a s1a r0a)
  clear ho
  go_upto_block 0 with fail
  go_cut [7] (fun s7 wx => ∃ gi : Int, s7 = .int .u64 gi ∧ Guessed (nv u) (nv (V.take n)) gi ∧ Win wx g j P u S ∧ Ow wx gv V ∧ BS B g w0 w wx)
  case first =>
    go_wp2
    go_loopw [7, 8] (fun s r wr => ∃ gi ri : Int, s = .int .u64 gi ∧ r = .int .u64 ri ∧ ri < 4294967296 ∧ Guess (nv u) (nv (V.take n)) (wat V (n - 1)) ((wat u n).toNat * 4294967296 + (wat u (n - 1)).toNat) gi ri ∧ Win wr g j P u S ∧ Ow wr gv V ∧ BS B g w0 w wr)
      (fun s _ _ => (intOf s).toNat)
    case atStart => exact ⟨_, _, rfl, rfl, G0.out.2, G0.out.1, U1, V1, B1⟩
    case round =>
      clear G0 U1 V1 B1 hBs
      obtain ⟨gi, ri, rfl, rfl, hri, hg, U1, V1, B1⟩ := hrel
      have hBs : B ≤ wr.heap.size := Nat.le_trans hB (Nat.le_of_lt U1.1.lt)
      have HG := Lib.hid hg
      have g0 := hg.g0
      have g1 := hg.g1
      have r0 := hg.r0
      have c0 := V1.cell (j := n - 1) (by omega)
      have c1 := V1.cell (j := n - 2) (by omega)
      have d0 := U1.cell (i := n - 2) (by omega)
      have ho := or_shl64 ri (wat u (n - 2)) r0 hri s0a s0b
      clear hg
      by_cases hc : 4294967296 ≤ gi
      · have HD := Lib.hid (HG.out.down KN.out hri r0a r0b (.inl hc))
        have hg1 := HD.out.1
        clear c1 d0 ho
        go_wp2
        go_quiet (fail)
        go_wp2
        · go_meet
          have hbr : 4294967296 ≤ ri + wat V (n - 1) := by assumption
          exact ⟨_, rfl, HD.out.2.fin KN.out (.inr hbr), U1.drewN _, V1.drewN _, B1.drewN hBs _⟩
        · have hnb : ri + wat V (n - 1) < 4294967296 := by first | assumption | (have hx : ¬ 4294967296 ≤ ri + wat V (n - 1) := by assumption
                                                                                 omega)
          exact ⟨⟨_, _, rfl, rfl, hnb, HD.out.2, U1.drewN _, V1.drewN _, B1.drewN hBs _⟩, by simp [intOf]; omega⟩
      · by_cases hd : ri * 4294967296 + wat u (n - 2) < gi * wat V (n - 2)
        · have HD := Lib.hid (HG.out.down KN.out hri r0a r0b (.inr (toNat_lt_mul g0 r1a r0 s0a hd)))
          have hg1 := HD.out.1
          have m1 := mul_bound g0 (by omega) r1a r1b
          have m1a := m1.1
          have m1b := m1.2
          clear m1
          have q0 : decide (4294967296 ≤ gi) = false := decide_eq_false hc
          have q6 : (n : Int) - 2 < (n : Int) := by omega
          have q1 : IntKind.i64.wrap ((n : Int) - 2) = (n : Int) - 2 := IntWalk.i64_in _ (by omega)
          have q2 : IntKind.u64.wrap (ri * 4294967296) = ri * 4294967296 := wraps_u64 _ (by omega) (by omega)
          have q3 : IntKind.u64.wrap (gi * wat V (n - 2)) = gi * wat V (n - 2) := wraps_u64 _ (by omega) (by omega)
          have q4 : 0 ≤ (n : Int) - 2 := by omega
          have q5 : ((n : Int) - 2).toNat = n - 2 := by omega
          go_wp2
          go_quiet (fail)
          clear q0 q1 q2 q3 q4 q5 q6
          go_wp2
          · go_meet
            have hbr : 4294967296 ≤ ri + wat V (n - 1) := by assumption
            exact ⟨_, rfl, HD.out.2.fin KN.out (.inr hbr), U1.drewN _, V1.drewN _, B1.drewN hBs _⟩
          · have hnb : ri + wat V (n - 1) < 4294967296 := by first | assumption | (have hx : ¬ 4294967296 ≤ ri + wat V (n - 1) := by assumption
                                                                                   omega)
            exact ⟨⟨_, _, rfl, rfl, hnb, HD.out.2, U1.drewN _, V1.drewN _, B1.drewN hBs _⟩, by simp [intOf]; omega⟩
        · have HD := Lib.hid (HG.out.fin KN.out (.inl ⟨by omega, toNat_le_mul g0 r1a r0 s0a hd⟩))
          have m1 := mul_bound g0 (by omega) r1a r1b
          have m1a := m1.1
          have m1b := m1.2
          clear m1
          have q0 : decide (4294967296 ≤ gi) = false := decide_eq_false hc
          have q6 : (n : Int) - 2 < (n : Int) := by omega
          have q1 : IntKind.i64.wrap ((n : Int) - 2) = (n : Int) - 2 := IntWalk.i64_in _ (by omega)
          have q2 : IntKind.u64.wrap (ri * 4294967296) = ri * 4294967296 := wraps_u64 _ (by omega) (by omega)
          have q3 : IntKind.u64.wrap (gi * wat V (n - 2)) = gi * wat V (n - 2) := wraps_u64 _ (by omega) (by omega)
          have q4 : 0 ≤ (n : Int) - 2 := by omega
          have q5 : ((n : Int) - 2).toNat = n - 2 := by omega
          go_wp2
          go_quiet (fail)
          clear q0 q1 q2 q3 q4 q5 q6
          go_wp2
          go_meet
          exact ⟨_, rfl, HD.out, U1.drewN _, V1.drewN _, B1.drewN hBs _⟩
  case rest =>
    clear G0 U1 V1 B1 hBs
    obtain ⟨gi, rfl, hg, U1, V1, B1⟩ := hcut
    have HGD := Lib.hid hg
    have g0 := hg.g0
    have g1 := hg.g1
    have hv0 := Lib.hid KN.out.vpos
    have hgb : g ≠ gv := fun h => hne h.symm
    clear hg
    go_wp2
    go_loopw [9, 10, 83] (fun b c i wr => ∃ (k : Nat) (x y : Int) (u' : List Int), k ≤ n ∧ b = .int .u64 x ∧ c = .int .u64 y ∧ i = .int .i64 (k : Int) ∧ SubM V u u' n k gi y x ∧ Win wr g j P u' S ∧ Ow wr gv V ∧ BS B g w0 w wr)
      (fun _ _ i _ => n - (intOf i).toNat)
    case atStart => exact ⟨0, 0, 0, u, by omega, rfl, rfl, rfl, SubM.start hul hwu, U1, V1, B1⟩
    case round =>
      clear U1 V1 B1
      obtain ⟨k, x, y, u', hk, rfl, rfl, rfl, hs, U1, V1, B1⟩ := hrel
      have HS := Lib.hid hs
      have y0 := hs.c0
      have y1 := hs.c1
      have x0 := hs.b0
      have x1 := hs.b1
      have hl := hs.len
      have hw := hs.wd
      clear hs
      by_cases hx : k < n
      · have r := wat_range hwV k
        have ra := r.1
        have rb := r.2
        have s := wat_range hw k
        have sa := s.1
        have sb := s.2
        have m1 := mul_bound g0 g1 ra rb
        have m1a := m1.1
        have m1b := m1.2
        have c0 := V1.cell (j := k) (by omega)
        have d0 := U1.cell (i := k) (by omega)
        have f0 := U1.free (j + k)
        clear r s m1
        by_cases ht : wat u' k < (y + gi * wat V k) % 4294967296 + x
        · go_wp2
          exact ⟨⟨k + 1, _, _, _, by omega, rfl, rfl, by go_num, HS.out.step (y := 1) hwV hwu hul hx (by omega) ⟨g0, g1⟩ rfl (by omega) (by omega) (by omega), U1.set (by omega) _, V1.other _ hne _, B1.set hB _⟩, by simp [intOf]; try omega⟩
        · go_wp2
          exact ⟨⟨k + 1, _, _, _, by omega, rfl, rfl, by go_num, HS.out.step (y := 0) hwV hwu hul hx (by omega) ⟨g0, g1⟩ rfl (by omega) (by omega) (by omega), U1.set (by omega) _, V1.other _ hne _, B1.set hB _⟩, by simp [intOf]; try omega⟩
      · obtain rfl : k = n := by omega
        have s := wat_range hw k
        have sa := s.1
        have sb := s.2
        have d0 := U1.cell (i := k) (by omega)
        have f0 := U1.free (j + k)
        clear s
        by_cases ht : wat u' k < y + x
        · have HW := Lib.hid (HS.out.wrong hul hwu hv0.out HGD.out.le ht)
          have U2 := U1.set (i := k) (by omega) (wat u' k + 4294967296 - (y + x))
          have V2 := V1.other ⟨g, j + k, none⟩ hne (.int .u32 (wat u' k + 4294967296 - (y + x)))
          have B2 : BS B g w0 w (wr.setCell ⟨g, j + k, none⟩ (.int .u32 (wat u' k + 4294967296 - (y + x)))) := B1.set hB _
          go_wp2
          go_loopw [10, 157] (fun c i wr => ∃ (m : Nat) (z : Int) (u'' : List Int), m ≤ k ∧ c = .int .u64 z ∧ i = .int .i64 (m : Int) ∧ AddM V (u'.set k (wat u' k + 4294967296 - (y + x))) u'' k m z ∧ Win wr g j P u'' S ∧ Ow wr gv V ∧ BS B g w0 w wr)
            (fun _ i _ => k - (intOf i).toNat)
          case atStart => exact ⟨0, 0, _, by omega, rfl, rfl, AddM.start HW.out.2.1 HW.out.2.2.1, U2, V2, B2⟩
          case round =>
            clear U2 V2 B2 U1 V1 B1 d0 f0
            obtain ⟨m, z, u'', hm, rfl, rfl, ha, U3, V3, B3⟩ := hrel
            have HA := Lib.hid ha
            have z0 := ha.c0
            have z1 := ha.c1
            have hl3 := ha.len
            have hw3 := ha.wd
            have hBs : B ≤ wr.heap.size := Nat.le_trans hB (Nat.le_of_lt U3.1.lt)
            clear ha
            by_cases hx : m < k
            · have r := wat_range hwV m
              have ra := r.1
              have rb := r.2
              have s := wat_range hw3 m
              have sa := s.1
              have sb := s.2
              have c0 := V3.cell (j := m) (by omega)
              have d0 := U3.cell (i := m) (by omega)
              have f0 := U3.free (j + m)
              clear r s
              have q1 : (m : Int) < (k : Int) := by omega
              have q2 : (m : Int) < ((k + 1 : Nat) : Int) := by omega
              have q3 : IntKind.u64.wrap (wat u'' m + wat V m) = wat u'' m + wat V m := wraps_u64 _ (by omega) (by omega)
              have q4 : IntKind.u64.wrap (z + (wat u'' m + wat V m)) = z + (wat u'' m + wat V m) := wraps_u64 _ (by omega) (by omega)
              go_wp2
              go_quiet (fail)
              clear q1 q2 q3 q4
              have d1 := (U3.drewN nq).cell (i := m) (by omega)
              have f1 := (U3.drewN nq).free (j + m)
              go_wp2
              exact ⟨⟨m + 1, _, _, by omega, rfl, by go_num, HA.out.step hwV HW.out.2.1 hx (by omega) rfl, (U3.drewN _).set (by omega) _, (V3.drewN _).other _ hne _, (B3.drewN hBs _).set hB _⟩, by simp [intOf]; try omega⟩
            · obtain rfl : m = k := by omega
              have s := wat_range hw3 m
              have sa := s.1
              have sb := s.2
              have d0 := U3.cell (i := m) (by omega)
              have f0 := U3.free (j + m)
              obtain ⟨qq, hq1, hq2⟩ : ∃ qq : Nat, nv u / nv (V.take m) = qq ∧ gi.toNat = qq + 1 := ⟨_, rfl, HW.out.1⟩
              have hgi : 1 ≤ gi := by clear hq1; omega
              have hgq : ((qq : Nat) : Int) = gi - 1 := by clear hq1; omega
              have HQ1 := Lib.hid hq1
              have HQ2 := Lib.hid hgq
              clear hq1 hq2 hgq
              have hvt := nv_lt (Wd_take hwV m)
              rw [List.length_take, Nat.min_eq_left (by omega)] at hvt
              have hsum := HW.out.2.2.2
              rw [HW.out.1] at hsum
              have HD := Lib.hid (HA.out.done HW.out.2.1 hv0.out hvt hsum)
              clear s hvt hsum
              go_wp2
              go_ret
              refine ⟨u''.set m ((wat u'' m + z) % 4294967296), ?_, U3.set (by omega) _, HD.out.1, HD.out.2.1, HD.out.2.2, V3.other _ hne _, B3.set hB _⟩
              rw [HQ1.out, HQ2.out]
              rfl
        · have HR := Lib.hid (HS.out.right hul hv0.out HGD.out.ge (by omega))
          go_wp2
          go_ret
          refine ⟨u'.set k (wat u' k - (y + x)), ?_, U1.set (by omega) _, HR.out.2.1, HR.out.2.2.1, HR.out.2.2.2, V1.other _ hne _, B1.set hB _⟩
          rw [← HR.out.1, Int.toNat_of_nonneg g0]
          rfl

end Go.Proofs.Ytajckdheecgceaa
