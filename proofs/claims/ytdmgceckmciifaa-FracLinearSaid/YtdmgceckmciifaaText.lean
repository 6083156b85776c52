/- Decimal digits, plain. -/
import Derived.Test.YtdmgceckmciifaaNum
import Derived.Test.YtdmgceckmciifaaRef19
import Derived.Laws.IdiomStrings
set_option linter.unusedVariables false
set_option linter.unusedSimpArgs false
namespace Go.Proofs.Ytdmgceckmciifaa
open Go.RowKit

/-- The decimal digits of a number, the greatest first; none of 0. -/
def decd (n : Nat) : List UInt8 := if h : n = 0 then [] else decd (n / 10) ++ [UInt8.ofNat (48 + n % 10)]
termination_by n
decreasing_by omega
/-- The last k digits. -/
def padd : Nat → Nat → List UInt8
  | 0, _ => []
  | k + 1, n => padd k (n / 10) ++ [UInt8.ofNat (48 + n % 10)]
/-- A number as it is written. -/
def decs (n : Nat) : List UInt8 := if n = 0 then [48] else decd n
theorem decd_zero : decd 0 = [] := by rw [decd]; simp
theorem decd_pos {n : Nat} (h : n ≠ 0) : decd n = decd (n / 10) ++ [UInt8.ofNat (48 + n % 10)] := by rw [decd]; simp [h]
theorem padd_len (k : Nat) : ∀ n, (padd k n).length = k := by
  induction k with
  | zero => intro n; rfl
  | succ k ih => intro n; simp [padd, ih]
theorem decd_pad (k : Nat) : ∀ n, n / 10 ^ k ≠ 0 → decd n = decd (n / 10 ^ k) ++ padd k n := by
  induction k with
  | zero => intro n _; simp [padd]
  | succ k ih =>
    intro n h
    have h0 : n ≠ 0 := fun e => h (by rw [e]; simp)
    have e : n / 10 ^ (k + 1) = n / 10 / 10 ^ k := by rw [Nat.pow_succ, Nat.mul_comm, Nat.div_div_eq_div_mul]
    rw [e] at h ⊢
    rw [decd_pos h0, ih _ h, padd, List.append_assoc]
theorem padd_mod (k : Nat) : ∀ n, padd k (n % 10 ^ k) = padd k n := by
  induction k with
  | zero => intro n; rfl
  | succ k ih =>
    intro n
    have e1 : n % 10 ^ (k + 1) / 10 = n / 10 % 10 ^ k := by
      rw [Nat.pow_succ, Nat.mul_comm, Nat.mod_mul_right_div_self]
    have e2 : n % 10 ^ (k + 1) % 10 = n % 10 := by
      rw [Nat.pow_succ, Nat.mul_comm, Nat.mod_mul_right_mod]
    rw [padd, padd, e1, e2, ih]
theorem padd_cons (k : Nat) : ∀ n, padd (k + 1) n = UInt8.ofNat (48 + n / 10 ^ k % 10) :: padd k n := by
  induction k with
  | zero => intro n; simp [padd]
  | succ k ih =>
    intro n
    rw [padd, ih (n / 10), padd]
    have e : n / 10 / 10 ^ k = n / 10 ^ (k + 1) := by rw [Nat.pow_succ, Nat.mul_comm, Nat.div_div_eq_div_mul]
    rw [e]
    rfl
theorem padd_small (k : Nat) : ∀ n, n < 10 ^ k → (decd n).length ≤ k ∧ padd k n = List.replicate (k - (decd n).length) 48 ++ decd n := by
  induction k with
  | zero =>
    intro n h
    have : n = 0 := by simpa using h
    subst this
    simp [decd_zero, padd]
  | succ k ih =>
    intro n h
    have h2 : n / 10 < 10 ^ k := by
      rw [Nat.div_lt_iff_lt_mul (by omega)]
      rwa [Nat.pow_succ] at h
    obtain ⟨h3, h4⟩ := ih _ h2
    by_cases h0 : n = 0
    · subst h0
      rw [decd_zero]
      refine ⟨by simp, ?_⟩
      rw [padd, h4, Nat.zero_div, decd_zero]
      simp [List.replicate_succ']
    · rw [padd, h4, decd_pos h0]
      refine ⟨by simp; omega, ?_⟩
      simp
theorem decd_ne {n : Nat} (h : n ≠ 0) : decd n ≠ [] := by rw [decd_pos h]; simp
theorem ofNat_ne48 {d : Nat} (h : d < 10) (h0 : d ≠ 0) : UInt8.ofNat (48 + d) ≠ 48 := by
  have : d = 1 ∨ d = 2 ∨ d = 3 ∨ d = 4 ∨ d = 5 ∨ d = 6 ∨ d = 7 ∨ d = 8 ∨ d = 9 := by omega
  rcases this with h | h | h | h | h | h | h | h | h <;> subst h <;> decide
theorem decd_head : ∀ n, n ≠ 0 → ∃ b t, decd n = b :: t ∧ b ≠ 48 := by
  intro n
  induction n using Nat.strongRecOn with
  | _ n ih =>
    intro h
    by_cases h1 : n / 10 = 0
    · refine ⟨UInt8.ofNat (48 + n % 10), [], by rw [decd_pos h, h1, decd_zero]; rfl, ofNat_ne48 (by omega) (by omega)⟩
    · obtain ⟨b, t, h2, h3⟩ := ih (n / 10) (by omega) h1
      exact ⟨b, t ++ [UInt8.ofNat (48 + n % 10)], by rw [decd_pos h, h2]; rfl, h3⟩
/-- The digit at a place, as it is written. -/
theorem digit_toNat (y : Nat) : (UInt8.ofNat (48 + y % 10)).toNat = 48 + y % 10 := by
  rw [UInt8.toNat_ofNat']
  omega
/-- Nine places of which the first c are not written. -/
def bz (c x : Nat) : List UInt8 := List.replicate c 0 ++ padd (9 - c) x
theorem bz_len {c : Nat} (x : Nat) (h : c ≤ 9) : (bz c x).length = 9 := by simp [bz, padd_len]; omega
theorem bz_set {c : Nat} (x : Nat) (h : c < 9) : (bz (c + 1) x).set c (UInt8.ofNat (48 + x / 10 ^ (8 - c) % 10)) = bz c x := by
  have e : 9 - c = 8 - c + 1 := by omega
  rw [bz, bz, e, padd_cons, show 9 - (c + 1) = 8 - c by omega, List.replicate_succ', List.append_assoc]
  rw [List.set_append_right _ _ (by simp)]
  simp
theorem bz_zero (x : Nat) : bz 0 x = padd 9 x := by simp [bz]
/-- How many zeros are left away. -/
theorem strip {x f : Nat} (hx : x < 1000000000) (hf : f < 9 - (decd x).length) : (padd 9 x)[f]? = some 48 := by
  obtain ⟨h1, h2⟩ := padd_small 9 x hx
  rw [h2, List.getElem?_append_left (by simpa using hf)]
  simp [hf]
theorem strip_at {x : Nat} (h0 : x ≠ 0) (hx : x < 1000000000) : ∃ b, (padd 9 x)[9 - (decd x).length]? = some b ∧ b ≠ 48 ∧ 9 - (decd x).length ≤ 8 ∧ (padd 9 x).drop (9 - (decd x).length) = decd x := by
  obtain ⟨h1, h2⟩ := padd_small 9 x hx
  obtain ⟨b, t, h3, h4⟩ := decd_head x h0
  refine ⟨b, ?_, h4, ?_, ?_⟩
  · rw [h2, List.getElem?_append_right (by simp)]
    simp [h3]
  · rw [h3]; simp
  · rw [h2, List.drop_append]
    simp

theorem info_u8 : (Try.prog.info? 5).map (fun i => (i.zero, i.size, i.bytes)) = some (some (.int .u8 0), 1, 1) := by kernel_rfl
/-- A byte in a cell. -/
def bv (b : UInt8) : Value := .int .u8 (b.toNat : Int)
/-- The parts of a number, a thousand millions each. -/
def prt (a j : Nat) : Nat := a / 1000000000 ^ j % 1000000000
def prts (a n : Nat) : List Int := (List.range n).map fun j => (prt a j : Int)
theorem prts_len (a n : Nat) : (prts a n).length = n := by simp [prts]
theorem prts_wat (a : Nat) {n j : Nat} (h : j < n) : wat (prts a n) j = (prt a j : Int) := by simp [prts, wat, List.getD_eq_getElem?_getD, h]
theorem prts_snoc (a n : Nat) : (prts a n).map (Value.int .u32) ++ [.int .u32 (prt a n : Int)] = (prts a (n + 1)).map (Value.int .u32) := by
  simp [prts, List.range_succ]
theorem prt_lt (a j : Nat) : prt a j < 1000000000 := Nat.mod_lt _ (by omega)
theorem div_next (a j : Nat) : a / 1000000000 ^ j / 1000000000 = a / 1000000000 ^ (j + 1) := by rw [Nat.pow_succ, Nat.div_div_eq_div_mul]
theorem pow32 (k : Nat) : (4294967296 : Nat) ^ k = 2 ^ (32 * k) := by
  rw [show (4294967296 : Nat) = 2 ^ 32 from rfl, ← Nat.pow_mul]
/-- How many parts there are. -/
theorem parts_few_of {a n k : Nat} (h : a / 1000000000 ^ n ≠ 0) (hs : (dg a).length ≤ k) : n < 32 * k := by
  have h1 := dg_len.1 hs
  have h2 : 1000000000 ^ n ≤ a := by
    apply Nat.le_of_not_lt
    intro h3
    exact h (Nat.div_eq_of_lt h3)
  have h3 : 2 ^ n ≤ 1000000000 ^ n := Nat.pow_le_pow_left (by omega) n
  rw [pow32] at h1
  exact (Nat.pow_lt_pow_iff_right (show 1 < 2 by omega)).1 (Nat.lt_of_le_of_lt (Nat.le_trans h3 h2) h1)
theorem parts_few {a n : Nat} (h : a / 1000000000 ^ n ≠ 0) (hs : (dg a).length ≤ 4096) : n < 131072 := parts_few_of h hs
theorem out_first {a i : Nat} (h : a / 1000000000 ^ (i + 1) = 0) : prt a i = a / 1000000000 ^ i := by
  rw [← div_next] at h
  unfold prt
  omega
theorem out_next {a i : Nat} (h : a / 1000000000 ^ (i + 1) ≠ 0) : decd (a / 1000000000 ^ i) = decd (a / 1000000000 ^ (i + 1)) ++ padd 9 (prt a i) := by
  rw [← div_next] at h ⊢
  have e := decd_pad 9 (a / 1000000000 ^ i) (by rw [show (10 : Nat) ^ 9 = 1000000000 from rfl]; exact h)
  rw [show (10 : Nat) ^ 9 = 1000000000 from rfl] at e
  rw [e]
  congr 1
  have := padd_mod 9 (a / 1000000000 ^ i)
  rw [show (10 : Nat) ^ 9 = 1000000000 from rfl] at this
  exact this.symm
theorem blk_bz {w : World} {g : Nat} {c x : Nat} (h : Blk w g 122 ((bz (c + 1) x).map bv).toArray) (hc : c < 9) :
    Blk (w.setCell ⟨g, c, none⟩ (bv (UInt8.ofNat (48 + x / 10 ^ (8 - c) % 10)))) g 122 ((bz c x).map bv).toArray := by
  have := h.set c (bv (UInt8.ofNat (48 + x / 10 ^ (8 - c) % 10)))
  rw [← bz_set x hc]
  simpa using this
theorem blk_cell {w : World} {g t : Nat} {l : List UInt8} (h : Blk w g t (l.map bv).toArray) {j : Nat} {b : UInt8} (hb : l[j]? = some b) : w.cell? ⟨g, j, none⟩ = some (.int .u8 (b.toNat : Int)) := by
  rw [h.cell]
  simp [hb, bv]
/-- A row of one's own, behind a call that changes nothing that lies there. -/
theorem own_below {w w1 : World} {base e size n : Nat} {v : Value} {xs : List Value} (h : w.ownsRow base e size v n xs) (hb : Below w.heap.size w w1) : w1.ownsRow base e size v n xs := by
  refine ⟨h.1, ?_⟩
  rcases h.2 with h2 | ⟨g, cap, cur, h1, h2, h3, h4⟩
  · exact .inl h2
  · exact .inr ⟨g, cap, cur, h1, h2, (hb.block g (Array.getElem?_eq_some_iff.1 h3).1).trans h3, h4⟩
/-- What short tells lies in new memory. -/
theorem short_fresh (w : World) (va : Value) (a : Nat) (d : Int) (dn : Nat) (hdn : d = (dn : Int)) (ha : Nm w va a) (h0 : 0 < dn) (h1 : dn < 4294967296) (sa : (dg a).length ≤ 1073741824) :
    Calls Try.prog 110 #[va, .int .u32 d] w fun e w' => ∃ m, e = .returned (.tuple #[.slice (some ⟨w.heap.size, 0, none⟩) m m, .int .u32 ((a % dn : Nat) : Int)]) ∧ Nm w' (.slice (some ⟨w.heap.size, 0, none⟩) m m) (a / dn) ∧ w.heap.size < w'.heap.size ∧ Below w.heap.size w w' := by
  subst hdn
  obtain ⟨A, c, rfl, hl, hc, hr⟩ := ha
  have hmk := fun w => mk_words ((dg a).length : Int) (by omega) (by omega) w
  go_enter Try.func110, Try.ntmps110
  go_wp2
  go_loopw [7, 8] (fun s i wr => ∃ (k : Nat) (x : Int) (L : List Int), k ≤ (dg a).length ∧ s = .int .u64 x ∧ i = .int .i64 ((k : Int) - 1) ∧ ShortRel (dg a) L dn k x ∧ Ow wr w.heap.size L ∧ Below w.heap.size w wr)
    (fun _ i _ => (intOf i + 1).toNat)
  case atStart => exact ⟨(dg a).length, 0, _, Nat.le_refl _, rfl, rfl, ShortRel.start _ _ h0, Ow.zeros _ _, (Below.refl _ _).alloc (Nat.le_refl _) _⟩
  case round =>
    obtain ⟨k, x, L, hk, rfl, rfl, ho, hg, hbl⟩ := hrel
    have HO := Lib.hid ho
    have b1 := ho.lo
    have b2 := ho.hi
    have b3 := ho.len
    clear ho hmk
    by_cases hx : 0 < k
    · obtain ⟨j, rfl⟩ : ∃ j, k = j + 1 := ⟨k - 1, by omega⟩
      obtain ⟨ad, rfl, hcell⟩ := hr (by omega)
      have e1 := cell_below hbl (hcell j (by omega))
      have r1 := wat_range (Wd_dg a) j
      have r1a := r1.1
      have r1b := r1.2
      have f1 := hg.free j
      have e3 := hg.cell (j := j) (by omega)
      have ho := or_shl64 x (wat (dg a) j) b1 (by omega) r1a r1b
      rw [show ((j + 1 : Nat) : Int) - 1 = (j : Int) by omega]
      clear hcell hr r1
      go_wp2
      have hst := HO.out.step (Wd_dg _) hk (by omega) _ rfl
      refine ⟨⟨j, _, _, by omega, rfl, rfl, hst, ?_, hbl.setCell (Nat.le_refl _) _⟩, by simp [intOf]; try omega⟩
      have hlt := Wd_getD hst.wd j
      rw [show (L.set j ((x * 4294967296 + wat (dg a) j) / dn)).getD j 0 = (x * 4294967296 + wat (dg a) j) / dn by simp [List.getD_eq_getElem?_getD, show j < L.length by omega]] at hlt
      rw [show ∀ z : Int, 0 ≤ z ∧ z < 4294967296 → z % 4294967296 = z from fun z hz => by omega] <;> first | exact hlt | exact hg.set _ _
    · obtain rfl : k = 0 := by omega
      have hs := HO.out.sum
      simp only [List.drop_zero, nv_dg] at hs
      have hq : nv L = a / dn := by
        rw [hs, Nat.add_comm, Nat.add_mul_div_right _ _ h0, Nat.div_eq_of_lt (by omega)]; omega
      have hm : x = ((a % dn : Nat) : Int) := by
        rw [hs, Nat.add_comm, Nat.add_mul_mod_self_right, Nat.mod_eq_of_lt (by omega)]; omega
      have HQ := Lib.hid hq
      have HM := Lib.hid hm
      clear hs hq hm
      go_wp2_with fail
      refine (trim_calls _ _ _ _ _ hg HO.out.wd (by omega) (by omega) (by omega)).mono ?_
      rintro e w' ⟨m, hm, rfl, ht, rfl⟩
      have hv := hg.rd m m (by omega) (Nat.le_refl _) (by omega)
      rw [ht, HQ.out] at hv
      have hlt := hg.lt
      clear ht
      go_wp2
      go_ret2
      exact ⟨_, by rw [← HM.out]; rfl, hv, hlt, hbl⟩
theorem rd_grown {k : IntKind} {w w' : World} {row : Option Nat} {g m c : Nat} {l : List Int} (h : RdI k w (.slice (some ⟨g, 0, none⟩) m c) l) (hg : w.grownBy w' row) (hne : some g ≠ row) : RdI k w' (.slice (some ⟨g, 0, none⟩) m c) l := by
  obtain ⟨A, c', hv, hl, hc, hr⟩ := h
  refine ⟨A, c', hv, hl, hc, fun h0 => ?_⟩
  obtain ⟨ad, ha, hcell⟩ := hr h0
  obtain ⟨rfl, _, _⟩ : some (⟨g, 0, none⟩ : Addr) = A ∧ m = l.length ∧ c = c' := by simpa using hv
  obtain rfl : (⟨g, 0, none⟩ : Addr) = ad := by simpa using ha
  exact ⟨_, rfl, fun j hj => hg.cell (hcell j hj) (by rw [show ((⟨g, 0, none⟩ : Addr).add j).block = g by simp [Addr.add]; split <;> rfl]; exact hne)⟩
theorem own_set {w : World} {base e size n g j : Nat} {v : Value} {xs : List Value} (h : w.ownsRow base e size v n xs) (hne : ∀ k, v.ownBlock = some k → k ≠ g) (y : Value) : (w.setCell ⟨g, j, none⟩ y).ownsRow base e size v n xs := by
  refine ⟨h.1, ?_⟩
  rcases h.2 with h2 | ⟨g', cap, cur, h1, h2, h3, h4⟩
  · exact .inl h2
  · exact .inr ⟨g', cap, cur, h1, h2, (heap_setCell_other w ⟨g, j, none⟩ g' y (hne g' (by rw [h1]; rfl))).trans h3, h4⟩
theorem own_shape {w : World} {base e size n : Nat} {v : Value} {xs : List Value} (h : w.ownsRow base e size v n xs) : ∃ A c, v = .slice A n c := by
  rcases h.2 with ⟨h1, h2⟩ | ⟨g', cap, cur, h1, _⟩
  · exact ⟨none, 0, by rw [h1, h2]⟩
  · exact ⟨_, _, h1⟩
theorem nine_new (x : Nat) : (#[.int .u8 0, .int .u8 0, .int .u8 0, .int .u8 0, .int .u8 0, .int .u8 0, .int .u8 0, .int .u8 0, .int .u8 0] : Array Value) = ((bz 9 x).map bv).toArray := rfl
theorem cells_bz {w : World} {g t x : Nat} (h : Blk w g t ((padd 9 x).map bv).toArray) (f : Nat) : ∀ j u, (((padd 9 x).drop f).map bv)[j]? = some u → w.cell? ((⟨g, f, none⟩ : Addr).add j) = some u := by
  intro j u hu
  rw [List.getElem?_map, List.getElem?_drop] at hu
  obtain ⟨b, hb, rfl⟩ := Option.map_eq_some_iff.1 hu
  have := blk_cell h hb
  rw [show ((⟨g, f, none⟩ : Addr).add j) = ⟨g, f + j, none⟩ by simp only [Addr.add]; split <;> simp_all]
  exact this
theorem bv_one (l : List UInt8) : ∀ u ∈ l.map bv, u.oneCell' = true := by
  intro u hu
  obtain ⟨b, _, rfl⟩ := List.mem_map.1 hu
  rfl
theorem own_len {w : World} {base e n : Nat} {v : Value} {l : List UInt8} (h : w.ownsRow base e 1 v n (l.map bv)) : w.ownsRow base e 1 v l.length (l.map bv) := by
  have := h.1
  simp only [List.length_map, Nat.mul_one] at this
  rw [this]; exact h
theorem decd_bound {a n k : Nat} (h : a / 1000000000 ^ n = 0) : (decd (a / 1000000000 ^ k)).length ≤ 9 * n := by
  have h1 : a < 1000000000 ^ n := by
    apply Nat.lt_of_not_le
    intro h2
    have := Nat.div_pos h2 (Nat.pow_pos (by omega))
    omega
  refine (padd_small (9 * n) _ (Nat.lt_of_le_of_lt (Nat.div_le_self _ _) ?_)).1
  rw [Nat.pow_mul]
  exact h1
theorem text_zero (w : World) (va : Value) (ha : Nm w va 0) : Calls Try.prog 89 #[va] w fun e w' => e = .returned (.string ⟨(decs 0).toArray⟩) ∧ Below w.heap.size w w' := by
  obtain ⟨A, c, rfl⟩ := ha.shape
  have hl : (dg 0).length = 0 := by rw [dg_zero]; rfl
  go_enter Try.func89, Try.ntmps89
  go_wp2
  go_ret
  exact ⟨rfl, Below.refl _ _⟩
set_option maxHeartbeats 4000000 in
set_option maxRecDepth 100000 in
theorem text_pos (w : World) (va : Value) (a : Nat) (ha : Nm w va a) (a0 : a ≠ 0) (hs : (dg a).length ≤ 4096) : Calls Try.prog 89 #[va] w fun e w' => e = .returned (.string ⟨(decd a).toArray⟩) ∧ Below w.heap.size w w' := by
  have ha' := ha
  obtain ⟨A, c, rfl⟩ := ha.shape
  have hl : 0 < (dg a).length := Nat.pos_of_ne_zero (fun h => a0 (dg_len_zero.1 h))
  have hl2 : (((dg a).length : Int) == 0) = false := int_ne0 hl
  obtain ⟨i0, hi, hz0, hz1, hz2⟩ := info_parts info_u32
  go_enter Try.func89, Try.ntmps89
  go_wp2
  go_loopg [0, 3] a (fun g s0 s3 wr => ∃ n : Nat, Nm wr s0 g ∧ g = a / 1000000000 ^ n ∧ wr.ownsRow w.heap.size 38 1 s3 n ((prts a n).map (Value.int .u32)) ∧ (∀ j, j < n → a / 1000000000 ^ j ≠ 0) ∧ Below w.heap.size w wr)
  case atStart => exact ⟨0, ha', by simp, by simpa [prts] using World.ownsRow_nil _ _ _ _, fun j h => by omega, Below.refl _ _⟩
  case round =>
    clear ha ha' hl hl2
    obtain ⟨n, hx, rfl, hown, hj, hbl⟩ := hrel
    have HJ := Lib.hid hj
    clear hj
    obtain ⟨x, hxe⟩ : ∃ x, x = a / 1000000000 ^ n := ⟨_, rfl⟩
    rw [← hxe] at hx
    have HX := Lib.hid hxe
    have hx' := hx
    obtain ⟨A0, c0, rfl⟩ := hx.shape
    by_cases x0 : x = 0
    · have hz : a / 1000000000 ^ n = 0 := by rw [← hxe]; exact x0
      have hn0 : 0 < n := by
        rcases Nat.eq_zero_or_pos n with h | h
        · rw [h, Nat.pow_zero, Nat.div_one] at hz; exact absurd hz a0
        · exact h
      have hn : n ≤ 131072 := by have := parts_few (HJ.out (n - 1) (by omega)) hs; omega
      have hP := (rd_owned hown).1
      obtain ⟨A3, c3, hs3, hl3, hc3, hr3⟩ := hP
      rw [prts_len] at hs3 hl3 hr3
      subst hs3
      have l0 : (dg x).length = 0 := dg_len_zero.2 x0
      have HZ := Lib.hid hz
      have HR3 := Lib.hid hr3
      obtain ⟨j0, ji, jz0, jz1, jz2⟩ := info_parts info_u8
      clear hown hx hx' hz hr3 x0 hxe
      rw [l0]
      clear l0
      obtain ⟨w5, rfl⟩ : ∃ w5, w5 = wr := ⟨_, rfl⟩
      go_wp2
      go_loopw [6, 7] (fun v i wx => ∃ k : Nat, k ≤ n ∧ i = .int .i64 ((k : Int) - 1) ∧ wx.ownsRow w5.heap.size 5 1 v (decd (a / 1000000000 ^ k)).length ((decd (a / 1000000000 ^ k)).map bv) ∧ Below w5.heap.size w5 wx)
        (fun _ i _ => (intOf i + 1).toNat)
      case atStart => exact ⟨n, Nat.le_refl _, by go_num, by rw [HZ.out, decd_zero]; exact World.ownsRow_nil _ _ _ _, Below.refl _ _⟩
      case round =>
        obtain ⟨k, hk, rfl, hown, hbx⟩ := hrel
        by_cases hk0 : 0 < k
        · obtain ⟨j, rfl⟩ : ∃ j, k = j + 1 := ⟨k - 1, by omega⟩
          obtain ⟨ad, rfl, hcell⟩ := HR3.out (by omega)
          have e1 := cell_below hbx (hcell j (by omega))
          rw [prts_wat a (by omega)] at e1
          have hpl := prt_lt a j
          obtain ⟨p, hp⟩ : ∃ p, p = prt a j := ⟨_, rfl⟩
          rw [← hp] at e1 hpl
          have HPP := Lib.hid hp
          rw [show ((j + 1 : Nat) : Int) - 1 = (j : Int) by omega]
          have hlt := Lib.hid (fun k h => (hown.lt k h).2)
          obtain ⟨Ao, co, rfl⟩ := own_shape hown
          have HO := Lib.hid hown
          have HBX := Lib.hid hbx
          have hal := below_alloc0 wr (.cells #[.int .u8 0, .int .u8 0, .int .u8 0, .int .u8 0, .int .u8 0, .int .u8 0, .int .u8 0, .int .u8 0, .int .u8 0] 122)
          have e2 := cell_below hal e1
          have B0 := Lib.hid (show Blk (wr.alloc (.cells #[.int .u8 0, .int .u8 0, .int .u8 0, .int .u8 0, .int .u8 0, .int .u8 0, .int .u8 0, .int .u8 0, .int .u8 0] 122)) wr.heap.size 122 ((bz 9 p).map bv).toArray by rw [← nine_new p]; exact Blk.new wr _ _)
          have HB1 := Lib.hid (bl_trans hbx hal)
          have HO1 := Lib.hid (own_below HO.out hal)
          have hbz := hbx.size
          have NF := Lib.hid (show ∀ k, Value.ownBlock (.slice Ao (decd (a / 1000000000 ^ (j + 1))).length co) = some k → k ≠ wr.heap.size from fun k h => by have := hlt.out k h; omega)
          obtain ⟨gN, hgN⟩ : ∃ g, g = wr.heap.size := ⟨_, rfl⟩
          have HGN := Lib.hid (show w5.heap.size ≤ gN by rw [hgN]; exact hbz)
          rw [← hgN] at B0 NF
          clear hcell hown hbx hp e1 hal HBX HO
          go_wp2
          rw [← hgN]
          clear hgN hbz e2
          go_loopw [9, 10] (fun y i wx => ∃ c : Nat, c ≤ 9 ∧ y = .int .u32 ((p / 10 ^ (9 - c) : Nat) : Int) ∧ i = .int .i64 ((c : Int) - 1) ∧ Blk wx gN 122 ((bz c p).map bv).toArray ∧ wx.ownsRow w5.heap.size 5 1 (.slice Ao (decd (a / 1000000000 ^ (j + 1))).length co) (decd (a / 1000000000 ^ (j + 1))).length ((decd (a / 1000000000 ^ (j + 1))).map bv) ∧ Below w5.heap.size w5 wx)
            (fun _ i _ => (intOf i + 1).toNat)
          case atStart => exact ⟨9, by omega, by simp, by go_num, B0.out, HO1.out, HB1.out⟩
          case round =>
            clear B0 HO1 HB1
            obtain ⟨c, hc, rfl, rfl, hblk, hown, hbx⟩ := hrel
            by_cases hc0 : 0 < c
            · obtain ⟨d, rfl⟩ : ∃ d, c = d + 1 := ⟨c - 1, by omega⟩
              rw [show ((d + 1 : Nat) : Int) - 1 = (d : Int) by omega, show 9 - (d + 1) = 8 - d by omega]
              obtain ⟨y, hy⟩ : ∃ y, y = p / 10 ^ (8 - d) := ⟨_, rfl⟩
              have hyb : y < 1000000000 := by rw [hy]; exact Nat.lt_of_le_of_lt (Nat.div_le_self _ _) hpl
              rw [← hy]
              have HY := Lib.hid hy
              have hset := blk_bz hblk (by omega)
              rw [← hy] at hset
              have hdig := digit_toNat y
              unfold bv at hset
              rw [hdig, show ((48 + y % 10 : Nat) : Int) = 48 + (y : Int) % 10 by omega] at hset
              have HS := Lib.hid hset
              have HO := Lib.hid hown
              have HB := Lib.hid hbx
              have f0 := hblk.free d
              have cc := hblk.cell d
              have ccl : ∃ x0, ((bz (d + 1) p).map bv).toArray[d]? = some x0 := ⟨_, Array.getElem?_eq_getElem (by simp [bz_len p hc]; omega)⟩
              obtain ⟨x0, hx0⟩ := ccl
              rw [hx0] at cc
              have wd : (48 + (y : Int) % 10) % 256 = 48 + (y : Int) % 10 := by omega
              have hd9 : (d : Int) < 9 := by omega
              clear hset hown hbx hx0 hy hdig hblk
              go_wp2
              exact ⟨⟨d, by omega, by
                rw [HY.out, show 9 - d = 8 - d + 1 by omega, Nat.pow_succ, ← Nat.div_div_eq_div_mul]
                rfl, rfl, HS.out, own_set HO.out NF.out _, HB.out.setCell HGN.out _⟩, by simp [intOf]; try omega⟩
            · obtain rfl : c = 0 := by omega
              rw [bz_zero] at hblk
              have HK := Lib.hid hblk
              have HO := Lib.hid hown
              have HB := Lib.hid hbx
              have hkl := hblk.lt
              have hbz := hbx.size
              by_cases hz : a / 1000000000 ^ (j + 1) = 0
              · have hp0 : p = a / 1000000000 ^ j := by rw [HPP.out]; exact out_first hz
                have hpn : p ≠ 0 := by rw [hp0]; exact HJ.out j (by omega)
                obtain ⟨b, hb1, hb2, hb3, hb4⟩ := strip_at hpn hpl
                obtain ⟨z, hz9⟩ : ∃ z, z = 9 - (decd p).length := ⟨_, rfl⟩
                have hdl := (padd_small 9 p (by rw [show (10 : Nat) ^ 9 = 1000000000 from rfl]; exact hpl)).1
                rw [← hz9] at hb1 hb3 hb4
                have H4 := Lib.hid hb4
                have HP0 := Lib.hid hp0
                have HZ9 := Lib.hid hz9
                have HZZ := Lib.hid hz
                have hL : (decd (a / 1000000000 ^ (j + 1))).length = 0 := by rw [hz, decd_zero]; rfl
                have hOA := hown
                rw [hL] at hOA
                have HOA := Lib.hid hOA
                clear hOA
                have cb := blk_cell hblk hb1
                have HB1 := Lib.hid hb1
                have nb : ((b.toNat : Int) == 48) = false := beq_eq_false_iff_ne.2 (fun h => hb2 (UInt8.toNat_inj.1 (by
                  have : b.toNat = 48 := by omega
                  rw [this]; rfl)))
                have HBK := Lib.hid hblk
                clear hblk hown hbx hz hb4 hp0 hb2 hb1 hz9
                go_wp2
                go_loop [11] (fun s => ∃ f : Nat, f ≤ z ∧ s = .int .i64 (f : Int)) (fun s => z - (intOf s).toNat)
                case atStart => exact ⟨0, by omega, rfl⟩
                case round =>
                  obtain ⟨f, hf, rfl⟩ := hrel
                  by_cases hfz : f < z
                  · have cf := blk_cell HBK.out (strip (f := f) hpl (by rw [← HZ9.out]; exact hfz))
                    rw [show (((48 : UInt8).toNat : Nat) : Int) = 48 from rfl] at cf
                    clear cb nb
                    go_wp2
                    exact ⟨⟨f + 1, by omega, by go_num⟩, by simp [intOf]; omega⟩
                  · obtain rfl : f = z := by omega
                    have HH8 := Lib.hid hb3
                    by_cases h8 : f = 8
                    · have h8' : decide ((f : Int) < 8) = false := decide_eq_false (by omega)
                      have hfi : (f : Int) ≤ 9 := by omega
                      clear h8
                      go_wp2_with (first
                        | (at_builtin; refine wpList_append_own _ rfl (.tmp 66) (.tmp 68) 121 rfl w5.heap.size 5 j0 (.int .u8 0) 1 1 Try.underlying121 ji jz0 jz1 jz2 rfl (by decide) _ _ _ rfl HO.out ⟨gN, f, none⟩ _ _ (((padd 9 p).drop f).map bv) rfl (by simp [padd_len]) (cells_bz HBK.out f) (bv_one _) (by unfold maxLen; omega) (by omega) (by omega) ?_)
                        | go_in)
                      intro v' w2 hown' hgrow _
                      have hb' := bl_grown HB.out hgrow HOA.out (Nat.le_refl _) hbz
                      rw [← List.map_drop, ← List.map_append, show decd (a / 1000000000 ^ (j + 1)) ++ (padd 9 p).drop f = decd (a / 1000000000 ^ j) by rw [HZZ.out, decd_zero, H4.out, HP0.out]; rfl] at hown'
                      have HO2 := Lib.hid (own_len hown')
                      have HB2 := Lib.hid hb'
                      clear hown' hgrow hb' cb nb
                      go_wp2
                      exact ⟨⟨j, by omega, by go_num, HO2.out, HB2.out⟩, by simp [intOf]; try omega⟩
                    · have h8' : decide ((f : Int) < 8) = true := decide_eq_true (by omega)
                      have hfi : (f : Int) ≤ 9 := by omega
                      clear h8
                      go_wp2_with (first
                        | (at_builtin; refine wpList_append_own _ rfl (.tmp 66) (.tmp 68) 121 rfl w5.heap.size 5 j0 (.int .u8 0) 1 1 Try.underlying121 ji jz0 jz1 jz2 rfl (by decide) _ _ _ rfl HO.out ⟨gN, f, none⟩ _ _ (((padd 9 p).drop f).map bv) rfl (by simp [padd_len]) (cells_bz HBK.out f) (bv_one _) (by unfold maxLen; omega) (by omega) (by omega) ?_)
                        | go_in)
                      intro v' w2 hown' hgrow _
                      have hb' := bl_grown HB.out hgrow HOA.out (Nat.le_refl _) hbz
                      rw [← List.map_drop, ← List.map_append, show decd (a / 1000000000 ^ (j + 1)) ++ (padd 9 p).drop f = decd (a / 1000000000 ^ j) by rw [HZZ.out, decd_zero, H4.out, HP0.out]; rfl] at hown'
                      have HO2 := Lib.hid (own_len hown')
                      have HB2 := Lib.hid hb'
                      clear hown' hgrow hb' cb nb
                      go_wp2
                      exact ⟨⟨j, by omega, by go_num, HO2.out, HB2.out⟩, by simp [intOf]; try omega⟩
              · have hL : ((decd (a / 1000000000 ^ (j + 1))).length : Int) ≠ 0 := fun h => by
                  have : (decd (a / 1000000000 ^ (j + 1))).length = 0 := by omega
                  exact decd_ne hz (List.length_eq_zero_iff.1 this)
                have hbd := decd_bound (k := j + 1) HZ.out
                have hL2 : (((decd (a / 1000000000 ^ (j + 1))).length : Int) == 0) = false := beq_eq_false_iff_ne.2 hL
                have HOX := Lib.hid (show decd (a / 1000000000 ^ j) = decd (a / 1000000000 ^ (j + 1)) ++ padd 9 p by rw [HPP.out]; exact out_next hz)
                have HBK := Lib.hid hblk
                clear hblk hown hbx hz hL
                go_wp2
                go_loop [11] (fun s => s = .int .i64 0) (fun s => (intOf s).toNat)
                case atStart => rfl
                case round =>
                  subst hrel
                  go_wp2_with (first
                    | (at_builtin; refine wpList_append_own _ rfl (.tmp 66) (.tmp 68) 121 rfl w5.heap.size 5 j0 (.int .u8 0) 1 1 Try.underlying121 ji jz0 jz1 jz2 rfl (by decide) _ _ _ rfl HO.out ⟨gN, 0, none⟩ _ _ ((padd 9 p).map bv) rfl (by simp [padd_len]) (cells_bz HBK.out 0) (bv_one _) (by unfold maxLen; omega) (by omega) (by omega) ?_)
                    | go_in)
                  intro v' w2 hown' hgrow _
                  have hb' := bl_grown HB.out hgrow HO.out (Nat.le_refl _) hbz
                  rw [← List.map_append, ← HOX.out] at hown'
                  have HO2 := Lib.hid (own_len hown')
                  have HB2 := Lib.hid hb'
                  clear hown' hgrow hb' 
                  go_wp2
                  exact ⟨⟨j, by omega, by go_num, HO2.out, HB2.out⟩, by simp [intOf]; try omega⟩
        · obtain rfl : k = 0 := by omega
          rw [Nat.pow_zero, Nat.div_one] at hown
          have hla : (decd a).length ≠ 0 := fun h => decd_ne a0 (List.length_eq_zero_iff.1 h)
          obtain ⟨g, cap, hv⟩ : ∃ g cap, u6 = .slice (some ⟨g, 0, none⟩) (decd a).length cap := by
            rcases hown.2 with ⟨_, h⟩ | ⟨g, cap, _, h, _⟩
            · exact absurd h hla
            · exact ⟨g, cap, h⟩
          subst hv
          have hcv := run_convert_bytes_back (P := Try.prog) wr 121 9 5 ⟨g, 0, none⟩ cap (decd a) Try.underlying121 Try.underlying5 Try.underlying9 (fun j hj => hown.cells (g := g) rfl j _ (by simp [bv, hj]))
          have HB := Lib.hid hbx
          clear hown hbx hla
          go_wp2
          go_ret
          exact ⟨rfl, bl_trans hbl HB.out⟩
    · have lx : 0 < (dg x).length := Nat.pos_of_ne_zero (fun h => x0 (dg_len_zero.1 h))
      have hn := parts_few (a := a) (n := n) (by rw [← hxe]; exact x0) hs
      have sx : (dg x).length ≤ 1073741824 := by
        have h1 : x ≤ a := by rw [hxe]; exact Nat.div_le_self _ _
        have := dg_len_mono h1
        omega
      have HO := Lib.hid hown
      clear hown hxe
      go_wp2_with fail
      refine (short_fresh _ _ x 1000000000 1000000000 rfl hx' (by omega) (by omega) sx).mono ?_
      rintro e w1 ⟨m, rfl, hv, hlt1, hb1⟩
      have hrow := Lib.hid (fun k h => (HO.out.lt k h).2)
      have hp : x % 1000000000 = prt a n := by rw [HX.out]; rfl
      rw [hp]
      have hbw := bl_trans hbl hb1
      have hs1 := hbw.size
      have HO1 := Lib.hid (own_below HO.out hb1)
      clear hx hx' hp
      go_wp2_with (first
        | (at_builtin; refine wpList_append_own _ rfl _ _ 22 rfl w.heap.size 38 i0 (.int .u32 0) 1 4 Try.underlying22 hi hz0 hz1 hz2 rfl (by decide) _ _ _ rfl (HO1.out.alloc _) ⟨w1.heap.size, 0, none⟩ 1 1 [.int .u32 (prt a n : Int)] rfl rfl ?c1 ?c2 ?c3 ?c4 ?c5 ?_)
        | go_in)
      case c1 =>
        intro j u hj
        match j, hj with
        | 0, hj => simp at hj; subst hj; simp [Addr.add]
      case c2 => intro u hu; simp at hu; subst hu; rfl
      case c3 => unfold maxLen; omega
      case c4 => omega
      case c5 => simp; omega
      · intro v' w2 hown' hgrow _
        have hb' := bl_grown (hbw.alloc (Nat.le_trans (Nat.le_refl _) hs1) _) hgrow (HO1.out.alloc _) (Nat.le_refl _) (by simp; omega)
        have hv2 := rd_grown (RdI.below hv (below_alloc0 w1 (.cells #[.int .u32 (prt a n : Int)] 38))) hgrow (fun h => by have := hrow.out _ h.symm; omega)
        rw [prts_snoc] at hown'
        have HO' := Lib.hid hown'
        have HB' := Lib.hid hb'
        have HV2 := Lib.hid hv2
        have hd : x / 1000000000 = a / 1000000000 ^ (n + 1) := by rw [HX.out, div_next]
        have HD := Lib.hid hd
        clear hown' hb' hgrow hv hv2 hbw hd
        go_wp2
        go_roundg (x / 1000000000)
        case measure => rw [← HX.out]; omega
        case rel => exact ⟨n + 1, HV2.out, HD.out, HO'.out, by
            intro j h
            rcases Nat.lt_or_ge j n with h2 | h2
            · exact HJ.out j h2
            · obtain rfl : j = n := by omega
              rw [← HX.out]; exact x0, HB'.out⟩
/-- A number as it is written. -/
theorem text_calls (w : World) (va : Value) (a : Nat) (ha : Nm w va a) (hs : (dg a).length ≤ 4096) : Calls Try.prog 89 #[va] w fun e w' => e = .returned (.string ⟨(decs a).toArray⟩) ∧ Below w.heap.size w w' := by
  by_cases h : a = 0
  · subst h; exact text_zero w va ha
  · rw [show decs a = decd a by simp [decs, h]]
    exact text_pos w va a ha h hs
end Go.Proofs.Ytdmgceckmciifaa
