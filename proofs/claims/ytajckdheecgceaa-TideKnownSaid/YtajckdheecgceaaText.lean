/- Decimal digits, plain. -/
import Derived.Test.YtajckdheecgceaaNum
import Derived.Test.YtajckdheecgceaaRef19
import Derived.Laws.IdiomStrings
set_option linter.unusedVariables false
set_option linter.unusedSimpArgs false
namespace Go.Proofs.Ytajckdheecgceaa
open Go.RowKit

/-- The decimal digits of a number, the greatest first; none of 0. -/
def decd (n : Nat) : List UInt8 := if h : n = 0 then [] else decd (n / 10) ++ [UInt8.ofNat (48 + n % 10)]
termination_by n
decreasing_by omega
/-- The last k digits. -/
def padd : Nat → Nat → List UInt8
  | 0, _ => []
  | k + 1, n => padd k (n / 10) ++ [UInt8.ofNat (48 + n % 10)]
/-- A number as it is written. -/
def decs (n : Nat) : List UInt8 := if n = 0 then [48] else decd n
theorem decd_zero : decd 0 = [] := by rw [decd]; simp
theorem decd_pos {n : Nat} (h : n ≠ 0) : decd n = decd (n / 10) ++ [UInt8.ofNat (48 + n % 10)] := by rw [decd]; simp [h]
theorem padd_len (k : Nat) : ∀ n, (padd k n).length = k := by
  induction k with
  | zero => intro n; rfl
  | succ k ih => intro n; simp [padd, ih]
theorem decd_pad (k : Nat) : ∀ n, n / 10 ^ k ≠ 0 → decd n = decd (n / 10 ^ k) ++ padd k n := by
  induction k with
  | zero => intro n _; simp [padd]
  | succ k ih =>
    intro n h
    have h0 : n ≠ 0 := fun e => h (by rw [e]; simp)
    have e : n / 10 ^ (k + 1) = n / 10 / 10 ^ k := by rw [Nat.pow_succ, Nat.mul_comm, Nat.div_div_eq_div_mul]
    rw [e] at h ⊢
    rw [decd_pos h0, ih _ h, padd, List.append_assoc]
theorem padd_mod (k : Nat) : ∀ n, padd k (n % 10 ^ k) = padd k n := by
  induction k with
  | zero => intro n; rfl
  | succ k ih =>
    intro n
    have e1 : n % 10 ^ (k + 1) / 10 = n / 10 % 10 ^ k := by
      rw [Nat.pow_succ, Nat.mul_comm, Nat.mod_mul_right_div_self]
    have e2 : n % 10 ^ (k + 1) % 10 = n % 10 := by
      rw [Nat.pow_succ, Nat.mul_comm, Nat.mod_mul_right_mod]
    rw [padd, padd, e1, e2, ih]
theorem padd_cons (k : Nat) : ∀ n, padd (k + 1) n = UInt8.ofNat (48 + n / 10 ^ k % 10) :: padd k n := by
  induction k with
  | zero => intro n; simp [padd]
  | succ k ih =>
    intro n
    rw [padd, ih (n / 10), padd]
    have e : n / 10 / 10 ^ k = n / 10 ^ (k + 1) := by rw [Nat.pow_succ, Nat.mul_comm, Nat.div_div_eq_div_mul]
    rw [e]
    rfl
theorem padd_small (k : Nat) : ∀ n, n < 10 ^ k → (decd n).length ≤ k ∧ padd k n = List.replicate (k - (decd n).length) 48 ++ decd n := by
  induction k with
  | zero =>
    intro n h
    have : n = 0 := by simpa using h
    subst this
    simp [decd_zero, padd]
  | succ k ih =>
    intro n h
    have h2 : n / 10 < 10 ^ k := by
      rw [Nat.div_lt_iff_lt_mul (by omega)]
      rwa [Nat.pow_succ] at h
    obtain ⟨h3, h4⟩ := ih _ h2
    by_cases h0 : n = 0
    · subst h0
      rw [decd_zero]
      refine ⟨by simp, ?_⟩
      rw [padd, h4, Nat.zero_div, decd_zero]
      simp [List.replicate_succ']
    · rw [padd, h4, decd_pos h0]
      refine ⟨by simp; omega, ?_⟩
      simp
theorem decd_ne {n : Nat} (h : n ≠ 0) : decd n ≠ [] := by rw [decd_pos h]; simp
theorem ofNat_ne48 {d : Nat} (h : d < 10) (h0 : d ≠ 0) : UInt8.ofNat (48 + d) ≠ 48 := by
  have : d = 1 ∨ d = 2 ∨ d = 3 ∨ d = 4 ∨ d = 5 ∨ d = 6 ∨ d = 7 ∨ d = 8 ∨ d = 9 := by omega
  rcases this with h | h | h | h | h | h | h | h | h <;> subst h <;> decide
theorem decd_head : ∀ n, n ≠ 0 → ∃ b t, decd n = b :: t ∧ b ≠ 48 := by
  intro n
  induction n using Nat.strongRecOn with
  | _ n ih =>
    intro h
    by_cases h1 : n / 10 = 0
    · refine ⟨UInt8.ofNat (48 + n % 10), [], by rw [decd_pos h, h1, decd_zero]; rfl, ofNat_ne48 (by omega) (by omega)⟩
    · obtain ⟨b, t, h2, h3⟩ := ih (n / 10) (by omega) h1
      exact ⟨b, t ++ [UInt8.ofNat (48 + n % 10)], by rw [decd_pos h, h2]; rfl, h3⟩
/-- The digit at a place, as it is written. -/
theorem digit_toNat (y : Nat) : (UInt8.ofNat (48 + y % 10)).toNat = 48 + y % 10 := by
  rw [UInt8.toNat_ofNat']
  omega
/-- Nine places of which the first c are not written. -/
def bz (c x : Nat) : List UInt8 := List.replicate c 0 ++ padd (9 - c) x
theorem bz_len {c : Nat} (x : Nat) (h : c ≤ 9) : (bz c x).length = 9 := by simp [bz, padd_len]; omega
theorem bz_set {c : Nat} (x : Nat) (h : c < 9) : (bz (c + 1) x).set c (UInt8.ofNat (48 + x / 10 ^ (8 - c) % 10)) = bz c x := by
  have e : 9 - c = 8 - c + 1 := by omega
  rw [bz, bz, e, padd_cons, show 9 - (c + 1) = 8 - c by omega, List.replicate_succ', List.append_assoc]
  rw [List.set_append_right _ _ (by simp)]
  simp
theorem bz_zero (x : Nat) : bz 0 x = padd 9 x := by simp [bz]
/-- How many zeros are left away. -/
theorem strip {x f : Nat} (hx : x < 1000000000) (hf : f < 9 - (decd x).length) : (padd 9 x)[f]? = some 48 := by
  obtain ⟨h1, h2⟩ := padd_small 9 x hx
  rw [h2, List.getElem?_append_left (by simpa using hf)]
  simp [hf]
theorem strip_at {x : Nat} (h0 : x ≠ 0) (hx : x < 1000000000) : ∃ b, (padd 9 x)[9 - (decd x).length]? = some b ∧ b ≠ 48 ∧ 9 - (decd x).length ≤ 8 ∧ (padd 9 x).drop (9 - (decd x).length) = decd x := by
  obtain ⟨h1, h2⟩ := padd_small 9 x hx
  obtain ⟨b, t, h3, h4⟩ := decd_head x h0
  refine ⟨b, ?_, h4, ?_, ?_⟩
  · rw [h2, List.getElem?_append_right (by simp)]
    simp [h3]
  · rw [h3]; simp
  · rw [h2, List.drop_append]
    simp

theorem info_u8 : (Try.prog.info? 5).map (fun i => (i.zero, i.size, i.bytes)) = some (some (.int .u8 0), 1, 1) := by kernel_rfl
/-- A byte in a cell. -/
def bv (b : UInt8) : Value := .int .u8 (b.toNat : Int)
/-- The parts of a number, a thousand millions each. -/
def prt (a j : Nat) : Nat := a / 1000000000 ^ j % 1000000000
def prts (a n : Nat) : List Int := (List.range n).map fun j => (prt a j : Int)
theorem prts_len (a n : Nat) : (prts a n).length = n := by simp [prts]
theorem prts_wat (a : Nat) {n j : Nat} (h : j < n) : wat (prts a n) j = (prt a j : Int) := by simp [prts, wat, List.getD_eq_getElem?_getD, h]
theorem prts_snoc (a n : Nat) : (prts a n).map (Value.int .u32) ++ [.int .u32 (prt a n : Int)] = (prts a (n + 1)).map (Value.int .u32) := by
  simp [prts, List.range_succ]
theorem prt_lt (a j : Nat) : prt a j < 1000000000 := Nat.mod_lt _ (by omega)
theorem div_next (a j : Nat) : a / 1000000000 ^ j / 1000000000 = a / 1000000000 ^ (j + 1) := by rw [Nat.pow_succ, Nat.div_div_eq_div_mul]
theorem pow32 (k : Nat) : (4294967296 : Nat) ^ k = 2 ^ (32 * k) := by
  rw [show (4294967296 : Nat) = 2 ^ 32 from rfl, ← Nat.pow_mul]
/-- How many parts there are. -/
theorem parts_few_of {a n k : Nat} (h : a / 1000000000 ^ n ≠ 0) (hs : (dg a).length ≤ k) : n < 32 * k := by
  have h1 := dg_len.1 hs
  have h2 : 1000000000 ^ n ≤ a := by
    apply Nat.le_of_not_lt
    intro h3
    exact h (Nat.div_eq_of_lt h3)
  have h3 : 2 ^ n ≤ 1000000000 ^ n := Nat.pow_le_pow_left (by omega) n
  rw [pow32] at h1
  exact (Nat.pow_lt_pow_iff_right (show 1 < 2 by omega)).1 (Nat.lt_of_le_of_lt (Nat.le_trans h3 h2) h1)
theorem parts_few {a n : Nat} (h : a / 1000000000 ^ n ≠ 0) (hs : (dg a).length ≤ 4096) : n < 131072 := parts_few_of h hs
theorem out_first {a i : Nat} (h : a / 1000000000 ^ (i + 1) = 0) : prt a i = a / 1000000000 ^ i := by
  rw [← div_next] at h
  unfold prt
  omega
theorem out_next {a i : Nat} (h : a / 1000000000 ^ (i + 1) ≠ 0) : decd (a / 1000000000 ^ i) = decd (a / 1000000000 ^ (i + 1)) ++ padd 9 (prt a i) := by
  rw [← div_next] at h ⊢
  have e := decd_pad 9 (a / 1000000000 ^ i) (by rw [show (10 : Nat) ^ 9 = 1000000000 from rfl]; exact h)
  rw [show (10 : Nat) ^ 9 = 1000000000 from rfl] at e
  rw [e]
  congr 1
  have := padd_mod 9 (a / 1000000000 ^ i)
  rw [show (10 : Nat) ^ 9 = 1000000000 from rfl] at this
  exact this.symm
theorem blk_cell {w : World} {g t : Nat} {l : List UInt8} (h : Blk w g t (l.map bv).toArray) {j : Nat} {b : UInt8} (hb : l[j]? = some b) : w.cell? ⟨g, j, none⟩ = some (.int .u8 (b.toNat : Int)) := by
  rw [h.cell]
  simp [hb, bv]
/-- A row of one's own, behind a call that changes nothing that lies there. -/
theorem own_below {w w1 : World} {base e size n : Nat} {v : Value} {xs : List Value} (h : w.ownsRow base e size v n xs) (hb : Below w.heap.size w w1) : w1.ownsRow base e size v n xs := by
  refine ⟨h.1, ?_⟩
  rcases h.2 with h2 | ⟨g, cap, cur, h1, h2, h3, h4⟩
  · exact .inl h2
  · exact .inr ⟨g, cap, cur, h1, h2, (hb.block g (Array.getElem?_eq_some_iff.1 h3).1).trans h3, h4⟩
/-- What short tells lies in new memory. -/
theorem short_fresh (w : World) (va : Value) (a : Nat) (d : Int) (dn : Nat) (hdn : d = (dn : Int)) (ha : Nm w va a) (h0 : 0 < dn) (h1 : dn < 4294967296) (sa : (dg a).length ≤ 1073741824) :
    Calls Try.prog 130 #[va, .int .u32 d] w fun e w' => ∃ m, e = .returned (.tuple #[.slice (some ⟨w.heap.size, 0, none⟩) m m, .int .u32 ((a % dn : Nat) : Int)]) ∧ Nm w' (.slice (some ⟨w.heap.size, 0, none⟩) m m) (a / dn) ∧ w.heap.size < w'.heap.size ∧ Below w.heap.size w w' := by
  subst hdn
  obtain ⟨A, c, rfl, hl, hc, hr⟩ := ha
  have hmk := fun w => mk_words ((dg a).length : Int) (by omega) (by omega) w
  go_enter Try.func130, Try.ntmps130
  go_wp2
  go_loopw [7, 8] (fun s i wr => ∃ (k : Nat) (x : Int) (L : List Int), k ≤ (dg a).length ∧ s = .int .u64 x ∧ i = .int .i64 ((k : Int) - 1) ∧ ShortRel (dg a) L dn k x ∧ Ow wr w.heap.size L ∧ Below w.heap.size w wr)
    (fun _ i _ => (intOf i + 1).toNat)
  case atStart => exact ⟨(dg a).length, 0, _, Nat.le_refl _, rfl, rfl, ShortRel.start _ _ h0, Ow.zeros _ _, (Below.refl _ _).alloc (Nat.le_refl _) _⟩
  case round =>
    obtain ⟨k, x, L, hk, rfl, rfl, ho, hg, hbl⟩ := hrel
    have HO := Lib.hid ho
    have b1 := ho.lo
    have b2 := ho.hi
    have b3 := ho.len
    clear ho hmk
    by_cases hx : 0 < k
    · obtain ⟨j, rfl⟩ : ∃ j, k = j + 1 := ⟨k - 1, by omega⟩
      obtain ⟨ad, rfl, hcell⟩ := hr (by omega)
      have e1 := cell_below hbl (hcell j (by omega))
      have r1 := wat_range (Wd_dg a) j
      have r1a := r1.1
      have r1b := r1.2
      have f1 := hg.free j
      have e3 := hg.cell (j := j) (by omega)
      have ho := or_shl64 x (wat (dg a) j) b1 (by omega) r1a r1b
      rw [show ((j + 1 : Nat) : Int) - 1 = (j : Int) by omega]
      clear hcell hr r1
      go_wp2
      have hst := HO.out.step (Wd_dg _) hk (by omega) _ rfl
      refine ⟨⟨j, _, _, by omega, rfl, rfl, hst, ?_, hbl.setCell (Nat.le_refl _) _⟩, by simp [intOf]; try omega⟩
      have hlt := Wd_getD hst.wd j
      rw [show (L.set j ((x * 4294967296 + wat (dg a) j) / dn)).getD j 0 = (x * 4294967296 + wat (dg a) j) / dn by simp [List.getD_eq_getElem?_getD, show j < L.length by omega]] at hlt
      rw [show ∀ z : Int, 0 ≤ z ∧ z < 4294967296 → z % 4294967296 = z from fun z hz => by omega] <;> first | exact hlt | exact hg.set _ _
    · obtain rfl : k = 0 := by omega
      have hs := HO.out.sum
      simp only [List.drop_zero, nv_dg] at hs
      have hq : nv L = a / dn := by
        rw [hs, Nat.add_comm, Nat.add_mul_div_right _ _ h0, Nat.div_eq_of_lt (by omega)]; omega
      have hm : x = ((a % dn : Nat) : Int) := by
        rw [hs, Nat.add_comm, Nat.add_mul_mod_self_right, Nat.mod_eq_of_lt (by omega)]; omega
      have HQ := Lib.hid hq
      have HM := Lib.hid hm
      clear hs hq hm
      go_wp2_with fail
      refine (trim_calls _ _ _ _ _ hg HO.out.wd (by omega) (by omega) (by omega)).mono ?_
      rintro e w' ⟨m, hm, rfl, ht, rfl⟩
      have hv := hg.rd m m (by omega) (Nat.le_refl _) (by omega)
      rw [ht, HQ.out] at hv
      have hlt := hg.lt
      clear ht
      go_wp2
      go_ret2
      exact ⟨_, by rw [← HM.out]; rfl, hv, hlt, hbl⟩
theorem rd_grown {k : IntKind} {w w' : World} {row : Option Nat} {g m c : Nat} {l : List Int} (h : RdI k w (.slice (some ⟨g, 0, none⟩) m c) l) (hg : w.grownBy w' row) (hne : some g ≠ row) : RdI k w' (.slice (some ⟨g, 0, none⟩) m c) l := by
  obtain ⟨A, c', hv, hl, hc, hr⟩ := h
  refine ⟨A, c', hv, hl, hc, fun h0 => ?_⟩
  obtain ⟨ad, ha, hcell⟩ := hr h0
  obtain ⟨rfl, _, _⟩ : some (⟨g, 0, none⟩ : Addr) = A ∧ m = l.length ∧ c = c' := by simpa using hv
  obtain rfl : (⟨g, 0, none⟩ : Addr) = ad := by simpa using ha
  exact ⟨_, rfl, fun j hj => hg.cell (hcell j hj) (by rw [show ((⟨g, 0, none⟩ : Addr).add j).block = g by simp [Addr.add]; split <;> rfl]; exact hne)⟩
theorem own_set {w : World} {base e size n g j : Nat} {v : Value} {xs : List Value} (h : w.ownsRow base e size v n xs) (hne : ∀ k, v.ownBlock = some k → k ≠ g) (y : Value) : (w.setCell ⟨g, j, none⟩ y).ownsRow base e size v n xs := by
  refine ⟨h.1, ?_⟩
  rcases h.2 with h2 | ⟨g', cap, cur, h1, h2, h3, h4⟩
  · exact .inl h2
  · exact .inr ⟨g', cap, cur, h1, h2, (heap_setCell_other w ⟨g, j, none⟩ g' y (hne g' (by rw [h1]; rfl))).trans h3, h4⟩
theorem own_shape {w : World} {base e size n : Nat} {v : Value} {xs : List Value} (h : w.ownsRow base e size v n xs) : ∃ A c, v = .slice A n c := by
  rcases h.2 with ⟨h1, h2⟩ | ⟨g', cap, cur, h1, _⟩
  · exact ⟨none, 0, by rw [h1, h2]⟩
  · exact ⟨_, _, h1⟩
theorem nine_new (x : Nat) : (#[.int .u8 0, .int .u8 0, .int .u8 0, .int .u8 0, .int .u8 0, .int .u8 0, .int .u8 0, .int .u8 0, .int .u8 0] : Array Value) = ((bz 9 x).map bv).toArray := rfl
theorem cells_bz {w : World} {g t x : Nat} (h : Blk w g t ((padd 9 x).map bv).toArray) (f : Nat) : ∀ j u, (((padd 9 x).drop f).map bv)[j]? = some u → w.cell? ((⟨g, f, none⟩ : Addr).add j) = some u := by
  intro j u hu
  rw [List.getElem?_map, List.getElem?_drop] at hu
  obtain ⟨b, hb, rfl⟩ := Option.map_eq_some_iff.1 hu
  have := blk_cell h hb
  rw [show ((⟨g, f, none⟩ : Addr).add j) = ⟨g, f + j, none⟩ by simp only [Addr.add]; split <;> simp_all]
  exact this
theorem bv_one (l : List UInt8) : ∀ u ∈ l.map bv, u.oneCell' = true := by
  intro u hu
  obtain ⟨b, _, rfl⟩ := List.mem_map.1 hu
  rfl
theorem own_len {w : World} {base e n : Nat} {v : Value} {l : List UInt8} (h : w.ownsRow base e 1 v n (l.map bv)) : w.ownsRow base e 1 v l.length (l.map bv) := by
  have := h.1
  simp only [List.length_map, Nat.mul_one] at this
  rw [this]; exact h
theorem decd_bound {a n k : Nat} (h : a / 1000000000 ^ n = 0) : (decd (a / 1000000000 ^ k)).length ≤ 9 * n := by
  have h1 : a < 1000000000 ^ n := by
    apply Nat.lt_of_not_le
    intro h2
    have := Nat.div_pos h2 (Nat.pow_pos (by omega))
    omega
  refine (padd_small (9 * n) _ (Nat.lt_of_le_of_lt (Nat.div_le_self _ _) ?_)).1
  rw [Nat.pow_mul]
  exact h1
end Go.Proofs.Ytajckdheecgceaa
