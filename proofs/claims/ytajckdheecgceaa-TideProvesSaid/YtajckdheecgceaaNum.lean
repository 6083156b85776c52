/- Plain arithmetic: numbers as lists of words of 32 bits, the least first. -/
set_option linter.unusedVariables false
set_option linter.unusedSimpArgs false
namespace Go.Proofs.Ytajckdheecgceaa

/-- The number of a list of words. -/
def nv : List Int → Nat
  | [] => 0
  | x :: l => x.toNat + 4294967296 * nv l
/-- Word j. -/
def wat (l : List Int) (j : Nat) : Int := l.getD j 0
/-- Each word is a word. -/
def Wd (l : List Int) : Prop := ∀ x ∈ l, 0 ≤ x ∧ x < 4294967296
/-- A number's words, no zero word last. -/
def dg (n : Nat) : List Int := if h : n = 0 then [] else ((n % 4294967296 : Nat) : Int) :: dg (n / 4294967296)
termination_by n
decreasing_by exact Nat.div_lt_self (by omega) (by omega)

theorem dg_zero : dg 0 = [] := by rw [dg]; simp
theorem dg_pos {n : Nat} (h : n ≠ 0) : dg n = ((n % 4294967296 : Nat) : Int) :: dg (n / 4294967296) := by
  rw [dg]; simp [h]
theorem nv_dg (n : Nat) : nv (dg n) = n := by
  induction n using Nat.strongRecOn with
  | _ n ih =>
    by_cases h : n = 0
    · subst h; simp [dg_zero, nv]
    · rw [dg_pos h, nv, ih _ (Nat.div_lt_self (by omega) (by omega))]
      simp only [Int.toNat_natCast]
      omega
theorem Wd_nil : Wd [] := by intro x hx; simp at hx
theorem Wd_cons {x : Int} {l : List Int} : Wd (x :: l) ↔ (0 ≤ x ∧ x < 4294967296) ∧ Wd l := by
  simp [Wd]
theorem Wd_append {a b : List Int} : Wd (a ++ b) ↔ Wd a ∧ Wd b := by
  constructor
  · intro h
    exact ⟨fun x hx => h x (List.mem_append_left _ hx), fun x hx => h x (List.mem_append_right _ hx)⟩
  · rintro ⟨ha, hb⟩ x hx
    rcases List.mem_append.1 hx with hx | hx
    · exact ha x hx
    · exact hb x hx
theorem Wd_take {l : List Int} (h : Wd l) (k : Nat) : Wd (l.take k) := fun x hx => h x (List.mem_of_mem_take hx)
theorem Wd_drop {l : List Int} (h : Wd l) (k : Nat) : Wd (l.drop k) := fun x hx => h x (List.mem_of_mem_drop hx)
theorem Wd_set {l : List Int} (h : Wd l) (k : Nat) (x : Int) (hx : 0 ≤ x ∧ x < 4294967296) : Wd (l.set k x) := by
  intro y hy
  rcases List.mem_or_eq_of_mem_set hy with hy | rfl
  · exact h y hy
  · exact hx
theorem Wd_replicate (n : Nat) : Wd (List.replicate n 0) := by
  intro x hx
  rw [(List.mem_replicate.1 hx).2]
  omega
theorem Wd_getD {l : List Int} (h : Wd l) (k : Nat) : 0 ≤ l.getD k 0 ∧ l.getD k 0 < 4294967296 := by
  rw [List.getD_eq_getElem?_getD]
  cases hk : l[k]? with
  | none => simp
  | some x => exact h x (List.mem_of_getElem? hk)
theorem Wd_dg (n : Nat) : Wd (dg n) := by
  induction n using Nat.strongRecOn with
  | _ n ih =>
    by_cases h : n = 0
    · subst h; rw [dg_zero]; exact Wd_nil
    · rw [dg_pos h, Wd_cons]
      exact ⟨by omega, ih _ (Nat.div_lt_self (by omega) (by omega))⟩
theorem nv_append (a b : List Int) : nv (a ++ b) = nv a + 4294967296 ^ a.length * nv b := by
  induction a with
  | nil => simp [nv]
  | cons x a ih =>
    simp only [List.cons_append, nv, ih, List.length_cons, Nat.pow_succ]
    rw [Nat.mul_add, Nat.mul_comm (4294967296 ^ a.length) 4294967296, Nat.mul_assoc]
    omega
theorem nv_replicate (n : Nat) : nv (List.replicate n 0) = 0 := by
  induction n with
  | zero => rfl
  | succ n ih => simp [List.replicate_succ, nv, ih]
theorem nv_lt {l : List Int} (h : Wd l) : nv l < 4294967296 ^ l.length := by
  induction l with
  | nil => simp [nv]
  | cons x l ih =>
    rw [Wd_cons] at h
    have := ih h.2
    simp only [nv, List.length_cons, Nat.pow_succ]
    have h1 : x.toNat < 4294967296 := by omega
    have h2 : nv l + 1 ≤ 4294967296 ^ l.length := this
    have h3 := Nat.mul_le_mul_left 4294967296 h2
    rw [Nat.mul_comm (4294967296 ^ l.length)]
    omega
/-- One word more. -/
theorem nv_take_succ {l : List Int} {k : Nat} (h : k < l.length) : nv (l.take (k + 1)) = nv (l.take k) + 4294967296 ^ k * (l.getD k 0).toNat := by
  rw [List.take_succ_eq_append_getElem h, nv_append]
  simp [nv, List.length_take, Nat.min_eq_left (Nat.le_of_lt h), List.getD_eq_getElem?_getD, h]
theorem nv_drop {l : List Int} {k : Nat} (h : k < l.length) : nv (l.drop k) = (l.getD k 0).toNat + 4294967296 * nv (l.drop (k + 1)) := by
  rw [List.drop_eq_getElem_cons h, nv]
  simp [List.getD_eq_getElem?_getD, h]
theorem nv_split (l : List Int) (k : Nat) (h : k ≤ l.length) : nv l = nv (l.take k) + 4294967296 ^ k * nv (l.drop k) := by
  conv => lhs; rw [← List.take_append_drop k l, nv_append, List.length_take, Nat.min_eq_left h]
theorem nv_take_all (l : List Int) {k : Nat} (h : l.length ≤ k) : nv (l.take k) = nv l := by rw [List.take_of_length_le h]
theorem nv_drop_all (l : List Int) {k : Nat} (h : l.length ≤ k) : nv (l.drop k) = 0 := by rw [List.drop_of_length_le h]; rfl
/-- A word is put behind those that are done. -/
theorem nv_set_take {l : List Int} {k : Nat} {x : Int} (h : k < l.length) : nv ((l.set k x).take (k + 1)) = nv (l.take k) + 4294967296 ^ k * x.toNat := by
  rw [nv_take_succ (by simpa using h)]
  congr 2
  · rw [List.take_set_of_le (Nat.le_refl k)]
  · simp [List.getD_eq_getElem?_getD, h]
theorem nv_zero_of {l : List Int} (h : ∀ j, l.getD j 0 = 0) : nv l = 0 := by
  induction l with
  | nil => rfl
  | cons x l ih =>
    have h0 := h 0
    simp at h0
    have h1 : nv l = 0 := ih (fun j => by have := h (j + 1); simpa using this)
    simp [nv, h0, h1]
/-- No zero word last: the list is its number's. -/
theorem dg_nv {l : List Int} (h : Wd l) (hl : l ≠ [] → l.getD (l.length - 1) 0 ≠ 0) : dg (nv l) = l := by
  induction l with
  | nil => simp [nv, dg_zero]
  | cons x l ih =>
    rw [Wd_cons] at h
    have hl' : l ≠ [] → l.getD (l.length - 1) 0 ≠ 0 := by
      intro hne
      have := hl (by simp)
      have hlen : 0 < l.length := List.length_pos_iff.2 hne
      rw [List.length_cons, show l.length + 1 - 1 = (l.length - 1) + 1 by omega] at this
      simpa using this
    have ih := ih h.2 hl'
    have hn : nv (x :: l) ≠ 0 := by
      simp only [nv]
      by_cases hne : l = []
      · subst hne
        have := hl (by simp)
        simp at this
        omega
      · intro h0
        have h1 : nv l = 0 := by omega
        rw [h1, dg_zero] at ih
        exact hne ih.symm
    rw [dg_pos hn]
    have e1 : (nv (x :: l) % 4294967296 : Nat) = x.toNat := by simp only [nv]; omega
    have e2 : nv (x :: l) / 4294967296 = nv l := by simp only [nv]; omega
    rw [e1, e2, ih]
    congr 1
    omega
/-- What trim leaves: the first n words, if the others are 0 and word n - 1 is not. -/
theorem dg_trim {l : List Int} {n : Nat} (h : Wd l) (hn : n ≤ l.length) (hz : nv (l.drop n) = 0) (hl : 0 < n → l.getD (n - 1) 0 ≠ 0) : l.take n = dg (nv l) := by
  have e : nv l = nv (l.take n) := by rw [nv_split l n hn, hz]; simp
  rw [e]
  refine (dg_nv (Wd_take h n) ?_).symm
  intro hne
  have hlen : (l.take n).length = n := by rw [List.length_take]; omega
  have hpos : 0 < n := by
    rcases Nat.eq_zero_or_pos n with h0 | h0
    · subst h0; simp at hne
    · exact h0
  rw [hlen, List.getD_eq_getElem?_getD, List.getElem?_take_of_lt (by omega), ← List.getD_eq_getElem?_getD]
  exact hl hpos
/-- The words of a number, one after the other. -/
theorem dg_len_le {n k : Nat} (h : n < 4294967296 ^ k) : (dg n).length ≤ k := by
  induction k generalizing n with
  | zero =>
    have : n = 0 := by simpa using h
    subst this; simp [dg_zero]
  | succ k ih =>
    by_cases h0 : n = 0
    · subst h0; simp [dg_zero]
    · rw [dg_pos h0, List.length_cons]
      have : n / 4294967296 < 4294967296 ^ k := by
        rw [Nat.div_lt_iff_lt_mul (by omega)]
        rw [Nat.pow_succ] at h
        exact h
      have := ih this
      omega
theorem dg_lt (n : Nat) : n < 4294967296 ^ (dg n).length := by
  have := nv_lt (Wd_dg n)
  rwa [nv_dg] at this
theorem dg_len {n k : Nat} : (dg n).length ≤ k ↔ n < 4294967296 ^ k :=
  ⟨fun h => Nat.lt_of_lt_of_le (dg_lt n) (Nat.pow_le_pow_right (by omega) h), dg_len_le⟩
theorem dg_ge {n : Nat} (h : n ≠ 0) : 4294967296 ^ ((dg n).length - 1) ≤ n := by
  have h1 : ¬ (dg n).length ≤ (dg n).length - 1 := by
    rw [dg_pos h, List.length_cons]; omega
  rw [dg_len] at h1
  omega
theorem dg_len_mono {a b : Nat} (h : a ≤ b) : (dg a).length ≤ (dg b).length := by
  rw [dg_len]
  exact Nat.lt_of_le_of_lt h (dg_lt b)
theorem dg_inj {a b : Nat} (h : dg a = dg b) : a = b := by rw [← nv_dg a, h, nv_dg]
theorem dg_len_zero {n : Nat} : (dg n).length = 0 ↔ n = 0 := by
  constructor
  · intro h
    have : dg n = [] := List.length_eq_zero_iff.1 h
    rw [← nv_dg n, this]; rfl
  · intro h; subst h; simp [dg_zero]
theorem dg_small {n : Nat} (h : n ≠ 0) (h' : n < 4294967296) : dg n = [(n : Int)] := by
  rw [dg_pos h, show n / 4294967296 = 0 by omega, dg_zero, show n % 4294967296 = n by omega]
theorem dg_one : dg 1 = [1] := dg_small (by omega) (by omega)
/-- The last word is not 0. -/
theorem dg_last {n : Nat} (h : n ≠ 0) : (dg n).getD ((dg n).length - 1) 0 ≠ 0 := by
  induction n using Nat.strongRecOn with
  | _ n ih =>
    rw [dg_pos h]
    by_cases h1 : n / 4294967296 = 0
    · rw [h1, dg_zero]; simp; omega
    · have := ih _ (Nat.div_lt_self (by omega) (by omega)) h1
      have hp : 0 < (dg (n / 4294967296)).length := by
        rcases Nat.eq_zero_or_pos (dg (n / 4294967296)).length with h2 | h2
        · exact absurd (dg_len_zero.1 h2) h1
        · exact h2
      rw [List.length_cons, show (dg (n / 4294967296)).length + 1 - 1 = ((dg (n / 4294967296)).length - 1) + 1 by omega]
      simpa using this

theorem wat_range {l : List Int} (h : Wd l) (j : Nat) : 0 ≤ wat l j ∧ wat l j < 4294967296 := Wd_getD h j
theorem nv_take_wat {l : List Int} {k : Nat} (h : k < l.length) : nv (l.take (k + 1)) = nv (l.take k) + 4294967296 ^ k * (wat l k).toNat := nv_take_succ h
theorem nv_drop_wat {l : List Int} {k : Nat} (h : k < l.length) : nv (l.drop k) = (wat l k).toNat + 4294967296 * nv (l.drop (k + 1)) := nv_drop h
theorem wat_over {l : List Int} {k : Nat} (h : l.length ≤ k) : wat l k = 0 := by
  simp [wat, List.getD_eq_getElem?_getD, h]
theorem nv_take_set {L : List Int} {j n : Nat} {v : Int} (hj : j < n) (hn : n ≤ L.length) : nv ((L.set j v).take n) + 4294967296 ^ j * (wat L j).toNat = nv (L.take n) + 4294967296 ^ j * v.toNat := by
  have e1 := nv_split ((L.set j v).take n) (j + 1) (by simp; omega)
  have e2 := nv_split (L.take n) (j + 1) (by simp; omega)
  rw [List.take_take, Nat.min_eq_left (by omega)] at e1 e2
  have e3 : ((L.set j v).take n).drop (j + 1) = (L.take n).drop (j + 1) := by
    rw [List.take_set, List.drop_set_of_lt (by omega)]
  rw [e3] at e1
  rw [nv_set_take (by omega)] at e1
  rw [nv_take_wat (by omega)] at e2
  omega
/-- The order of two numbers by their greatest words. -/
theorem nv_lt_of {a b : List Int} (ha : Wd a) (hb : Wd b) {k : Nat} (h : nv (a.drop (k + 1)) = nv (b.drop (k + 1))) (hl : a.length = b.length) (hk : k < a.length) (hlt : wat a k < wat b k) : nv a < nv b := by
  have e1 := nv_drop_wat (l := a) hk
  have e2 := nv_drop_wat (l := b) (by omega : k < b.length)
  have r1 := wat_range ha k
  have r2 := wat_range hb k
  have s1 := nv_split a k (by omega)
  have s2 := nv_split b k (by omega)
  have t1 := nv_lt (Wd_take ha k)
  rw [List.length_take, Nat.min_eq_left (by omega)] at t1
  have hd : nv (a.drop k) + 1 ≤ nv (b.drop k) := by omega
  have := Nat.mul_le_mul_left (4294967296 ^ k) hd
  rw [Nat.mul_add] at this
  omega
theorem dg_lt_of_len {a b : Nat} (h : (dg a).length < (dg b).length) : a < b := by
  have h1 := dg_lt a
  have h0 : b ≠ 0 := by rintro rfl; simp [dg_zero] at h
  have h2 := dg_ge h0
  exact Nat.lt_of_lt_of_le h1 (Nat.le_trans (Nat.pow_le_pow_right (by omega) (by omega)) h2)
/-- The order of two numbers, as a number. -/
def ncmp (a b : Nat) : Int := if a < b then -1 else if b < a then 1 else 0
theorem ncmp_lt {a b : Nat} (h : a < b) : ncmp a b = -1 := by simp [ncmp, h]
theorem ncmp_gt {a b : Nat} (h : b < a) : ncmp a b = 1 := by simp [ncmp, h, Nat.lt_asymm h]
theorem ncmp_eq {a b : Nat} (h : a = b) : ncmp a b = 0 := by simp [ncmp, h]


end Go.Proofs.Ytajckdheecgceaa
