/- Texts of fractions, plain: what is read, and that it is what is written. -/
import Derived.Test.YtdmgceckmciifaaHalf
set_option linter.unusedVariables false
set_option linter.unusedSimpArgs false
namespace Go.Proofs.Ytdmgceckmciifaa
open Go.RowKit

/-- A digit. -/
def isd (b : UInt8) : Prop := 48 ≤ b.toNat ∧ b.toNat ≤ 57
instance (b : UInt8) : Decidable (isd b) := by unfold isd; infer_instance
/-- The number that digits are. -/
def numv (l : List UInt8) : Nat := l.foldl (fun a b => a * 10 + (b.toNat - 48)) 0
theorem numv_nil : numv [] = 0 := rfl
theorem numv_snoc (l : List UInt8) (b : UInt8) : numv (l ++ [b]) = numv l * 10 + (b.toNat - 48) := by simp [numv, List.foldl_append]
theorem numv_take {l : List UInt8} {k : Nat} {b : UInt8} (h : l[k]? = some b) : numv (l.take (k + 1)) = numv (l.take k) * 10 + (b.toNat - 48) := by
  rw [List.take_add_one, h]; exact numv_snoc _ _
theorem numv_lt : ∀ (n : Nat) (l : List UInt8), l.length = n → (∀ b ∈ l, isd b) → numv l < 10 ^ n := by
  intro n
  induction n with
  | zero => intro l hl _; rw [List.length_eq_zero_iff.1 hl]; decide
  | succ n ih =>
    intro l hl hd
    rcases List.eq_nil_or_concat l with h | ⟨l', b, h⟩
    · subst h; cases hl
    · rw [List.concat_eq_append] at h
      subst h
      have h1 := ih l' (by simpa using hl) (fun b hb => hd b (List.mem_append_left _ hb))
      have h2 := hd b (List.mem_append_right _ (List.mem_singleton.2 rfl))
      rw [numv_snoc, Nat.pow_succ]
      unfold isd at h2
      omega
/-- Digits as they are to be: 1 to 40, no zero ahead of others. -/
def okn (l : List UInt8) : Prop := 1 ≤ l.length ∧ l.length ≤ 40 ∧ ¬ (1 < l.length ∧ l.head? = some 48) ∧ ∀ b ∈ l, isd b
instance (l : List UInt8) : Decidable (okn l) := by unfold okn; infer_instance
theorem ofNat_digit {b : UInt8} (h : isd b) : UInt8.ofNat (48 + (b.toNat - 48)) = b := by
  unfold isd at h
  rw [show 48 + (b.toNat - 48) = b.toNat by omega]
  exact UInt8.ofNat_toNat
theorem decd_numv : ∀ (n : Nat) (l : List UInt8), l.length = n → (∀ b ∈ l, isd b) → l.head? ≠ some 48 → decd (numv l) = l ∧ (l ≠ [] → numv l ≠ 0) := by
  intro n
  induction n with
  | zero => intro l hl _ _; rw [List.length_eq_zero_iff.1 hl]; exact ⟨by rw [numv_nil, decd_zero], fun h => absurd rfl h⟩
  | succ n ih =>
    intro l hl hd hh
    rcases List.eq_nil_or_concat l with h | ⟨l', b, h⟩
    · subst h; cases hl
    · rw [List.concat_eq_append] at h
      subst h
      have h2 := hd b (List.mem_append_right _ (List.mem_singleton.2 rfl))
      have hb := ofNat_digit h2
      unfold isd at h2
      obtain ⟨i1, i2⟩ := ih l' (by simpa using hl) (fun b hb => hd b (List.mem_append_left _ hb)) (by
        intro h
        apply hh
        cases l' with
        | nil => cases h
        | cons x t => simpa using h)
      have hne : numv (l' ++ [b]) ≠ 0 := by
        rw [numv_snoc]
        cases l' with
        | nil =>
          have : b ≠ 48 := by simpa using hh
          have h3 : b.toNat ≠ 48 := fun h => this (UInt8.toNat_inj.1 (by rw [h]; rfl))
          rw [numv_nil]
          omega
        | cons x t =>
          have := i2 (by simp)
          omega
      refine ⟨?_, fun _ => hne⟩
      rw [decd_pos hne, numv_snoc, show (numv l' * 10 + (b.toNat - 48)) / 10 = numv l' by omega, show (numv l' * 10 + (b.toNat - 48)) % 10 = b.toNat - 48 by omega, i1, hb]
theorem decs_numv {l : List UInt8} (h : okn l) : decs (numv l) = l := by
  obtain ⟨h1, h2, h3, h4⟩ := h
  by_cases h5 : l.head? = some 48
  · have hl : l.length = 1 := by
      apply Nat.le_antisymm _ h1
      exact Nat.le_of_not_lt fun h => h3 ⟨h, h5⟩
    match l, hl with
    | [b], _ =>
      have : b = 48 := by simpa using h5
      subst this
      rfl
  · obtain ⟨i1, i2⟩ := decd_numv _ l rfl h4 h5
    have hne := i2 (fun h => by rw [h] at h1; simp at h1)
    rw [decs, if_neg hne, i1]
theorem isd_ofNat {d : Nat} (h : d < 10) : isd (UInt8.ofNat (48 + d)) ∧ (UInt8.ofNat (48 + d)).toNat - 48 = d := by
  have e : (UInt8.ofNat (48 + d)).toNat = 48 + d := by rw [UInt8.toNat_ofNat']; omega
  unfold isd
  rw [e]
  omega
theorem numv_decd : ∀ n, numv (decd n) = n ∧ ∀ b ∈ decd n, isd b := by
  intro n
  induction n using Nat.strongRecOn with
  | _ n ih =>
    by_cases h : n = 0
    · subst h; rw [decd_zero]; exact ⟨rfl, fun b hb => by cases hb⟩
    · rw [decd_pos h]
      obtain ⟨i1, i2⟩ := ih (n / 10) (by omega)
      obtain ⟨e1, e2⟩ := isd_ofNat (show n % 10 < 10 by omega)
      refine ⟨by rw [numv_snoc, i1, e2]; omega, fun b hb => ?_⟩
      rcases List.mem_append.1 hb with hb | hb
      · exact i2 b hb
      · rw [List.mem_singleton.1 hb]; exact e1
theorem numv_decs (n : Nat) : numv (decs n) = n ∧ (∀ b ∈ decs n, isd b) ∧ decs n ≠ [] := by
  unfold decs
  by_cases h : n = 0
  · rw [if_pos h, h]
    exact ⟨rfl, fun b hb => by rw [List.mem_singleton.1 hb]; decide, by simp⟩
  · rw [if_neg h]
    exact ⟨(numv_decd n).1, (numv_decd n).2, decd_ne h⟩
/-- What stands ahead of the first '/'. -/
def abv (t : List UInt8) : List UInt8 := t.takeWhile (fun b => b != 47)
theorem abv_append {a b : List UInt8} (ha : ∀ x ∈ a, isd x) (hb : b = [] ∨ b.head? = some 47) : abv (a ++ b) = a := by
  unfold abv
  induction a with
  | nil =>
    rcases hb with h | h
    · subst h; rfl
    · cases b with
      | nil => cases h
      | cons x t =>
        have : x = 47 := by simpa using h
        subst this
        rfl
  | cons x a ih =>
    have hx := ha x (List.mem_cons_self ..)
    have : (x != 47) = true := by
      simp only [bne_iff_ne]
      intro h
      subst h
      revert hx; decide
    rw [List.cons_append, List.takeWhile_cons, if_pos this, ih (fun y hy => ha y (List.mem_cons_of_mem _ hy))]
theorem abv_split (t : List UInt8) : (abv t).length ≤ t.length ∧ (¬ (abv t).length < t.length → t = abv t) ∧ ((abv t).length < t.length → t = abv t ++ 47 :: t.drop ((abv t).length + 1)) := by
  unfold abv
  induction t with
  | nil => simp
  | cons x t ih =>
    by_cases h : (x != 47) = true
    · rw [List.takeWhile_cons, if_pos h]
      obtain ⟨i1, i2, i3⟩ := ih
      refine ⟨by simp; omega, fun h => ?_, fun h => ?_⟩
      · have := i2 (by simp at h; omega)
        rw [← this]
      · have := i3 (by simp at h; omega)
        simp only [List.length_cons, List.drop_succ_cons, List.cons_append]
        rw [← this]
    · rw [List.takeWhile_cons, if_neg h]
      have : x = 47 := by simpa using h
      subst this
      simp
/-- What a text is read as. -/
def pars (l : List UInt8) : Option Rat :=
  let neg := decide (l.head? = some 45)
  let t := if neg then l.tail else l
  let a := abv t
  let b := t.drop (a.length + 1)
  if ¬ okn a ∨ (neg = true ∧ numv a = 0) then none
  else if a.length < t.length then
    if ¬ okn b ∨ numv b = 0 ∨ numv b = 1 ∨ Nat.gcd (numv a) (numv b) ≠ 1 then none else some (mkRat (sgn neg (numv a)) (numv b))
  else some (mkRat (sgn neg (numv a)) 1)
theorem sgn_natAbs (neg : Bool) (n : Nat) : (sgn neg n).natAbs = n := by cases neg <;> simp [sgn]
theorem mk_low {neg : Bool} {n d : Nat} (hd : d ≠ 0) (hg : Nat.gcd n d = 1) : (mkRat (sgn neg n) d).num = sgn neg n ∧ (mkRat (sgn neg n) d).den = d := by
  have h : Nat.Coprime (sgn neg n).natAbs d := by rw [sgn_natAbs]; exact hg
  have e : mkRat (sgn neg n) d = ⟨sgn neg n, d, hd, h⟩ := by
    rw [← Rat.normalize_eq_mkRat hd, Rat.normalize_eq]
    have h' : (sgn neg n).natAbs.gcd d = 1 := h
    simp [h']
  rw [e]
  exact ⟨rfl, rfl⟩
theorem sgn_ltz {neg : Bool} {n : Nat} (h : ¬ (neg = true ∧ n = 0)) : (sgn neg n < 0) ↔ neg = true := by
  cases neg
  · simp [sgn]
  · simp [sgn] at h ⊢; omega
/-- What is read is what is written. -/
theorem show_pars {l : List UInt8} {q : Rat} (h : pars l = some q) : showq q = l := by
  unfold pars at h
  simp only at h
  obtain ⟨neg, hneg⟩ : ∃ neg, neg = decide (l.head? = some 45) := ⟨_, rfl⟩
  rw [← hneg] at h
  obtain ⟨t, ht⟩ : ∃ t, t = (if neg = true then l.tail else l) := ⟨_, rfl⟩
  rw [← ht] at h
  have hl : l = (if neg = true then [45] else []) ++ t := by
    rw [ht]
    cases hn : neg with
    | false => simp
    | true =>
      rw [hn] at hneg
      have := of_decide_eq_true hneg.symm
      cases l with
      | nil => cases this
      | cons x l =>
        have : x = 45 := by simpa using this
        subst this
        simp
  obtain ⟨s1, s2, s3⟩ := abv_split t
  split at h
  · cases h
  · rename_i h1
    have h1' : okn (abv t) ∧ ¬ (neg = true ∧ numv (abv t) = 0) := by
      constructor
      · exact Classical.not_not.1 fun h => h1 (Or.inl h)
      · exact fun h => h1 (Or.inr h)
    obtain ⟨ha, hz⟩ := h1'
    have hda := decs_numv ha
    split at h
    · rename_i h2
      split at h
      · cases h
      · rename_i h3
        simp only [not_or, Classical.not_not] at h3
        obtain ⟨hb, b0, b1, bg⟩ := h3
        have hdb := decs_numv hb
        obtain rfl := Option.some.inj h
        obtain ⟨e1, e2⟩ := mk_low (neg := neg) b0 bg
        unfold showq
        rw [e1, e2, sgn_natAbs, hda, hdb, if_neg b1, hl]
        have := sgn_ltz hz
        conv => rhs; rw [s3 h2]
        cases hn : neg <;> simp [hn] at this ⊢ <;> simp [this]
    · rename_i h2
      obtain rfl := Option.some.inj h
      obtain ⟨e1, e2⟩ := mk_low (neg := neg) (n := numv (abv t)) (d := 1) (by omega) (by simp)
      unfold showq
      rw [e1, e2, sgn_natAbs, hda, if_pos rfl, hl]
      have := sgn_ltz hz
      conv => rhs; rw [s2 h2]
      cases hn : neg <;> simp [hn] at this ⊢ <;> simp [this]
theorem sgn_numq (q : Rat) : sgn (decide (q.num < 0)) q.num.natAbs = q.num := by
  by_cases h : q.num < 0
  · simp [h, sgn]; omega
  · simp [h, sgn]; omega
/-- What is written is read as what it is, if it is read. -/
theorem pars_show {q r : Rat} (h : pars (showq q) = some r) : r = q := by
  obtain ⟨n1, n2, n3⟩ := numv_decs q.num.natAbs
  obtain ⟨d1, d2, d3⟩ := numv_decs q.den
  obtain ⟨tl, htl⟩ : ∃ tl, tl = (if q.den = 1 then [] else 47 :: decs q.den) := ⟨_, rfl⟩
  have hab : abv (decs q.num.natAbs ++ tl) = decs q.num.natAbs := abv_append n2 (by rw [htl]; split; exact Or.inl rfl; exact Or.inr rfl)
  have hneg : decide ((showq q).head? = some 45) = decide (q.num < 0) := by
    unfold showq
    by_cases hq : q.num < 0
    · simp [hq]
    · rw [if_neg hq]
      cases hd : decs q.num.natAbs with
      | nil => exact absurd hd n3
      | cons x t =>
        have hx := n2 x (by rw [hd]; exact List.mem_cons_self ..)
        simp [hq]
        intro h
        subst h
        revert hx; decide
  have ht : (if decide (q.num < 0) = true then (showq q).tail else showq q) = decs q.num.natAbs ++ tl := by
    unfold showq
    by_cases hq : q.num < 0
    · simp [hq, htl]
    · simp [hq, htl]
  unfold pars at h
  simp only [hneg, ht, hab, n1] at h
  split at h
  · cases h
  · split at h
    · rename_i h2
      have hd : q.den ≠ 1 := by
        intro hd
        rw [htl, if_pos hd] at h2
        simp at h2
      rw [htl, if_neg hd] at h
      have hdr : (decs q.num.natAbs ++ 47 :: decs q.den).drop ((decs q.num.natAbs).length + 1) = decs q.den := by
        rw [List.drop_append]
        simp
      rw [hdr, d1] at h
      split at h
      · cases h
      · rw [← Option.some.inj h, sgn_numq, Rat.mkRat_self]
    · rename_i h2
      have hd : q.den = 1 := by
        apply Classical.byContradiction
        intro hd
        rw [htl, if_neg hd] at h2
        simp at h2
      rw [← Option.some.inj h, sgn_numq, ← hd, Rat.mkRat_self]
/-- The digits' number is of few words. -/
theorem numv_len {l : List UInt8} (hl : l.length ≤ 40) (hd : ∀ b ∈ l, isd b) : (dg (numv l)).length ≤ 5 := by
  apply dg_len.2
  have h1 := numv_lt _ l rfl hd
  have h2 : 10 ^ l.length ≤ 10 ^ 40 := Nat.pow_le_pow_right (by omega) hl
  have h3 : 10 ^ 40 < 4294967296 ^ 5 := by decide
  omega
theorem numv_take_len {l : List UInt8} (hl : l.length ≤ 40) {k : Nat} (hd : ∀ b ∈ l.take k, isd b) : (dg (numv (l.take k))).length ≤ 5 := numv_len (by rw [List.length_take]; omega) hd
end Go.Proofs.Ytdmgceckmciifaa
