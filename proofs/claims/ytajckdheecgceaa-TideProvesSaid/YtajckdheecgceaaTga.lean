/- Tides, the plain law: who gets one, day by day. -/
import Derived.Test.YtajckdheecgceaaMem
set_option linter.unusedVariables false
set_option linter.unusedSimpArgs false
namespace Go.Proofs.Ytajckdheecgceaa
open Go.RowKit

/-- The visits of a tide, in numbers. -/
structure Td where
  n : Nat
  come : Nat → Int
  go : Nat → Int
  q : Nat → Rat
/-- One comes ahead of another one. -/
def Td.ahead (T : Td) (i j : Nat) : Prop := T.q j < T.q i ∨ (T.q i = T.q j ∧ i < j)
instance (T : Td) (i j : Nat) : Decidable (T.ahead i j) := by unfold Td.ahead; infer_instance
theorem Td.ahead_trans {T : Td} {i j k : Nat} (h1 : T.ahead i j) (h2 : T.ahead j k) : T.ahead i k := by
  unfold Td.ahead at *
  rcases h1 with h1 | ⟨h1, g1⟩ <;> rcases h2 with h2 | ⟨h2, g2⟩
  · left; grind
  · left; grind
  · left; grind
  · right; exact ⟨by grind, by omega⟩
theorem Td.ahead_irrefl (T : Td) (i : Nat) : ¬ T.ahead i i := by
  unfold Td.ahead
  rintro (h | ⟨_, h⟩)
  · grind
  · omega
theorem Td.ahead_total {T : Td} {i j : Nat} (h : i ≠ j) : T.ahead i j ∨ T.ahead j i := by
  unfold Td.ahead
  rcases Nat.lt_or_gt_of_ne h with h | h
  · by_cases e : T.q i < T.q j
    · right; left; exact e
    · left
      by_cases e2 : T.q j < T.q i
      · left; exact e2
      · right; exact ⟨by grind, h⟩
  · by_cases e : T.q j < T.q i
    · left; left; exact e
    · right
      by_cases e2 : T.q i < T.q j
      · left; exact e2
      · right; exact ⟨by grind, h⟩
theorem Td.ahead_asymm {T : Td} {i j : Nat} (h : T.ahead i j) : ¬ T.ahead j i := fun h2 => T.ahead_irrefl i (T.ahead_trans h h2)
/-- Who may get one on a day. -/
def Td.elig (T : Td) (st : Nat → Int) (d : Int) (i : Nat) : Prop := st i = 0 ∧ (T.come i ≤ d ∧ d ≤ T.go i) ∧ 0 < T.q i
instance (T : Td) (st : Nat → Int) (d : Int) (i : Nat) : Decidable (T.elig st d i) := by unfold Td.elig; infer_instance
/-- The first of them, of the first m agents. -/
def Td.nx (T : Td) (st : Nat → Int) (d : Int) : Nat → Option Nat
  | 0 => none
  | m + 1 => if T.elig st d m then (match Td.nx T st d m with | none => some m | some a => if T.q a < T.q m then some m else some a) else Td.nx T st d m
theorem Td.nx_spec (T : Td) (st : Nat → Int) (d : Int) : ∀ m, (∀ a, T.nx st d m = some a → a < m ∧ T.elig st d a ∧ ∀ j, j < m → T.elig st d j → j ≠ a → T.ahead a j) ∧ (T.nx st d m = none → ∀ j, j < m → ¬ T.elig st d j) := by
  intro m
  induction m with
  | zero => exact ⟨fun a h => by simp [Td.nx] at h, fun _ j h => by omega⟩
  | succ m ih =>
    obtain ⟨i1, i2⟩ := ih
    by_cases e : T.elig st d m
    · rcases h : T.nx st d m with _ | a
      · have hn : T.nx st d (m + 1) = some m := by simp only [Td.nx, if_pos e, h]
        rw [hn]
        refine ⟨fun b hb => ?_, fun hb => by cases hb⟩
        obtain rfl := Option.some.inj hb
        refine ⟨by omega, e, fun j hj hje hne => ?_⟩
        exact absurd hje (i2 h j (by omega))
      · obtain ⟨k1, k2, k3⟩ := i1 a h
        by_cases hq : T.q a < T.q m
        · have hn : T.nx st d (m + 1) = some m := by simp only [Td.nx, if_pos e, h, if_pos hq]
          rw [hn]
          refine ⟨fun b hb => ?_, fun hb => by cases hb⟩
          obtain rfl := Option.some.inj hb
          refine ⟨by omega, e, fun j hj hje hne => ?_⟩
          have hma : T.ahead m a := Or.inl hq
          by_cases hja : j = a
          · rw [hja]; exact hma
          · exact T.ahead_trans hma (k3 j (by omega) hje hja)
        · have hn : T.nx st d (m + 1) = some a := by simp only [Td.nx, if_pos e, h, if_neg hq]
          rw [hn]
          refine ⟨fun b hb => ?_, fun hb => by cases hb⟩
          obtain rfl := Option.some.inj hb
          refine ⟨by omega, k2, fun j hj hje hne => ?_⟩
          by_cases hjm : j = m
          · rw [hjm]
            unfold Td.ahead
            by_cases e2 : T.q m < T.q a
            · left; exact e2
            · right; exact ⟨by grind, by omega⟩
          · exact k3 j (by omega) hje hne
    · have hn : T.nx st d (m + 1) = T.nx st d m := by simp only [Td.nx, if_neg e]
      rw [hn]
      refine ⟨fun a h => ?_, fun h j hj => ?_⟩
      · obtain ⟨k1, k2, k3⟩ := i1 a h
        refine ⟨by omega, k2, fun j hj hje hne => ?_⟩
        rcases Nat.lt_or_ge j m with h2 | h2
        · exact k3 j h2 hje hne
        · obtain rfl : j = m := by omega
          exact absurd hje e
      · rcases Nat.lt_or_ge j m with h2 | h2
        · exact i2 h j h2
        · obtain rfl : j = m := by omega
          exact e
theorem Td.nx_eq {T : Td} {st : Nat → Int} {d : Int} {a : Nat} (ha : a < T.n) (he : T.elig st d a) (h : ∀ j, j < T.n → T.elig st d j → j ≠ a → T.ahead a j) : T.nx st d T.n = some a := by
  obtain ⟨k1, k2⟩ := T.nx_spec st d T.n
  rcases hn : T.nx st d T.n with _ | b
  · exact absurd he (k2 hn a ha)
  · obtain ⟨h1, h2, h3⟩ := k1 b hn
    by_cases e : a = b
    · rw [e]
    · exact absurd (h b h1 h2 (fun h => e h.symm)) (T.ahead_asymm (h3 a ha he e))
theorem Td.nx_none {T : Td} {st : Nat → Int} {d : Int} (h : ∀ j, j < T.n → ¬ T.elig st d j) : T.nx st d T.n = none := by
  obtain ⟨k1, _⟩ := T.nx_spec st d T.n
  rcases hn : T.nx st d T.n with _ | b
  · rfl
  · exact absurd (k1 b hn).2.1 (h b (k1 b hn).1)
/-- One thing is sold. -/
def Td.sell1 (T : Td) (d : Int) (st : Nat → Int) : Nat → Int := match T.nx st d T.n with | some i => upd st i d | none => st
/-- k things are sold. -/
def Td.selln (T : Td) (d : Int) : Nat → (Nat → Int) → Nat → Int
  | 0, st => st
  | k + 1, st => Td.selln T d k (T.sell1 d st)
theorem Td.selln_succ (T : Td) (d : Int) : ∀ (k : Nat) (st : Nat → Int), T.selln d (k + 1) st = T.sell1 d (T.selln d k st) := by
  intro k
  induction k with
  | zero => intro st; rfl
  | succ k ih => intro st; exact ih (T.sell1 d st)
/-- Up to a day. -/
def Td.sold (T : Td) (k : Nat) : Nat → Nat → Int
  | 0 => fun _ => 0
  | d + 1 => T.selln ((d + 1 : Nat) : Int) k (Td.sold T k d)
theorem Td.sell1_none {T : Td} {d : Int} {st : Nat → Int} (h : ∀ j, j < T.n → ¬ T.elig st d j) : T.sell1 d st = st := by
  unfold Td.sell1; rw [Td.nx_none h]
theorem Td.selln_none {T : Td} {d : Int} {st : Nat → Int} (h : ∀ j, j < T.n → ¬ T.elig st d j) : ∀ k, T.selln d k st = st := by
  intro k
  induction k with
  | zero => rfl
  | succ k ih => show T.selln d k (T.sell1 d st) = st; rw [Td.sell1_none h]; exact ih
/-- The queue's part of a day: who stands first gets one, if it is still there. -/
def Td.pops (T : Td) (d : Int) : Nat → List Nat → (Nat → Int) → List Nat × (Nat → Int)
  | 0, Q, st => (Q, st)
  | _ + 1, [], st => ([], st)
  | k + 1, i :: Q, st => if d ≤ T.go i then Td.pops T d k Q (upd st i d) else Td.pops T d (k + 1) Q st
termination_by _ Q => Q.length
/-- Who waits: all that may get one, the foremost first. -/
structure Td.QI (T : Td) (d : Int) (Q : List Nat) (st : Nat → Int) : Prop where
  sorted : Q.Pairwise (T.ahead)
  mem : ∀ i, i ∈ Q → i < T.n ∧ T.come i ≤ d ∧ 0 < T.q i ∧ st i = 0
  all : ∀ i, i < T.n → T.elig st d i → i ∈ Q
theorem Td.pops_sells {T : Td} {d : Int} (hd : d ≠ 0) : ∀ (Q : List Nat) (k : Nat) (st : Nat → Int), T.QI d Q st → (T.pops d k Q st).2 = T.selln d k st ∧ T.QI d (T.pops d k Q st).1 (T.pops d k Q st).2 := by
  intro Q
  induction Q with
  | nil =>
    intro k st h
    have hn : ∀ j, j < T.n → ¬ T.elig st d j := fun j hj he => by have := h.all j hj he; simp at this
    have hp : T.pops d k [] st = ([], st) := by cases k <;> simp [Td.pops]
    rw [hp, Td.selln_none hn]
    exact ⟨rfl, h⟩
  | cons i Q ih =>
    intro k st h
    obtain ⟨m1, m2, m3, m4⟩ := h.mem i (by simp)
    have hs := List.pairwise_cons.1 h.sorted
    cases k with
    | zero => simp only [Td.pops]; exact ⟨rfl, h⟩
    | succ k =>
      by_cases hg : d ≤ T.go i
      · have he : T.elig st d i := ⟨m4, ⟨m2, hg⟩, m3⟩
        have hnx : T.nx st d T.n = some i := Td.nx_eq m1 he (fun j hj hje hne => by
          have := h.all j hj hje
          rcases List.mem_cons.1 this with e | e
          · exact absurd e hne
          · exact hs.1 j e)
        have h1 : T.sell1 d st = upd st i d := by unfold Td.sell1; rw [hnx]
        have hp : T.pops d (k + 1) (i :: Q) st = T.pops d k Q (upd st i d) := by rw [Td.pops, if_pos hg]
        have hni : ∀ j, j ∈ Q → j ≠ i := fun j hj e => T.ahead_irrefl i (by have := hs.1 j hj; rw [e] at this; exact this)
        rw [hp]
        show (T.pops d k Q (upd st i d)).2 = T.selln d k (T.sell1 d st) ∧ _
        rw [h1]
        refine ih k (upd st i d) ⟨hs.2, fun j hj => ?_, fun j hj hje => ?_⟩
        · obtain ⟨g1, g2, g3, g4⟩ := h.mem j (by simp [hj])
          exact ⟨g1, g2, g3, by rw [upd_ne (hni j hj)]; exact g4⟩
        · obtain ⟨e1, e2, e3⟩ := hje
          by_cases hji : j = i
          · rw [hji, upd_at] at e1
            exact absurd e1 hd
          · rw [upd_ne hji] at e1
            rcases List.mem_cons.1 (h.all j hj ⟨e1, e2, e3⟩) with e | e
            · exact absurd e hji
            · exact e
      · have hp : T.pops d (k + 1) (i :: Q) st = T.pops d (k + 1) Q st := by rw [Td.pops, if_neg hg]
        rw [hp]
        refine ih (k + 1) st ⟨hs.2, fun j hj => h.mem j (by simp [hj]), fun j hj hje => ?_⟩
        rcases List.mem_cons.1 (h.all j hj hje) with e | e
        · obtain ⟨_, ⟨_, e2⟩, _⟩ := hje
          rw [e] at e2
          exact absurd e2 hg
        · exact e
/-- One is put into the queue: where from the end on all stand behind it. -/
def Td.pos (T : Td) (x : Nat) (Q : List Nat) : Nat → Nat
  | 0 => 0
  | a + 1 => if T.ahead x (Q.getD a 0) then Td.pos T x Q a else a + 1
theorem Td.pos_spec (T : Td) (x : Nat) (Q : List Nat) : ∀ a, T.pos x Q a ≤ a ∧ (∀ j, T.pos x Q a ≤ j → j < a → T.ahead x (Q.getD j 0)) ∧ (0 < T.pos x Q a → ¬ T.ahead x (Q.getD (T.pos x Q a - 1) 0)) := by
  intro a
  induction a with
  | zero => exact ⟨Nat.le_refl _, fun j h1 h2 => by omega, fun h => by simp [Td.pos] at h⟩
  | succ a ih =>
    obtain ⟨i1, i2, i3⟩ := ih
    by_cases e : T.ahead x (Q.getD a 0)
    · have hp : T.pos x Q (a + 1) = T.pos x Q a := by simp only [Td.pos, if_pos e]
      rw [hp]
      refine ⟨by omega, fun j h1 h2 => ?_, i3⟩
      rcases Nat.lt_or_ge j a with h | h
      · exact i2 j h1 h
      · obtain rfl : j = a := by omega
        exact e
    · have hp : T.pos x Q (a + 1) = a + 1 := by simp only [Td.pos, if_neg e]
      rw [hp]
      exact ⟨Nat.le_refl _, fun j h1 h2 => by omega, fun _ => by simpa using e⟩
/-- The queue with one more in it. -/
def Td.put (T : Td) (x : Nat) (Q : List Nat) : List Nat := Q.take (T.pos x Q Q.length) ++ x :: Q.drop (T.pos x Q Q.length)
theorem Td.put_mem {T : Td} {x i : Nat} {Q : List Nat} : i ∈ T.put x Q ↔ i = x ∨ i ∈ Q := by
  unfold Td.put
  rw [List.mem_append, List.mem_cons]
  have h : i ∈ Q ↔ i ∈ Q.take (T.pos x Q Q.length) ∨ i ∈ Q.drop (T.pos x Q Q.length) := by
    rw [← List.mem_append, List.take_append_drop]
  rw [h]
  constructor
  · rintro (h | h | h)
    · exact .inr (.inl h)
    · exact .inl h
    · exact .inr (.inr h)
  · rintro (h | h | h)
    · exact .inr (.inl h)
    · exact .inl h
    · exact .inr (.inr h)
theorem Td.put_sorted {T : Td} {x : Nat} {Q : List Nat} (h : Q.Pairwise T.ahead) (hx : x ∉ Q) : (T.put x Q).Pairwise T.ahead := by
  obtain ⟨p1, p2, p3⟩ := T.pos_spec x Q Q.length
  unfold Td.put
  have hd : ∀ j, j ∈ Q.drop (T.pos x Q Q.length) → T.ahead x j := by
    intro j hj
    obtain ⟨l, hl, rfl⟩ := List.mem_iff_getElem.1 hj
    rw [List.length_drop] at hl
    have := p2 (T.pos x Q Q.length + l) (by omega) (by omega)
    rw [List.getD_eq_getElem?_getD, List.getElem?_eq_getElem (by omega)] at this
    rw [List.getElem_drop]
    exact this
  have ht : ∀ j, j ∈ Q.take (T.pos x Q Q.length) → T.ahead j x := by
    intro j hj
    obtain ⟨l, hl, rfl⟩ := List.mem_iff_getElem.1 hj
    rw [List.length_take] at hl
    have hlast := p3 (by omega)
    rw [List.getD_eq_getElem?_getD, List.getElem?_eq_getElem (show T.pos x Q Q.length - 1 < Q.length by omega)] at hlast
    have hla : T.ahead (Q[T.pos x Q Q.length - 1]'(by omega)) x := by
      rcases T.ahead_total (i := Q[T.pos x Q Q.length - 1]'(by omega)) (j := x) (fun e => hx (by rw [← e]; exact List.getElem_mem _)) with h | h
      · exact h
      · exact absurd h hlast
    rw [List.getElem_take]
    by_cases e : l = T.pos x Q Q.length - 1
    · subst e; exact hla
    · exact T.ahead_trans (List.pairwise_iff_getElem.1 h l (T.pos x Q Q.length - 1) (by omega) (by omega) (by omega)) hla
  refine List.pairwise_append.2 ⟨h.sublist (List.take_sublist _ _), List.pairwise_cons.2 ⟨hd, h.sublist (List.drop_sublist _ _)⟩, fun a ha b hb => ?_⟩
  rcases List.mem_cons.1 hb with e | e
  · rw [e]; exact ht a ha
  · exact T.ahead_trans (ht a ha) (hd b e)
/-- Those who come on a day, put in one by one. -/
def Td.puts (T : Td) (d : Int) : Nat → List Nat → List Nat
  | 0, Q => Q
  | m + 1, Q => if T.come m = d ∧ 0 < T.q m then T.put m (Td.puts T d m Q) else Td.puts T d m Q
theorem Td.puts_spec {T : Td} {d : Int} {Q : List Nat} (h : Q.Pairwise T.ahead) (hc : ∀ i, i ∈ Q → T.come i ≠ d) : ∀ m, (T.puts d m Q).Pairwise T.ahead ∧ ∀ i, i ∈ T.puts d m Q ↔ i ∈ Q ∨ (i < m ∧ T.come i = d ∧ 0 < T.q i) := by
  intro m
  induction m with
  | zero => exact ⟨h, fun i => ⟨fun h => .inl h, fun h => h.elim id (fun h => by omega)⟩⟩
  | succ m ih =>
    obtain ⟨i1, i2⟩ := ih
    by_cases e : T.come m = d ∧ 0 < T.q m
    · have hp : T.puts d (m + 1) Q = T.put m (T.puts d m Q) := by simp only [Td.puts, if_pos e]
      rw [hp]
      have hm : m ∉ T.puts d m Q := fun h => by
        rcases (i2 m).1 h with h | h
        · exact hc m h e.1
        · omega
      refine ⟨Td.put_sorted i1 hm, fun i => ?_⟩
      rw [Td.put_mem, i2]
      constructor
      · rintro (h | h | h)
        · exact .inr ⟨by omega, by rw [h]; exact e.1, by rw [h]; exact e.2⟩
        · exact .inl h
        · exact .inr ⟨by omega, h.2⟩
      · rintro (h | h)
        · exact .inr (.inl h)
        · by_cases hi : i = m
          · exact .inl hi
          · exact .inr (.inr ⟨by omega, h.2⟩)
    · have hp : T.puts d (m + 1) Q = T.puts d m Q := by simp only [Td.puts, if_neg e]
      rw [hp]
      refine ⟨i1, fun i => ?_⟩
      rw [i2]
      constructor
      · rintro (h | h)
        · exact .inl h
        · exact .inr ⟨by omega, h.2⟩
      · rintro (h | h)
        · exact .inl h
        · by_cases hi : i = m
          · subst hi; exact absurd h.2 e
          · exact .inr ⟨by omega, h.2⟩
/-- Ahead of a day's beginning. -/
theorem Td.QI.start (T : Td) (h1 : ∀ i, i < T.n → 1 ≤ T.come i) : T.QI 0 [] (fun _ => 0) :=
  ⟨List.Pairwise.nil, fun i h => by simp at h, fun i hi he => by have := he.2.1.1; have := h1 i hi; omega⟩
theorem Td.QI.next {T : Td} {d : Int} {Q : List Nat} {st : Nat → Int} (h : T.QI d Q st) (hnew : ∀ i, i < T.n → T.come i = d + 1 → st i = 0) : T.QI (d + 1) (T.puts (d + 1) T.n Q) st := by
  obtain ⟨p1, p2⟩ := Td.puts_spec (d := d + 1) h.sorted (fun i hi => by have := (h.mem i hi).2.1; omega) T.n
  refine ⟨p1, fun i hi => ?_, fun i hi he => ?_⟩
  · rcases (p2 i).1 hi with k | ⟨k1, k2, k3⟩
    · obtain ⟨g1, g2, g3, g4⟩ := h.mem i k
      exact ⟨g1, by omega, g3, g4⟩
    · exact ⟨k1, by omega, k3, hnew i k1 k2⟩
  · obtain ⟨e1, ⟨e2, e3⟩, e4⟩ := he
    refine (p2 i).2 ?_
    by_cases hc : T.come i = d + 1
    · exact .inr ⟨hi, hc, e4⟩
    · exact .inl (h.all i hi ⟨e1, ⟨by omega, by omega⟩, e4⟩)
theorem Td.sell1_at (T : Td) (d : Int) (st : Nat → Int) (i : Nat) : T.sell1 d st i = st i ∨ (T.sell1 d st i = d ∧ i < T.n ∧ T.elig st d i) := by
  unfold Td.sell1
  rcases hn : T.nx st d T.n with _ | a
  · exact .inl rfl
  · obtain ⟨h1, h2, _⟩ := (T.nx_spec st d T.n).1 a hn
    by_cases e : i = a
    · subst e
      exact .inr ⟨upd_at _ _ _, h1, h2⟩
    · exact .inl (upd_ne e)
theorem Td.selln_at (T : Td) (d : Int) (st : Nat → Int) (i : Nat) : ∀ k, T.selln d k st i = st i ∨ (T.selln d k st i = d ∧ i < T.n ∧ T.elig st d i) := by
  intro k
  induction k with
  | zero => exact .inl rfl
  | succ k ih =>
    rw [Td.selln_succ]
    rcases T.sell1_at d (T.selln d k st) i with h | ⟨h1, h2, h3⟩
    · rw [h]; exact ih
    · refine .inr ⟨h1, h2, ?_⟩
      rcases ih with e | ⟨e, e2, e3⟩
      · unfold Td.elig at h3 ⊢
        rw [← e]
        exact h3
      · exact e3
/-- What is told is a day of the stay. -/
theorem Td.sold_at (T : Td) (k : Nat) (i : Nat) : ∀ D, T.sold k D i = 0 ∨ (i < T.n ∧ 1 ≤ T.sold k D i ∧ T.sold k D i ≤ D ∧ T.come i ≤ T.sold k D i ∧ T.sold k D i ≤ T.go i ∧ 0 < T.q i) := by
  intro D
  induction D with
  | zero => exact .inl rfl
  | succ D ih =>
    show T.selln ((D + 1 : Nat) : Int) k (T.sold k D) i = 0 ∨ _
    rcases T.selln_at ((D + 1 : Nat) : Int) (T.sold k D) i k with h | ⟨h1, h2, h3⟩
    · have e : T.sold k (D + 1) i = T.sold k D i := h
      rw [e, h]
      rcases ih with g | ⟨g0, g1, g2, g3, g4, g5⟩
      · exact .inl g
      · exact .inr ⟨g0, g1, by omega, g3, g4, g5⟩
    · have e : T.sold k (D + 1) i = ((D + 1 : Nat) : Int) := h1
      rw [e]
      exact .inr ⟨h2, by omega, by omega, h3.2.1.1, h3.2.1.2, h3.2.2⟩
/-- The queue's way through the days. -/
def Td.qrun (T : Td) (k : Nat) : Nat → List Nat × (Nat → Int)
  | 0 => ([], fun _ => 0)
  | d + 1 => T.pops ((d + 1 : Nat) : Int) k (T.puts ((d + 1 : Nat) : Int) T.n (Td.qrun T k d).1) (Td.qrun T k d).2
theorem Td.qrun_sold {T : Td} (k : Nat) (h1 : ∀ i, i < T.n → 1 ≤ T.come i) : ∀ d, (T.qrun k d).2 = T.sold k d ∧ T.QI (d : Int) (T.qrun k d).1 (T.qrun k d).2 := by
  intro d
  induction d with
  | zero => exact ⟨rfl, Td.QI.start T h1⟩
  | succ d ih =>
    obtain ⟨i1, i2⟩ := ih
    have hn : T.QI ((d : Int) + 1) (T.puts ((d : Int) + 1) T.n (T.qrun k d).1) (T.qrun k d).2 := i2.next (fun i hi hc => by
      rw [i1]
      rcases T.sold_at k i d with h | ⟨_, _, h2, h3, _⟩
      · exact h
      · omega)
    have hc : ((d + 1 : Nat) : Int) = (d : Int) + 1 := by omega
    have hp := Td.pops_sells (d := (d : Int) + 1) (by omega) _ k _ hn
    show (T.pops ((d + 1 : Nat) : Int) k (T.puts ((d + 1 : Nat) : Int) T.n (T.qrun k d).1) (T.qrun k d).2).2 = T.selln ((d + 1 : Nat) : Int) k (T.sold k d) ∧ T.QI ((d + 1 : Nat) : Int) (T.pops ((d + 1 : Nat) : Int) k (T.puts ((d + 1 : Nat) : Int) T.n (T.qrun k d).1) (T.qrun k d).2).1 (T.pops ((d + 1 : Nat) : Int) k (T.puts ((d + 1 : Nat) : Int) T.n (T.qrun k d).1) (T.qrun k d).2).2
    rw [hc]
    exact ⟨by rw [hp.1, i1], hp.2⟩

/-- The places of the others. -/
def sk (i r : Nat) : Nat := if r < i then r else r + 1
theorem sk_ne (i r : Nat) : sk i r ≠ i := by unfold sk; split <;> omega
theorem sk_inj {i r s : Nat} (h : sk i r = sk i s) : r = s := by unfold sk at h; split at h <;> split at h <;> omega
theorem sk_lt {i r s : Nat} : sk i r < sk i s ↔ r < s := by unfold sk; split <;> split <;> omega
theorem sk_bound {i n r : Nat} (hi : i < n) : sk i r < n ↔ r < n - 1 := by unfold sk; split <;> omega
theorem sk_onto {i j : Nat} (h : j ≠ i) : ∃ r, sk i r = j := by
  by_cases e : j < i
  · exact ⟨j, by unfold sk; rw [if_pos e]⟩
  · exact ⟨j - 1, by unfold sk; rw [if_neg (by omega)]; omega⟩
/-- The tide of the others. -/
def Td.wo (T : Td) (i : Nat) : Td := ⟨T.n - 1, fun r => T.come (sk i r), fun r => T.go (sk i r), fun r => T.q (sk i r)⟩
theorem Td.wo_ahead {T : Td} {i r s : Nat} : (T.wo i).ahead r s ↔ T.ahead (sk i r) (sk i s) := by
  unfold Td.ahead
  show (T.q (sk i s) < T.q (sk i r) ∨ (T.q (sk i r) = T.q (sk i s) ∧ r < s)) ↔ _
  rw [sk_lt]
theorem Td.wo_elig {T : Td} {i r : Nat} {st st' : Nat → Int} {d : Int} (h : st' r = st (sk i r)) : (T.wo i).elig st' d r ↔ T.elig st d (sk i r) := by
  unfold Td.elig
  show (st' r = 0 ∧ (T.come (sk i r) ≤ d ∧ d ≤ T.go (sk i r)) ∧ 0 < T.q (sk i r)) ↔ _
  rw [h]
theorem Td.wo_nx_other {T : Td} {i a : Nat} {st st' : Nat → Int} {d : Int} (hi : i < T.n) (h : ∀ r, st' r = st (sk i r)) (ha : T.nx st d T.n = some a) (hne : a ≠ i) : ∃ r, sk i r = a ∧ (T.wo i).nx st' d (T.wo i).n = some r := by
  obtain ⟨h1, h2, h3⟩ := (T.nx_spec st d T.n).1 a ha
  obtain ⟨r, rfl⟩ := sk_onto hne
  refine ⟨r, rfl, Td.nx_eq ((sk_bound hi).1 h1) ((Td.wo_elig (h r)).2 h2) (fun s hs he hn => ?_)⟩
  rw [Td.wo_ahead]
  exact h3 _ ((sk_bound hi).2 hs) ((Td.wo_elig (h s)).1 he) (fun e => hn (sk_inj e))
theorem Td.wo_nx_none {T : Td} {i : Nat} {st st' : Nat → Int} {d : Int} (hi : i < T.n) (h : ∀ r, st' r = st (sk i r)) (ha : T.nx st d T.n = none) : (T.wo i).nx st' d (T.wo i).n = none :=
  Td.nx_none (fun s hs he => (T.nx_spec st d T.n).2 ha _ ((sk_bound hi).2 hs) ((Td.wo_elig (h s)).1 he))
theorem Td.wo_sell1 {T : Td} {i : Nat} {st st' : Nat → Int} {d : Int} (hi : i < T.n) (h : ∀ r, st' r = st (sk i r)) (hn : T.nx st d T.n ≠ some i) : ∀ r, (T.wo i).sell1 d st' r = T.sell1 d st (sk i r) := by
  intro s
  unfold Td.sell1
  rcases ha : T.nx st d T.n with _ | a
  · rw [Td.wo_nx_none hi h ha]; exact h s
  · obtain ⟨r, rfl, hr⟩ := Td.wo_nx_other hi h ha (fun e => hn (by rw [ha, e]))
    rw [hr]
    show upd st' r d s = upd st (sk i r) d (sk i s)
    by_cases e : s = r
    · subst e; rw [upd_at, upd_at]
    · rw [upd_ne e, upd_ne (fun h => e (sk_inj h))]; exact h s
/-- Who has one keeps it. -/
theorem Td.sell1_keep {T : Td} {d : Int} {st : Nat → Int} {i : Nat} (h : st i ≠ 0) : T.sell1 d st i = st i := by
  rcases T.sell1_at d st i with e | ⟨_, _, e⟩
  · exact e
  · exact absurd e.1 h
theorem Td.selln_keep {T : Td} {d : Int} {i : Nat} : ∀ (k : Nat) {st : Nat → Int}, st i ≠ 0 → T.selln d k st i = st i := by
  intro k
  induction k with
  | zero => intro st h; rfl
  | succ k ih => intro st h; rw [Td.selln_succ, Td.sell1_keep (by rw [ih h]; exact h), ih h]
theorem Td.selln_zero {T : Td} {d : Int} {i : Nat} {st : Nat → Int} {j k : Nat} (hjk : j ≤ k) (h : T.selln d k st i = 0) : T.selln d j st i = 0 := by
  induction k with
  | zero => obtain rfl : j = 0 := by omega
            exact h
  | succ k ih =>
    by_cases e : j = k + 1
    · rw [e]; exact h
    · refine ih (by omega) ?_
      rw [Td.selln_succ] at h
      apply Classical.byContradiction
      intro hne
      rw [Td.sell1_keep hne] at h
      exact hne h
/-- As long as the agent gets none, the others get what they get without it. -/
theorem Td.wo_selln {T : Td} {i : Nat} {st st' : Nat → Int} {d : Int} (hd : d ≠ 0) (hi : i < T.n) (h : ∀ r, st' r = st (sk i r)) : ∀ k, T.selln d k st i = 0 → ∀ r, (T.wo i).selln d k st' r = T.selln d k st (sk i r) := by
  intro k
  induction k with
  | zero => intro _; exact h
  | succ k ih =>
    intro h0
    have hk := Td.selln_zero (Nat.le_succ k) h0
    rw [Td.selln_succ, Td.selln_succ]
    refine Td.wo_sell1 hi (ih hk) (fun hn => ?_)
    rw [Td.selln_succ] at h0
    unfold Td.sell1 at h0
    rw [hn] at h0
    have : upd (T.selln d k st) i d i = 0 := h0
    rw [upd_at] at this
    exact hd this
theorem Td.sold_keep {T : Td} {k i : Nat} {D E : Nat} (h : D ≤ E) (h0 : T.sold k D i ≠ 0) : T.sold k E i = T.sold k D i := by
  induction E with
  | zero => obtain rfl : D = 0 := by omega
            rfl
  | succ E ih =>
    by_cases e : D = E + 1
    · rw [e]
    · have hE := ih (by omega)
      show T.selln _ k (T.sold k E) i = _
      rw [Td.selln_keep k (by rw [hE]; exact h0), hE]
theorem Td.sold_zero {T : Td} {k i : Nat} {D E : Nat} (h : D ≤ E) (h0 : T.sold k E i = 0) : T.sold k D i = 0 := by
  apply Classical.byContradiction
  intro hne
  rw [Td.sold_keep h hne] at h0
  exact hne h0
theorem Td.wo_sold {T : Td} {i k : Nat} (hi : i < T.n) : ∀ D, T.sold k D i = 0 → ∀ r, (T.wo i).sold k D r = T.sold k D (sk i r) := by
  intro D
  induction D with
  | zero => intro _ r; rfl
  | succ D ih =>
    intro h0
    exact Td.wo_selln (by omega) hi (ih (Td.sold_zero (Nat.le_succ D) h0)) k h0
/-- How many of the first m agents get one on a day. -/
def cntD (st : Nat → Int) (d : Int) : Nat → Nat
  | 0 => 0
  | m + 1 => cntD st d m + (if st m = d then 1 else 0)
theorem cntD_congr {st st' : Nat → Int} {d : Int} : ∀ m, (∀ j, j < m → (st j = d ↔ st' j = d)) → cntD st d m = cntD st' d m := by
  intro m
  induction m with
  | zero => intro _; rfl
  | succ m ih =>
    intro h
    show cntD st d m + _ = cntD st' d m + _
    rw [ih (fun j hj => h j (by omega))]
    by_cases e : st m = d
    · rw [if_pos e, if_pos ((h m (by omega)).1 e)]
    · rw [if_neg e, if_neg (fun h2 => e ((h m (by omega)).2 h2))]
theorem cntD_upd {st : Nat → Int} {d : Int} {a : Nat} (h0 : st a ≠ d) : ∀ m, cntD (upd st a d) d m = cntD st d m + (if a < m then 1 else 0) := by
  intro m
  induction m with
  | zero => rfl
  | succ m ih =>
    show cntD (upd st a d) d m + _ = cntD st d m + _ + _
    rw [ih]
    by_cases e : m = a
    · subst e
      rw [upd_at, if_pos (show d = d from rfl), if_neg (show ¬ m < m by omega), if_neg h0, if_pos (show m < m + 1 by omega)]
    · rw [upd_ne e]
      have e2 : (if a < m then 1 else 0 : Nat) = (if a < m + 1 then 1 else 0) := by
        by_cases h : a < m
        · rw [if_pos h, if_pos (show a < m + 1 by omega)]
        · rw [if_neg h, if_neg (show ¬ a < m + 1 by omega)]
      rw [e2]; omega
theorem cntD_zero {st : Nat → Int} {d : Int} : ∀ m, (∀ j, j < m → st j ≠ d) → cntD st d m = 0 := by
  intro m
  induction m with
  | zero => intro _; rfl
  | succ m ih =>
    intro h
    show cntD st d m + _ = 0
    rw [ih (fun j hj => h j (by omega)), if_neg (h m (by omega))]
theorem cntD_pos {st : Nat → Int} {d : Int} : ∀ m, 0 < cntD st d m → ∃ j, j < m ∧ st j = d := by
  intro m
  induction m with
  | zero => intro h; simp [cntD] at h
  | succ m ih =>
    intro h
    by_cases e : st m = d
    · exact ⟨m, by omega, e⟩
    · have h' : 0 < cntD st d m := by
        have : 0 < cntD st d m + (if st m = d then 1 else 0) := h
        rw [if_neg e] at this
        omega
      obtain ⟨j, hj, h2⟩ := ih h'
      exact ⟨j, by omega, h2⟩
/-- Each of the steps of a day sells one or nothing, and then nothing more. -/
theorem Td.selln_cnt {T : Td} {d : Int} {st : Nat → Int} (hd : d ≠ 0) (h0 : ∀ j, j < T.n → st j ≠ d) : ∀ k, cntD (T.selln d k st) d T.n ≤ k ∧ (∀ j, j < k → T.nx (T.selln d j st) d T.n ≠ none → cntD (T.selln d j st) d T.n = j) := by
  intro k
  induction k with
  | zero => exact ⟨by rw [show T.selln d 0 st = st from rfl, cntD_zero _ h0]; exact Nat.le_refl _, fun j h => by omega⟩
  | succ k ih =>
    obtain ⟨i1, i2⟩ := ih
    have hk : T.nx (T.selln d k st) d T.n ≠ none → cntD (T.selln d k st) d T.n = k := by
      intro hn
      clear i2
      revert hn
      clear i1
      induction k with
      | zero => intro _; exact cntD_zero _ h0
      | succ k ih =>
        intro hn
        have hn' : T.nx (T.selln d k st) d T.n ≠ none := by
          intro e
          have e1 : T.selln d (k + 1) st = T.selln d k st := by
            rw [Td.selln_succ]; unfold Td.sell1; rw [e]
          rw [e1] at hn
          exact hn e
        have hc := ih hn'
        rcases ha : T.nx (T.selln d k st) d T.n with _ | a
        · exact absurd ha hn'
        · obtain ⟨g1, g2, _⟩ := (T.nx_spec _ d T.n).1 a ha
          have e1 : T.selln d (k + 1) st = upd (T.selln d k st) a d := by
            rw [Td.selln_succ]; unfold Td.sell1; rw [ha]
          rw [e1, cntD_upd (by rw [g2.1]; exact fun e => hd e.symm), if_pos g1, hc]
    refine ⟨?_, fun j hj hn => ?_⟩
    · rw [Td.selln_succ]
      unfold Td.sell1
      rcases ha : T.nx (T.selln d k st) d T.n with _ | a
      · exact Nat.le_succ_of_le i1
      · obtain ⟨g1, g2, _⟩ := (T.nx_spec _ d T.n).1 a ha
        show cntD (upd (T.selln d k st) a d) d T.n ≤ k + 1
        rw [cntD_upd (by rw [g2.1]; exact fun e => hd e.symm), if_pos g1]
        omega
    · rcases Nat.lt_or_ge j k with h | h
      · exact i2 j h hn
      · obtain rfl : j = k := by omega
        exact hk hn

/-- The least worth of those of the first m agents who get one on a day. -/
def Td.lq (T : Td) (st : Nat → Int) (d : Int) : Nat → Rat
  | 0 => 0
  | m + 1 => if st m = d then (if cntD st d m = 0 ∨ T.q m < Td.lq T st d m then T.q m else Td.lq T st d m) else Td.lq T st d m
/-- The bar of a day. -/
def Td.bar (T : Td) (k : Nat) (st : Nat → Int) (d : Int) : Rat := if cntD st d T.n < k then 0 else T.lq st d T.n
theorem Td.lq_spec {T : Td} {st : Nat → Int} {d : Int} : ∀ m, 0 < cntD st d m → (∃ j, j < m ∧ st j = d ∧ T.lq st d m = T.q j) ∧ ∀ j, j < m → st j = d → T.lq st d m ≤ T.q j := by
  intro m
  induction m with
  | zero => intro h; simp [cntD] at h
  | succ m ih =>
    intro h
    by_cases e : st m = d
    · have hl : T.lq st d (m + 1) = if cntD st d m = 0 ∨ T.q m < T.lq st d m then T.q m else T.lq st d m := by
        show (if st m = d then _ else _) = _
        rw [if_pos e]
      rw [hl]
      by_cases hc : cntD st d m = 0
      · rw [if_pos (.inl hc)]
        refine ⟨⟨m, by omega, e, rfl⟩, fun j hj hje => ?_⟩
        by_cases hjm : j = m
        · rw [hjm]; exact Rat.le_refl
        · exfalso
          have : 0 < cntD st d m := by
            clear ih h hl hc
            have hj' : j < m := by omega
            clear hj hjm e
            induction m with
            | zero => omega
            | succ m ih2 =>
              show 0 < cntD st d m + _
              by_cases h2 : j = m
              · subst h2; rw [if_pos hje]; omega
              · have := ih2 (by omega); omega
          omega
      · obtain ⟨⟨j0, h1, h2, h3⟩, h4⟩ := ih (by omega)
        by_cases hq : T.q m < T.lq st d m
        · rw [if_pos (.inr hq)]
          refine ⟨⟨m, by omega, e, rfl⟩, fun j hj hje => ?_⟩
          by_cases hjm : j = m
          · rw [hjm]; exact Rat.le_refl
          · have := h4 j (by omega) hje
            grind
        · rw [if_neg (fun h => h.elim hc hq)]
          refine ⟨⟨j0, by omega, h2, h3⟩, fun j hj hje => ?_⟩
          by_cases hjm : j = m
          · rw [hjm]; grind
          · exact h4 j (by omega) hje
    · have hl : T.lq st d (m + 1) = T.lq st d m := by
        show (if st m = d then _ else _) = _
        rw [if_neg e]
      have hc : 0 < cntD st d m := by
        have : 0 < cntD st d m + (if st m = d then 1 else 0) := h
        rw [if_neg e] at this
        omega
      obtain ⟨⟨j0, h1, h2, h3⟩, h4⟩ := ih hc
      rw [hl]
      refine ⟨⟨j0, by omega, h2, h3⟩, fun j hj hje => ?_⟩
      by_cases hjm : j = m
      · subst hjm; exact absurd hje e
      · exact h4 j (by omega) hje
theorem Td.lq_congr {T : Td} {st st' : Nat → Int} {d : Int} : ∀ m, (∀ j, j < m → (st j = d ↔ st' j = d)) → T.lq st d m = T.lq st' d m := by
  intro m
  induction m with
  | zero => intro _; rfl
  | succ m ih =>
    intro h
    have i1 := ih (fun j hj => h j (by omega))
    have i2 := cntD_congr (st := st) (st' := st') (d := d) m (fun j hj => h j (by omega))
    show (if st m = d then (if cntD st d m = 0 ∨ T.q m < T.lq st d m then T.q m else T.lq st d m) else T.lq st d m) = (if st' m = d then (if cntD st' d m = 0 ∨ T.q m < T.lq st' d m then T.q m else T.lq st' d m) else T.lq st' d m)
    rw [i1, i2]
    by_cases e : st m = d
    · rw [if_pos e, if_pos ((h m (by omega)).1 e)]
    · rw [if_neg e, if_neg (fun h2 => e ((h m (by omega)).2 h2))]
theorem Td.bar_congr {T : Td} {k : Nat} {st st' : Nat → Int} {d : Int} (h : ∀ j, j < T.n → (st j = d ↔ st' j = d)) : T.bar k st d = T.bar k st' d := by
  unfold Td.bar
  rw [Td.lq_congr T.n h, cntD_congr T.n h]
theorem Td.selln_add (T : Td) (d : Int) : ∀ (m j : Nat) (st : Nat → Int), T.selln d (j + m) st = T.selln d m (T.selln d j st) := by
  intro m
  induction m with
  | zero => intro j st; rfl
  | succ m ih =>
    intro j st
    rw [show j + (m + 1) = (j + m) + 1 from rfl, Td.selln_succ, ih, Td.selln_succ]
theorem Td.selln_stop {T : Td} {d : Int} {st : Nat → Int} (h : T.nx st d T.n = none) : ∀ k, T.selln d k st = st := by
  intro k
  induction k with
  | zero => rfl
  | succ k ih => rw [Td.selln_succ, ih]; unfold Td.sell1; rw [h]
/-- Who is passed over all the day: all that get one come ahead. -/
theorem Td.selln_passed {T : Td} {d : Int} {st : Nat → Int} {i : Nat} (hd : d ≠ 0) (h0 : ∀ j, st j ≠ d) (hi : i < T.n) (he : T.elig st d i) : ∀ k, T.selln d k st i = 0 → cntD (T.selln d k st) d T.n = k ∧ ∀ j, T.selln d k st j = d → T.ahead j i := by
  intro k
  induction k with
  | zero => intro _; exact ⟨cntD_zero _ (fun j _ => h0 j), fun j hj => absurd hj (h0 j)⟩
  | succ k ih =>
    intro hz
    have hk := Td.selln_zero (Nat.le_succ k) hz
    obtain ⟨i1, i2⟩ := ih hk
    have hek : T.elig (T.selln d k st) d i := ⟨hk, he.2⟩
    obtain ⟨k1, k2⟩ := T.nx_spec (T.selln d k st) d T.n
    rcases ha : T.nx (T.selln d k st) d T.n with _ | a
    · exact absurd hek (k2 ha i hi)
    · obtain ⟨g1, g2, g3⟩ := k1 a ha
      have e1 : T.selln d (k + 1) st = upd (T.selln d k st) a d := by
        rw [Td.selln_succ]; unfold Td.sell1; rw [ha]
      have hne : i ≠ a := by
        intro e
        rw [e1, e, upd_at] at hz
        exact hd hz
      rw [e1]
      refine ⟨by rw [cntD_upd (by rw [g2.1]; exact fun e => hd e.symm), if_pos g1, i1], fun j hj => ?_⟩
      by_cases e : j = a
      · rw [e]; exact g3 i hi hek hne
      · rw [upd_ne e] at hj; exact i2 j hj
/-- .. and so it is in the tide of the others. -/
theorem Td.wo_passed {T : Td} {d : Int} {st st' : Nat → Int} {i : Nat} (hd : d ≠ 0) (h0 : ∀ j, st j ≠ d) (hi : i < T.n) (h : ∀ r, st' r = st (sk i r)) (he : T.elig st d i) : ∀ k, T.selln d k st i = 0 → cntD ((T.wo i).selln d k st') d (T.wo i).n = k ∧ ∀ r, (T.wo i).selln d k st' r = d → T.ahead (sk i r) i := by
  intro k
  induction k with
  | zero => intro _; exact ⟨cntD_zero _ (fun j _ => by show st' j ≠ d; rw [h]; exact h0 _), fun j hj => absurd (by rw [← h]; exact hj) (h0 (sk i j))⟩
  | succ k ih =>
    intro hz
    have hk := Td.selln_zero (Nat.le_succ k) hz
    obtain ⟨i1, i2⟩ := ih hk
    have hek : T.elig (T.selln d k st) d i := ⟨hk, he.2⟩
    obtain ⟨k1, k2⟩ := T.nx_spec (T.selln d k st) d T.n
    have hw := Td.wo_selln hd hi h k hk
    rcases ha : T.nx (T.selln d k st) d T.n with _ | a
    · exact absurd hek (k2 ha i hi)
    · obtain ⟨g1, g2, g3⟩ := k1 a ha
      have hne : i ≠ a := by
        intro e
        have e1 : T.selln d (k + 1) st = upd (T.selln d k st) a d := by
          rw [Td.selln_succ]; unfold Td.sell1; rw [ha]
        rw [e1, e, upd_at] at hz
        exact hd hz
      obtain ⟨r, hr, hnx⟩ := Td.wo_nx_other hi hw ha (fun e => hne e.symm)
      have e2 : (T.wo i).selln d (k + 1) st' = upd ((T.wo i).selln d k st') r d := by
        rw [Td.selln_succ]; unfold Td.sell1; rw [hnx]
      obtain ⟨m1, m2, _⟩ := ((T.wo i).nx_spec _ d _).1 r hnx
      rw [e2]
      refine ⟨by rw [cntD_upd (by rw [m2.1]; exact fun e => hd e.symm), if_pos m1, i1], fun s hs => ?_⟩
      by_cases e : s = r
      · rw [e, hr]; exact g3 i hi hek hne
      · rw [upd_ne e] at hs; exact i2 s hs
/-- Who gets one: among the others there is room, or one behind it gets one. -/
theorem Td.wo_beats {T : Td} {d : Int} {st st' : Nat → Int} {i : Nat} (hd : d ≠ 0) (h0 : ∀ j, st j ≠ d) (hi : i < T.n) (hz : st i = 0) (h : ∀ r, st' r = st (sk i r)) : ∀ k, T.selln d k st i ≠ 0 → T.elig st d i ∧ (cntD ((T.wo i).selln d k st') d (T.wo i).n < k ∨ ∃ r, r < (T.wo i).n ∧ (T.wo i).selln d k st' r = d ∧ T.ahead i (sk i r)) := by
  intro k hk
  have hex : ∃ j, j < k ∧ T.selln d j st i = 0 ∧ T.nx (T.selln d j st) d T.n = some i := by
    induction k with
    | zero => exact absurd hz hk
    | succ k ih =>
      by_cases e : T.selln d k st i = 0
      · refine ⟨k, by omega, e, ?_⟩
        rw [Td.selln_succ] at hk
        unfold Td.sell1 at hk
        rcases ha : T.nx (T.selln d k st) d T.n with _ | a
        · rw [ha] at hk; exact absurd e hk
        · rw [ha] at hk
          by_cases e2 : i = a
          · rw [e2]
          · exfalso
            have : upd (T.selln d k st) a d i ≠ 0 := hk
            rw [upd_ne e2] at this
            exact this e
      · obtain ⟨j, h1, h2, h3⟩ := ih e
        exact ⟨j, by omega, h2, h3⟩
  obtain ⟨j, hj, hji, hnx⟩ := hex
  obtain ⟨g1, g2, g3⟩ := (T.nx_spec _ d T.n).1 i hnx
  refine ⟨⟨hz, g2.2⟩, ?_⟩
  have hw := Td.wo_selln hd hi h j hji
  have hcnt := ((T.wo i).selln_cnt (st := st') hd (fun s _ => by rw [h]; exact h0 _) j).1
  rcases ha : (T.wo i).nx ((T.wo i).selln d j st') d (T.wo i).n with _ | r
  · left
    have e : (T.wo i).selln d k st' = (T.wo i).selln d j st' := by
      rw [show k = j + (k - j) by omega, Td.selln_add, Td.selln_stop ha]
    rw [e]
    omega
  · right
    obtain ⟨m1, m2, _⟩ := ((T.wo i).nx_spec _ d _).1 r ha
    refine ⟨r, m1, ?_, g3 _ ((sk_bound hi).2 m1) ((Td.wo_elig (hw r)).1 m2) (sk_ne i r)⟩
    have e1 : (T.wo i).selln d (j + 1) st' r = d := by
      rw [Td.selln_succ]; unfold Td.sell1; rw [ha]; exact upd_at _ _ _
    rw [show k = (j + 1) + (k - (j + 1)) by omega, Td.selln_add, Td.selln_keep _ (by rw [e1]; exact hd), e1]
theorem Td.sold_later {T : Td} {k i : Nat} {D : Nat} (h0 : T.sold k D i = 0) : ∀ E, D ≤ E → T.sold k E i = 0 ∨ (D : Int) < T.sold k E i := by
  intro E
  induction E with
  | zero => intro h; obtain rfl : D = 0 := by omega
            exact .inl h0
  | succ E ih =>
    intro h
    by_cases e : D = E + 1
    · subst e; exact .inl h0
    · have hE := ih (by omega)
      rcases T.selln_at ((E + 1 : Nat) : Int) (T.sold k E) i k with h1 | ⟨h1, _⟩
      · have e1 : T.sold k (E + 1) i = T.sold k E i := h1
        rw [e1]; exact hE
      · have e1 : T.sold k (E + 1) i = ((E + 1 : Nat) : Int) := h1
        rw [e1]; right; omega
theorem Td.sold_day {T : Td} {k j D E : Nat} (h1 : 1 ≤ D) (h : D ≤ E) : T.sold k E j = (D : Int) ↔ T.sold k D j = (D : Int) := by
  constructor
  · intro he
    apply Classical.byContradiction
    intro hne
    by_cases h0 : T.sold k D j = 0
    · rcases Td.sold_later h0 E h with e | e <;> omega
    · rw [Td.sold_keep h h0] at he
      exact hne he
  · intro he
    rw [Td.sold_keep h (by omega), he]
theorem Td.bar_day {T : Td} {k D E : Nat} (h1 : 1 ≤ D) (h : D ≤ E) : T.bar k (T.sold k E) (D : Int) = T.bar k (T.sold k D) (D : Int) :=
  Td.bar_congr (fun j _ => Td.sold_day h1 h)
theorem Td.sold_before {T : Td} {k : Nat} {D : Nat} (j : Nat) : T.sold k D j ≠ ((D + 1 : Nat) : Int) := by
  rcases T.sold_at k j D with h | ⟨_, _, h, _⟩ <;> omega
theorem Td.bar_nonneg {T : Td} {k E : Nat} (hk : 1 ≤ k) {D : Int} (hD : D ≠ 0) : 0 ≤ T.bar k (T.sold k E) D := by
  unfold Td.bar
  split
  · exact Rat.le_refl
  · rename_i h
    obtain ⟨⟨j, _, h2, h3⟩, _⟩ := Td.lq_spec (T := T) (st := T.sold k E) (d := D) T.n (by omega)
    rw [h3]
    rcases T.sold_at k j E with e | ⟨_, _, _, _, _, e⟩
    · exact absurd (h2.symm.trans e) hD
    · grind
theorem Td.ahead_le {T : Td} {i j : Nat} (h : T.ahead i j) : T.q j ≤ T.q i := by
  unfold Td.ahead at h
  rcases h with h | ⟨h, _⟩ <;> grind
/-- Who gets none is worth no more than the bar of a day of its stay. -/
theorem Td.none_bar {T : Td} {k E i D : Nat} (hk : 1 ≤ k) (hi : i < T.n) (h0 : T.sold k E i = 0) (h1 : 1 ≤ D) (hE : D ≤ E) (hc : T.come i ≤ (D : Int)) (hg : (D : Int) ≤ T.go i) : T.q i ≤ T.bar k (T.sold k E) (D : Int) := by
  by_cases hq : 0 < T.q i
  · rw [Td.bar_day h1 hE]
    obtain ⟨D, rfl⟩ : ∃ d, D = d + 1 := ⟨D - 1, by omega⟩
    have hz := Td.sold_zero hE h0
    obtain ⟨p1, p2⟩ := Td.selln_passed (T := T) (d := ((D + 1 : Nat) : Int)) (st := T.sold k D) (i := i) (by omega) (fun j => Td.sold_before j) hi ⟨Td.sold_zero (Nat.le_succ D) hz, ⟨hc, hg⟩, hq⟩ k hz
    have p1 : cntD (T.sold k (D + 1)) ((D + 1 : Nat) : Int) T.n = k := p1
    unfold Td.bar
    rw [if_neg (by omega)]
    obtain ⟨⟨j, _, h2, h3⟩, _⟩ := Td.lq_spec (T := T) (st := T.sold k (D + 1)) (d := ((D + 1 : Nat) : Int)) T.n (by omega)
    rw [h3]
    exact Td.ahead_le (p2 j h2)
  · have := Td.bar_nonneg (T := T) (k := k) (E := E) hk (D := (D : Int)) (by omega)
    grind
/-- Who gets one is worth at least the bar of that day without it. -/
theorem Td.sold_bar {T : Td} {k E i D : Nat} (hk : 1 ≤ k) (hi : i < T.n) (h0 : T.sold k E i = (D : Int)) (hD : D ≠ 0) (hE : D ≤ E) : (T.wo i).bar k ((T.wo i).sold k E) (D : Int) ≤ T.q i := by
  rw [Td.bar_day (by omega) hE]
  have hs := (Td.sold_day (by omega) hE).1 h0
  obtain ⟨D, rfl⟩ : ∃ d, D = d + 1 := ⟨D - 1, by omega⟩
  have hz : T.sold k D i = 0 := by
    apply Classical.byContradiction
    intro hne
    have := Td.sold_keep (Nat.le_succ D) hne
    rw [this] at hs
    exact Td.sold_before i hs
  obtain ⟨he, hb⟩ := Td.wo_beats (T := T) (d := ((D + 1 : Nat) : Int)) (st := T.sold k D) (st' := (T.wo i).sold k D) (i := i) (by omega) (fun j => Td.sold_before j) hi hz (Td.wo_sold hi D hz) k (by
    have : T.selln ((D + 1 : Nat) : Int) k (T.sold k D) i = ((D + 1 : Nat) : Int) := hs
    rw [this]; omega)
  unfold Td.bar
  split
  · have := he.2.2; grind
  · rename_i hc
    obtain ⟨_, h4⟩ := Td.lq_spec (T := T.wo i) (st := (T.wo i).sold k (D + 1)) (d := ((D + 1 : Nat) : Int)) (T.wo i).n (by omega)
    rcases hb with hb | ⟨r, hr, h2, h3⟩
    · exact absurd hb hc
    · exact Rat.le_trans (h4 r hr h2) (Td.ahead_le h3)

/-- The least of n values from a place on. -/
def lmin (f : Nat → Rat) (a : Nat) : Nat → Rat
  | 0 => f a
  | n + 1 => if f (a + n) < lmin f a n then f (a + n) else lmin f a n
theorem lmin_spec (f : Nat → Rat) (a : Nat) : ∀ n, 0 < n → (∃ j, j < n ∧ lmin f a n = f (a + j)) ∧ ∀ j, j < n → lmin f a n ≤ f (a + j) := by
  intro n
  induction n with
  | zero => intro h; omega
  | succ n ih =>
    intro _
    have hs : lmin f a (n + 1) = if f (a + n) < lmin f a n then f (a + n) else lmin f a n := rfl
    by_cases h0 : n = 0
    · subst h0
      have e : lmin f a 1 = f (a + 0) := by
        rw [hs]
        show (if f (a + 0) < f a then f (a + 0) else f a) = _
        simp only [Nat.add_zero]
        split <;> rfl
      exact ⟨⟨0, by omega, e⟩, fun j hj => by obtain rfl : j = 0 := by omega
                                              rw [e]; exact Rat.le_refl⟩
    · obtain ⟨⟨j0, h1, h2⟩, h3⟩ := ih (by omega)
      rw [hs]
      split
      · rename_i hlt
        refine ⟨⟨n, by omega, rfl⟩, fun j hj => ?_⟩
        by_cases e : j = n
        · rw [e]; exact Rat.le_refl
        · have := h3 j (by omega); grind
      · rename_i hlt
        refine ⟨⟨j0, by omega, h2⟩, fun j hj => ?_⟩
        by_cases e : j = n
        · rw [e]; grind
        · exact h3 j (by omega)
theorem lmin_congr {f g : Nat → Rat} {a : Nat} : ∀ n, (∀ j, j ≤ n → f (a + j) = g (a + j)) → lmin f a n = lmin g a n := by
  intro n
  induction n with
  | zero => intro h; exact h 0 (Nat.le_refl _)
  | succ n ih =>
    intro h
    show (if f (a + n) < lmin f a n then f (a + n) else lmin f a n) = (if g (a + n) < lmin g a n then g (a + n) else lmin g a n)
    rw [ih (fun j hj => h j (by omega)), h n (by omega)]
/-- The bars of the days, by number. -/
def Td.bars (T : Td) (k D : Nat) (j : Nat) : Rat := T.bar k (T.sold k D) ((j : Int) + 1)
/-- The least of the bars of the others on the days of an agent. -/
def Td.price (T : Td) (k D i : Nat) : Rat := lmin ((T.wo i).bars k D) ((T.come i).toNat - 1) ((T.go i).toNat + 1 - (T.come i).toNat)
/-- What an agent pays. -/
def Td.pay (T : Td) (k D i : Nat) : Rat := if T.sold k D i = 0 then 0 else T.price k D i
theorem Td.price_spec (T : Td) (k D i : Nat) (h1 : 1 ≤ T.come i) (h2 : T.come i ≤ T.go i) : (∃ d : Nat, 1 ≤ d ∧ T.come i ≤ (d : Int) ∧ (d : Int) ≤ T.go i ∧ T.price k D i = (T.wo i).bar k ((T.wo i).sold k D) (d : Int)) ∧
    ∀ d : Nat, T.come i ≤ (d : Int) → (d : Int) ≤ T.go i → T.price k D i ≤ (T.wo i).bar k ((T.wo i).sold k D) (d : Int) := by
  obtain ⟨⟨j, j1, j2⟩, j3⟩ := lmin_spec ((T.wo i).bars k D) ((T.come i).toNat - 1) ((T.go i).toNat + 1 - (T.come i).toNat) (by omega)
  refine ⟨⟨(T.come i).toNat - 1 + j + 1, by omega, by omega, by omega, ?_⟩, fun d hc hg => ?_⟩
  · show lmin _ _ _ = _
    rw [j2]
    rfl
  · have := j3 (d - (T.come i).toNat) (by omega)
    have e : (((T.come i).toNat - 1 + (d - (T.come i).toNat) : Nat) : Int) + 1 = (d : Int) := by omega
    unfold Td.bars at this
    rw [e] at this
    exact this
theorem Td.price_nonneg {T : Td} {k D i : Nat} (hk : 1 ≤ k) (h1 : 1 ≤ T.come i) (h2 : T.come i ≤ T.go i) : 0 ≤ T.price k D i := by
  obtain ⟨⟨d, d1, d2, d3, d4⟩, _⟩ := T.price_spec k D i h1 h2
  rw [d4]
  exact Td.bar_nonneg hk (by omega)
theorem Td.pay_nonneg {T : Td} {k D i : Nat} (hk : 1 ≤ k) (h1 : 1 ≤ T.come i) (h2 : T.come i ≤ T.go i) : 0 ≤ T.pay k D i := by
  unfold Td.pay
  split
  · exact Rat.le_refl
  · exact Td.price_nonneg hk h1 h2
theorem Td.sold_price {T : Td} {k D i : Nat} (hk : 1 ≤ k) (hi : i < T.n) (h1 : 1 ≤ T.come i) (h2 : T.come i ≤ T.go i) (h0 : T.sold k D i ≠ 0) : T.price k D i ≤ T.q i := by
  rcases T.sold_at k i D with e | ⟨_, e1, e2, e3, e4, e5⟩
  · exact absurd e h0
  · obtain ⟨d, hd⟩ : ∃ d : Nat, T.sold k D i = (d : Int) := ⟨(T.sold k D i).toNat, by omega⟩
    rw [hd] at e1 e2 e3 e4
    exact Rat.le_trans ((T.price_spec k D i h1 h2).2 d e3 e4) (Td.sold_bar hk hi hd (by omega) (by omega))
theorem Td.pay_le {T : Td} {k D i : Nat} (hk : 1 ≤ k) (hi : i < T.n) (h1 : 1 ≤ T.come i) (h2 : T.come i ≤ T.go i) (h0 : T.sold k D i ≠ 0) : T.pay k D i ≤ T.q i := by
  unfold Td.pay
  rw [if_neg h0]
  exact Td.sold_price hk hi h1 h2 h0
/-- Who gets none is worth no more than the bar of the others on a day of its stay. -/
theorem Td.none_wo {T : Td} {k E i D : Nat} (hk : 1 ≤ k) (hi : i < T.n) (h0 : T.sold k E i = 0) (h1 : 1 ≤ D) (hE : D ≤ E) (hc : T.come i ≤ (D : Int)) (hg : (D : Int) ≤ T.go i) : T.q i ≤ (T.wo i).bar k ((T.wo i).sold k E) (D : Int) := by
  by_cases hq : 0 < T.q i
  · rw [Td.bar_day h1 hE]
    obtain ⟨D, rfl⟩ : ∃ d, D = d + 1 := ⟨D - 1, by omega⟩
    have hz := Td.sold_zero hE h0
    obtain ⟨p1, p2⟩ := Td.wo_passed (T := T) (d := ((D + 1 : Nat) : Int)) (st := T.sold k D) (st' := (T.wo i).sold k D) (i := i) (by omega) (fun j => Td.sold_before j) hi (Td.wo_sold hi D (Td.sold_zero (Nat.le_succ D) hz)) ⟨Td.sold_zero (Nat.le_succ D) hz, ⟨hc, hg⟩, hq⟩ k hz
    have p1 : cntD ((T.wo i).sold k (D + 1)) ((D + 1 : Nat) : Int) (T.wo i).n = k := p1
    unfold Td.bar
    rw [if_neg (by omega)]
    obtain ⟨⟨j, _, h2, h3⟩, _⟩ := Td.lq_spec (T := T.wo i) (st := (T.wo i).sold k (D + 1)) (d := ((D + 1 : Nat) : Int)) (T.wo i).n (by omega)
    rw [h3]
    exact Td.ahead_le (p2 j h2)
  · have := Td.bar_nonneg (T := T.wo i) (k := k) (E := E) hk (D := (D : Int)) (by omega)
    grind
theorem Td.none_price {T : Td} {k D i : Nat} (hk : 1 ≤ k) (hi : i < T.n) (h1 : 1 ≤ T.come i) (h2 : T.come i ≤ T.go i) (h3 : T.go i ≤ (D : Int)) (h0 : T.sold k D i = 0) : T.q i ≤ T.price k D i := by
  obtain ⟨⟨d, d1, d2, d3, d4⟩, _⟩ := T.price_spec k D i h1 h2
  rw [d4]
  exact Td.none_wo hk hi h0 d1 (by omega) d2 d3
/-- What an agent has, to whom one is worth v. -/
def Td.use (T : Td) (k D i : Nat) (v : Rat) : Rat := if T.sold k D i = 0 then 0 else v - T.price k D i
theorem Td.use_nonneg {T : Td} {k D i : Nat} (hk : 1 ≤ k) (hi : i < T.n) (h1 : 1 ≤ T.come i) (h2 : T.come i ≤ T.go i) : 0 ≤ T.use k D i (T.q i) := by
  unfold Td.use
  split
  · exact Rat.le_refl
  · rename_i h0
    have := Td.sold_price hk hi h1 h2 h0
    grind
/-- A shorter stay has no lower price. -/
theorem Td.price_mono {T S : Td} {k D i : Nat} (hw : T.wo i = S.wo i) (t1 : 1 ≤ T.come i) (t2 : T.come i ≤ T.go i) (s1 : 1 ≤ S.come i) (s2 : S.come i ≤ S.go i) (hc : T.come i ≤ S.come i) (hg : S.go i ≤ T.go i) : T.price k D i ≤ S.price k D i := by
  obtain ⟨⟨d, d1, d2, d3, d4⟩, _⟩ := S.price_spec k D i s1 s2
  rw [d4, ← hw]
  exact (T.price_spec k D i t1 t2).2 d (by omega) (by omega)
/-- No lie brings more than the truth. -/
theorem Td.truth {T S : Td} {k D i : Nat} (hk : 1 ≤ k) (hi : i < T.n) (hw : T.wo i = S.wo i) (t1 : 1 ≤ T.come i) (t2 : T.come i ≤ T.go i) (t3 : T.go i ≤ (D : Int)) (s1 : 1 ≤ S.come i) (s2 : S.come i ≤ S.go i) (hc : T.come i ≤ S.come i) (hg : S.go i ≤ T.go i) : S.use k D i (T.q i) ≤ T.use k D i (T.q i) := by
  have hp := Td.price_mono (k := k) (D := D) hw t1 t2 s1 s2 hc hg
  by_cases h : S.sold k D i = 0
  · have e : S.use k D i (T.q i) = 0 := if_pos h
    rw [e]
    exact Td.use_nonneg hk hi t1 t2
  · have e : S.use k D i (T.q i) = T.q i - S.price k D i := if_neg h
    rw [e]
    by_cases h2 : T.sold k D i = 0
    · have e2 : T.use k D i (T.q i) = 0 := if_pos h2
      have := Td.none_price hk hi t1 t2 t3 h2
      rw [e2]
      grind
    · have e2 : T.use k D i (T.q i) = T.q i - T.price k D i := if_neg h2
      rw [e2]
      grind
/-- Who gets one gets one still, if it is worth more to it, it comes earlier or goes later. -/
theorem Td.more {T S : Td} {k D i : Nat} (hi : i < T.n) (hn : S.n = T.n) (hw : T.wo i = S.wo i) (hc : S.come i ≤ T.come i) (hg : T.go i ≤ S.go i) (hq : T.q i ≤ S.q i) (h0 : T.sold k D i ≠ 0) : S.sold k D i ≠ 0 := by
  intro hz
  rcases T.sold_at k i D with e | ⟨_, e1, e2, e3, e4, e5⟩
  · exact h0 e
  · obtain ⟨d, hd⟩ : ∃ d : Nat, T.sold k D i = (d : Int) := ⟨(T.sold k D i).toNat, by omega⟩
    rw [hd] at e1 e2 e3 e4
    have hs := (Td.sold_day (by omega) (by omega)).1 hd
    obtain ⟨d, rfl⟩ : ∃ e, d = e + 1 := ⟨d - 1, by omega⟩
    have tz : T.sold k d i = 0 := by
      apply Classical.byContradiction
      intro hne
      have := Td.sold_keep (Nat.le_succ d) hne
      rw [this] at hs
      exact Td.sold_before i hs
    have sz := Td.sold_zero (show d + 1 ≤ D by omega) hz
    have sz' := Td.sold_zero (Nat.le_succ d) sz
    obtain ⟨he, hb⟩ := Td.wo_beats (T := T) (d := ((d + 1 : Nat) : Int)) (st := T.sold k d) (st' := (T.wo i).sold k d) (i := i) (by omega) (fun j => Td.sold_before j) hi tz (Td.wo_sold hi d tz) k (by
      have : T.selln ((d + 1 : Nat) : Int) k (T.sold k d) i = ((d + 1 : Nat) : Int) := hs
      rw [this]; omega)
    obtain ⟨p1, p2⟩ := Td.wo_passed (T := S) (d := ((d + 1 : Nat) : Int)) (st := S.sold k d) (st' := (S.wo i).sold k d) (i := i) (by omega) (fun j => Td.sold_before j) (by omega) (Td.wo_sold (by omega) d sz') ⟨sz', ⟨by omega, by omega⟩, by have := he.2.2; grind⟩ k sz
    rw [hw] at hb
    rcases hb with hb | ⟨r, hr, h2, h3⟩
    · omega
    · have h4 := p2 r h2
      have hqr : T.q (sk i r) = S.q (sk i r) := congrFun (congrArg Td.q hw) r
      unfold Td.ahead at h3 h4
      rcases h3 with h3 | ⟨h3, g3⟩ <;> rcases h4 with h4 | ⟨h4, g4⟩
      · grind
      · grind
      · grind
      · omega
/-- The same who come up to a day. -/
def Td.alike (T S : Td) (d : Int) : Prop := T.n = S.n ∧ ∀ i, i < T.n → (T.come i ≤ d ↔ S.come i ≤ d) ∧ (T.come i ≤ d → T.come i = S.come i ∧ T.go i = S.go i ∧ T.q i = S.q i)
theorem Td.alike_elig {T S : Td} {d : Int} (h : T.alike S d) {e : Int} (he : e ≤ d) {st : Nat → Int} {i : Nat} (hi : i < T.n) : T.elig st e i ↔ S.elig st e i := by
  obtain ⟨h1, h2⟩ := h.2 i hi
  unfold Td.elig
  constructor
  · rintro ⟨a, ⟨b, c⟩, q⟩
    obtain ⟨k1, k2, k3⟩ := h2 (by omega)
    exact ⟨a, ⟨by omega, by omega⟩, by rw [← k3]; exact q⟩
  · rintro ⟨a, ⟨b, c⟩, q⟩
    obtain ⟨k1, k2, k3⟩ := h2 (h1.2 (by omega))
    exact ⟨a, ⟨by omega, by omega⟩, by rw [k3]; exact q⟩
theorem Td.alike_nx {T S : Td} {d : Int} (h : T.alike S d) {e : Int} (he : e ≤ d) {st : Nat → Int} : ∀ m, m ≤ T.n → T.nx st e m = S.nx st e m := by
  intro m
  induction m with
  | zero => intro _; rfl
  | succ m ih =>
    intro hm
    have i1 := ih (by omega)
    have hel := Td.alike_elig h he (st := st) (i := m) (by omega)
    show (if T.elig st e m then (match T.nx st e m with | none => some m | some a => if T.q a < T.q m then some m else some a) else T.nx st e m) = (if S.elig st e m then (match S.nx st e m with | none => some m | some a => if S.q a < S.q m then some m else some a) else S.nx st e m)
    rw [i1]
    by_cases hE : T.elig st e m
    · rw [if_pos hE, if_pos (hel.1 hE)]
      rcases hn : S.nx st e m with _ | a
      · rfl
      · obtain ⟨a1, a2, _⟩ := (T.nx_spec st e m).1 a (i1.trans hn)
        have qa := ((h.2 a (by omega)).2 (by have := a2.2.1.1; omega)).2.2
        have qm := ((h.2 m (by omega)).2 (by have := hE.2.1.1; omega)).2.2
        simp only [qa, qm]
    · rw [if_neg hE, if_neg (fun x => hE (hel.2 x))]
theorem Td.alike_selln {T S : Td} {d : Int} (h : T.alike S d) {e : Int} (he : e ≤ d) {st : Nat → Int} : ∀ k, T.selln e k st = S.selln e k st := by
  intro k
  induction k with
  | zero => rfl
  | succ k ih =>
    rw [Td.selln_succ, Td.selln_succ, ih]
    unfold Td.sell1
    rw [Td.alike_nx h he T.n (Nat.le_refl _), h.1]
theorem Td.alike_sold {T S : Td} {d : Int} (h : T.alike S d) (k : Nat) : ∀ D : Nat, (D : Int) ≤ d → T.sold k D = S.sold k D := by
  intro D
  induction D with
  | zero => intro _; rfl
  | succ D ih =>
    intro hD
    show T.selln ((D + 1 : Nat) : Int) k (T.sold k D) = S.selln ((D + 1 : Nat) : Int) k (S.sold k D)
    rw [ih (by omega), Td.alike_selln h hD]
/-- Who gets one by that day is the same. -/
theorem Td.known {T S : Td} {d : Int} (h : T.alike S d) (k D i : Nat) (hi : T.sold k D i ≤ d) (h0 : T.sold k D i ≠ 0) : S.sold k D i = T.sold k D i := by
  rcases T.sold_at k i D with e | ⟨_, e1, e2, e3, e4, e5⟩
  · exact absurd e h0
  · obtain ⟨x, hx⟩ : ∃ x : Nat, T.sold k D i = (x : Int) := ⟨(T.sold k D i).toNat, by omega⟩
    have hs := (Td.sold_day (T := T) (k := k) (j := i) (show 1 ≤ x by omega) (show x ≤ D by omega)).1 hx
    rw [Td.alike_sold h k x (by omega)] at hs
    rw [hx]
    exact (Td.sold_day (by omega) (by omega)).2 hs
theorem Td.alike_symm {T S : Td} {d : Int} (h : T.alike S d) : S.alike T d := by
  refine ⟨h.1.symm, fun i hi => ?_⟩
  obtain ⟨h1, h2⟩ := h.2 i (by rw [h.1]; exact hi)
  refine ⟨h1.symm, fun hc => ?_⟩
  obtain ⟨k1, k2, k3⟩ := h2 (h1.2 hc)
  exact ⟨k1.symm, k2.symm, k3.symm⟩
theorem Td.alike_wo {T S : Td} {d : Int} (h : T.alike S d) {i : Nat} (hi : i < T.n) : (T.wo i).alike (S.wo i) d := by
  refine ⟨by show T.n - 1 = S.n - 1; rw [h.1], fun r hr => ?_⟩
  exact h.2 (sk i r) ((sk_bound hi).2 hr)
theorem Td.alike_bar {T S : Td} {d : Int} (h : T.alike S d) (k D : Nat) {e : Nat} (h1 : 1 ≤ e) (he : (e : Int) ≤ d) (hD : e ≤ D) : T.bar k (T.sold k D) (e : Int) = S.bar k (S.sold k D) (e : Int) := by
  rw [Td.bar_day h1 hD, Td.bar_day h1 hD, Td.alike_sold h k e he]
  unfold Td.bar
  rw [h.1]
  have hl : ∀ m, m ≤ T.n → T.lq (S.sold k e) (e : Int) m = S.lq (S.sold k e) (e : Int) m := by
    intro m
    induction m with
    | zero => intro _; rfl
    | succ m ih =>
      intro hm
      have i1 := ih (by omega)
      show (if S.sold k e m = (e : Int) then (if cntD (S.sold k e) (e : Int) m = 0 ∨ T.q m < T.lq (S.sold k e) (e : Int) m then T.q m else T.lq (S.sold k e) (e : Int) m) else T.lq (S.sold k e) (e : Int) m) = (if S.sold k e m = (e : Int) then (if cntD (S.sold k e) (e : Int) m = 0 ∨ S.q m < S.lq (S.sold k e) (e : Int) m then S.q m else S.lq (S.sold k e) (e : Int) m) else S.lq (S.sold k e) (e : Int) m)
      rw [i1]
      by_cases hs : S.sold k e m = (e : Int)
      · rw [if_pos hs, if_pos hs]
        have hc : S.come m ≤ (e : Int) := by
          rcases S.sold_at k m e with x | ⟨_, x1, x2, x3, x4, x5⟩ <;> omega
        have qm := ((h.2 m (by omega)).2 ((h.2 m (by omega)).1.2 (by omega))).2.2
        rw [qm]
      · rw [if_neg hs, if_neg hs]
  rw [← hl S.n (by rw [h.1]; exact Nat.le_refl _)]
/-- What is paid by those who have gone by then is the same. -/
theorem Td.known_pay {T S : Td} {d : Int} (h : T.alike S d) {k D i : Nat} (hi : i < T.n) (t1 : 1 ≤ T.come i) (t2 : T.come i ≤ T.go i) (t3 : T.go i ≤ (D : Int)) (hg : T.go i ≤ d) : T.pay k D i = S.pay k D i := by
  obtain ⟨k1, k2, k3⟩ := (h.2 i hi).2 (by omega)
  have hs : T.sold k D i = 0 ↔ S.sold k D i = 0 := by
    constructor
    · intro h0
      apply Classical.byContradiction
      intro hne
      rcases S.sold_at k i D with e | ⟨_, e1, e2, e3, e4, e5⟩
      · exact hne e
      · have := Td.known (Td.alike_symm h) k D i (by omega) hne
        omega
    · intro h0
      apply Classical.byContradiction
      intro hne
      rcases T.sold_at k i D with e | ⟨_, e1, e2, e3, e4, e5⟩
      · exact hne e
      · have := Td.known h k D i (by omega) hne
        omega
  unfold Td.pay
  by_cases h0 : T.sold k D i = 0
  · rw [if_pos h0, if_pos (hs.1 h0)]
  · rw [if_neg h0, if_neg (fun x => h0 (hs.2 x))]
    unfold Td.price
    rw [← k1, ← k2]
    have hw := Td.alike_wo h hi
    obtain ⟨n, hn⟩ : ∃ n, (T.go i).toNat + 1 - (T.come i).toNat = n + 1 := ⟨(T.go i).toNat - (T.come i).toNat, by omega⟩
    rw [hn]
    have hb : ∀ j, j ≤ n → (T.wo i).bars k D ((T.come i).toNat - 1 + j) = (S.wo i).bars k D ((T.come i).toNat - 1 + j) := fun j hj => by
      unfold Td.bars
      have e : (((T.come i).toNat - 1 + j : Nat) : Int) + 1 = (((T.come i).toNat + j : Nat) : Int) := by omega
      rw [e]
      exact Td.alike_bar hw k D (by omega) (by omega) (by omega)
    show (if (T.wo i).bars k D _ < lmin _ _ n then (T.wo i).bars k D _ else lmin _ _ n) = (if (S.wo i).bars k D _ < lmin _ _ n then (S.wo i).bars k D _ else lmin _ _ n)
    rw [lmin_congr n hb, hb n (Nat.le_refl _)]
end Go.Proofs.Ytajckdheecgceaa
