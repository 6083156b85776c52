/- Systems of equations: the reference's elimination, what holds of its memory. -/
import Derived.Test.YtdmgceckmciifaaScal
set_option linter.unusedVariables false
set_option linter.unusedSimpArgs false
namespace Go.Proofs.Ytdmgceckmciifaa
open Go.RowKit

theorem FrV.three3 {w : World} {v : Value} {q : Rat} {B : Nat} (h : FrV w v q) {x0 x1 x2 : Value} (h0 : w.cell? ⟨B, 0, none⟩ = some x0) (h1 : w.cell? ⟨B, 1, none⟩ = some x1) (h2 : w.cell? ⟨B, 2, none⟩ = some x2)
    (n0 : ∀ n, x0 ≠ .int .u32 n) (n1 : ∀ n, x1 ≠ .int .u32 n) (n2 : ∀ n, x2 ≠ .int .u32 n) (y0 y1 y2 : Value) : FrV (((w.setCell ⟨B, 0, none⟩ y0).setCell ⟨B, 1, none⟩ y1).setCell ⟨B, 2, none⟩ y2) v q := by
  obtain ⟨v1, v2, rfl, r1, r2, r3, r4⟩ := h
  exact ⟨v1, v2, rfl, r1.three h0 h1 h2 n0 n1 n2 _ _ _, r2.three h0 h1 h2 n0 n1 n2 _ _ _, r3, r4⟩
/-- The first ones of a row. -/
def rowq (C : Nat) (f : Nat → Rat) : List Rat := (List.range C).map f
theorem rowq_len (C : Nat) (f : Nat → Rat) : (rowq C f).length = C := by simp [rowq]
theorem rowq_at {C j : Nat} (f : Nat → Rat) (h : j < C) : (rowq C f)[j]? = some (f j) := by simp [rowq, h]
theorem rowq_congr {C : Nat} {f g : Nat → Rat} (h : ∀ j, j < C → f j = g j) : rowq C f = rowq C g := by
  unfold rowq
  apply List.map_congr_left
  intro j hj
  exact h j (List.mem_range.1 hj)
theorem rowq_mem {C : Nat} {f : Nat → Rat} {q : Rat} (h : q ∈ rowq C f) : ∃ j, j < C ∧ q = f j := by
  obtain ⟨j, hj, rfl⟩ := List.mem_map.1 h
  exact ⟨j, List.mem_range.1 hj, rfl⟩
theorem rowq_scaled (C : Nat) (f : Nat → Rat) (q : Rat) : (rowq C f).map (fun a => a * q) = rowq C (fun j => f j * q) := by simp [rowq, List.map_map]
theorem rowq_less (C : Nat) (f g : Nat → Rat) (q : Rat) : lessL (rowq C f) (rowq C g) q = rowq C (fun j => f j + -(g j * q)) := by
  apply List.ext_getElem?
  intro j
  by_cases h : j < C
  · rw [lessL_at (rowq_at f h) (rowq_at g h), rowq_at _ h]
  · rw [List.getElem?_eq_none (by rw [lessL_len (by rw [rowq_len, rowq_len]; exact Nat.le_refl _), rowq_len]; omega), List.getElem?_eq_none (by rw [rowq_len]; omega)]
theorem OF.typ {w : World} {B : Nat} {v : Value} {L : List (Bool × List Int × List Int)} (h : OF w B v L) {g : Nat} (hg : v.ownBlock = some g) : ∃ cs, w.heap[g]? = some (.cells cs 24 (0, 0)) := by
  obtain ⟨xs, h1, h2, h3⟩ := h
  rcases h1.2 with ⟨rfl, _⟩ | ⟨g', cap, cur, rfl, hb, hc, _⟩
  · cases hg
  · obtain rfl : g' = g := by simpa [Value.ownBlock] using hg
    exact ⟨cur, hc⟩
theorem own_typ {w : World} {base e size n : Nat} {v : Value} {xs : List Value} (h : w.ownsRow base e size v n xs) {g : Nat} (hg : v.ownBlock = some g) : base ≤ g ∧ ∃ cs, w.heap[g]? = some (.cells cs e (0, 0)) := by
  rcases h.2 with ⟨rfl, _⟩ | ⟨g', cap, cur, rfl, hb, hc, _⟩
  · cases hg
  · obtain rfl : g' = g := by simpa [Value.ownBlock] using hg
    exact ⟨hb, cur, hc⟩
theorem heap_typ {w : World} {g a b : Nat} {cs ds : Array Value} (h : w.heap[g]? = some (.cells cs a (0, 0))) (k : w.heap[g]? = some (.cells ds b (0, 0))) : a = b := by
  rw [h] at k
  have := Option.some.inj k
  injection this
/-- What the reference's elimination holds on to. -/
structure HE (w : World) (B g4 g5 gr cap R C : Nat) (vs : Nat → Value) (M : Nat → Nat → Rat) (stv : Value) (st : List Nat) (wr : World) : Prop where
  box : Blk wr g5 100 #[.slice (some ⟨gr, 0, none⟩) R cap, stv]
  tb : Tb wr gr 32 cap R vs
  rows : ∀ i, i < R → OF wr B (vs i) ((rowq C (M i)).map dq)
  own : wr.ownsRow B 3 1 stv st.length (st.map fun (s : Nat) => Value.int .i64 (s : Int))
  now : NoW wr stv
  fr : Fr (fun g => g = gr) w wr
  hB : B ≤ w.heap.size
  g5B : w.heap.size ≤ g5
  grB : B ≤ gr
  res : Blk wr g4 100 #[.slice none 0 0, .slice none 0 0]
  g45 : g4 ≠ g5
  stN : ∀ g, stv.ownBlock = some g → w.heap.size ≤ g
theorem HE.upd {w : World} {B g4 g5 gr cap R C : Nat} {vs : Nat → Value} {M : Nat → Nat → Rat} {stv : Value} {st : List Nat} {wr : World} (h : HE w B g4 g5 gr cap R C vs M stv st wr) {w2 : World} (k : Fr (fun x => x = gr) wr w2) {vs' : Nat → Value} {M' : Nat → Nat → Rat}
    (htb : Tb w2 gr 32 cap R vs') (hr : ∀ i, i < R → OF w2 B (vs' i) ((rowq C (M' i)).map dq)) : HE w B g4 g5 gr cap R C vs' M' stv st w2 := by
  obtain ⟨cs, hcs, _⟩ := h.tb
  have hg5 : g5 ≠ gr := fun e => by
    have h1 := h.box
    rw [e] at h1
    have := heap_typ h1 hcs
    revert this; decide
  have hg4 : g4 ≠ gr := fun e => by
    have h1 := h.res
    rw [e] at h1
    have := heap_typ h1 hcs
    revert this; decide
  have hst : ∀ g, stv.ownBlock = some g → ¬ g = gr := fun g hg e => by
    obtain ⟨_, ds, h1⟩ := own_typ h.own hg
    rw [e] at h1
    have := heap_typ h1 hcs
    revert this; decide
  exact ⟨k.blk h.box hg5, htb, hr, k.own h.own hst, k.now h.now hst, h.fr.then k (fun g _ e => e), h.hB, h.g5B, h.grB, k.blk h.res hg4, h.g45, h.stN⟩
theorem HE.below {w : World} {B g4 g5 gr cap R C : Nat} {vs : Nat → Value} {M : Nat → Nat → Rat} {stv : Value} {st : List Nat} {wr w2 : World} (h : HE w B g4 g5 gr cap R C vs M stv st wr) (k : Below wr.heap.size wr w2) : HE w B g4 g5 gr cap R C vs M stv st w2 :=
  h.upd (Fr.of_below k) (h.tb.fr (Fr.of_below (S := fun _ => False) k) (fun h => h)) (fun i hi => (h.rows i hi).below k)
theorem HE.congr {w : World} {B g4 g5 gr cap R C : Nat} {vs : Nat → Value} {M M' : Nat → Nat → Rat} {stv : Value} {st : List Nat} {wr : World} (h : HE w B g4 g5 gr cap R C vs M stv st wr) (e : ∀ i j, i < R → j < C → M i j = M' i j) : HE w B g4 g5 gr cap R C vs M' stv st wr :=
  ⟨h.box, h.tb, fun i hi => by rw [← rowq_congr (fun j hj => e i j hi hj)]; exact h.rows i hi, h.own, h.now, h.fr, h.hB, h.g5B, h.grB, h.res, h.g45, h.stN⟩
/-- One row is put into another's place. -/
theorem HE.set {w : World} {B g4 g5 gr cap R C : Nat} {vs : Nat → Value} {M : Nat → Nat → Rat} {stv : Value} {st : List Nat} {wr : World} (h : HE w B g4 g5 gr cap R C vs M stv st wr) {i : Nat} (hi : i < R) {v : Value} {q : Nat → Rat} (hv : OF wr B v ((rowq C q).map dq)) :
    HE w B g4 g5 gr cap R C (Go.Proofs.Ytdmgceckmciifaa.upd vs i v) (Go.Proofs.Ytdmgceckmciifaa.upd M i q) stv st (wr.setCell ⟨gr, i, none⟩ v) := by
  obtain ⟨A, c, hsh, _⟩ := hv.shape
  obtain ⟨k1, k2⟩ := h.tb.set hi (y := v) (by rw [hsh]; exact slne _ _ _)
  obtain ⟨cs, hcs, _⟩ := h.tb
  have hne : ∀ {u : Value} {L : List (Bool × List Int × List Int)}, OF wr B u L → ∀ g, u.ownBlock = some g → ¬ g = gr := fun hu g hg e => by
    obtain ⟨ds, h1⟩ := hu.typ hg
    rw [e] at h1
    have := heap_typ h1 hcs
    revert this; decide
  refine h.upd k2 k1 (fun j hj => ?_)
  by_cases e : j = i
  · subst e; rw [upd_at, upd_at]; exact hv.fr k2 (hne hv)
  · rw [upd_ne e, upd_ne e]; exact (h.rows j hj).fr k2 (hne (h.rows j hj))
/-- Two rows are changed. -/
theorem HE.swap {w : World} {B g4 g5 gr cap R C : Nat} {vs : Nat → Value} {M : Nat → Nat → Rat} {stv : Value} {st : List Nat} {wr : World} (h : HE w B g4 g5 gr cap R C vs M stv st wr) {k f : Nat} (hk : k < R) (hf : f < R) :
    HE w B g4 g5 gr cap R C (fun i => vs (tau k f i)) (fun i => M (tau k f i)) stv st ((wr.setCell ⟨gr, k, none⟩ (vs f)).setCell ⟨gr, f, none⟩ (vs k)) ∧
    HE w B g4 g5 gr cap R C (fun i => vs (tau k f i)) (fun i => M (tau k f i)) stv st ((wr.setCell ⟨gr, f, none⟩ (vs k)).setCell ⟨gr, k, none⟩ (vs f)) := by
  have hA := h.set hk (h.rows f hf)
  have ek : OF wr B (vs k) ((rowq C (M k)).map dq) := h.rows k hk
  have e1 : ∀ {u1 : World} {x : Value}, u1 = wr.setCell ⟨gr, k, none⟩ x → True := fun _ => trivial
  obtain ⟨cs, hcs, _⟩ := h.tb
  have hne : ∀ {u : Value} {L : List (Bool × List Int × List Int)}, OF wr B u L → ∀ g, u.ownBlock = some g → ¬ g = gr := fun hu g hg e => by
    obtain ⟨ds, h1⟩ := hu.typ hg
    rw [e] at h1
    have := heap_typ h1 hcs
    revert this; decide
  have shp : ∀ i, i < R → ∀ n, vs i ≠ .int .u32 n := fun i hi => by
    obtain ⟨A, c, hsh, _⟩ := (h.rows i hi).shape
    rw [hsh]; exact slne _ _ _
  have kf := (h.tb.set hk (shp f hf)).2
  have kk := (h.tb.set hf (shp k hk)).2
  have hA2 := hA.set hf (ek.fr kf (hne ek))
  have hB := h.set hf (h.rows k hk)
  have ef : OF wr B (vs f) ((rowq C (M f)).map dq) := h.rows f hf
  have hB2 := hB.set hk (ef.fr kk (hne ef))
  have v1 : (Go.Proofs.Ytdmgceckmciifaa.upd (Go.Proofs.Ytdmgceckmciifaa.upd vs k (vs f)) f (vs k)) = fun i => vs (tau k f i) := by
    funext j
    by_cases a : j = f
    · subst a; rw [upd_at, tau_f]
    · rw [upd_ne a]
      by_cases b : j = k
      · subst b; rw [upd_at, tau_k]
      · rw [upd_ne b]; unfold tau; rw [if_neg b, if_neg a]
  have m1 : (Go.Proofs.Ytdmgceckmciifaa.upd (Go.Proofs.Ytdmgceckmciifaa.upd M k (M f)) f (M k)) = fun i => M (tau k f i) := by
    funext j
    by_cases a : j = f
    · subst a; rw [upd_at, tau_f]
    · rw [upd_ne a]
      by_cases b : j = k
      · subst b; rw [upd_at, tau_k]
      · rw [upd_ne b]; unfold tau; rw [if_neg b, if_neg a]
  have v2 : (Go.Proofs.Ytdmgceckmciifaa.upd (Go.Proofs.Ytdmgceckmciifaa.upd vs f (vs k)) k (vs f)) = fun i => vs (tau k f i) := by
    funext j
    by_cases b : j = k
    · subst b; rw [upd_at, tau_k]
    · rw [upd_ne b]
      by_cases a : j = f
      · subst a; rw [upd_at, tau_f]
      · rw [upd_ne a]; unfold tau; rw [if_neg b, if_neg a]
  have m2 : (Go.Proofs.Ytdmgceckmciifaa.upd (Go.Proofs.Ytdmgceckmciifaa.upd M f (M k)) k (M f)) = fun i => M (tau k f i) := by
    funext j
    by_cases b : j = k
    · subst b; rw [upd_at, tau_k]
    · rw [upd_ne b]
      by_cases a : j = f
      · subst a; rw [upd_at, tau_f]
      · rw [upd_ne a]; unfold tau; rw [if_neg b, if_neg a]
  rw [v1, m1] at hA2
  rw [v2, m2] at hB2
  exact ⟨hA2, hB2⟩
/-- One more step is told. -/
theorem HE.push {w : World} {B g4 g5 gr cap R C : Nat} {vs : Nat → Value} {M : Nat → Nat → Rat} {stv : Value} {st : List Nat} {wr : World} (h : HE w B g4 g5 gr cap R C vs M stv st wr) (col : Nat) (hl : st.length ≤ 100000) :
    ∃ v' w2, (Builtin.append_ #[95, 95] 95 #[stv, .slice (some ⟨wr.heap.size, 0, none⟩) 1 1]).run Try.prog (wr.alloc (.cells #[.int .i64 (col : Int)] 3)) = .ok v' w2 ∧ w2.cell? ⟨g5, 1, none⟩ = some stv ∧ w2.frozen? ⟨g5, 1, none⟩ = false ∧
      HE w B g4 g5 gr cap R C vs M v' (st ++ [col]) (w2.setCell ⟨g5, 1, none⟩ v') := by
  obtain ⟨i0, hi, hz0, hz1, hz2⟩ := info_parts info_int
  have al := below_alloc0 wr (.cells #[.int .i64 (col : Int)] 3)
  have h0 := h.below al
  have K := Blk.new wr 3 #[.int .i64 (col : Int)]
  obtain ⟨v', w2, hrun, ho, hfr, hnw, hob⟩ := run_append_fr (P := Try.prog) (wr.alloc (.cells #[.int .i64 (col : Int)] 3)) B 95 95 3 i0 _ 1 8 Try.underlying95 hi hz0 hz1 hz2 rfl (by decide)
    (by intro j x hx n hh; subst hh
        have : j = 0 ∨ 1 ≤ j := by omega
        rcases this with rfl | h
        · cases hx
        · have hnone : (#[Value.int .i64 0] : Array Value)[j]? = none := Array.getElem?_eq_none (by simpa using h)
          exact absurd (hnone.symm.trans hx) (by simp))
    stv st.length _ h0.own h0.now ⟨wr.heap.size, 0, none⟩ 1 [.int .i64 (col : Int)] rfl
    (by intro j u hu
        have h3 : j = 0 ∨ 1 ≤ j := by omega
        rcases h3 with rfl | h
        · rw [← hu]; exact K.cell 0
        · rw [List.getElem?_eq_none (by simpa using h)] at hu; cases hu)
    (by intro u hu; simp only [List.mem_cons, List.not_mem_nil, or_false] at hu; rw [hu]; rfl)
    (by intro u hu n; simp only [List.mem_cons, List.not_mem_nil, or_false] at hu; rw [hu]; intro hh; cases hh)
    (by intro u hu n
        obtain ⟨s, _, rfl⟩ := List.mem_map.1 hu
        intro hh; cases hh)
    (by unfold maxLen; omega) (by omega) (Nat.le_trans h.hB (Nat.le_trans h.fr.size al.size))
  have nb : ∀ {x : Nat} {cs : Array Value} {e : Nat}, (wr.alloc (.cells #[.int .i64 (col : Int)] 3)).heap[x]? = some (.cells cs e (0, 0)) → e ≠ 3 → ¬ stv.ownBlock = some x := fun {x cs e} hx he hs => by
    obtain ⟨_, ds, k⟩ := own_typ h0.own hs
    exact he (heap_typ hx k)
  obtain ⟨cs0, hcs0, hcs1⟩ := h0.tb
  have K2 : Blk w2 g5 100 #[.slice (some ⟨gr, 0, none⟩) R cap, stv] := hfr.blk h0.box (nb h0.box (by decide))
  have c2 : w2.cell? ⟨g5, 1, none⟩ = some stv := K2.cell 1
  have hsv : ∃ A c, stv = .slice A st.length c := by
    rcases h.own.2 with ⟨e1, e2⟩ | ⟨g, cap, cur, e1, _⟩
    · exact ⟨none, 0, by rw [e1, e2]⟩
    · exact ⟨_, _, e1⟩
  obtain ⟨As, cs, hsv⟩ := hsv
  have hfs := Fr.set c2 (by rw [hsv]; exact slne _ _ _) v'
  have tb2 : Tb w2 gr 32 cap R vs := h0.tb.fr hfr (nb hcs0 (by decide))
  have rw2 : ∀ i, i < R → OF w2 B (vs i) ((rowq C (M i)).map dq) := fun i hi => (h0.rows i hi).fr hfr (fun g hg => by
    obtain ⟨ds, k⟩ := (h0.rows i hi).typ hg
    exact nb k (by decide))
  have tb3 := tb2
  obtain ⟨cs2, hcs2, _⟩ := tb3
  refine ⟨v', w2, hrun, c2, K2.free 1, ⟨K2.set 1 v', tb2.fr hfs (fun e => ?_), fun i hi => (rw2 i hi).fr hfs (fun g hg e => ?_), ?_, hfs.now hnw (fun g hg e => ?_), (h0.fr.then hfr (fun g hlt hg => ?_)).then hfs (fun g hlt e => ?_), h.hB, h.g5B, h.grB, hfs.blk (hfr.blk h0.res (nb h0.res (by decide))) h.g45, h.g45, fun g hg => ?_⟩⟩
  · have e' : gr = g5 := e
    rw [e'] at hcs2
    have := heap_typ hcs2 K2
    revert this; decide
  · obtain ⟨ds, k⟩ := (rw2 i hi).typ hg
    have e' : g = g5 := e
    rw [e'] at k
    have := heap_typ k K2
    revert this; decide
  · have := hfs.own ho (fun g hg e => by
      obtain ⟨_, ds, k⟩ := own_typ ho hg
      have e' : g = g5 := e
      rw [e'] at k
      have := heap_typ k K2
      revert this; decide)
    rw [List.length_append, List.map_append]
    exact this
  · obtain ⟨_, ds, k⟩ := own_typ ho hg
    have e' : g = g5 := e
    rw [e'] at k
    have := heap_typ k K2
    revert this; decide
  · have := h0.stN g hg
    omega
  · have e' : g = g5 := e
    have := h.g5B
    omega
  · rcases (hob g hg).2 with h1 | h1
    · exact h0.stN g h1
    · have := h.fr.size
      have := al.size
      omega
/-- What the reference's elimination tells. -/
structure HO (w : World) (B gr cap R C : Nat) (vs : Nat → Value) (M : Nat → Nat → Rat) (stv : Value) (st : List Nat) (wr : World) : Prop where
  tb : Tb wr gr 32 cap R vs
  rows : ∀ i, i < R → OF wr B (vs i) ((rowq C (M i)).map dq)
  own : wr.ownsRow B 3 1 stv st.length (st.map fun (s : Nat) => Value.int .i64 (s : Int))
  now : NoW wr stv
  fr : Fr (fun g => g = gr) w wr
theorem HE.out {w : World} {B g4 g5 gr cap R C : Nat} {vs : Nat → Value} {M : Nat → Nat → Rat} {stv : Value} {st : List Nat} {wr : World} (h : HE w B g4 g5 gr cap R C vs M stv st wr) (hg4 : w.heap.size ≤ g4) (x y : Value) :
    HO w B gr cap R C vs M stv st ((wr.setCell ⟨g4, 0, none⟩ x).setCell ⟨g4, 1, none⟩ y) ∧ Blk ((wr.setCell ⟨g4, 0, none⟩ x).setCell ⟨g4, 1, none⟩ y) g4 100 #[x, y] := by
  have k1 := Fr.set (h.res.cell 0) (slne _ _ _) x
  have r1 := h.res.set 0 x
  have k2 := Fr.set (w := wr.setCell ⟨g4, 0, none⟩ x) (r1.cell 1) (slne none 0 0) y
  have k := k1.trans k2
  obtain ⟨cs, hcs, _⟩ := h.tb
  have hne : ∀ {g : Nat} {ds : Array Value} {e : Nat}, wr.heap[g]? = some (.cells ds e (0, 0)) → e ≠ 100 → ¬ g = g4 := fun {g ds e} hg he e2 => by
    rw [e2] at hg
    exact he (heap_typ hg h.res)
  refine ⟨⟨h.tb.fr k (hne hcs (by decide)), fun i hi => (h.rows i hi).fr k (fun g hg => ?_), k.own h.own (fun g hg => ?_), k.now h.now (fun g hg => ?_), h.fr.then k (fun g hlt e => by have e' : g = g4 := e; omega)⟩, (r1.set 1 y)⟩
  · obtain ⟨ds, k⟩ := (h.rows i hi).typ hg
    exact hne k (by decide)
  · obtain ⟨_, ds, k⟩ := own_typ h.own hg
    exact hne k (by decide)
  · obtain ⟨_, ds, k⟩ := own_typ h.own hg
    exact hne k (by decide)
theorem rdivq (w : World) (va vb : Value) (a b c : Rat) (ha : FrQ w va a) (hb : FrQ w vb b) (h0 : b ≠ 0) (hc : a * b⁻¹ = c) (hs : Short c) : Calls Try.prog 30 #[va, vb] w (FrePost c w) := by
  obtain ⟨n, l, d, h, h2, rfl⟩ := ha
  obtain ⟨n', l', d', h', h2', rfl⟩ := hb
  subst hc
  exact rdiv_calls w va vb n n' l d l' d' h h' h2 h2' h0 hs
/-- What stands at a place. -/
theorem HE.elem {w : World} {B g4 g5 gr cap R C : Nat} {vs : Nat → Value} {M : Nat → Nat → Rat} {stv : Value} {st : List Nat} {wr : World} (h : HE w B g4 g5 gr cap R C vs M stv st wr) {i j : Nat} (hi : i < R) (hj : j < C) : ∃ ad c A1 c1 A2 c2, vs i = .slice (some ad) C c ∧ C ≤ c ∧ c ≤ 9223372036854775807 ∧ wr.cell? (ad.add (j * 3)) = some (.bool (decide ((M i j).num < 0))) ∧ wr.cell? ⟨(ad.add (j * 3)).block, (ad.add (j * 3)).off + 1, none⟩ = some (.slice A1 (dg (M i j).num.natAbs).length c1) ∧
    wr.cell? ⟨(ad.add (j * 3)).block, (ad.add (j * 3)).off + 2, none⟩ = some (.slice A2 (dg (M i j).den).length c2) ∧ FrV wr (.agg #[.bool (decide ((M i j).num < 0)), .slice A1 (dg (M i j).num.natAbs).length c1, .slice A2 (dg (M i j).den).length c2]) (M i j) := by
  have h2 := (h.rows i hi).fl.atq (rowq_at (M i) hj)
  rw [rowq_len] at h2
  exact h2
theorem len_zero {q : Rat} : (((dg q.num.natAbs).length : Int) == 0) = decide (q = 0) := by
  by_cases h : q = 0
  · rw [h]; simp [dg_zero]
  · rw [decide_eq_false h]
    exact beq_eq_false_iff_ne.2 (fun e => h (Rat.num_eq_zero.1 (Int.natAbs_eq_zero.1 (dg_len_zero.1 (by omega)))))
/-- The table while the rows are gone over. -/
theorem mixM_less2 {M : Nat → Nat → Rat} {k f col m : Nat} (hm : m ≠ k) (i j : Nat) : upd (mixM M k f col m) m (fun l => mixM M k f col m m l + -(mixM M k f col m k l * mixM M k f col m m col)) i j = mixM M k f col (m + 1) i j := by
  by_cases e : i = m
  · subst e
    rw [upd_at]
    have e1 : ∀ l, mixM M k f col i i l = M (tau k f i) l := fun l => if_neg (fun h => h.elim hm (by omega))
    have e2 : ∀ l, mixM M k f col i k l = M f l * (M f col)⁻¹ := fun l => by unfold mixM; rw [if_pos (Or.inl rfl), elim_at]
    rw [e1, e1, e2]
    unfold mixM
    rw [if_pos (Or.inr (by omega)), elim_else _ hm]
    grind
  · rw [upd_ne e]
    unfold mixM
    by_cases h : i = k ∨ i < m
    · rw [if_pos h, if_pos (h.elim Or.inl (fun h => Or.inr (by omega)))]
    · rw [if_neg h, if_neg (fun h2 => h (h2.elim Or.inl (fun h3 => Or.inr (by omega))))]
theorem mixM_none {M : Nat → Nat → Rat} {k f col m : Nat} (hm : m ≠ k) (h0 : mixM M k f col m m col = 0) (i j : Nat) : mixM M k f col m i j = mixM M k f col (m + 1) i j := by
  rw [← mixM_less2 hm]
  by_cases e : i = m
  · subst e; rw [upd_at, h0]; grind
  · rw [upd_ne e]
theorem mixM_scaled {M : Nat → Nat → Rat} {k f col : Nat} (i j : Nat) : upd (fun i => M (tau k f i)) k (fun l => M f l * (M f col)⁻¹) i j = mixM M k f col 0 i j := by
  unfold mixM
  by_cases e : i = k
  · subst e; rw [upd_at, if_pos (Or.inl rfl), elim_at]
  · rw [upd_ne e, if_neg (fun h => h.elim e (by omega))]
end Go.Proofs.Ytdmgceckmciifaa
