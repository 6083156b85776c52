/- Systems of equations: the program's elimination, what holds of its memory. -/
import Derived.Test.YtajckdheecgceaaLess
import Derived.Test.YtajckdheecgceaaGjl
set_option linter.unusedVariables false
set_option linter.unusedSimpArgs false
namespace Go.Proofs.Ytajckdheecgceaa
open Go.RowKit

theorem tau_f {k f : Nat} : tau k f f = k := by unfold tau; split <;> (try split) <;> omega
theorem tau_inj {k f i j : Nat} (h : tau k f i = tau k f j) : i = j := by rw [← tau_tau k f i, h, tau_tau]
/-- append of values that are no words, to a row of one's own: nothing but that row is changed. -/
theorem run_append_fr {P : Program} (w : World) (base : Nat) (t ty e : TypeId) (i : TypeInfo) (z : Value) (size bytes : Nat) (ht : P.underlying t = some (.slice e)) (hi : P.info? e = some i) (hz : i.zero = some z)
    (hsize : i.size = size) (hby : i.bytes = bytes) (hzs : z.cells.size = size) (hsz : 0 < size) (hzn : ∀ (j : Nat) (x : Value), z.cells[j]? = some x → ∀ n, x ≠ Value.int .u32 n)
    (v : Value) (n : Nat) (xs : List Value) (hown : w.ownsRow base e size v n xs) (hno : NoW w v)
    (a : Addr) (c : Nat) (news : List Value) (hl : news.length = size) (hnews : ∀ j u, news[j]? = some u → w.cell? (a.add j) = some u) (h1 : ∀ u ∈ news, u.oneCell' = true) (h1n : ∀ u ∈ news, ∀ n, u ≠ Value.int .u32 n) (hxn : ∀ u ∈ xs, ∀ n, u ≠ Value.int .u32 n)
    (h63 : n + 1 ≤ maxLen) (hbytes : (n + 1) * bytes ≤ 140737488355328) (hbase : base ≤ w.heap.size) :
    ∃ v' w', (Builtin.append_ #[t, t] ty #[v, .slice (some a) 1 c]).run P w = .ok v' w' ∧ w'.ownsRow base e size v' (n + 1) (xs ++ news) ∧ Fr (fun g => v.ownBlock = some g) w w' ∧ NoW w' v' ∧ (∀ g, v'.ownBlock = some g → g < w'.heap.size ∧ (v.ownBlock = some g ∨ w.heap.size ≤ g)) := by
  have hlen : (xs ++ news).length = (n + 1) * size := by rw [List.length_append, hown.1, hl, Nat.add_mul, Nat.one_mul]
  have hm : n + 1 ≤ 9223372036854775807 := by simp only [maxLen] at h63; omega
  have hall : ∀ u ∈ xs ++ news, ∀ n, u ≠ Value.int .u32 n := fun u hu => by
    rcases List.mem_append.1 hu with h | h
    · exact hxn u h
    · exact h1n u h
  have grown : ∀ old : Nat, old < n + 1 →
      (w.drew.alloc (.cells (xs.toArray ++ news.toArray ++ Builtin.zeroCells z.cells (grownCap w (n + 1) old e - (n + 1))) e)).ownsRow base e size (.slice (some ⟨w.heap.size, 0, none⟩) (n + 1) (grownCap w (n + 1) old e)) (n + 1) (xs ++ news) ∧
      Fr (fun g => v.ownBlock = some g) w (w.drew.alloc (.cells (xs.toArray ++ news.toArray ++ Builtin.zeroCells z.cells (grownCap w (n + 1) old e - (n + 1))) e)) ∧
      NoW (w.drew.alloc (.cells (xs.toArray ++ news.toArray ++ Builtin.zeroCells z.cells (grownCap w (n + 1) old e - (n + 1))) e)) (.slice (some ⟨w.heap.size, 0, none⟩) (n + 1) (grownCap w (n + 1) old e)) ∧
      (∀ g, Value.ownBlock (.slice (some ⟨w.heap.size, 0, none⟩) (n + 1) (grownCap w (n + 1) old e)) = some g → g < (w.drew.alloc (.cells (xs.toArray ++ news.toArray ++ Builtin.zeroCells z.cells (grownCap w (n + 1) old e - (n + 1))) e)).heap.size ∧ (v.ownBlock = some g ∨ w.heap.size ≤ g)) := by
    intro old ho
    have hge := grownCap_ge w (n + 1) old e
    have hcm := grownCap_le_maxLen w (n + 1) old e h63
    have hbl : Below w.heap.size w (w.drew.alloc (.cells (xs.toArray ++ news.toArray ++ Builtin.zeroCells z.cells (grownCap w (n + 1) old e - (n + 1))) e)) := bl_trans (bl_drew w) (below_alloc0 _ _)
    have hnew := heap_alloc_new w.drew (.cells (xs.toArray ++ news.toArray ++ Builtin.zeroCells z.cells (grownCap w (n + 1) old e - (n + 1))) e)
    refine ⟨⟨hlen, .inr ⟨w.heap.size, _, _, rfl, hbase, hnew, hge, hcm, ?_, ?_⟩⟩, Fr.of_below hbl, ?_, fun g hg => by
      obtain rfl : w.heap.size = g := by simpa [Value.ownBlock] using hg
      exact ⟨(Array.getElem?_eq_some_iff.1 hnew).1, Or.inr (Nat.le_refl _)⟩⟩
    · simp only [Array.size_append, List.size_toArray, size_zeroCells, hzs, hown.1, hl]
      rw [← Nat.succ_mul, ← Nat.add_mul]
      congr 1
      omega
    · simp only [Array.toList_append, List.append_assoc]
      rw [← List.append_assoc, ← hlen]
      exact List.take_left
    · intro g hg
      obtain rfl : w.heap.size = g := by simpa [Value.ownBlock] using hg
      refine ⟨_, _, hnew, fun j x hx => ?_⟩
      have hx' := Array.mem_of_getElem? hx
      rw [Array.mem_append, Array.mem_append] at hx'
      rcases hx' with (h | h) | h
      · exact hxn x (by simpa using h)
      · exact h1n x (by simpa using h)
      · obtain ⟨k, hk⟩ := Array.mem_iff_getElem?.1 h
        simp only [Builtin.zeroCells, Array.getElem?_map, Array.getElem?_range] at hk
        split at hk
        · simp only [Option.map_some, Option.some.injEq] at hk
          have hlt : k % z.cells.size < z.cells.size := Nat.mod_lt _ (by omega)
          refine hzn (k % z.cells.size) x ?_
          rw [← hk, getElem!_pos z.cells (k % z.cells.size) hlt, Array.getElem?_eq_getElem hlt]
        · cases hk
  have hl1 : news.length = 1 * i.size := by rw [hl, hsize, Nat.one_mul]
  rcases hown.2 with ⟨rfl, rfl⟩ | ⟨g, cap, cur, rfl, hbg, hg, hnc, hcm, hcs, htake⟩
  · have hx : xs = [] := List.eq_nil_of_length_eq_zero (by simpa using hown.1)
    subst hx
    have hr := run_append_nil (P := P) w t ty e i z ht hi hz a 1 c news hl1 hnews (by omega) (by omega) (by rw [hby]; omega)
    have hgr := grown 0 (by omega)
    simp only [Nat.zero_add, List.nil_append, Array.empty_append] at hgr ⊢
    exact ⟨_, _, hr, hgr.1, hgr.2.1, hgr.2.2.1, hgr.2.2.2⟩
  · by_cases hroom : n + 1 ≤ cap
    · have hfit : n * i.size + news.length ≤ cur.size := by
        rw [hl, hcs, hsize, ← Nat.succ_mul]; exact Nat.mul_le_mul_right _ hroom
      have hr := run_append_room (P := P) w t ty e i ht hi g n cap cur hg a 1 c news hl1 hnews h1 hroom hfit
      rw [hsize] at hr hfit
      obtain ⟨cur', e', hg', hcn⟩ := hno g rfl
      obtain ⟨rfl, rfl⟩ : cur = cur' ∧ e = e' := by
        rw [hg] at hg'
        simpa using hg'
      have hset := setRow_heap w g cur (cur.toList.take (n * size) ++ news ++ cur.toList.drop (n * size + news.length)).toArray e _ hg
      refine ⟨_, _, hr, ⟨hlen, .inr ⟨g, cap, _, rfl, hbg, hset, hroom, hcm, ?_, ?_⟩⟩, ⟨rfl, rfl, rfl, by simp, fun k _ hk => setRow_other w g k _ (fun e => hk (by rw [e]; rfl)), ?_⟩, ?_, fun g2 hg2 => by
        obtain rfl : g = g2 := by simpa [Value.ownBlock] using hg2
        exact ⟨(Array.getElem?_eq_some_iff.1 hset).1, Or.inl rfl⟩⟩
      · simp only [List.size_toArray, List.length_append, List.length_take, List.length_drop, Array.length_toList]
        omega
      · show List.take _ (_ ++ news ++ _) = _
        rw [htake, ← hlen]
        exact List.take_left
      · intro v l hr
        obtain ⟨A, c', hv, hl, hc, hr⟩ := hr
        refine ⟨A, c', hv, hl, hc, fun h0 => ?_⟩
        obtain ⟨ad, ha, hcell⟩ := hr h0
        refine ⟨ad, ha, fun j hj => ?_⟩
        have hc0 := hcell j hj
        by_cases hb : (ad.add j).block = g
        · exfalso
          have : ∃ k : Nat, cur[k]? = some (Value.int .u32 (wat l j)) := by
            unfold World.cell? at hc0
            rw [hb, hg] at hc0
            simp only at hc0
            split at hc0
            · cases hc0
            · exact ⟨_, hc0⟩
          obtain ⟨k, hk⟩ := this
          exact hcn k _ hk _ rfl
        · rw [World.cell?_of_block (w := w) (setRow_other w g _ _ hb)]
          exact hc0
      · intro g2 hg2
        obtain rfl : g = g2 := by simpa [Value.ownBlock] using hg2
        refine ⟨_, _, hset, fun j x hx => ?_⟩
        have hx' := Array.mem_of_getElem? hx
        simp only [List.mem_toArray, List.mem_append] at hx'
        rcases hx' with (h | h) | h
        · obtain ⟨k, hk⟩ := List.mem_iff_getElem?.1 (List.mem_of_mem_take h)
          exact hcn k x (by simpa using hk)
        · exact h1n x h
        · obtain ⟨k, hk⟩ := List.mem_iff_getElem?.1 (List.mem_of_mem_drop h)
          exact hcn k x (by simpa using hk)
    · have holds : ∀ j u, xs[j]? = some u → w.cell? ((⟨g, 0, none⟩ : Addr).add j) = some u := hown.cells (g := g) rfl
      have hr := run_append_grow (P := P) w t ty e i z ht hi hz ⟨g, 0, none⟩ n cap xs (by rw [hsize]; exact hown.1) holds a 1 c news hl1 hnews (by omega) (by omega) (growslice_fits (by omega) (by rw [hby]; exact hbytes))
      have hgr := grown cap (by omega)
      exact ⟨_, _, hr, hgr.1, hgr.2.1, hgr.2.2.1, hgr.2.2.2⟩
theorem own_shp {w : World} {base e n : Nat} {v : Value} {xs : List Value} {size : Nat} (h : w.ownsRow base e size v n xs) : ∃ A c, v = .slice A n c ∧ n ≤ c ∧ c ≤ 9223372036854775807 := by
  rcases h.2 with ⟨rfl, rfl⟩ | ⟨g, cap, cur, rfl, _, _, h1, h2, _⟩
  · exact ⟨none, 0, rfl, Nat.le_refl _, by omega⟩
  · exact ⟨_, cap, rfl, h1, by simp only [maxLen] at h2; omega⟩
/-- Two rows are changed. -/
theorem Sys.swap {w : World} {gr cap R C : Nat} {b cp : Nat → Nat} {M : Nat → Nat → Rat} (h : Sys w gr cap R C b cp M) {k f : Nat} (hk : k < R) (hf : f < R) :
    (Sys ((w.setCell ⟨gr, k, none⟩ (.slice (some ⟨b f, 0, none⟩) C (cp f))).setCell ⟨gr, f, none⟩ (.slice (some ⟨b k, 0, none⟩) C (cp k))) gr cap R C (fun i => b (tau k f i)) (fun i => cp (tau k f i)) (fun i => M (tau k f i)) ∧
      Fr (fun x => x = gr) w ((w.setCell ⟨gr, k, none⟩ (.slice (some ⟨b f, 0, none⟩) C (cp f))).setCell ⟨gr, f, none⟩ (.slice (some ⟨b k, 0, none⟩) C (cp k)))) ∧
    (Sys ((w.setCell ⟨gr, f, none⟩ (.slice (some ⟨b k, 0, none⟩) C (cp k))).setCell ⟨gr, k, none⟩ (.slice (some ⟨b f, 0, none⟩) C (cp f))) gr cap R C (fun i => b (tau k f i)) (fun i => cp (tau k f i)) (fun i => M (tau k f i)) ∧
      Fr (fun x => x = gr) w ((w.setCell ⟨gr, f, none⟩ (.slice (some ⟨b k, 0, none⟩) C (cp k))).setCell ⟨gr, k, none⟩ (.slice (some ⟨b f, 0, none⟩) C (cp f)))) := by
  obtain ⟨a1, a2⟩ := h.tb.set hk (y := .slice (some ⟨b f, 0, none⟩) C (cp f)) (slne _ _ _)
  obtain ⟨a3, a4⟩ := a1.set hf (y := .slice (some ⟨b k, 0, none⟩) C (cp k)) (slne _ _ _)
  obtain ⟨c1, c2⟩ := h.tb.set hf (y := .slice (some ⟨b k, 0, none⟩) C (cp k)) (slne _ _ _)
  obtain ⟨c3, c4⟩ := c1.set hk (y := .slice (some ⟨b f, 0, none⟩) C (cp f)) (slne _ _ _)
  have ht : ∀ i, i < R → tau k f i < R := fun i hi => tau_lt hk hf hi
  have common : ∀ {w2 : World}, Fr (fun x => x = gr) w w2 → Tb w2 gr 124 cap R (fun i => .slice (some ⟨b (tau k f i), 0, none⟩) C (cp (tau k f i))) → Sys w2 gr cap R C (fun i => b (tau k f i)) (fun i => cp (tau k f i)) (fun i => M (tau k f i)) :=
    fun hfr htb => ⟨htb, fun i hi => (h.rows _ (ht i hi)).fr hfr (h.ne _ (ht i hi)), fun i hi => h.ne _ (ht i hi), fun i j hi hj e => tau_inj (h.inj _ _ (ht i hi) (ht j hj) e)⟩
  refine ⟨⟨common (a2.trans a4) (a3.congr fun j _ => ?_), a2.trans a4⟩, ⟨common (c2.trans c4) (c3.congr fun j _ => ?_), c2.trans c4⟩⟩
  · by_cases e1 : j = f
    · subst e1; rw [upd_at, tau_f]
    · rw [upd_ne e1]
      by_cases e2 : j = k
      · subst e2; rw [upd_at, tau_k]
      · rw [upd_ne e2]; show _ = Value.slice (some ⟨b (tau k f j), 0, none⟩) C (cp (tau k f j)); unfold tau; rw [if_neg e2, if_neg e1]
  · by_cases e2 : j = k
    · subst e2; rw [upd_at, tau_k]
    · rw [upd_ne e2]
      by_cases e1 : j = f
      · subst e1; rw [upd_at, tau_f]
      · rw [upd_ne e1]; show _ = Value.slice (some ⟨b (tau k f j), 0, none⟩) C (cp (tau k f j)); unfold tau; rw [if_neg e2, if_neg e1]
theorem info_int : (Try.prog.info? 3).map (fun i => (i.zero, i.size, i.bytes)) = some (some (.int .i64 0), 1, 8) := by kernel_rfl
/-- The table while the rows are gone over: rows ahead of m are done. -/
def mixM (M : Nat → Nat → Rat) (k f col m : Nat) : Nat → Nat → Rat := fun i j => if i = k ∨ i < m then elim M k f col i j else M (tau k f i) j
theorem mixM_end {M : Nat → Nat → Rat} {k f col R i j : Nat} (hi : i < R) : mixM M k f col R i j = elim M k f col i j := if_pos (Or.inr hi)
theorem mixM_skip {M : Nat → Nat → Rat} {k f col : Nat} (i j : Nat) : mixM M k f col k i j = mixM M k f col (k + 1) i j := by
  unfold mixM
  by_cases e : i = k
  · rw [if_pos (Or.inl e), if_pos (Or.inl e)]
  · by_cases h : i < k
    · rw [if_pos (Or.inr h), if_pos (Or.inr (by omega))]
    · rw [if_neg (fun h2 => h2.elim e h), if_neg (fun h2 => h2.elim e (by omega))]
theorem mixM_less {M : Nat → Nat → Rat} {k f col m : Nat} (hm : m ≠ k) (hz : ∀ j, j < col → M f j = 0) (i j : Nat) : upd (mixM M k f col m) m (lessR (mixM M k f col m) m k col) i j = mixM M k f col (m + 1) i j := by
  by_cases e : i = m
  · subst e
    rw [upd_at]
    have e1 : ∀ l, mixM M k f col i i l = M (tau k f i) l := fun l => if_neg (fun h => h.elim hm (by omega))
    have e2 : ∀ l, mixM M k f col i k l = M f l * (M f col)⁻¹ := fun l => by unfold mixM; rw [if_pos (Or.inl rfl), elim_at]
    unfold lessR
    rw [e1, e1, e2]
    unfold mixM
    rw [if_pos (Or.inr (by omega)), elim_else _ hm]
    by_cases h : j < col
    · rw [if_pos h, hz j h]; grind
    · rw [if_neg h]; grind
  · rw [upd_ne e]
    unfold mixM
    by_cases h : i = k ∨ i < m
    · rw [if_pos h, if_pos (h.elim Or.inl (fun h => Or.inr (by omega)))]
    · rw [if_neg h, if_neg (fun h2 => h (h2.elim Or.inl (fun h3 => Or.inr (by omega))))]
/-- The table while the step's row is scaled: its first m are done. -/
def sclM (M : Nat → Nat → Rat) (k f col m : Nat) : Nat → Nat → Rat := fun i j => if i = k ∧ j < m then M f j * (M f col)⁻¹ else M (tau k f i) j
theorem sclM_start {M : Nat → Nat → Rat} {k f col : Nat} (i j : Nat) : M (tau k f i) j = sclM M k f col 0 i j := (if_neg (fun h => by omega)).symm
theorem sclM_set {M : Nat → Nat → Rat} {k f col m : Nat} (i j : Nat) : upd (sclM M k f col m) k (upd (sclM M k f col m k) m (M f m * (M f col)⁻¹)) i j = sclM M k f col (m + 1) i j := by
  by_cases e : i = k
  · subst e
    rw [upd_at]
    by_cases h : j = m
    · subst h; rw [upd_at]; unfold sclM; rw [if_pos ⟨rfl, by omega⟩]
    · rw [upd_ne h]; unfold sclM
      by_cases h2 : j < m
      · rw [if_pos ⟨rfl, h2⟩, if_pos ⟨rfl, by omega⟩]
      · rw [if_neg (fun h3 => h2 h3.2), if_neg (fun h3 => by omega)]
  · rw [upd_ne e]; unfold sclM
    rw [if_neg (fun h => e h.1), if_neg (fun h => e h.1)]
theorem sclM_end {M : Nat → Nat → Rat} {k f col C : Nat} (i j : Nat) (hj : j < C) : sclM M k f col C i j = mixM M k f col 0 i j := by
  unfold sclM mixM
  by_cases e : i = k
  · subst e; rw [if_pos ⟨rfl, hj⟩, if_pos (Or.inl rfl), elim_at]
  · rw [if_neg (fun h => e h.1), if_neg (fun h => h.elim e (by omega))]

end Go.Proofs.Ytajckdheecgceaa
