/- Texts of fractions: the reference's digits. -/
import Derived.Test.YtdmgceckmciifaaPars
set_option linter.unusedVariables false
set_option linter.unusedSimpArgs false
namespace Go.Proofs.Ytdmgceckmciifaa
open Go.RowKit

/-- How long a text is. -/
def strLen : Value → Nat
  | .string s => s.size
  | _ => 0
/-- One part in digits, so far: behind other parts all nine, else up to the first that is not 0. -/
def partAt (q r k : Nat) (p : List UInt8) : Prop := if q = 0 then decd r = decd (r / 10 ^ k) ++ p else p = padd k r
theorem partAt_zero (q r : Nat) : partAt q r 0 [] := by unfold partAt; split <;> simp [padd]
theorem partAt_succ {q r k : Nat} {p : List UInt8} (h : partAt q r k p) (hr : q = 0 → r / 10 ^ k ≠ 0) : partAt q r (k + 1) (UInt8.ofNat (48 + r / 10 ^ k % 10) :: p) := by
  unfold partAt at h ⊢
  split at h
  · rename_i hq
    rw [if_pos hq, h, decd_pos (hr hq), Nat.pow_succ, Nat.div_div_eq_div_mul]
    simp
  · rename_i hq
    rw [if_neg hq, h, padd_cons]
theorem partAt_len {q r k : Nat} {p : List UInt8} (h : partAt q r k p) (hk : k ≤ 9) (hr : r < 1000000000) : p.length ≤ 9 := by
  unfold partAt at h
  split at h
  · have h1 := (padd_small 9 r (by omega)).1
    have := congrArg List.length h
    simp at this
    omega
  · rw [h, padd_len]; exact hk
theorem part_done {m q r : Nat} {k : Nat} {p : List UInt8} (hq : q = m / 1000000000) (hr : r = m % 1000000000) (h : partAt q r k p) (hk : q ≠ 0 → k = 9) (hz : q = 0 → r / 10 ^ k = 0) : decd m = decd q ++ p := by
  unfold partAt at h
  split at h
  · rename_i h0
    have := hz h0
    rw [this, decd_zero] at h
    rw [h0, decd_zero, show m = r by omega, h]
  · rename_i h0
    rw [h, hk h0]
    have h2 := decd_pad 9 m (by rw [show (10 : Nat) ^ 9 = 1000000000 by decide, ← hq]; exact h0)
    rw [show (10 : Nat) ^ 9 = 1000000000 by decide, ← hq] at h2
    rw [h2, hr]
    have := padd_mod 9 m
    rw [show (10 : Nat) ^ 9 = 1000000000 by decide] at this
    rw [this]
theorem part_ne {q r k : Nat} {p : List UInt8} (h : partAt q r k p) (hm : q ≠ 0 ∨ r ≠ 0) (hk : q ≠ 0 → k = 9) (hz : q = 0 → r / 10 ^ k = 0) : p ≠ [] := by
  intro hp
  unfold partAt at h
  split at h
  · rename_i h0
    rw [hz h0, decd_zero, hp] at h
    rcases hm with h1 | h1
    · exact h1 h0
    · exact decd_ne h1 (by rw [h]; rfl)
  · rename_i h0
    have := congrArg List.length h
    rw [hk h0, padd_len, hp] at this
    simp at this
theorem digit_word {x : Nat} : (UInt8.ofNat (48 + x % 10)).toNat = 48 + x % 10 := by rw [UInt8.toNat_ofNat']; omega
theorem cat2 (p o : List UInt8) : (⟨p.toArray⟩ ++ ⟨o.toArray⟩ : ByteArray) = ⟨(p ++ o).toArray⟩ := by
  apply ByteArray.ext
  rw [ByteArray.data_append]
  simp
theorem cat1 (b : UInt8) (o : List UInt8) : (⟨#[b]⟩ ++ ⟨o.toArray⟩ : ByteArray) = ⟨(b :: o).toArray⟩ := cat2 [b] o
theorem str_less {x y : List UInt8} {p out : List UInt8} (hp : p ≠ []) (h : x = y ++ (p ++ out)) : x.length - strLen (.string (⟨p.toArray⟩ ++ ⟨out.toArray⟩)) < x.length - strLen (.string ⟨out.toArray⟩) := by
  rw [cat2]
  show x.length - (p ++ out).length < x.length - out.length
  have h1 := congrArg List.length h
  have h2 : p.length ≠ 0 := fun h => hp (List.length_eq_zero_iff.1 h)
  simp at h1 ⊢
  omega
theorem conv1 (w : World) (b : UInt8) (z : Int) (hz : z = (b.toNat : Int)) : (convert 121 9 (.slice (some ⟨w.heap.size, 0, none⟩) 1 1)).run Try.prog (w.alloc (.cells #[.int .u8 z] 5)) = .ok (.string ⟨#[b]⟩) (w.alloc (.cells #[.int .u8 z] 5)) :=
  run_convert_bytes_back (P := Try.prog) (w.alloc (.cells #[.int .u8 z] 5)) 121 9 5 ⟨w.heap.size, 0, none⟩ 1 [b] Try.underlying121 Try.underlying5 Try.underlying9 (fun j hj => by
    obtain rfl : j = 0 := by simpa using hj
    have := (Blk.new w 5 #[.int .u8 z]).cell 0
    rw [List.getElem_cons_zero, ← hz]
    exact this)
set_option maxRecDepth 100000 in
set_option maxHeartbeats 4000000 in
theorem rdigits_calls (w : World) (va : Value) (n : Nat) (ha : Nm w va n) (hs : (dg n).length ≤ 4096) : Calls Try.prog 90 #[va] w fun e w' => e = .returned (.string ⟨(decs n).toArray⟩) ∧ Below w.heap.size w w' := by
  have ha0 := ha
  obtain ⟨A, c, rfl, hl, hc, hr⟩ := ha
  go_enter Try.func90, Try.ntmps90
  by_cases h0 : n = 0
  · subst h0
    clear ha0 hr
    rw [dg_zero] at hl ⊢
    have hD := Lib.hid (show decs 0 = [48] from rfl)
    go_wp2
    go_ret
    exact ⟨rfl, Below.refl _ _⟩
  · have hp : 0 < (dg n).length := Nat.pos_of_ne_zero (fun h => h0 (dg_len_zero.1 h))
    have g0 : (((dg n).length : Int) == 0) = false := beq_eq_false_iff_ne.2 (by omega)
    have hdl := decs_len hs
    have hD := Lib.hid (show decs n = decd n by simp [decs, h0])
    rw [hD.out] at hdl
    have HA0 := Lib.hid ha0
    clear ha0 hr
    go_wp2
    go_loopw [0, 3] (fun a o wr => ∃ (m : Nat) (out : List UInt8), m ≤ n ∧ Nm wr a m ∧ o = .string ⟨out.toArray⟩ ∧ decd n = decd m ++ out ∧ Below w.heap.size w wr)
      (fun _ o _ => (decd n).length - strLen o)
    case atStart => exact ⟨n, [], Nat.le_refl _, HA0.out, rfl, by simp, Below.refl _ _⟩
    case round =>
      clear HA0
      obtain ⟨m, out, hmn, hm, rfl, hdn, hbl⟩ := hrel
      have hm0 := hm
      obtain ⟨A1, c1, rfl, hl1, hc1, hr1⟩ := hm
      have HN := Lib.hid hdn
      have HBL := Lib.hid hbl
      have HM := Lib.hid hm0
      have hol : out.length ≤ 131072 := by
        have := congrArg List.length hdn
        simp at this
        omega
      by_cases hz : m = 0
      · subst hz
        rw [dg_zero] at hl1
        rw [dg_zero]
        clear hm0 hr1 hdn hbl
        go_wp2
        go_ret
        exact ⟨by rw [hD.out, HN.out, decd_zero]; rfl, HBL.out⟩
      · have hpm : 0 < (dg m).length := Nat.pos_of_ne_zero (fun h => hz (dg_len_zero.1 h))
        have hlm := dg_len_mono hmn
        have sm : (dg m).length ≤ 1073741824 := by omega
        clear hm0 hr1 hdn hbl
        go_wp2_with fail
        refine (rhalves_calls _ _ m 1000000000 1000000000 rfl HM.out (by omega) (by omega) sm).mono ?_
        rintro e w2 ⟨v, rfl, hv, hb2⟩
        obtain ⟨q, hq⟩ : ∃ q, q = m / 1000000000 := ⟨_, rfl⟩
        obtain ⟨r, hr⟩ : ∃ r, r = m % 1000000000 := ⟨_, rfl⟩
        rw [← hq] at hv
        rw [← hr]
        have hr9 : r < 1000000000 := by rw [hr]; exact Nat.mod_lt _ (by omega)
        have HQ := Lib.hid hq
        have HR := Lib.hid hr
        have hv0 := hv
        obtain ⟨A2, c2, rfl, hl2, hc2, hr2⟩ := hv
        have HV := Lib.hid hv0
        have HB2 := Lib.hid (bl_trans HBL.out hb2)
        have hqm : q ≤ m := by rw [hq]; exact Nat.div_le_self _ _
        have hlq := dg_len_mono hqm
        clear hv0 hr2 hb2 HBL HM hq hr
        go_wp2
        go_loopw [5, 6, 7] (fun rv pv kv wx => ∃ (k : Nat) (p : List UInt8), k ≤ 9 ∧ rv = .int .u32 ((r / 10 ^ k : Nat) : Int) ∧ pv = .string ⟨p.toArray⟩ ∧ kv = .int .i64 (k : Int) ∧ partAt q r k p ∧ Below w2.heap.size w2 wx)
          (fun _ _ kv _ => 9 - (intOf kv).toNat)
        case atStart => exact ⟨0, [], by omega, by simp, rfl, rfl, partAt_zero _ _, Below.refl _ _⟩
        case round =>
          obtain ⟨k, p, hk, rfl, rfl, rfl, hpa, hbx⟩ := hrel
          obtain ⟨x, hx⟩ : ∃ x, x = r / 10 ^ k := ⟨_, rfl⟩
          rw [← hx]
          have hxr : x ≤ r := by rw [hx]; exact Nat.div_le_self _ _
          have HX := Lib.hid hx
          have HPA := Lib.hid hpa
          have HBX := Lib.hid hbx
          have hpl := partAt_len hpa hk hr9
          clear hx hpa hbx
          by_cases hgo : k < 9 ∧ (x ≠ 0 ∨ q ≠ 0)
          · obtain ⟨h9, hgo⟩ := hgo
            have g9 : (k : Int) < 9 := by omega
            obtain ⟨b, hb⟩ : ∃ b, b = UInt8.ofNat (48 + x % 10) := ⟨_, rfl⟩
            have HNX := Lib.hid (show r / 10 ^ (k + 1) = x / 10 by rw [HX.out, Nat.pow_succ, Nat.div_div_eq_div_mul])
            have HPN := Lib.hid (show (q = 0 → x ≠ 0) → partAt q r (k + 1) (b :: p) by rw [hb, HX.out]; exact partAt_succ HPA.out)
            rcases Nat.eq_zero_or_pos x with h0 | h0
            · have gx : ¬ (0 < (x : Int)) := by omega
              have gq : 0 < (dg q).length := by
                rcases hgo with h | h
                · exact absurd h0 h
                · exact Nat.pos_of_ne_zero (fun h1 => h (dg_len_zero.1 h1))
              have hcv := conv1 wr b 48 (by rw [hb, digit_word, h0]; rfl)
              have HQ0 := Lib.hid (show q ≠ 0 from fun h => by rw [h, dg_zero] at gq; simp at gq)
              clear hb hgo
              go_wp2
              exact ⟨⟨k + 1, b :: p, by omega, by rw [HNX.out, h0]; rfl, by rw [cat1], by go_num, HPN.out (fun h => absurd h HQ0.out), bl_trans HBX.out (below_alloc0 _ _)⟩, by simp [intOf]; omega⟩
            · have gx : (0 < (x : Int)) := by omega
              have hcv := conv1 wr b ((48 : Int) + (x : Int) % 10) (by rw [hb, digit_word]; simp)
              clear hb hgo
              go_wp2
              exact ⟨⟨k + 1, b :: p, by omega, by rw [HNX.out]; rfl, by rw [cat1], by go_num, HPN.out (fun _ h => by omega), bl_trans HBX.out (below_alloc0 _ _)⟩, by simp [intOf]; omega⟩
          · have h1 : q ≠ 0 → k = 9 := fun h => Nat.le_antisymm hk (Nat.le_of_not_lt fun h9 => hgo ⟨h9, Or.inr h⟩)
            have h2 : q = 0 → r / 10 ^ k = 0 := fun h => by
              rw [← HX.out]
              by_cases h9 : k < 9
              · exact Classical.byContradiction fun h3 => hgo ⟨h9, Or.inl h3⟩
              · obtain rfl : k = 9 := by omega
                rw [HX.out]
                exact Nat.div_eq_of_lt hr9
            have HD2 := Lib.hid (part_done HQ.out HR.out HPA.out h1 h2)
            have HNE := Lib.hid (part_ne HPA.out (by
              rcases Nat.eq_zero_or_pos q with h | h
              · right; have := HQ.out; have := HR.out; omega
              · left; omega) h1 h2)
            have HFIN := Lib.hid (show decd n = decd q ++ (p ++ out) by rw [HN.out, HD2.out, List.append_assoc])
            have hcase : ¬ (k : Int) < 9 ∨ ((k : Int) < 9 ∧ x = 0 ∧ q = 0) := by
              by_cases h9 : k < 9
              · refine Or.inr ⟨by omega, ?_, ?_⟩
                · exact Classical.byContradiction fun h3 => hgo ⟨h9, Or.inl h3⟩
                · exact Classical.byContradiction fun h3 => hgo ⟨h9, Or.inr h3⟩
              · exact Or.inl (by omega)
            clear h1 h2 hgo
            rcases hcase with g9 | ⟨g9, hx0, hq0⟩
            · go_wp2
              exact ⟨⟨q, p ++ out, Nat.le_trans hqm hmn, HV.out.below HBX.out, by rw [cat2], HFIN.out, bl_trans HB2.out HBX.out⟩, str_less HNE.out HFIN.out⟩
            · subst hx0
              have gq : ¬ (0 < (dg q).length) := by rw [hq0, dg_zero]; simp
              have gx : ¬ (0 < ((0 : Nat) : Int)) := by omega
              clear hq0
              go_wp2
              exact ⟨⟨q, p ++ out, Nat.le_trans hqm hmn, HV.out.below HBX.out, by rw [cat2], HFIN.out, bl_trans HB2.out HBX.out⟩, str_less HNE.out HFIN.out⟩
end Go.Proofs.Ytdmgceckmciifaa
