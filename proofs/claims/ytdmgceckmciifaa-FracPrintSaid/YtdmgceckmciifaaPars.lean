/- Texts of fractions: the reading of a number. -/
import Derived.Test.YtdmgceckmciifaaPtx
set_option linter.unusedVariables false
set_option linter.unusedSimpArgs false
namespace Go.Proofs.Ytdmgceckmciifaa
open Go.RowKit

/-- What the reading of a number tells. -/
def ReadPost (l : List UInt8) (w : World) (e : Ending) (w' : World) : Prop := ∃ v, e = .returned (.tuple #[v, .bool (decide (okn l))]) ∧ Nm w' v (if okn l then numv l else 0) ∧ Below w.heap.size w w'
theorem ReadPost.no {l : List UInt8} {w w' : World} (h : ¬ okn l) (hb : Below w.heap.size w w') : ReadPost l w (.returned (.tuple #[.slice none 0 0, .bool false])) w' :=
  ⟨_, by rw [decide_eq_false h], by rw [if_neg h]; exact Nm.nil _, hb⟩
theorem ReadPost.yes {l : List UInt8} {w w' : World} {v : Value} (h : okn l) (hv : Nm w' v (numv l)) (hb : Below w.heap.size w w') : ReadPost l w (.returned (.tuple #[v, .bool true])) w' :=
  ⟨_, by rw [decide_eq_true h], by rw [if_pos h]; exact hv, hb⟩
theorem byte_at {l : List UInt8} {k : Nat} {b : UInt8} (h : l[k]? = some b) (hk : k < (⟨l.toArray⟩ : ByteArray).size) : (⟨l.toArray⟩ : ByteArray)[k]'hk = b := by
  have h1 := (List.getElem?_eq_some_iff.1 h)
  obtain ⟨h2, h3⟩ := h1
  show l.toArray[k]'_ = b
  simp [h3]
/-- What the loop of a reading holds on to. -/
def HoldN (w : World) (tv : Value) (n : Nat) (v : Value) (w' : World) : Prop := Below w.heap.size w w' ∧ Nm w' tv 10 ∧ Nm w' v n
theorem HoldN.next {w w1 w2 : World} {tv v : Value} {n : Nat} (hb : Below w1.heap.size w1 w2) (h : HoldN w tv n v w1) : HoldN w tv n v w2 := ⟨bl_trans h.1 hb, h.2.1.below hb, h.2.2.below hb⟩
theorem HoldN.bl {w w1 : World} {tv v : Value} {n : Nat} (h : HoldN w tv n v w1) : Below w.heap.size w w1 := h.1
theorem HoldN.ten {w w1 : World} {tv v : Value} {n : Nat} (h : HoldN w tv n v w1) : Nm w1 tv 10 := h.2.1
theorem HoldN.num {w w1 : World} {tv v : Value} {n : Nat} (h : HoldN w tv n v w1) : Nm w1 v n := h.2.2
theorem ten_nm (w : World) : Nm (w.alloc (.cells #[.int .u32 10] 38)) (.slice (some ⟨w.heap.size, 0, none⟩) 1 1) 10 := by
  have h : dg 10 = [10] := dg_small (by omega) (by omega)
  show RdI .u32 _ _ (dg 10)
  rw [h]
  exact ⟨_, 1, rfl, by simp, by omega, fun _ => ⟨_, rfl, fun j hj => by
    obtain rfl : j = 0 := by simpa using hj
    exact (Blk.new w 38 #[.int .u32 10]).cell 0⟩⟩
theorem take_isd {l : List UInt8} {k : Nat} {b : UInt8} (h : l[k]? = some b) (hd : ∀ x ∈ l.take k, isd x) (hb : isd b) : ∀ x ∈ l.take (k + 1), isd x := by
  intro x hx
  rw [List.take_add_one, h] at hx
  rcases List.mem_append.1 hx with hx | hx
  · exact hd x hx
  · have : x = b := by simpa using hx
    rw [this]; exact hb
theorem okn_no_digit {l : List UInt8} {k : Nat} {b : UInt8} (h : l[k]? = some b) (hb : ¬ isd b) : ¬ okn l := fun ho => hb (ho.2.2.2 b (List.mem_of_getElem? h))
theorem mul10_len {a : Nat} (h : (dg a).length ≤ 5) : (dg (a * 10)).length ≤ 1073741824 := by
  have h2 := dg_len.1 h
  have h3 : a * 10 < 4294967296 ^ 6 := by
    have : (4294967296 : Nat) ^ 6 = 4294967296 ^ 5 * 4294967296 := Nat.pow_succ ..
    omega
  exact Nat.le_trans (dg_len.2 h3) (by omega)
theorem one_len {a : Nat} (h : a < 4294967296) : (dg a).length ≤ 1073741824 := by
  have : (dg a).length ≤ 1 := dg_len.2 (by rw [Nat.pow_one]; exact h)
  omega
set_option maxRecDepth 100000 in
set_option maxHeartbeats 4000000 in
theorem read_calls (w : World) (l : List UInt8) (hl : l.length ≤ 1000) : Calls Try.prog 93 #[.string ⟨l.toArray⟩, .int .i64 40] w (ReadPost l w) := by
  go_enter Try.func93, Try.ntmps93
  by_cases hA : l.length = 0
  · have hN := Lib.hid (show ¬ okn l from fun h => by have := h.1; omega)
    have g0 : ((l.length : Int) == 0) = true := by rw [hA]; rfl
    go_wp2
    go_ret2
    exact ReadPost.no hN.out (Below.refl _ _)
  · by_cases hB : 40 < l.length
    · have hN := Lib.hid (show ¬ okn l from fun h => by have := h.2.1; omega)
      have g0 : ((l.length : Int) == 0) = false := by simpa using hA
      have g1 : (40 : Int) < (l.length : Int) := by omega
      go_wp2
      go_ret2
      exact ReadPost.no hN.out (Below.refl _ _)
    · have g0 : ((l.length : Int) == 0) = false := by simpa using hA
      have g1 : (l.length : Int) ≤ 40 := by omega
      obtain ⟨b0, hb0⟩ : ∃ b, l[0]? = some b := ⟨_, List.getElem?_eq_getElem (by omega)⟩
      have x0 := byte_at hb0
      by_cases hC : 1 < l.length ∧ b0 = 48
      · obtain ⟨h1, rfl⟩ := hC
        have hN := Lib.hid (show ¬ okn l from fun h => h.2.2.1 ⟨h1, by rw [List.head?_eq_getElem?]; exact hb0⟩)
        have g2 : (1 : Int) < (l.length : Int) := by omega
        clear hb0
        go_wp2
        go_ret2
        exact ReadPost.no hN.out (Below.refl _ _)
      · have hok := Lib.hid (show (∀ b ∈ l, isd b) → okn l from fun h => ⟨by omega, by omega, fun h2 => hC ⟨h2.1, by have h3 := h2.2; rw [List.head?_eq_getElem?, hb0] at h3; simpa using h3⟩, h⟩)
        have hsp : (1 < (l.length : Int) ∧ ((b0.toNat : Int) == 48) = false) ∨ ¬ (1 < (l.length : Int)) := by
          by_cases h1 : 1 < l.length
          · refine Or.inl ⟨by omega, ?_⟩
            have : b0 ≠ 48 := fun h => hC ⟨h1, h⟩
            have h2 : b0.toNat ≠ 48 := fun h => this (UInt8.toNat_inj.1 (by rw [h]; rfl))
            rw [beq_eq_false_iff_ne]; omega
          · exact Or.inr (by omega)
        clear hb0 hC
        have hbl0 := below_alloc0 w (.cells #[.int .u32 10] 38)
        have H0 := Lib.hid (show HoldN w (.slice (some ⟨w.heap.size, 0, none⟩) 1 1) 0 (.slice none 0 0) (w.alloc (.cells #[.int .u32 10] 38)) from ⟨hbl0, ten_nm w, Nm.nil _⟩)
        clear hbl0
        rcases hsp with ⟨g2, g3⟩ | g2
        all_goals
          go_wp2
          go_loopw [8, 6] (fun i v wr => ∃ k : Nat, k ≤ l.length ∧ i = .int .i64 (k : Int) ∧ HoldN w (.slice (some ⟨w.heap.size, 0, none⟩) 1 1) (numv (l.take k)) v wr ∧ ∀ x ∈ l.take k, isd x) (fun i _ _ => l.length - (intOf i).toNat)
          case atStart => exact ⟨0, by omega, rfl, H0.out, by simp⟩
          case round =>
            clear H0
            obtain ⟨k, hk, rfl, hH, hds⟩ := hrel
            by_cases hx : k < l.length
            · obtain ⟨b, hb⟩ : ∃ b, l[k]? = some b := ⟨_, List.getElem?_eq_getElem hx⟩
              have xk := byte_at hb
              by_cases hd : isd b
              · have g4 : decide ((b.toNat : Int) < 48) = false := decide_eq_false (by unfold isd at hd; omega)
                have g5 : decide ((b.toNat : Int) > 57) = false := decide_eq_false (by unfold isd at hd; omega)
                have q1 : (k : Int) < (l.length : Int) := by omega
                have HN := Lib.hid (numv_take hb)
                have HD := Lib.hid (take_isd hb hds hd)
                have HL := Lib.hid (numv_take_len (by omega) hds)
                clear hb hds
                go_wp2_with fail
                have hs := HoldN.next (bl_drew _) hH
                have hb1 : 48 ≤ (b.toNat : Int) := by unfold isd at hd; omega
                have hb2 : (b.toNat : Int) ≤ 57 := by unfold isd at hd; omega
                have i64 : Is64 (IntKind.u64.wrap (IntKind.u8.wrap ((b.toNat : Int) - 48))) (b.toNat - 48) := by
                  rw [IntWalk.u8_in _ (by omega)]
                  exact Is64.wrap ⟨by omega, by omega⟩
                go_region_held3 (fun w' => HoldN w (.slice (some ⟨w.heap.size, 0, none⟩) 1 1) (numv (l.take k)) u6 w')
                  ((first | exact hs | exact HoldN.next hbN (by assumption)))
                  (first
                    | (go_at_call 103; (with_reducible refine (mul_calls _ _ _ (numv (l.take k)) 10 ?_ ?_ (Nat.le_trans HL.out (by omega)) (by rw [dg_small (n := 10) (by omega) (by omega)]; simp)).mono ?_); (exact HoldN.num (by assumption)); (exact HoldN.ten (by assumption)); (rintro e w' ⟨v1, rfl, hv1, hbN⟩))
                    | (go_at_call 101; (with_reducible refine (of_any _ _ (b.toNat - 48) i64).mono ?_); (rintro e w' ⟨v2, rfl, hv2, hbN⟩); (have hv1' := Nm.below hv1 hbN))
                    | (go_at_call 78; (with_reducible refine (add_calls _ _ _ (numv (l.take k) * 10) (b.toNat - 48) hv1' hv2 (mul10_len HL.out) (one_len (by omega))).mono ?_); (rintro e w' ⟨v3, rfl, hv3, hbN⟩); (have HF := HoldN.next hbN (by assumption))))
                all_goals
                  have HV := Lib.hid hv3
                  have HFF := Lib.hid HF
                  clear hs hH hv1 hv2 hv1' hv3 HF
                  go_wp2
                  exact ⟨⟨k + 1, by omega, by go_num, ⟨HFF.out.1, HFF.out.2.1, by rw [HN.out]; exact HV.out⟩, HD.out⟩, by simp [intOf]; omega⟩
              · have hN := Lib.hid (okn_no_digit hb hd)
                have HH := Lib.hid hH
                have hdc : (b.toNat : Int) < 48 ∨ (¬ (b.toNat : Int) < 48 ∧ (b.toNat : Int) > 57) := by unfold isd at hd; omega
                have q1 : (k : Int) < (l.length : Int) := by omega
                clear hb hds hd hH
                rcases hdc with g4 | ⟨g4, g5⟩
                · go_wp2
                  go_ret2
                  exact ReadPost.no hN.out HH.out.bl
                · go_wp2
                  go_ret2
                  exact ReadPost.no hN.out HH.out.bl
            · obtain rfl : k = l.length := by omega
              rw [List.take_length] at hH hds
              have HH := Lib.hid hH
              have HK := Lib.hid (hok.out hds)
              clear hH hds
              go_wp2
              go_ret2
              exact ReadPost.yes HK.out HH.out.num HH.out.bl
end Go.Proofs.Ytdmgceckmciifaa
