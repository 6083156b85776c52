/- Texts of fractions: the reference's reading of a number. -/
import Derived.Test.YtdmgceckmciifaaPars
set_option linter.unusedVariables false
set_option linter.unusedSimpArgs false
namespace Go.Proofs.Ytdmgceckmciifaa
open Go.RowKit

theorem dig_rd (w : World) (x : Int) : RdI .u32 (w.alloc (.cells #[.int .u32 x] 38)) (.slice (some ⟨w.heap.size, 0, none⟩) 1 1) [x] :=
  ⟨_, 1, rfl, by simp, by omega, fun _ => ⟨_, rfl, fun j hj => by
    obtain rfl : j = 0 := by simpa using hj
    exact (Blk.new w 38 #[.int .u32 x]).cell 0⟩⟩
theorem u32_dig {x : Int} {d : Nat} (h : x = (d : Int)) (hd : d < 10) : Wd [x] ∧ nv [x] = d := by
  subst h
  have hw : Wd [(d : Int)] := by
    rw [Wd_cons]
    exact ⟨by omega, Wd_nil⟩
  exact ⟨hw, by simp [nv]⟩
theorem ten_nm2 (w : World) (o : Obj) : Nm ((w.alloc o).alloc (.cells #[.int .u32 10] 38)) (.slice (some ⟨w.heap.size + 1, 0, none⟩) 1 1) 10 := by
  have h := ten_nm (w.alloc o)
  rwa [show (w.alloc o).heap.size = w.heap.size + 1 by simp] at h
theorem dig_rd2 (w : World) (o : Obj) (x : Int) : RdI .u32 ((w.alloc o).alloc (.cells #[.int .u32 x] 38)) (.slice (some ⟨w.heap.size + 1, 0, none⟩) 1 1) [x] := by
  have h := dig_rd (w.alloc o) x
  rwa [show (w.alloc o).heap.size = w.heap.size + 1 by simp] at h
set_option maxRecDepth 100000 in
set_option maxHeartbeats 4000000 in
theorem rnumber_calls (w : World) (l : List UInt8) (hl : l.length ≤ 1000) : Calls Try.prog 94 #[.string ⟨l.toArray⟩] w (ReadPost l w) := by
  go_enter Try.func94, Try.ntmps94
  by_cases hA : l.length = 0
  · have hN := Lib.hid (show ¬ okn l from fun h => by have := h.1; omega)
    have g0 : ((l.length : Int) == 0) = true := by rw [hA]; rfl
    go_wp2
    go_ret2
    exact ReadPost.no hN.out (Below.refl _ _)
  · by_cases hB : 40 < l.length
    · have hN := Lib.hid (show ¬ okn l from fun h => by have := h.2.1; omega)
      have g0 : ((l.length : Int) == 0) = false := by simpa using hA
      have g1 : (40 : Int) < (l.length : Int) := by omega
      go_wp2
      go_ret2
      exact ReadPost.no hN.out (Below.refl _ _)
    · have g0 : ((l.length : Int) == 0) = false := by simpa using hA
      have g1 : (l.length : Int) ≤ 40 := by omega
      obtain ⟨b0, hb0⟩ : ∃ b, l[0]? = some b := ⟨_, List.getElem?_eq_getElem (by omega)⟩
      have x0 := byte_at hb0
      by_cases hC : 1 < l.length ∧ b0 = 48
      · obtain ⟨h1, rfl⟩ := hC
        have hN := Lib.hid (show ¬ okn l from fun h => h.2.2.1 ⟨h1, by rw [List.head?_eq_getElem?]; exact hb0⟩)
        have g2 : (1 : Int) < (l.length : Int) := by omega
        clear hb0
        go_wp2
        go_ret2
        exact ReadPost.no hN.out (Below.refl _ _)
      · have hok := Lib.hid (show (∀ b ∈ l, isd b) → okn l from fun h => ⟨by omega, by omega, fun h2 => hC ⟨h2.1, by have h3 := h2.2; rw [List.head?_eq_getElem?, hb0] at h3; simpa using h3⟩, h⟩)
        have hsp : (1 < (l.length : Int) ∧ ((b0.toNat : Int) == 48) = false) ∨ ¬ (1 < (l.length : Int)) := by
          by_cases h1 : 1 < l.length
          · refine Or.inl ⟨by omega, ?_⟩
            have : b0 ≠ 48 := fun h => hC ⟨h1, h⟩
            have h2 : b0.toNat ≠ 48 := fun h => this (UInt8.toNat_inj.1 (by rw [h]; rfl))
            rw [beq_eq_false_iff_ne]; omega
          · exact Or.inr (by omega)
        clear hb0 hC
        rcases hsp with ⟨g2, g3⟩ | g2
        all_goals
          go_wp2
          go_loopw [4, 5] (fun v i wr => ∃ k : Nat, k ≤ l.length ∧ i = .int .i64 (k : Int) ∧ Nm wr v (numv (l.take k)) ∧ Below w.heap.size w wr ∧ ∀ x ∈ l.take k, isd x) (fun _ i _ => l.length - (intOf i).toNat)
          case atStart => exact ⟨0, by omega, rfl, Nm.nil _, Below.refl _ _, by simp⟩
          case round =>
            obtain ⟨k, hk, rfl, hV, hB, hds⟩ := hrel
            by_cases hx : k < l.length
            · obtain ⟨b, hb⟩ : ∃ b, l[k]? = some b := ⟨_, List.getElem?_eq_getElem hx⟩
              have xk := byte_at hb
              by_cases hd : isd b
              · have g4 : decide ((b.toNat : Int) < 48) = false := decide_eq_false (by unfold isd at hd; omega)
                have g5 : decide ((b.toNat : Int) > 57) = false := decide_eq_false (by unfold isd at hd; omega)
                have q1 : (k : Int) < (l.length : Int) := by omega
                have HN := Lib.hid (numv_take hb)
                have HD := Lib.hid (take_isd hb hds hd)
                have HL := Lib.hid (numv_take_len (by omega) hds)
                have hb1 : 48 ≤ (b.toNat : Int) := by unfold isd at hd; omega
                have hb2 : (b.toNat : Int) ≤ 57 := by unfold isd at hd; omega
                have HV := Lib.hid hV
                have HB := Lib.hid hB
                have HX := Lib.hid (show IntKind.u32.wrap (IntKind.u8.wrap ((b.toNat : Int) - 48)) = ((b.toNat - 48 : Nat) : Int) by
                  rw [IntWalk.u8_in _ (by omega), IntWalk.u32_in _ (by omega)]; omega)
                have HX2 := Lib.hid (u32_dig HX.out (by omega))
                clear hb hds hd hV hB
                go_wp2_with fail
                go_region_law (first
                  | (go_simp; go_at_call 86; (with_reducible refine (rtimes_calls _ _ _ (numv (l.take k)) 10 ?_ ?_ (Nat.le_trans HL.out (by omega)) (by rw [dg_small (n := 10) (by omega) (by omega)]; simp)).mono ?_); (first | exact HV.out.below (bl_trans (below_alloc0 _ _) (bl_drew _)) | exact HV.out.below (bl_trans (bl_trans (below_alloc0 _ _) (below_alloc0 _ _)) (bl_drew _))); (first | exact (ten_nm wr).below (bl_drew _) | exact ((ten_nm wr).below (below_alloc0 _ _)).below (bl_drew _) | exact (ten_nm2 wr _).below (bl_drew _)); (rintro e w1 ⟨v1, rfl, hv1, hb1⟩))
                  | (go_simp; go_at_call 118; (with_reducible refine (rtrim _ _ [IntKind.u32.wrap (IntKind.u8.wrap ((b.toNat : Int) - 48))] ?_ HX2.out.1).mono ?_); (first | exact dig_rd _ _ | exact ((dig_rd2 wr _ _).below (bl_drew _)).below hb1 | exact (((dig_rd wr _).below (below_alloc0 _ _)).below (bl_drew _)).below hb1); (rintro e w2 ⟨v2, rfl, hv2, hb2⟩); (rw [HX2.out.2] at hv2); (first | have hv1' := (hv1.below (below_alloc0 _ _)).below hb2; have hb3 := bl_trans (bl_trans hb1 (below_alloc0 _ _)) hb2 | have hv1' := hv1.below hb2; have hb3 := bl_trans hb1 hb2))
                  | (go_simp; go_at_call 83; (with_reducible refine (rplus_calls _ _ _ (numv (l.take k) * 10) (b.toNat - 48) hv1' hv2 (mul10_len HL.out) (one_len (by omega))).mono ?_); (rintro e w3 ⟨v3, rfl, hv3, hb4⟩)))
                all_goals
                  have HV3 := Lib.hid hv3
                  have HB3 := Lib.hid (bl_trans hb3 hb4)
                  clear hv1 hv2 hv3 hv1' hb1 hb2 hb3 hb4
                  go_wp2
                  refine ⟨⟨k + 1, by omega, by go_num, by rw [HN.out]; exact HV3.out, ?_, HD.out⟩, by simp [intOf]; omega⟩
                  first
                    | exact bl_trans HB.out (bl_trans (bl_trans (below_alloc0 _ _) (bl_drew _)) HB3.out)
                    | exact bl_trans HB.out (bl_trans (bl_trans (bl_trans (below_alloc0 _ _) (below_alloc0 _ _)) (bl_drew _)) HB3.out)
              · have hN := Lib.hid (okn_no_digit hb hd)
                have HH := Lib.hid hB
                have hdc : (b.toNat : Int) < 48 ∨ (¬ (b.toNat : Int) < 48 ∧ (b.toNat : Int) > 57) := by unfold isd at hd; omega
                have q1 : (k : Int) < (l.length : Int) := by omega
                clear hb hds hd hV hB
                rcases hdc with g4 | ⟨g4, g5⟩
                · go_wp2
                  go_ret2
                  exact ReadPost.no hN.out HH.out
                · go_wp2
                  go_ret2
                  exact ReadPost.no hN.out HH.out
            · obtain rfl : k = l.length := by omega
              rw [List.take_length] at hV hds
              have HH := Lib.hid hB
              have HV := Lib.hid hV
              have HK := Lib.hid (hok.out hds)
              clear hV hB hds
              go_wp2
              go_ret2
              exact ReadPost.yes HK.out HV.out HH.out
end Go.Proofs.Ytdmgceckmciifaa
