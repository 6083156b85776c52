/- The reference: small. -/
import Derived.Test.YtdmgceckmciifaaRef4
set_option linter.unusedVariables false
set_option linter.unusedSimpArgs false
namespace Go.Proofs.Ytdmgceckmciifaa
open Go.RowKit

theorem rsmall_calls (w : World) (va : Value) (a : Nat) (ha : Nm w va a) (h2 : (dg a).length ≤ 2) :
    Calls Try.prog 107 #[va] w fun e w' => e = .returned (.int .u64 (a : Int)) ∧ Below w.heap.size w w' := by
  obtain ⟨A, c, rfl, hl, hc, hr⟩ := ha
  go_enter Try.func107, Try.ntmps107
  go_wp2
  go_loopw [3, 4] (fun s i wr => ∃ k : Nat, k ≤ (dg a).length ∧ s = .int .u64 ((nv ((dg a).drop k) : Nat) : Int) ∧ i = .int .i64 ((k : Int) - 1) ∧ Below w.heap.size w wr)
    (fun _ i _ => (intOf i + 1).toNat)
  case atStart => exact ⟨(dg a).length, Nat.le_refl _, by rw [nv_drop_all _ (Nat.le_refl _)]; rfl, by go_num, Below.refl _ _⟩
  case round =>
    obtain ⟨k, hk, rfl, rfl, hb⟩ := hrel
    by_cases h0 : 0 < k
    · obtain ⟨j, rfl⟩ : ∃ j, k = j + 1 := ⟨k - 1, by omega⟩
      obtain ⟨ad, rfl, hcell⟩ := hr (by omega)
      have e1 := cell_below hb (hcell j (by omega))
      have r := wat_range (Wd_dg a) j
      have ra := r.1
      have rb := r.2
      have hx : nv ((dg a).drop (j + 1)) < 4294967296 := by
        have h := nv_lt (Wd_drop (Wd_dg a) (j + 1))
        have h3 : ((dg a).drop (j + 1)).length ≤ 1 := by rw [List.length_drop]; omega
        have h4 := Nat.pow_le_pow_right (show 0 < 4294967296 by omega) h3
        rw [Nat.pow_one] at h4
        omega
      have hst := nv_drop_wat (l := dg a) (k := j) (by omega)
      obtain ⟨x, hxx⟩ : ∃ x, x = nv ((dg a).drop (j + 1)) := ⟨_, rfl⟩
      rw [← hxx] at hx hst ⊢
      have ho := or_shl64 (x : Int) (wat (dg a) j) (by omega) (by omega) ra rb
      have HS := Lib.hid hst
      clear hst hxx hcell hr r
      go_wp2
      exact ⟨⟨j, by omega, by rw [HS.out]; go_num, by go_num, hb⟩, by simp [intOf]⟩
    · obtain rfl : k = 0 := by omega
      have e : nv ((dg a).drop 0) = a := by rw [List.drop_zero, nv_dg]
      rw [e]
      clear hr
      go_wp2
      go_ret
      exact ⟨rfl, hb⟩
end Go.Proofs.Ytdmgceckmciifaa
