/- The reference: wide, one, Zero. -/
import Derived.Test.YtdmgceckmciifaaRef3
set_option linter.unusedVariables false
set_option linter.unusedSimpArgs false
namespace Go.Proofs.Ytdmgceckmciifaa
open Go.RowKit

theorem rwide_calls (w : World) (n : Int) (m : Nat) (h : Is64 n m) : Calls Try.prog 105 #[.int .u64 n] w (NmPost m w) := by
  obtain ⟨rfl, hm⟩ := h
  have hw : Wd [(m : Int) % 4294967296, (m : Int) / 4294967296] := by
    rw [Wd_cons, Wd_cons]
    exact ⟨by omega, by omega, Wd_nil⟩
  have hv : nv [(m : Int) % 4294967296, (m : Int) / 4294967296] = m := by
    simp only [nv]; omega
  have am := and_mask (m : Int) (by omega) (by omega)
  have HV := Lib.hid hv
  clear hv
  go_enter Try.func105, Try.ntmps105
  go_wp2_with fail
  have ho := Ow.made w [(m : Int) % 4294967296, (m : Int) / 4294967296]
  have hrd := ho.rd 2 2 (by simp) (by omega) (by omega)
  refine (rtrim _ _ _ hrd hw).mono ?_
  rintro e w' ⟨v, rfl, hv', hb'⟩
  rw [show ([(m : Int) % 4294967296, (m : Int) / 4294967296].take 2) = [(m : Int) % 4294967296, (m : Int) / 4294967296] from rfl, HV.out] at hv'
  go_wp2
  go_ret
  exact ⟨_, rfl, hv', bl_trans (below_alloc0 _ _) hb'⟩
end Go.Proofs.Ytdmgceckmciifaa
