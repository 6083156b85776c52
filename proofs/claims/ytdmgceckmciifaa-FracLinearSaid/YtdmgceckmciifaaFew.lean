/- few: how many words fractions of a list have. -/
import Derived.Test.YtdmgceckmciifaaFloor
set_option linter.unusedVariables false
set_option linter.unusedSimpArgs false
namespace Go.Proofs.Ytdmgceckmciifaa
open Go.RowKit

theorem few_calls (w : World) (k : Int) (ad : Addr) (n c : Nat) (L : Nat → Nat × Nat) (hn : n ≤ c) (hc : c ≤ 9223372036854775807)
    (hcell : ∀ i, i < n → ∃ A1 c1 A2 c2, w.cell? ⟨(ad.add (i * 3)).block, (ad.add (i * 3)).off + 1, none⟩ = some (.slice A1 (L i).1 c1) ∧ w.cell? ⟨(ad.add (i * 3)).block, (ad.add (i * 3)).off + 2, none⟩ = some (.slice A2 (L i).2 c2)) :
    Calls Try.prog 17 #[.int .i64 k, .slice (some ad) n c] w fun e w' => e = .returned (.bool (decide (∀ i, i < n → ((L i).1 : Int) ≤ k ∧ ((L i).2 : Int) ≤ k))) ∧ Below w.heap.size w w' := by
  go_enter Try.func17, Try.ntmps17
  go_wp2
  go_loop [5] (fun s => ∃ i : Nat, i ≤ n ∧ s = .int .i64 i ∧ ∀ j, j < i → ((L j).1 : Int) ≤ k ∧ ((L j).2 : Int) ≤ k) (fun s => n - (intOf s).toNat)
  case atStart => exact ⟨0, by omega, rfl, fun j h => by omega⟩
  case round =>
    obtain ⟨i, hi, rfl, ho⟩ := hrel
    have HO := Lib.hid ho
    clear ho
    by_cases h0 : i < n
    · obtain ⟨A1, c1, A2, c2, e1, e2⟩ := hcell i h0
      by_cases h1 : ((L i).1 : Int) ≤ k
      · have g1 : decide (k < ((L i).1 : Int)) = false := decide_eq_false (by omega)
        by_cases h2 : ((L i).2 : Int) ≤ k
        · have g2 : decide (k < ((L i).2 : Int)) = false := decide_eq_false (by omega)
          go_wp2
          exact ⟨⟨i + 1, by omega, by simp, fun j hj => by
            rcases Nat.lt_or_ge j i with h | h
            · exact HO.out j h
            · obtain rfl : j = i := by omega
              exact ⟨h1, h2⟩⟩, by simp [intOf]; omega⟩
        · have g2 : decide (k < ((L i).2 : Int)) = true := decide_eq_true (by omega)
          have hR := Lib.hid (show decide (∀ i, i < n → ((L i).1 : Int) ≤ k ∧ ((L i).2 : Int) ≤ k) = false from decide_eq_false (fun h => h2 (h i h0).2))
          go_wp2
          go_ret
          exact ⟨by rw [hR.out]; rfl, Below.refl _ _⟩
      · have g1 : decide (k < ((L i).1 : Int)) = true := decide_eq_true (by omega)
        have hR := Lib.hid (show decide (∀ i, i < n → ((L i).1 : Int) ≤ k ∧ ((L i).2 : Int) ≤ k) = false from decide_eq_false (fun h => h1 (h i h0).1))
        clear e2
        go_wp2
        go_ret
        exact ⟨by rw [hR.out]; rfl, Below.refl _ _⟩
    · have hR := Lib.hid (show decide (∀ i, i < n → ((L i).1 : Int) ≤ k ∧ ((L i).2 : Int) ≤ k) = true from decide_eq_true (fun j hj => HO.out j (by omega)))
      obtain rfl : i = n := by omega
      clear hcell h0
      go_wp2
      go_ret
      exact ⟨by rw [hR.out]; rfl, Below.refl _ _⟩
end Go.Proofs.Ytdmgceckmciifaa
