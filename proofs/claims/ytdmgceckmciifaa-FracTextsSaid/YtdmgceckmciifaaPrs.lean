/- Texts of fractions: Parse. -/
import Derived.Test.YtdmgceckmciifaaRpr
import Derived.Test.YtdmgceckmciifaaShelf
set_option linter.unusedVariables false
set_option linter.unusedSimpArgs false
namespace Go.Proofs.Ytdmgceckmciifaa
open Go.RowKit

theorem prefix_minus (l : List UInt8) : Lib.hasPrefix l [45] = decide (l.head? = some 45) ∧ Lib.trimPrefix l [45] = (if decide (l.head? = some 45) = true then l.tail else l) := by
  have h : Lib.hasPrefix l [45] = decide (l.head? = some 45) := by
    unfold Lib.hasPrefix
    cases l with
    | nil => rfl
    | cons x t =>
      by_cases hx : x = 45
      · subst hx; simp [List.isPrefixOf]
      · have : (45 : UInt8) ≠ x := fun h => hx h.symm
        simp [List.isPrefixOf, hx, this]
  refine ⟨h, ?_⟩
  unfold Lib.trimPrefix
  rw [h]
  simp
theorem index_slash (t : List UInt8) : Lib.indexByte t 47 = if (abv t).length < t.length then ((abv t).length : Int) else -1 := by
  induction t with
  | nil => rfl
  | cons x t ih =>
    unfold Lib.indexByte
    by_cases hx : x = 47
    · subst hx; simp [abv]
    · have h1 : (x == 47) = false := by simpa using hx
      have h2 : abv (x :: t) = x :: abv t := by
        unfold abv
        rw [List.takeWhile_cons, if_pos (by simpa using hx)]
      rw [h1, h2, ih]
      simp only [List.length_cons, Nat.add_lt_add_iff_right, Bool.false_eq_true, if_false]
      by_cases h : (abv t).length < t.length
      · have : (((abv t).length : Int) == -1) = false := beq_eq_false_iff_ne.2 (by omega)
        rw [if_pos h, if_pos h, this]
        simp
      · rw [if_neg h, if_neg h]
        simp
theorem cutprefix_calls (w : World) (l : List UInt8) : Calls Try.prog 91 #[.string ⟨l.toArray⟩, .string ⟨#[45]⟩] w fun e w' => e = .returned (.tuple #[.string ⟨(if decide (l.head? = some 45) = true then l.tail else l).toArray⟩, .bool (decide (l.head? = some 45))]) ∧ w' = w := by
  refine (cutprefix_lib _ _ _).mono ?_
  rintro e w' ⟨rfl, rfl⟩
  obtain ⟨h1, h2⟩ := prefix_minus l
  refine ⟨?_, rfl⟩
  show Ending.returned (.tuple #[.string ⟨(Lib.trimPrefix l [45]).toArray⟩, .bool (Lib.hasPrefix l [45])]) = _
  rw [h1, h2]
theorem abv_take (t : List UInt8) : abv t = t.take (abv t).length := by
  unfold abv
  induction t with
  | nil => rfl
  | cons x t ih =>
    rw [List.takeWhile_cons]
    split
    · rw [List.length_cons, List.take_succ_cons, ← ih]
    · rfl
theorem str_take (t : List UInt8) (k : Nat) : (⟨t.toArray⟩ : ByteArray).extract 0 k = ⟨(t.take k).toArray⟩ := by
  apply ByteArray.ext
  rw [ByteArray.data_extract]
  simp
theorem str_drop (t : List UInt8) (k : Nat) : (⟨t.toArray⟩ : ByteArray).extract k t.length = ⟨(t.drop k).toArray⟩ := by
  apply ByteArray.ext
  rw [ByteArray.data_extract]
  apply Array.ext'
  simp
  exact List.take_of_length_le (by simp)
/-- What is cut at the first '/'. -/
def CutPost (t : List UInt8) (w : World) (e : Ending) (w' : World) : Prop := ∃ (b : List UInt8) (s : Bool), e = .returned (.tuple #[.string ⟨(abv t).toArray⟩, .string ⟨b.toArray⟩, .bool s]) ∧ s = decide ((abv t).length < t.length) ∧ (s = true → b = t.drop ((abv t).length + 1)) ∧ Below w.heap.size w w'
set_option maxRecDepth 100000 in
theorem lcut_calls (w : World) (t : List UInt8) (ht : t.length ≤ 1000) : Calls Try.prog 122 #[.string ⟨t.toArray⟩, .string ⟨#[47]⟩] w (CutPost t w) := by
  have hidx := index_slash t
  have hsp := abv_split t
  go_enter Try.func122, Try.ntmps122
  by_cases h : (abv t).length < t.length
  · rw [if_pos h] at hidx
    have hi2 : Lib.indexByte ((⟨t.toArray⟩ : ByteArray).data.toList) 47 = ((abv t).length : Int) := hidx
    have HG := Lib.hid h
    obtain ⟨k, hk⟩ : ∃ k, k = (abv t).length := ⟨_, rfl⟩
    rw [← hk] at hi2 h
    have HK := Lib.hid hk
    have q1 : (k : Int) ≤ (t.length : Int) := by omega
    have q2 : (k : Int) + 1 ≤ (t.length : Int) := by omega
    clear hk hidx hsp
    go_wp2_with (first | (go_at_call 128; refine (index_one_lib _ 47 _).mono ?_; rintro e w' ⟨rfl, rfl⟩; rw [hi2]))
    go_quiet (fail)
    go_wp2
    go_ret3
    have e1 := str_take t k
    have e2 := str_drop t (k + 1)
    exact ⟨t.drop (k + 1), true, by rw [← e2, abv_take t, ← HK.out, ← e1]; rfl, (decide_eq_true HG.out).symm, fun _ => by rw [HK.out], bl_drewN _ _⟩
  · rw [if_neg h] at hidx
    have HG := Lib.hid h
    have hi2 : Lib.indexByte ((⟨t.toArray⟩ : ByteArray).data.toList) 47 = -1 := hidx
    have HS := Lib.hid (hsp.2.1 h)
    clear hidx hsp h
    go_wp2_with (first | (go_at_call 128; refine (index_one_lib _ 47 _).mono ?_; rintro e w' ⟨rfl, rfl⟩; rw [hi2]) | go_in)
    go_ret3
    exact ⟨[], false, by rw [← HS.out]; rfl, (decide_eq_false HG.out).symm, fun h => (by cases h), Below.refl _ _⟩
theorem cut_calls (w : World) (t : List UInt8) (ht : t.length ≤ 1000) : Calls Try.prog 92 #[.string ⟨t.toArray⟩, .string ⟨#[47]⟩] w (CutPost t w) := by
  go_enter Try.func92, Try.ntmps92
  go_wp2_with fail
  refine (lcut_calls _ _ ht).mono ?_
  rintro e w' ⟨b, s, rfl, h1, h2, hb⟩
  have HB := Lib.hid hb
  have H1 := Lib.hid h1
  have H2 := Lib.hid h2
  clear hb h1 h2
  go_wp2
  go_ret3
  exact ⟨b, s, rfl, H1.out, H2.out, HB.out⟩
end Go.Proofs.Ytdmgceckmciifaa
