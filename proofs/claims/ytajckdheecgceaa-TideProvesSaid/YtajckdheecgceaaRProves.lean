/- TideProves returns true for every input: whatever prices and plan are handed in are judged as the definition says, and where they prove it, no other plan whatever is worth more, as the statement says. No condition. -/
import Derived.Test.YtajckdheecgceaaTd49
set_option linter.unusedVariables false
set_option linter.unusedSimpArgs false
namespace Go.Proofs.Ytajckdheecgceaa
open Go.ChangeShapes Go.WideShapes Go.ChangeAt Go.RowKit Go.Joins

set_option maxRecDepth 100000 in
/-- Numbers that are handed in. -/
theorem il_of_arg {H : Type} {enc : TypeId × Value → H} {W : World} {v : Value} {d : DataW H} {p : List MemPlace}
    (hv : Value.okWide Try.prog W .any 0 28 v) (h : DataW.Trod enc Try.prog W 0 (fun _ => true) true 28 v d p) : ∃ l, IL W v l := by
  obtain ⟨a, l, c, rfl⟩ := okWide_slice Try.underlying28 hv
  obtain ⟨fuel, hf⟩ := h
  exact il_of_trod (by simpa [Value.cells] using hf)
set_option maxRecDepth 100000 in
theorem proves_lifted (os : Os) (started : os.Started) (H : Type) (enc : TypeId × Value → H) :
    ReturnsInHanded {} Try.checked os 8 .any (Rows.tideProvesSpec.pre6 enc Try.prog Try.f8 Rows.tideProvesRow.domain false) (Rows.tideProvesSpec.post enc Try.prog Try.f8 false true false false) := by
  refine returnsInHanded_of_change_sized (C := Try.checked) tide_own started (by kernel_rfl) Try.func8
    (ChangeSpec.witness6 (enc := enc) (C := Try.checked) false ⟨#[], #[.agg #[.int .i64 0, .int .i64 0, .slice none 0 0], .agg #[.slice none 0 0, .slice none 0 0], .slice none 0 0], []⟩ 8 (by kernel_rfl) (by kernel_rfl) (by kernel_rfl) (by kernel_rfl)) ?_
  intro W base args ds gs before hval0 hW hcnd hsz _
  have hval : ∀ (j : Nat) t v, Try.f8.params[j]? = some t → args[j]? = some v → Value.okWide Try.prog W .any base t v := hval0
  have hW' := hW
  obtain ⟨p, q, hA0, hV, rfl, hfz, hnd⟩ := hW
  have hA : DataW.TrodAll enc Try.prog W 0 (fun _ => true) true Try.f8.params.toList args.toList ds p := hA0
  have hsz' : ∀ n ∈ DataW.weightsEach Try.prog (Try.f8.params.toList ++ _) (ds ++ gs), n ≤ reachBytes := fun n hn => by
    have := List.all_eq_true.1 hsz n hn
    simpa using this
  rw [Try.params8] at hA hval hsz'
  obtain ⟨v0, v1, v2, d0, d1, d2, p0, p1, p2, rfl, rfl, rfl, h0, h1, h2⟩ := trodAll_three hA
  obtain ⟨rfl, rfl⟩ := trodVars_none hV
  have lt0 : ∀ x ∈ p0, x.block < W.heap.size := by obtain ⟨m, hm⟩ := h0; exact DataW.trod_lt m _ _ _ hm
  have lt1 : ∀ x ∈ p1, x.block < W.heap.size := by obtain ⟨m, hm⟩ := h1; exact DataW.trod_lt m _ _ _ hm
  have lt2 : ∀ x ∈ p2, x.block < W.heap.size := by obtain ⟨m, hm⟩ := h2; exact DataW.trod_lt m _ _ _ hm
  obtain ⟨days, each, va, L, rfl, hL, hB⟩ := tide_of_arg (hval 0 24 v0 rfl rfl) h0
  obtain ⟨vl, vp, l, P, rfl, hl, hP, hB2⟩ := proof_of_arg (hval 1 60 v1 rfl rfl) h1
  obtain ⟨l', hl'⟩ := il_of_arg (hval 2 28 v2 rfl rfl) h2
  have hrb : reachBytes ≤ 4611686018427387903 := by decide
  have hfew : FewV 4611686018427387903 L := (hB reachBytes (fun n hn => hsz' n (DataW.weights_mem_each (j := 0) rfl rfl n hn))).mono hrb
  have hf3 := hB2 reachBytes (fun n hn => hsz' n (DataW.weights_mem_each (j := 1) rfl rfl n hn))
  clear hA0 hval0
  refine (law_proves W days each va L hL hfew vl l hl vp P hP (fun d hd => ⟨Nat.le_trans (hf3 d hd).1 hrb, Nat.le_trans (hf3 d hd).2 hrb⟩) v2 l' hl').mono fun e W' ⟨he, bel⟩ => ?_
  subst he
  exact ⟨_, rfl, _, _, _, [], _, [], hW', trodAll_mk1 (shut_bool Try.underlying4 _), trodAll_mk3 (Below.trod tide_laid (by kernel_rfl) (of_decide_eq_true (by kernel_rfl)) h0 bel lt0) (Below.trod tide_laid (by kernel_rfl) (of_decide_eq_true (by kernel_rfl)) h1 bel lt1) (Below.trod tide_laid (by kernel_rfl) (of_decide_eq_true (by kernel_rfl)) h2 bel lt2), rfl, bel.frame _, fun h => by cases h⟩
theorem proves_holds : Rows.TideProvesSaid :=
  OpenClaim.holds_of_wide 8 Try.f8 rfl rfl rfl rfl rfl rfl rfl ⟨rfl, rfl, rfl, rfl, rfl⟩ rfl rfl rfl rfl rfl (by kernel_rfl) Try.func8 (by kernel_rfl)
    (of_decide_eq_true (by kernel_rfl)) (by unfold Func.isWrapper; first | (rw [if_pos (by decide +kernel)]; kernel_rfl) | (rw [if_neg (by decide +kernel)]; exact ⟨rfl, rfl⟩))
    (fun os started H enc _ => proves_lifted os started H enc)
#print axioms proves_holds
end Go.Proofs.Ytajckdheecgceaa
