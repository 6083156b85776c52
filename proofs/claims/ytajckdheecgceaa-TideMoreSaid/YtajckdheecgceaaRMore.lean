/- TideMore returns true for every input: who gets one gets one still, and pays no more, if it is worth more to it, it comes earlier or goes later, as the statement says. No condition. -/
import Derived.Test.YtajckdheecgceaaTd34
import Derived.Test.YtajckdheecgceaaTd28
set_option linter.unusedVariables false
set_option linter.unusedSimpArgs false
namespace Go.Proofs.Ytajckdheecgceaa
open Go.ChangeShapes Go.WideShapes Go.ChangeAt Go.RowKit Go.Joins

set_option maxRecDepth 100000 in
theorem more_lifted (os : Os) (started : os.Started) (H : Type) (enc : TypeId × Value → H) :
    ReturnsInHanded {} Try.checked os 4 .any (Rows.tideMoreSpec.pre6 enc Try.prog Try.f4 Rows.tideMoreRow.domain false) (Rows.tideMoreSpec.post enc Try.prog Try.f4 false true false false) := by
  refine returnsInHanded_of_change_sized (C := Try.checked) tide_own started (by kernel_rfl) Try.func4
    (ChangeSpec.witness6 (enc := enc) (C := Try.checked) false ⟨#[], #[.agg #[.int .i64 0, .int .i64 0, .slice none 0 0], .agg #[.int .i64 0, .int .i64 0, .int .i64 0, .bool false, .slice none 0 0, .slice none 0 0]], []⟩ 8 (by kernel_rfl) (by kernel_rfl) (by kernel_rfl) (by kernel_rfl)) ?_
  intro W base args ds gs before hval0 hW hcnd hsz _
  have hval : ∀ (j : Nat) t v, Try.f4.params[j]? = some t → args[j]? = some v → Value.okWide Try.prog W .any base t v := hval0
  have hW' := hW
  obtain ⟨p, q, hA0, hV, rfl, hfz, hnd⟩ := hW
  have hA : DataW.TrodAll enc Try.prog W 0 (fun _ => true) true Try.f4.params.toList args.toList ds p := hA0
  have hsz' : ∀ n ∈ DataW.weightsEach Try.prog (Try.f4.params.toList ++ _) (ds ++ gs), n ≤ reachBytes := fun n hn => by
    have := List.all_eq_true.1 hsz n hn
    simpa using this
  rw [Try.params4] at hA hval hsz'
  obtain ⟨v0, v1, d0, d1, p0, p1, rfl, rfl, rfl, h0, h1⟩ := trodAll_two hA
  obtain ⟨rfl, rfl⟩ := trodVars_none hV
  have lt0 : ∀ x ∈ p0, x.block < W.heap.size := by obtain ⟨m, hm⟩ := h0; exact DataW.trod_lt m _ _ _ hm
  have lt1 : ∀ x ∈ p1, x.block < W.heap.size := by obtain ⟨m, hm⟩ := h1; exact DataW.trod_lt m _ _ _ hm
  obtain ⟨days, each, va, L, rfl, hL, hB⟩ := tide_of_arg (hval 0 24 v0 rfl rfl) h0
  obtain ⟨ag, dv, V1, V2, n1, n2, rfl, hdv, hB2⟩ := told_of_arg (hval 1 45 v1 rfl rfl) h1
  have hrb : reachBytes ≤ 4611686018427387903 := by decide
  have hfew : FewV 4611686018427387903 L := (hB reachBytes (fun n hn => hsz' n (DataW.weights_mem_each (j := 0) rfl rfl n hn))).mono hrb
  obtain ⟨hd1, hd2⟩ := hB2 reachBytes (fun n hn => hsz' n (DataW.weights_mem_each (j := 1) rfl rfl n hn))
  clear hA0 hval0
  refine (law_more W days each va L hL hfew ag dv V1 V2 n1 n2 hdv (Nat.le_trans hd1 hrb) (Nat.le_trans hd2 hrb)).mono fun e W' ⟨he, bel⟩ => ?_
  subst he
  exact ⟨_, rfl, _, _, _, [], _, [], hW', trodAll_mk1 (shut_bool Try.underlying4 _), trodAll_mk2 (Below.trod tide_laid (by kernel_rfl) (of_decide_eq_true (by kernel_rfl)) h0 bel lt0) (Below.trod tide_laid (by kernel_rfl) (of_decide_eq_true (by kernel_rfl)) h1 bel lt1), rfl, bel.frame _, fun h => by cases h⟩
theorem more_holds : Rows.TideMoreSaid :=
  OpenClaim.holds_of_wide 4 Try.f4 rfl rfl rfl rfl rfl rfl rfl ⟨rfl, rfl, rfl, rfl, rfl⟩ rfl rfl rfl rfl rfl (by kernel_rfl) Try.func4 (by kernel_rfl)
    (of_decide_eq_true (by kernel_rfl)) (by unfold Func.isWrapper; first | (rw [if_pos (by decide +kernel)]; kernel_rfl) | (rw [if_neg (by decide +kernel)]; exact ⟨rfl, rfl⟩))
    (fun os started H enc _ => more_lifted os started H enc)
#print axioms more_holds
end Go.Proofs.Ytajckdheecgceaa
