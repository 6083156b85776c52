/- The functions of frac: Sign, Neg, Fix, Make. -/
import Derived.Test.YtdmgceckmciifaaApi
set_option linter.unusedVariables false
set_option linter.unusedSimpArgs false
namespace Go.Proofs.Ytdmgceckmciifaa
open Go.RowKit

theorem results_fe {P : Program} {fn : Func} {p u : Tmp} {ty : TypeId} (h : fn.results = #[.cell p ty, .tmp u]) (tmps : Array Value) (w : World) (g : Nat) (t : TypeId) (cs : Array Value) (fr : Nat × Nat) (d : TypeDesc)
    (hp : tmps.getD p undef = .pointer (some ⟨g, 0, none⟩)) (hg : w.heap[g]? = some (.cells cs t fr))
    (hu : P.underlying ty = some d) (hd : (match d with | .struct _ | .array _ _ => true | _ => false) = true) (hi : (P.info? ty).map (·.size) = some cs.size) :
    (results fn tmps).run P w = .ok (.tuple #[.agg cs, tmps.getD u undef]) w := by
  have hp' : tmps[p]?.getD undef = .pointer (some ⟨g, 0, none⟩) := by simpa using hp
  simp [results, h, hp', asAddr, run_loadVar_row w g t ty cs fr d hg hu hd hi]
theorem frac_sign_calls (w : World) (va : Value) (na : Bool) (lna lda : List Int) (ha : FrIn w va na lna lda) (hsa : lna.length + lda.length ≤ 4096) :
    Calls Try.prog 26 #[va] w fun e w' => e = .returned (.int .i64 (fixq na lna lda).num.sign) ∧ Below w.heap.size w w' := by
  have hf := ha
  obtain ⟨A, c, A2, c2, rfl, _, _, _, _⟩ := ha.shape
  have hb0 := below_alloc0 w (.cells #[.bool na, .slice A lna.length c, .slice A2 lda.length c2] 24)
  go_enter Try.func26, Try.ntmps26
  go_wp2_with fail
  refine (taken_calls _ _ na lna lda (hf.below hb0) hsa).mono ?_
  rintro e w1 ⟨v, rfl, hva, hb1⟩
  go_wp2_with fail
  refine (sign_calls _ _ _ hva).mono ?_
  rintro e w2 ⟨rfl, hb2⟩
  clear hf hva
  go_wp2
  go_ret
  exact ⟨rfl, bl_trans (bl_trans hb0 hb1) hb2⟩
theorem frac_neg_calls (w : World) (va : Value) (na : Bool) (lna lda : List Int) (ha : FrIn w va na lna lda) (hsa : lna.length + lda.length ≤ 4096) (hres : Short (-(fixq na lna lda))) :
    Calls Try.prog 34 #[va] w (FrPost (-(fixq na lna lda)) w) := by
  obtain ⟨r, hr⟩ : ∃ r, r = -(fixq na lna lda) := ⟨_, rfl⟩
  rw [← hr] at hres ⊢
  have HR := Lib.hid hr
  clear hr
  have hf := ha
  obtain ⟨A, c, A2, c2, rfl, _, _, _, _⟩ := ha.shape
  have H := held1_new w 24 24 (.bool na) (.slice A lna.length c) (.slice A2 lda.length c2) (.bool false) (.slice none 0 0) (.slice none 0 0) (boolne _) (slne _ _ _) (slne _ _ _)
  go_enter Try.func34, Try.ntmps34
  go_wp2_with fail
  refine (taken_calls _ _ na lna lda (hf.below H.bl) hsa).mono ?_
  rintro e w1 ⟨v, rfl, hva, hb1⟩
  have Ha := Held1.next hb1 H
  go_wp2_with fail
  refine (minus_calls _ _ _ hva).mono ?_
  rintro e w2 ⟨v2, rfl, hvm, hb2⟩
  rw [← HR.out] at hvm
  go_wp2_with fail
  refine (told_calls _ _ _ hvm hres).mono ?_
  rintro e w3 ⟨v3, rfl, hfr, hb3⟩
  have H1 := Held1.next hb3 (Held1.next hb2 Ha)
  clear hf hva hvm hres H Ha
  obtain ⟨B1, d1, B2, d2, rfl, r1, r2, r3, r4⟩ := FrIn.shape hfr
  obtain ⟨⟨x0, x1, x2, m0, m1, m2⟩, f1⟩ := H1.store
  go_wp2
  obtain ⟨t1, t2⟩ := H1.res (.bool (decide (r.num < 0))) (.slice B1 (dg r.num.natAbs).length d1) (.slice B2 (dg r.den).length d2)
  exact bodyPost_ret (results_cell_row rfl _ _ (w.heap.size + 1) 24 _ (0, 0) _ rfl t2 Try.underlying24 rfl (by kernel_rfl)) rfl ⟨_, rfl, ⟨_, _, rfl, H1.kept r1 _ _ _, H1.kept r2 _ _ _, r3, r4⟩, t1⟩
theorem frac_fix_calls (w : World) (va : Value) (na : Bool) (lna lda : List Int) (ha : FrIn w va na lna lda) (hsa : lna.length + lda.length ≤ 4096) (hres : Short ((fixq na lna lda))) :
    Calls Try.prog 21 #[va] w (FrPost ((fixq na lna lda)) w) := by
  have hf := ha
  obtain ⟨A, c, A2, c2, rfl, _, _, _, _⟩ := ha.shape
  have H := held1_new w 24 24 (.bool na) (.slice A lna.length c) (.slice A2 lda.length c2) (.bool false) (.slice none 0 0) (.slice none 0 0) (boolne _) (slne _ _ _) (slne _ _ _)
  go_enter Try.func21, Try.ntmps21
  go_wp2_with fail
  refine (taken_calls _ _ na lna lda (hf.below H.bl) hsa).mono ?_
  rintro e w1 ⟨v, rfl, hva, hb1⟩
  have Ha := Held1.next hb1 H
  go_wp2_with fail
  refine (told_calls _ _ _ hva hres).mono ?_
  rintro e w3 ⟨v3, rfl, hfr, hb3⟩
  have H1 := Held1.next hb3 Ha
  clear hf hva hres H Ha
  obtain ⟨B1, d1, B2, d2, rfl, r1, r2, r3, r4⟩ := FrIn.shape hfr
  obtain ⟨⟨x0, x1, x2, m0, m1, m2⟩, f1⟩ := H1.store
  go_wp2
  obtain ⟨t1, t2⟩ := H1.res (.bool (decide (((fixq na lna lda)).num < 0))) (.slice B1 (dg ((fixq na lna lda)).num.natAbs).length d1) (.slice B2 (dg ((fixq na lna lda)).den).length d2)
  exact bodyPost_ret (results_cell_row rfl _ _ (w.heap.size + 1) 24 _ (0, 0) _ rfl t2 Try.underlying24 rfl (by kernel_rfl)) rfl ⟨_, rfl, ⟨_, _, rfl, H1.kept r1 _ _ _, H1.kept r2 _ _ _, r3, r4⟩, t1⟩
/-- What is handed back is the fraction q, and that all is well. -/
def FrePost (q : Rat) (w : World) (e : Ending) (w' : World) : Prop := ∃ v, e = .returned (.tuple #[v, .int .i64 0]) ∧ FrV w' v q ∧ Below w.heap.size w w'
theorem frac_make_zero (w : World) (p : Int) :
    Calls Try.prog 13 #[.int .i64 p, .int .i64 0] w fun e w' => e = .returned (.tuple #[.agg #[.bool false, .slice none 0 0, .slice none 0 0], .int .i64 11]) ∧ Below w.heap.size w w' := by
  go_enter Try.func13, Try.ntmps13
  go_wp2
  exact bodyPost_ret (results_fe rfl _ _ w.heap.size 24 _ (0, 0) _ rfl (Blk.new w 24 _) Try.underlying24 rfl (by kernel_rfl)) rfl ⟨rfl, below_alloc0 _ _⟩
theorem int_len {n : Int} (h0 : -9223372036854775808 ≤ n) (h1 : n ≤ 9223372036854775807) : Szq 2 (n : Rat) := by
  constructor
  · refine dg_len_le ?_
    rw [Rat.num_intCast]
    have : n.natAbs < 18446744073709551616 := by omega
    simpa using this
  · rw [Rat.den_intCast, dg_one]; simp
theorem frac_make_calls (w : World) (p q : Int) (hq : q ≠ 0) (p0 : -9223372036854775808 ≤ p) (p1 : p ≤ 9223372036854775807) (q0 : -9223372036854775808 ≤ q) (q1 : q ≤ 9223372036854775807) :
    Calls Try.prog 13 #[.int .i64 p, .int .i64 q] w (FrePost ((p : Rat) * (q : Rat)⁻¹) w) := by
  obtain ⟨r, hr⟩ : ∃ r, r = (p : Rat) * (q : Rat)⁻¹ := ⟨_, rfl⟩
  rw [← hr]
  have e0 : (q == 0) = false := beq_eq_false_iff_ne.2 hq
  have hq' : (q : Rat) ≠ 0 := by exact_mod_cast hq
  have sp := int_len p0 p1
  have sq := szq_inv (int_len q0 q1) (by omega)
  have hres := (szq_mul sp sq).short (by omega)
  have hb0 := below_alloc0 w (.cells #[.bool false, .slice none 0 0, .slice none 0 0] 24)
  have K := Blk.new w 24 #[.bool false, .slice none 0 0, .slice none 0 0]
  have HQ := Lib.hid hq'
  have HR := Lib.hid hr
  rw [← hr] at hres
  clear hq hq' hr
  go_enter Try.func13, Try.ntmps13
  go_wp2_with fail
  refine (whole_calls _ p p0 p1).mono ?_
  rintro e w1 ⟨v, rfl, hp, hb1⟩
  go_wp2_with fail
  refine (whole_calls _ q q0 q1).mono ?_
  rintro e w2 ⟨v2, rfl, hv2, hb2⟩
  go_wp2_with fail
  refine (over_calls _ _ _ hv2 HQ.out).mono ?_
  rintro e w3 ⟨v3, rfl, hv3, hb3⟩
  go_wp2_with fail
  refine (times_calls _ _ _ _ _ (RtV.below (RtV.below hp hb2) hb3) hv3 (sp.big (by omega)) (sq.big (by omega))).mono ?_
  rintro e w4 ⟨v4, rfl, hv4, hb4⟩
  rw [← HR.out] at hv4
  go_wp2_with fail
  refine (told_calls _ _ _ hv4 hres).mono ?_
  rintro e w5 ⟨v5, rfl, hfr, hb5⟩
  have hb := bl_trans (bl_trans (bl_trans (bl_trans hb1 hb2) hb3) hb4) hb5
  have K5 := K.below hb
  have hbw := bl_trans hb0 hb
  have m0 := K5.cell 0
  have m1 := K5.cell 1
  have m2 := K5.cell 2
  have f1 := K5.free
  clear hv4 hv3 hv2 hp hres sp sq HQ
  obtain ⟨B1, d1, B2, d2, rfl, r1, r2, r3, r4⟩ := FrIn.shape hfr
  go_wp2
  exact bodyPost_ret (results_fe rfl _ _ w.heap.size 24 _ (0, 0) _ rfl (blk3 K5 _ _ _) Try.underlying24 rfl (by kernel_rfl)) rfl ⟨_, rfl, ⟨_, _, rfl, r1.three m0 m1 m2 (boolne _) (slne _ _ _) (slne _ _ _) _ _ _, r2.three m0 m1 m2 (boolne _) (slne _ _ _) (slne _ _ _) _ _ _, r3, r4⟩, three_below hbw (Nat.le_refl _) _ _ _⟩
end Go.Proofs.Ytdmgceckmciifaa
