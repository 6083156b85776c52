/- Systems of equations: the reference's scaled and less. -/
import Derived.Test.YtdmgceckmciifaaOwn
set_option linter.unusedVariables false
set_option linter.unusedSimpArgs false
namespace Go.Proofs.Ytdmgceckmciifaa
open Go.RowKit

theorem OF.mono {w : World} {B B' : Nat} {v : Value} {L : List (Bool × List Int × List Int)} (h : OF w B v L) (hB : B' ≤ B) : OF w B' v L := by
  obtain ⟨xs, h1, h2, h3⟩ := h
  refine ⟨xs, ⟨h1.1, ?_⟩, h2, h3⟩
  rcases h1.2 with h4 | ⟨g, cap, cur, e1, e2, e3⟩
  · exact .inl h4
  · exact .inr ⟨g, cap, cur, e1, Nat.le_trans hB e2, e3⟩
theorem map_take_snoc {α β : Type} {L : List α} {k : Nat} {x : α} (f : α → β) (h : L[k]? = some x) : (L.take (k + 1)).map f = (L.take k).map f ++ [f x] := by
  rw [List.take_add_one, h, List.map_append]; rfl
/-- An element of a list of exact fractions. -/
theorem FL.atq {w : World} {v : Value} {qs : List Rat} (h : FL w v (qs.map dq)) {k : Nat} {q : Rat} (hq : qs[k]? = some q) : ∃ ad c A1 c1 A2 c2, v = .slice (some ad) qs.length c ∧ qs.length ≤ c ∧ c ≤ 9223372036854775807 ∧ w.cell? (ad.add (k * 3)) = some (.bool (decide (q.num < 0))) ∧ w.cell? ⟨(ad.add (k * 3)).block, (ad.add (k * 3)).off + 1, none⟩ = some (.slice A1 (dg q.num.natAbs).length c1) ∧
    w.cell? ⟨(ad.add (k * 3)).block, (ad.add (k * 3)).off + 2, none⟩ = some (.slice A2 (dg q.den).length c2) ∧ FrV w (.agg #[.bool (decide (q.num < 0)), .slice A1 (dg q.num.natAbs).length c1, .slice A2 (dg q.den).length c2]) q := by
  have hd : (qs.map dq)[k]? = some (dq q) := by rw [List.getElem?_map, hq]; rfl
  obtain ⟨ad, c, A1, c1, A2, c2, hv, h1, h2, e0, e1, e2, hf⟩ := h.at hd
  rw [List.length_map] at hv h1
  exact ⟨ad, c, A1, c1, A2, c2, hv, h1, h2, e0, e1, e2, hf⟩
theorem rsubq (w : World) (va vb : Value) (a b : Rat) (ha : FrQ w va a) (hb : FrQ w vb b) (hs : Short (a + -b)) : Calls Try.prog 32 #[va, vb] w (FrPost (a + -b) w) := by
  obtain ⟨n, l, d, h, h2, rfl⟩ := ha
  obtain ⟨n', l', d', h', h2', rfl⟩ := hb
  exact rsub_calls w va vb n n' l d l' d' h h' h2 h2' hs
set_option maxRecDepth 100000 in
set_option maxHeartbeats 4000000 in
theorem scaled_calls (w : World) (va vb : Value) (qs : List Rat) (q : Rat) (ha : FL w va (qs.map dq)) (hb : FrV w vb q) (hl : qs.length ≤ 4096) (zq : Szq 1000 q) (zs : ∀ a ∈ qs, Szq 1000 a) :
    Calls Try.prog 124 #[va, vb] w fun e w' => ∃ v, e = .returned v ∧ OF w' w.heap.size v ((qs.map fun a => a * q).map dq) ∧ Below w.heap.size w w' := by
  obtain ⟨B1, b1, B2, b2, rfl, _⟩ := FrIn.shape hb
  have hal := below_alloc0 w (.cells #[.bool (decide (q.num < 0)), .slice B1 (dg q.num.natAbs).length b1, .slice B2 (dg q.den).length b2] 24)
  have K := Blk.new w 24 #[.bool (decide (q.num < 0)), .slice B1 (dg q.num.natAbs).length b1, .slice B2 (dg q.den).length b2]
  obtain ⟨W0, hW0⟩ : ∃ W, W = w.alloc (.cells #[.bool (decide (q.num < 0)), .slice B1 (dg q.num.natAbs).length b1, .slice B2 (dg q.den).length b2] 24) := ⟨_, rfl⟩
  rw [← hW0] at hal K
  have hs0 : W0.heap.size = w.heap.size + 1 := by rw [hW0]; simp
  have HAL := Lib.hid hal
  have HB := Lib.hid (FrV.below hb hal)
  have HA := Lib.hid (ha.below hal)
  obtain ⟨A, c, rfl⟩ := ha.shape
  rw [List.length_map]
  obtain ⟨gb, hgb⟩ : ∃ g, g = w.heap.size := ⟨_, rfl⟩
  have HGB := Lib.hid hgb
  rw [← hgb] at K
  have k0 := K.cell 0
  have k1 := K.cell 1
  have k2 := K.cell 2
  clear ha hb hal K
  go_enter Try.func124, Try.ntmps124
  go_wp2
  rw [← hW0, ← hgb]
  clear hW0 hgb
  go_loopw [5, 6] (fun v i wr => ∃ k : Nat, k ≤ qs.length ∧ i = .int .i64 (k : Int) ∧ OF wr W0.heap.size v (((qs.take k).map fun a => a * q).map dq) ∧ Below W0.heap.size W0 wr)
    (fun _ i _ => qs.length - (intOf i).toNat)
  case atStart => exact ⟨0, by omega, rfl, OF.nil _ _, Below.refl _ _⟩
  case round =>
    obtain ⟨k, hk, rfl, hO, hbl⟩ := hrel
    by_cases hx : k < qs.length
    · obtain ⟨a, hqa⟩ : ∃ a, qs[k]? = some a := ⟨_, List.getElem?_eq_getElem hx⟩
      obtain ⟨ad, c', A1, c1, A2, c2, hv, hc1, hc2, e0, e1, e2, hfr⟩ := HA.out.atq hqa
      obtain ⟨rfl, rfl⟩ : A = some ad ∧ c = c' := by
        have h := hv
        rw [List.length_map] at h
        simpa using h
      have za := zs a (List.mem_of_getElem? hqa)
      have hsh : Short (a * q) := (szq_mul za zq).short (by omega)
      have q1 : (k : Int) < (qs.length : Int) := by omega
      have HFR := Lib.hid hfr
      have HO := Lib.hid (hO.below (bl_drew _))
      have hbd := bl_trans hbl (bl_drew _)
      have HN := Lib.hid (show ((qs.take (k + 1)).map fun a => a * q).map dq = ((qs.take k).map fun a => a * q).map dq ++ [dq (a * q)] by rw [map_take_snoc _ hqa, List.map_append]; rfl)
      have HLk := Lib.hid (show (((qs.take k).map fun a => a * q).map dq).length ≤ 1000000 by simp; omega)
      have l0 := cell_below hbl k0
      clear hv hqa hfr hO l0
      go_wp2_with fail
      have mkS : ∀ w', Below W0.heap.size W0 w' → (fun w' => Below W0.heap.size W0 w' ∧ w'.cell? (ad.add (k * 3)) = some (.bool (decide (a.num < 0))) ∧ w'.cell? ⟨(ad.add (k * 3)).block, (ad.add (k * 3)).off + 1, none⟩ = some (.slice A1 (dg a.num.natAbs).length c1) ∧ w'.cell? ⟨(ad.add (k * 3)).block, (ad.add (k * 3)).off + 2, none⟩ = some (.slice A2 (dg a.den).length c2) ∧ w'.cell? ⟨gb, 0, none⟩ = some (.bool (decide (q.num < 0))) ∧ w'.cell? ⟨gb, 1, none⟩ = some (.slice B1 (dg q.num.natAbs).length b1) ∧ w'.cell? ⟨gb, 2, none⟩ = some (.slice B2 (dg q.den).length b2)) w' := fun w' hb => ⟨hb, cell_below hb e0, cell_below hb e1, cell_below hb e2, cell_below hb k0, cell_below hb k1, cell_below hb k2⟩
      refine wp_region_T (fun w' => Below W0.heap.size W0 w' ∧ w'.cell? (ad.add (k * 3)) = some (.bool (decide (a.num < 0))) ∧ w'.cell? ⟨(ad.add (k * 3)).block, (ad.add (k * 3)).off + 1, none⟩ = some (.slice A1 (dg a.num.natAbs).length c1) ∧ w'.cell? ⟨(ad.add (k * 3)).block, (ad.add (k * 3)).off + 2, none⟩ = some (.slice A2 (dg a.den).length c2) ∧ w'.cell? ⟨gb, 0, none⟩ = some (.bool (decide (q.num < 0))) ∧ w'.cell? ⟨gb, 1, none⟩ = some (.slice B1 (dg q.num.natAbs).length b1) ∧ w'.cell? ⟨gb, 2, none⟩ = some (.slice B2 (dg q.den).length b2)) 9 (by kernel_rfl) ?_
      have hS : (fun w' => Below W0.heap.size W0 w' ∧ w'.cell? (ad.add (k * 3)) = some (.bool (decide (a.num < 0))) ∧ w'.cell? ⟨(ad.add (k * 3)).block, (ad.add (k * 3)).off + 1, none⟩ = some (.slice A1 (dg a.num.natAbs).length c1) ∧ w'.cell? ⟨(ad.add (k * 3)).block, (ad.add (k * 3)).off + 2, none⟩ = some (.slice A2 (dg a.den).length c2) ∧ w'.cell? ⟨gb, 0, none⟩ = some (.bool (decide (q.num < 0))) ∧ w'.cell? ⟨gb, 1, none⟩ = some (.slice B1 (dg q.num.natAbs).length b1) ∧ w'.cell? ⟨gb, 2, none⟩ = some (.slice B2 (dg q.den).length b2)) _ := mkS _ hbd
      simp only [List.size_toArray, List.length_cons, List.length_nil, Nat.reduceAdd]
      refine wpAnyT_take 0 (some 13) (v := ?v0) rfl rfl (by kernel_rfl) (by kernel_rfl) (by kernel_rfl) (by kernel_rfl) (fun _ _ _ h => h) rfl ?hy0 hS ?rest0
      case hy0 => (intro w hSw; (try dsimp only at hSw); go_simp; (try with_reducible rfl))
      (try simp only [Act.put, List.setIfInBounds_toArray, List.set_cons_zero, List.set_cons_succ])
      refine wpAnyT_take 1 (some 14) (v := ?v1) rfl rfl (by kernel_rfl) (by kernel_rfl) (by kernel_rfl) (by kernel_rfl) (fun _ _ _ h => h) rfl ?hy1 hS ?rest1
      case hy1 => (intro w hSw; (try dsimp only at hSw); go_simp; (try with_reducible rfl))
      (try simp only [Act.put, List.setIfInBounds_toArray, List.set_cons_zero, List.set_cons_succ])
      refine wpAnyT_take 2 (some 15) (v := ?v2) rfl rfl (by kernel_rfl) (by kernel_rfl) (by kernel_rfl) (by kernel_rfl) (fun _ _ _ h => h) rfl ?hy2 hS ?rest2
      case hy2 => (intro w hSw; (try dsimp only at hSw); go_simp; (try with_reducible rfl))
      (try simp only [Act.put, List.setIfInBounds_toArray, List.set_cons_zero, List.set_cons_succ])
      refine wpAnyT_take 3 (some 16) (v := ?v3) rfl rfl (by kernel_rfl) (by kernel_rfl) (by kernel_rfl) (by kernel_rfl) (fun _ _ _ h => h) rfl ?hy3 hS ?rest3
      case hy3 => (intro w hSw; (try dsimp only at hSw); go_simp; (try with_reducible rfl))
      (try simp only [Act.put, List.setIfInBounds_toArray, List.set_cons_zero, List.set_cons_succ])
      refine wpAnyT_take 4 (some 17) (v := ?v4) rfl rfl (by kernel_rfl) (by kernel_rfl) (by kernel_rfl) (by kernel_rfl) (fun _ _ _ h => h) rfl ?hy4 hS ?rest4
      case hy4 => (intro w hSw; (try dsimp only at hSw); go_simp; (try with_reducible rfl))
      (try simp only [Act.put, List.setIfInBounds_toArray, List.set_cons_zero, List.set_cons_succ])
      refine wpAnyT_take 5 (some 18) (v := ?v5) rfl rfl (by kernel_rfl) (by kernel_rfl) (by kernel_rfl) (by kernel_rfl) (fun _ _ _ h => h) rfl ?hy5 hS ?rest5
      case hy5 => (intro w hSw; (try dsimp only at hSw); go_simp; (try with_reducible rfl))
      (try simp only [Act.put, List.setIfInBounds_toArray, List.set_cons_zero, List.set_cons_succ])
      refine wpAnyT_one (i := 6) rfl (by kernel_rfl) rfl (fun K hK => ?_)
      simp only [List.getElem_toArray, List.getElem_cons_succ, List.getElem_cons_zero]
      go_simp
      go_at_call 33
      with_reducible refine (rmulq _ _ _ a q (FrV.q (FrV.below HFR.out hS.1) (za.short (by omega))) (FrV.q (FrV.below HB.out hS.1) (zq.short (by omega))) hsh).mono ?_
      rintro e w6 ⟨v6, rfl, hv6, hb6⟩
      obtain ⟨P1, p1, P2, p2, rfl, _, _, _, _⟩ := FrIn.shape hv6
      have hO6 := HO.out.below hb6
      have hS2 := mkS _ (bl_trans hS.1 hb6)
      refine hK.out _ _ (fun _ => hS2) ?_
      clear hS K hK
      have hS := hS2
      clear hS2
      (try simp only [Act.put, List.setIfInBounds_toArray, List.set_cons_zero, List.set_cons_succ])
      refine wpAnyT_one (i := 7) rfl (by kernel_rfl) rfl (fun K hK => ?_)
      simp only [List.getElem_toArray, List.getElem_cons_succ, List.getElem_cons_zero]
      go_simp
      have al := below_alloc0 w6 (.cells #[.bool (decide ((a * q).num < 0)), .slice P1 (dg (a * q).num.natAbs).length p1, .slice P2 (dg (a * q).den).length p2] 24)
      have KB := Blk.new w6 24 #[.bool (decide ((a * q).num < 0)), .slice P1 (dg (a * q).num.natAbs).length p1, .slice P2 (dg (a * q).den).length p2]
      have hS2 := mkS _ (bl_trans hS.1 al)
      refine hK.out _ _ (fun _ => hS2) ?_
      clear hS K hK
      have hS := hS2
      clear hS2
      (try simp only [Act.put, List.setIfInBounds_toArray, List.set_cons_zero, List.set_cons_succ])
      refine wpAnyT_one (i := 8) rfl (by kernel_rfl) rfl (fun K hK => ?_)
      simp only [List.getElem_toArray, List.getElem_cons_succ, List.getElem_cons_zero]
      obtain ⟨v8, w8, hrun, hO8, hfr8, hob8⟩ := OF.push (d := dq (a * q)) (OF.below hO6 al) hS.1.size KB (FrIn.below hv6 al) (by simp; omega)
      have hb8 := Below.trans hS.1 (hfr8.below hS.1.size (fun g hg => OF.block hO6 hg))
      refine wp_append_run _ (.tmp 13) (.tmp 20) 32 _ _ rfl rfl rfl ⟨v8, w8, hrun, ?_⟩
      refine hK.out _ _ (fun _ => mkS _ hb8) ?_
      clear hS K hK hrun
      (try simp only [Act.put, List.setIfInBounds_toArray, List.set_cons_zero, List.set_cons_succ])
      refine wpAnyT_one (i := 9) rfl (by kernel_rfl) rfl (fun K hK => ?_)
      simp only [List.getElem_toArray, List.getElem_cons_succ, List.getElem_cons_zero]
      go_simp
      refine hK.out _ _ (fun h => absurd rfl h) ?_
      refine wpAnyT_done (by kernel_rfl) ?_ _
      clear K hK mkS
      have HO8 := Lib.hid hO8
      have HB8 := Lib.hid hb8
      clear hO8 hfr8 hob8 hb8 al KB hv6 hb6 hO6
      go_wp2
      exact ⟨⟨k + 1, by omega, by go_num, by rw [HN.out]; exact HO8.out, HB8.out⟩, by simp [intOf]; omega⟩
    · obtain rfl : k = qs.length := by omega
      rw [List.take_length] at hO
      have HO := Lib.hid hO
      have HBL := Lib.hid hbl
      clear hO hbl
      go_wp2
      go_ret
      exact ⟨_, rfl, HO.out.mono (by omega), bl_trans HAL.out HBL.out⟩
/-- A row less a multiple of another one. -/
def lessL (qs ps : List Rat) (q : Rat) : List Rat := List.zipWith (fun a p => a + -(p * q)) qs ps
theorem lessL_at {qs ps : List Rat} {q a p : Rat} {k : Nat} (ha : qs[k]? = some a) (hp : ps[k]? = some p) : (lessL qs ps q)[k]? = some (a + -(p * q)) := by
  simp [lessL, List.getElem?_zipWith, ha, hp]
theorem lessL_len {qs ps : List Rat} {q : Rat} (h : qs.length ≤ ps.length) : (lessL qs ps q).length = qs.length := by simp [lessL]; omega
set_option maxRecDepth 100000 in
set_option maxHeartbeats 4000000 in
theorem rless_calls (w : World) (va vb vc : Value) (qs ps : List Rat) (q : Rat) (ha : FL w va (qs.map dq)) (hb : FL w vb (ps.map dq)) (hc : FrV w vc q) (hl : qs.length ≤ 4096) (hlp : qs.length ≤ ps.length) (zq : Szq 400 q) (zs : ∀ a ∈ qs, Szq 400 a) (zp : ∀ a ∈ ps, Szq 400 a) :
    Calls Try.prog 125 #[va, vb, vc] w fun e w' => ∃ v, e = .returned v ∧ OF w' w.heap.size v ((lessL qs ps q).map dq) ∧ Below w.heap.size w w' := by
  obtain ⟨B1, b1, B2, b2, rfl, _⟩ := FrIn.shape hc
  have hal := below_alloc0 w (.cells #[.bool (decide (q.num < 0)), .slice B1 (dg q.num.natAbs).length b1, .slice B2 (dg q.den).length b2] 24)
  have K := Blk.new w 24 #[.bool (decide (q.num < 0)), .slice B1 (dg q.num.natAbs).length b1, .slice B2 (dg q.den).length b2]
  obtain ⟨W0, hW0⟩ : ∃ W, W = w.alloc (.cells #[.bool (decide (q.num < 0)), .slice B1 (dg q.num.natAbs).length b1, .slice B2 (dg q.den).length b2] 24) := ⟨_, rfl⟩
  rw [← hW0] at hal K
  have hs0 : W0.heap.size = w.heap.size + 1 := by rw [hW0]; simp
  have HAL := Lib.hid hal
  have HC := Lib.hid (FrV.below hc hal)
  have HA := Lib.hid (ha.below hal)
  have HB := Lib.hid (hb.below hal)
  obtain ⟨A, c, rfl⟩ := ha.shape
  obtain ⟨Ab, cb, rfl⟩ := hb.shape
  rw [List.length_map, List.length_map]
  obtain ⟨gb, hgb⟩ : ∃ g, g = w.heap.size := ⟨_, rfl⟩
  rw [← hgb] at K
  have k0 := K.cell 0
  have k1 := K.cell 1
  have k2 := K.cell 2
  have hZl := lessL_len (q := q) hlp
  have HZL := Lib.hid hZl
  clear ha hb hc hal K hZl
  go_enter Try.func125, Try.ntmps125
  go_wp2
  rw [← hW0, ← hgb]
  clear hW0 hgb
  go_loopw [7, 8] (fun v i wr => ∃ k : Nat, k ≤ qs.length ∧ i = .int .i64 (k : Int) ∧ OF wr W0.heap.size v (((lessL qs ps q).take k).map dq) ∧ Below W0.heap.size W0 wr)
    (fun _ i _ => qs.length - (intOf i).toNat)
  case atStart => exact ⟨0, by omega, rfl, OF.nil _ _, Below.refl _ _⟩
  case round =>
    obtain ⟨k, hk, rfl, hO, hbl⟩ := hrel
    by_cases hx : k < qs.length
    · obtain ⟨a, hqa⟩ : ∃ a, qs[k]? = some a := ⟨_, List.getElem?_eq_getElem hx⟩
      obtain ⟨p, hpp⟩ : ∃ a, ps[k]? = some a := ⟨_, List.getElem?_eq_getElem (by omega)⟩
      obtain ⟨ad, c', A1, c1, A2, c2, hv, hc1, hc2, e0, e1, e2, hfr⟩ := HA.out.atq hqa
      obtain ⟨adp, cp', E1, x1, E2, x2, hvp, hcp1, hcp2, f0, f1, f2, hfrp⟩ := HB.out.atq hpp
      obtain ⟨rfl, rfl⟩ : A = some ad ∧ c = c' := by
        have h := hv
        rw [List.length_map] at h
        simpa using h
      obtain ⟨rfl, rfl⟩ : Ab = some adp ∧ cb = cp' := by
        have h := hvp
        rw [List.length_map] at h
        simpa using h
      have za := zs a (List.mem_of_getElem? hqa)
      have zpp := zp p (List.mem_of_getElem? hpp)
      have q1 : (k : Int) < (qs.length : Int) := by omega
      have q2 : (k : Int) < (ps.length : Int) := by omega
      have HFR := Lib.hid hfr
      have HFRP := Lib.hid hfrp
      have HN := Lib.hid (show ((lessL qs ps q).take (k + 1)).map dq = ((lessL qs ps q).take k).map dq ++ [dq (a + -(p * q))] from map_take_snoc _ (lessL_at hqa hpp))
      have HLk := Lib.hid (show (((lessL qs ps q).take k).map dq).length ≤ 1000000 by simp; omega)
      have d1 := cell_below hbl f1
      by_cases hp0 : p = 0
      · have g : (((dg p.num.natAbs).length : Int) == 0) = true := by rw [hp0]; simp [dg_zero]
        have d3 := cell_below hbl e0
        have d4 := cell_below hbl e1
        have d5 := cell_below hbl e2
        have HN2 := Lib.hid (show a + -(p * q) = a by rw [hp0]; grind)
        have al := below_alloc0 wr (.cells #[.bool (decide (a.num < 0)), .slice A1 (dg a.num.natAbs).length c1, .slice A2 (dg a.den).length c2] 24)
        have KB := Blk.new wr 24 #[.bool (decide (a.num < 0)), .slice A1 (dg a.num.natAbs).length c1, .slice A2 (dg a.den).length c2]
        obtain ⟨v8, w8, hrun, hO8, hfr8, hob8⟩ := OF.push (d := dq a) (OF.below hO al) (Nat.le_trans hbl.size al.size) KB (FrIn.below (FrIn.below (FrIn.below HFR.out hbl) al) (Below.refl _ _)) (by simp; omega)
        have hb8 := Below.trans (bl_trans hbl al) (hfr8.below (Nat.le_trans hbl.size al.size) (fun g hg => OF.block hO hg))
        have HO8 := Lib.hid hO8
        have HB8 := Lib.hid hb8
        have HRUN := Lib.hid hrun
        clear hv hvp hqa hpp hfr hfrp hO hO8 hfr8 hob8 hb8 hrun al KB hp0
        go_wp2_with (first
          | (at_builtin; refine wpList_append_run _ rfl _ _ 32 rfl _ _ rfl rfl ⟨v8, w8, HRUN.out, ?_⟩)
          | go_in)
        exact ⟨⟨k + 1, by omega, by go_num, by rw [HN.out, HN2.out]; exact HO8.out, HB8.out⟩, by simp [intOf]; omega⟩
      · have g : (((dg p.num.natAbs).length : Int) == 0) = false := beq_eq_false_iff_ne.2 (fun h => hp0 (Rat.num_eq_zero.1 (Int.natAbs_eq_zero.1 (dg_len_zero.1 (by omega)))))
        have hsm : Short (p * q) := (szq_mul zpp zq).short (by omega)
        have hsh : Short (a + -(p * q)) := (szq_add za (szq_neg (szq_mul zpp zq))).short (by omega)
        have HO := Lib.hid (hO.below (bl_drew _))
        have hbd := bl_trans hbl (bl_drew _)
        clear hv hvp hqa hpp hfr hfrp hO hp0
        go_wp2_with fail
        have mkS : ∀ w', Below W0.heap.size W0 w' → (fun w' => Below W0.heap.size W0 w' ∧ w'.cell? (ad.add (k * 3)) = some (.bool (decide (a.num < 0))) ∧ w'.cell? ⟨(ad.add (k * 3)).block, (ad.add (k * 3)).off + 1, none⟩ = some (.slice A1 (dg a.num.natAbs).length c1) ∧ w'.cell? ⟨(ad.add (k * 3)).block, (ad.add (k * 3)).off + 2, none⟩ = some (.slice A2 (dg a.den).length c2) ∧ w'.cell? (adp.add (k * 3)) = some (.bool (decide (p.num < 0))) ∧ w'.cell? ⟨(adp.add (k * 3)).block, (adp.add (k * 3)).off + 1, none⟩ = some (.slice E1 (dg p.num.natAbs).length x1) ∧ w'.cell? ⟨(adp.add (k * 3)).block, (adp.add (k * 3)).off + 2, none⟩ = some (.slice E2 (dg p.den).length x2) ∧ w'.cell? ⟨gb, 0, none⟩ = some (.bool (decide (q.num < 0))) ∧ w'.cell? ⟨gb, 1, none⟩ = some (.slice B1 (dg q.num.natAbs).length b1) ∧ w'.cell? ⟨gb, 2, none⟩ = some (.slice B2 (dg q.den).length b2)) w' := fun w' hb => ⟨hb, cell_below hb e0, cell_below hb e1, cell_below hb e2, cell_below hb f0, cell_below hb f1, cell_below hb f2, cell_below hb k0, cell_below hb k1, cell_below hb k2⟩
        refine wp_region_T (fun w' => Below W0.heap.size W0 w' ∧ w'.cell? (ad.add (k * 3)) = some (.bool (decide (a.num < 0))) ∧ w'.cell? ⟨(ad.add (k * 3)).block, (ad.add (k * 3)).off + 1, none⟩ = some (.slice A1 (dg a.num.natAbs).length c1) ∧ w'.cell? ⟨(ad.add (k * 3)).block, (ad.add (k * 3)).off + 2, none⟩ = some (.slice A2 (dg a.den).length c2) ∧ w'.cell? (adp.add (k * 3)) = some (.bool (decide (p.num < 0))) ∧ w'.cell? ⟨(adp.add (k * 3)).block, (adp.add (k * 3)).off + 1, none⟩ = some (.slice E1 (dg p.num.natAbs).length x1) ∧ w'.cell? ⟨(adp.add (k * 3)).block, (adp.add (k * 3)).off + 2, none⟩ = some (.slice E2 (dg p.den).length x2) ∧ w'.cell? ⟨gb, 0, none⟩ = some (.bool (decide (q.num < 0))) ∧ w'.cell? ⟨gb, 1, none⟩ = some (.slice B1 (dg q.num.natAbs).length b1) ∧ w'.cell? ⟨gb, 2, none⟩ = some (.slice B2 (dg q.den).length b2)) 14 (by kernel_rfl) ?_
        have hS : (fun w' => Below W0.heap.size W0 w' ∧ w'.cell? (ad.add (k * 3)) = some (.bool (decide (a.num < 0))) ∧ w'.cell? ⟨(ad.add (k * 3)).block, (ad.add (k * 3)).off + 1, none⟩ = some (.slice A1 (dg a.num.natAbs).length c1) ∧ w'.cell? ⟨(ad.add (k * 3)).block, (ad.add (k * 3)).off + 2, none⟩ = some (.slice A2 (dg a.den).length c2) ∧ w'.cell? (adp.add (k * 3)) = some (.bool (decide (p.num < 0))) ∧ w'.cell? ⟨(adp.add (k * 3)).block, (adp.add (k * 3)).off + 1, none⟩ = some (.slice E1 (dg p.num.natAbs).length x1) ∧ w'.cell? ⟨(adp.add (k * 3)).block, (adp.add (k * 3)).off + 2, none⟩ = some (.slice E2 (dg p.den).length x2) ∧ w'.cell? ⟨gb, 0, none⟩ = some (.bool (decide (q.num < 0))) ∧ w'.cell? ⟨gb, 1, none⟩ = some (.slice B1 (dg q.num.natAbs).length b1) ∧ w'.cell? ⟨gb, 2, none⟩ = some (.slice B2 (dg q.den).length b2)) _ := mkS _ hbd
        simp only [List.size_toArray, List.length_cons, List.length_nil, Nat.reduceAdd]
        refine wpAnyT_take 0 (some 29) (v := ?v0) rfl rfl (by kernel_rfl) (by kernel_rfl) (by kernel_rfl) (by kernel_rfl) (fun _ _ _ h => h) rfl ?hy0 hS ?rest0
        case hy0 => (intro w hSw; (try dsimp only at hSw); go_simp; (try with_reducible rfl))
        (try simp only [Act.put, List.setIfInBounds_toArray, List.set_cons_zero, List.set_cons_succ])
        refine wpAnyT_take 1 (some 30) (v := ?v1) rfl rfl (by kernel_rfl) (by kernel_rfl) (by kernel_rfl) (by kernel_rfl) (fun _ _ _ h => h) rfl ?hy1 hS ?rest1
        case hy1 => (intro w hSw; (try dsimp only at hSw); go_simp; (try with_reducible rfl))
        (try simp only [Act.put, List.setIfInBounds_toArray, List.set_cons_zero, List.set_cons_succ])
        refine wpAnyT_take 2 (some 31) (v := ?v2) rfl rfl (by kernel_rfl) (by kernel_rfl) (by kernel_rfl) (by kernel_rfl) (fun _ _ _ h => h) rfl ?hy2 hS ?rest2
        case hy2 => (intro w hSw; (try dsimp only at hSw); go_simp; (try with_reducible rfl))
        (try simp only [Act.put, List.setIfInBounds_toArray, List.set_cons_zero, List.set_cons_succ])
        refine wpAnyT_take 3 (some 32) (v := ?v3) rfl rfl (by kernel_rfl) (by kernel_rfl) (by kernel_rfl) (by kernel_rfl) (fun _ _ _ h => h) rfl ?hy3 hS ?rest3
        case hy3 => (intro w hSw; (try dsimp only at hSw); go_simp; (try with_reducible rfl))
        (try simp only [Act.put, List.setIfInBounds_toArray, List.set_cons_zero, List.set_cons_succ])
        refine wpAnyT_take 4 (some 33) (v := ?v4) rfl rfl (by kernel_rfl) (by kernel_rfl) (by kernel_rfl) (by kernel_rfl) (fun _ _ _ h => h) rfl ?hy4 hS ?rest4
        case hy4 => (intro w hSw; (try dsimp only at hSw); go_simp; (try with_reducible rfl))
        (try simp only [Act.put, List.setIfInBounds_toArray, List.set_cons_zero, List.set_cons_succ])
        refine wpAnyT_take 5 (some 34) (v := ?v5) rfl rfl (by kernel_rfl) (by kernel_rfl) (by kernel_rfl) (by kernel_rfl) (fun _ _ _ h => h) rfl ?hy5 hS ?rest5
        case hy5 => (intro w hSw; (try dsimp only at hSw); go_simp; (try with_reducible rfl))
        (try simp only [Act.put, List.setIfInBounds_toArray, List.set_cons_zero, List.set_cons_succ])
        refine wpAnyT_take 6 (some 35) (v := ?v6) rfl rfl (by kernel_rfl) (by kernel_rfl) (by kernel_rfl) (by kernel_rfl) (fun _ _ _ h => h) rfl ?hy6 hS ?rest6
        case hy6 => (intro w hSw; (try dsimp only at hSw); go_simp; (try with_reducible rfl))
        (try simp only [Act.put, List.setIfInBounds_toArray, List.set_cons_zero, List.set_cons_succ])
        refine wpAnyT_take 7 (some 36) (v := ?v7) rfl rfl (by kernel_rfl) (by kernel_rfl) (by kernel_rfl) (by kernel_rfl) (fun _ _ _ h => h) rfl ?hy7 hS ?rest7
        case hy7 => (intro w hSw; (try dsimp only at hSw); go_simp; (try with_reducible rfl))
        (try simp only [Act.put, List.setIfInBounds_toArray, List.set_cons_zero, List.set_cons_succ])
        refine wpAnyT_take 8 (some 37) (v := ?v8) rfl rfl (by kernel_rfl) (by kernel_rfl) (by kernel_rfl) (by kernel_rfl) (fun _ _ _ h => h) rfl ?hy8 hS ?rest8
        case hy8 => (intro w hSw; (try dsimp only at hSw); go_simp; (try with_reducible rfl))
        (try simp only [Act.put, List.setIfInBounds_toArray, List.set_cons_zero, List.set_cons_succ])
        refine wpAnyT_take 9 (some 38) (v := ?v9) rfl rfl (by kernel_rfl) (by kernel_rfl) (by kernel_rfl) (by kernel_rfl) (fun _ _ _ h => h) rfl ?hy9 hS ?rest9
        case hy9 => (intro w hSw; (try dsimp only at hSw); go_simp; (try with_reducible rfl))
        (try simp only [Act.put, List.setIfInBounds_toArray, List.set_cons_zero, List.set_cons_succ])
        refine wpAnyT_one (i := 10) rfl (by kernel_rfl) rfl (fun K hK => ?_)
        simp only [List.getElem_toArray, List.getElem_cons_succ, List.getElem_cons_zero]
        go_simp
        go_at_call 33
        with_reducible refine (rmulq _ _ _ p q (FrV.q (FrV.below HFRP.out hS.1) (zpp.short (by omega))) (FrV.q (FrV.below HC.out hS.1) (zq.short (by omega))) hsm).mono ?_
        rintro e w5 ⟨v5, rfl, hv5, hb5⟩
        have hO5 := HO.out.below hb5
        have hS2 := mkS _ (bl_trans hS.1 hb5)
        refine hK.out _ _ (fun _ => hS2) ?_
        clear hS K hK
        have hS := hS2
        clear hS2
        (try simp only [Act.put, List.setIfInBounds_toArray, List.set_cons_zero, List.set_cons_succ])
        refine wpAnyT_one (i := 11) rfl (by kernel_rfl) rfl (fun K hK => ?_)
        simp only [List.getElem_toArray, List.getElem_cons_succ, List.getElem_cons_zero]
        go_simp
        go_at_call 32
        with_reducible refine (rsubq _ _ _ a (p * q) (FrV.q (FrV.below HFR.out hS.1) (za.short (by omega))) (FrV.q hv5 hsm) hsh).mono ?_
        rintro e w6 ⟨v6, rfl, hv6, hb6⟩
        obtain ⟨P1, p1, P2, p2, rfl, _, _, _, _⟩ := FrIn.shape hv6
        have hO6 := hO5.below hb6
        have hS2 := mkS _ (bl_trans hS.1 hb6)
        refine hK.out _ _ (fun _ => hS2) ?_
        clear hS K hK
        have hS := hS2
        clear hS2
        (try simp only [Act.put, List.setIfInBounds_toArray, List.set_cons_zero, List.set_cons_succ])
        refine wpAnyT_one (i := 12) rfl (by kernel_rfl) rfl (fun K hK => ?_)
        simp only [List.getElem_toArray, List.getElem_cons_succ, List.getElem_cons_zero]
        go_simp
        have al := below_alloc0 w6 (.cells #[.bool (decide ((a + -(p * q)).num < 0)), .slice P1 (dg (a + -(p * q)).num.natAbs).length p1, .slice P2 (dg (a + -(p * q)).den).length p2] 24)
        have KB := Blk.new w6 24 #[.bool (decide ((a + -(p * q)).num < 0)), .slice P1 (dg (a + -(p * q)).num.natAbs).length p1, .slice P2 (dg (a + -(p * q)).den).length p2]
        have hS2 := mkS _ (bl_trans hS.1 al)
        refine hK.out _ _ (fun _ => hS2) ?_
        clear hS K hK
        have hS := hS2
        clear hS2
        (try simp only [Act.put, List.setIfInBounds_toArray, List.set_cons_zero, List.set_cons_succ])
        refine wpAnyT_one (i := 13) rfl (by kernel_rfl) rfl (fun K hK => ?_)
        simp only [List.getElem_toArray, List.getElem_cons_succ, List.getElem_cons_zero]
        obtain ⟨v8, w8, hrun, hO8, hfr8, hob8⟩ := OF.push (d := dq (a + -(p * q))) (OF.below hO6 al) hS.1.size KB (FrIn.below hv6 al) (by simp; omega)
        have hb8 := Below.trans hS.1 (hfr8.below hS.1.size (fun g hg => OF.block hO6 hg))
        refine wp_append_run _ (.tmp 29) (.tmp 41) 32 _ _ rfl rfl rfl ⟨v8, w8, hrun, ?_⟩
        refine hK.out _ _ (fun _ => mkS _ hb8) ?_
        clear hS K hK hrun
        (try simp only [Act.put, List.setIfInBounds_toArray, List.set_cons_zero, List.set_cons_succ])
        refine wpAnyT_one (i := 14) rfl (by kernel_rfl) rfl (fun K hK => ?_)
        simp only [List.getElem_toArray, List.getElem_cons_succ, List.getElem_cons_zero]
        go_simp
        refine hK.out _ _ (fun h => absurd rfl h) ?_
        refine wpAnyT_done (by kernel_rfl) ?_ _
        clear K hK mkS
        have HO8 := Lib.hid hO8
        have HB8 := Lib.hid hb8
        clear hO8 hfr8 hob8 hb8 al KB hv6 hv5 hb6 hb5 hO6 hO5
        go_wp2
        exact ⟨⟨k + 1, by omega, by go_num, by rw [HN.out]; exact HO8.out, HB8.out⟩, by simp [intOf]; omega⟩
    · obtain rfl : k = qs.length := by omega
      rw [List.take_of_length_le (by rw [HZL.out]; exact Nat.le_refl _)] at hO
      have HO := Lib.hid hO
      have HBL := Lib.hid hbl
      clear hO hbl
      go_wp2
      go_ret
      exact ⟨_, rfl, HO.out.mono (by omega), bl_trans HAL.out HBL.out⟩
end Go.Proofs.Ytdmgceckmciifaa
