/- Tides: a tide with another visit. -/
import Derived.Test.YtajckdheecgceaaTd26
import Derived.Test.YtajckdheecgceaaTd27
set_option linter.unusedVariables false
set_option linter.unusedSimpArgs false
namespace Go.Proofs.Ytajckdheecgceaa
open Go.RowKit

/-- What the loop of with holds on to. -/
structure WW (w0 : World) (days each : Int) (ad : Addr) (c i : Nat) (L : List VD) (dv : VD) (V1 : Option Addr) (n1 : Nat) (V2 : Option Addr) (n2 : Nat) (m : Nat) (wr : World) : Prop where
  box : Blk wr w0.heap.size 24 #[.int .i64 days, .int .i64 each, .slice (some ad) L.length c]
  vis : Blk wr (w0.heap.size + 1) 40 #[.int .i64 dv.1, .int .i64 dv.2.1, .bool dv.2.2.1, .slice V1 dv.2.2.2.1.length n1, .slice V2 dv.2.2.2.2.length n2]
  ret : Blk wr (w0.heap.size + 2) 24 #[.int .i64 0, .int .i64 0, .slice none 0 0]
  out : ∃ v, Blk wr (w0.heap.size + 3) 24 #[.int .i64 days, .int .i64 each, v] ∧ OV wr (w0.heap.size + 4) v ((L.set i dv).take m)
  bel : Below w0.heap.size w0 wr
  siz : w0.heap.size + 4 ≤ wr.heap.size
/-- What with tells. -/
def WithP (days each : Int) (M : List VD) (w : World) (e : Ending) (w' : World) : Prop := ∃ A' c', e = .returned (.agg #[.int .i64 days, .int .i64 each, .slice A' M.length c']) ∧ VL w' (.slice A' M.length c') M ∧ Below w.heap.size w w'
theorem set_snoc {L : List VD} {m : Nat} {x : VD} (hx : L[m]? = some x) (i : Nat) (dv : VD) : (L.set i dv).take (m + 1) = (L.set i dv).take m ++ [if m = i then dv else x] := by
  have hm := (List.getElem?_eq_some_iff.1 hx).1
  have h : (L.set i dv)[m]? = some (if m = i then dv else x) := by
    rw [List.getElem?_set]
    by_cases e : i = m
    · subst e; simp [hm]
    · rw [if_neg e, if_neg (fun h => e h.symm)]; exact hx
  rw [List.take_add_one, h]; rfl
set_option maxRecDepth 100000 in
set_option maxHeartbeats 4000000 in
theorem with_calls (w : World) (days each : Int) (ad : Addr) (c i : Nat) (L : List VD) (h : VL w (.slice (some ad) L.length c) L) (hi : i < L.length) (hL : L.length ≤ 4096) (dv : VD) (V1 : Option Addr) (n1 : Nat) (V2 : Option Addr) (n2 : Nat) (hdv : FrIn w (.agg #[.bool dv.2.2.1, .slice V1 dv.2.2.2.1.length n1, .slice V2 dv.2.2.2.2.length n2]) dv.2.2.1 dv.2.2.2.1 dv.2.2.2.2) :
    Calls Try.prog 26 #[.agg #[.int .i64 days, .int .i64 each, .slice (some ad) L.length c], .int .i64 (i : Int), .agg #[.int .i64 dv.1, .int .i64 dv.2.1, .bool dv.2.2.1, .slice V1 dv.2.2.2.1.length n1, .slice V2 dv.2.2.2.2.length n2]] w (WithP days each (L.set i dv) w) := by
  have hcc := h.bounds
  have HV0 := Lib.hid h
  have HDV := Lib.hid hdv
  obtain ⟨wa, hwa⟩ : ∃ W, W = w.alloc (.cells #[.int .i64 days, .int .i64 each, .slice (some ad) L.length c] 24) := ⟨_, rfl⟩
  obtain ⟨wb, hwb⟩ : ∃ W, W = wa.alloc (.cells #[.int .i64 dv.1, .int .i64 dv.2.1, .bool dv.2.2.1, .slice V1 dv.2.2.2.1.length n1, .slice V2 dv.2.2.2.2.length n2] 40) := ⟨_, rfl⟩
  obtain ⟨wc, hwc⟩ : ∃ W, W = wb.alloc (.cells #[.int .i64 0, .int .i64 0, .slice none 0 0] 24) := ⟨_, rfl⟩
  obtain ⟨wd, hwd⟩ : ∃ W, W = wc.alloc (.cells #[.int .i64 days, .int .i64 each, .slice none 0 0] 24) := ⟨_, rfl⟩
  have sa : wa.heap.size = w.heap.size + 1 := by rw [hwa]; simp
  have sb : wb.heap.size = w.heap.size + 2 := by rw [hwb]; simp [sa]
  have sc : wc.heap.size = w.heap.size + 3 := by rw [hwc]; simp [sb]
  have ba : Below w.heap.size w wa := by rw [hwa]; exact below_alloc0 _ _
  have bb : Below wa.heap.size wa wb := by rw [hwb]; exact below_alloc0 _ _
  have bc : Below wb.heap.size wb wc := by rw [hwc]; exact below_alloc0 _ _
  have bd : Below wc.heap.size wc wd := by rw [hwd]; exact below_alloc0 _ _
  have KA : Blk wa w.heap.size 24 #[.int .i64 days, .int .i64 each, .slice (some ad) L.length c] := by rw [hwa]; exact Blk.new _ _ _
  have KB : Blk wb (w.heap.size + 1) 40 #[.int .i64 dv.1, .int .i64 dv.2.1, .bool dv.2.2.1, .slice V1 dv.2.2.2.1.length n1, .slice V2 dv.2.2.2.2.length n2] := by rw [hwb, ← sa]; exact Blk.new _ _ _
  have KC : Blk wc (w.heap.size + 2) 24 #[.int .i64 0, .int .i64 0, .slice none 0 0] := by rw [hwc, ← sb]; exact Blk.new _ _ _
  have KD : Blk wd (w.heap.size + 3) 24 #[.int .i64 days, .int .i64 each, .slice none 0 0] := by rw [hwd, ← sc]; exact Blk.new _ _ _
  have sd : wd.heap.size = w.heap.size + 4 := by rw [hwd]; simp [sc]
  have HST : Hid (WW w days each ad c i L dv V1 n1 V2 n2 0 wd) := Lib.hid ⟨((KA.below bb).below bc).below bd, (KB.below bc).below bd, KC.below bd, ⟨_, KD, by simpa using OV.nil _ _⟩, bl_trans (bl_trans (bl_trans ba bb) bc) bd, by omega⟩
  have kc := (KA.below bb).below bc
  have k0 := kc.cell 0
  have k1 := kc.cell 1
  have k2 := kc.cell 2
  have HWC := Lib.hid (show ((w.alloc (.cells #[.int .i64 days, .int .i64 each, .slice (some ad) L.length c] 24)).alloc (.cells #[.int .i64 dv.1, .int .i64 dv.2.1, .bool dv.2.2.1, .slice V1 dv.2.2.2.1.length n1, .slice V2 dv.2.2.2.2.length n2] 40)).alloc (.cells #[.int .i64 0, .int .i64 0, .slice none 0 0] 24) = wc by rw [hwc, hwb, hwa])
  have HWD := Lib.hid hwd
  have HSC := Lib.hid sc
  clear h hdv hwa hwb hwc hwd sd sa sb ba bb bc bd KA KB KC KD kc
  go_enter Try.func26, Try.ntmps26
  go_upto_region 1 with fail
  rw [HWC.out]
  go_wp2
  rw [← HWD.out]
  clear k0 k1 k2 HWC HWD HSC
  go_loopw [8] (fun iv wr => ∃ m : Nat, m ≤ L.length ∧ iv = .int .i64 (m : Int) ∧ WW w days each ad c i L dv V1 n1 V2 n2 m wr) (fun iv _ => L.length - (intOf iv).toNat)
  case atStart => exact ⟨0, by omega, rfl, HST.out⟩
  case round =>
    clear HST
    obtain ⟨m, hm, rfl, hW⟩ := hrel
    have HW := Lib.hid hW
    obtain ⟨v, kv, hO⟩ := hW.out
    have b2 := hW.box.cell 2
    have k2 : wr.cell? ⟨w.heap.size + 3, 2, none⟩ = some v := kv.cell 2
    have hszr := hW.siz
    have hle : ((L.set i dv).take m).length ≤ 1000000 := by rw [List.length_take, List.length_set]; omega
    have hnb : ∀ g, v.ownBlock = some g → w.heap.size + 4 ≤ g := fun g hg => hO.block hg
    by_cases hx : m < L.length
    · have q1 : (m : Int) < (L.length : Int) := by omega
      obtain ⟨x, hx1⟩ : ∃ x, L[m]? = some x := ⟨_, List.getElem?_eq_getElem hx⟩
      have hsn := set_snoc hx1 i dv
      by_cases hmi : m = i
      · have q2 : ((m : Int) == (i : Int)) = true := by rw [hmi]; simp
        rw [if_pos hmi] at hsn
        have al := below_alloc0 wr (.cells #[.int .i64 dv.1, .int .i64 dv.2.1, .bool dv.2.2.1, .slice V1 dv.2.2.2.1.length n1, .slice V2 dv.2.2.2.2.length n2] 40)
        have KX := Blk.new wr 40 #[.int .i64 dv.1, .int .i64 dv.2.1, .bool dv.2.2.1, .slice V1 dv.2.2.2.1.length n1, .slice V2 dv.2.2.2.2.length n2]
        obtain ⟨v8, w8, hrun, hO8, hf8, hob8⟩ := OV.push (d := dv) (hO.below al) (by have := al.size; omega) KX ((HDV.out.below hW.bel).below al) hle
        rw [← hsn] at hO8
        have hb8 : Below w.heap.size w w8 := (bl_trans hW.bel al).trans (hf8.below (bl_trans hW.bel al).size (fun y hy => by have := hnb y hy; omega))
        have kbox := hf8.blk (hW.box.below al) (fun e => by have := hnb _ e; omega)
        have kvis := hf8.blk (hW.vis.below al) (fun e => by have := hnb _ e; omega)
        have kret := hf8.blk (hW.ret.below al) (fun e => by have := hnb _ e; omega)
        have kout := hf8.blk (kv.below al) (fun e => by have := hnb _ e; omega)
        obtain ⟨Av, cv, hve, _, _⟩ := hO.shape
        obtain ⟨Av8, cv8, hve8, _, _⟩ := hO8.shape
        rw [show ((L.set i dv).take m).length = m by rw [List.length_take, List.length_set]; omega] at hve
        rw [show ((L.set i dv).take (m + 1)).length = m + 1 by rw [List.length_take, List.length_set]; omega] at hve8
        have hF9 : Fr (fun y => y = w.heap.size + 3) w8 (w8.setCell ⟨w.heap.size + 3, 2, none⟩ v8) := Fr.set (kout.cell 2) (by rw [hve]; exact slne _ _ _) v8
        have HEND : Hid (WW w days each ad c i L dv V1 n1 V2 n2 (m + 1) (w8.setCell ⟨w.heap.size + 3, 2, none⟩ v8)) := Lib.hid ⟨hF9.blk kbox (fun e => by have e' : w.heap.size = w.heap.size + 3 := e; omega), hF9.blk kvis (fun e => by have e' : w.heap.size + 1 = w.heap.size + 3 := e; omega), hF9.blk kret (fun e => by have e' : w.heap.size + 2 = w.heap.size + 3 := e; omega), ⟨v8, kout.set 2 v8, hO8.fr hF9 (fun g hg e => by have e' : g = w.heap.size + 3 := e; have := hO8.block hg; omega)⟩, hb8.trans (hF9.below hb8.size (fun y hy => by have e : y = w.heap.size + 3 := hy; omega)), by have := hf8.size; have := al.size; simp; omega⟩
        have kf := kout.free 2
        have z2 : w8.cell? ⟨w.heap.size + 3, 2, none⟩ = some v := kout.cell 2
        have x0 := hW.vis.cell 0
        have x1 := hW.vis.cell 1
        have x2 := hW.vis.cell 2
        have x3 := hW.vis.cell 3
        have x4 := hW.vis.cell 4
        have HRUN := Lib.hid hrun
        subst hve
        subst hve8
        clear al KX hle hO8 hf8 hob8 hnb hb8 kbox kvis kret hF9 hsn hx1 hO kv hW hszr kout hrun hmi
        go_wp2_with (first
          | (at_builtin; refine wpList_append_run _ rfl _ _ 22 rfl _ _ rfl rfl ⟨_, w8, HRUN.out, ?_⟩)
          | go_in)
        exact ⟨⟨m + 1, by omega, by go_num, HEND.out⟩, by simp [intOf]; omega⟩
      · have q2 : ((m : Int) == (i : Int)) = false := beq_eq_false_iff_ne.2 (by omega)
        rw [if_neg hmi] at hsn
        obtain ⟨ad', A1, a1, A2, a2, had, E0, E1, E2, E3, E4, hfx⟩ := HV0.out.at hx1
        obtain rfl := Option.some.inj had
        have bd := bl_drew wr
        have al := below_alloc0 wr.drew (.cells #[.int .i64 x.1, .int .i64 x.2.1, .bool x.2.2.1, .slice A1 x.2.2.2.1.length a1, .slice A2 x.2.2.2.2.length a2] 40)
        have bda := bl_trans bd al
        have KX := Blk.new wr.drew 40 #[.int .i64 x.1, .int .i64 x.2.1, .bool x.2.2.1, .slice A1 x.2.2.2.1.length a1, .slice A2 x.2.2.2.2.length a2]
        obtain ⟨v8, w8, hrun, hO8, hf8, hob8⟩ := OV.push (hO.below bda) (by have := al.size; have : wr.drew.heap.size = wr.heap.size := rfl; omega) KX ((hfx.below hW.bel).below bda) hle
        rw [← hsn] at hO8
        have hb8 : Below w.heap.size w w8 := (bl_trans hW.bel bda).trans (hf8.below (bl_trans hW.bel bda).size (fun y hy => by have := hnb y hy; omega))
        have kbox := hf8.blk (hW.box.below bda) (fun e => by have := hnb _ e; omega)
        have kvis := hf8.blk (hW.vis.below bda) (fun e => by have := hnb _ e; omega)
        have kret := hf8.blk (hW.ret.below bda) (fun e => by have := hnb _ e; omega)
        have kout := hf8.blk (kv.below bda) (fun e => by have := hnb _ e; omega)
        obtain ⟨Av, cv, hve, _, _⟩ := hO.shape
        obtain ⟨Av8, cv8, hve8, _, _⟩ := hO8.shape
        rw [show ((L.set i dv).take m).length = m by rw [List.length_take, List.length_set]; omega] at hve
        rw [show ((L.set i dv).take (m + 1)).length = m + 1 by rw [List.length_take, List.length_set]; omega] at hve8
        have hbd := bl_trans hW.bel bd
        have hba := bl_trans hW.bel bda
        have hS0 : (fun (w' : World) => w'.cell? ⟨w.heap.size, 2, none⟩ = some (.slice (some ad) L.length c) ∧ w'.cell? ⟨w.heap.size + 3, 2, none⟩ = some v ∧ w'.cell? (ad.add (m * 5)) = some (.int .i64 x.1) ∧ w'.cell? ⟨(ad.add (m * 5)).block, (ad.add (m * 5)).off + 1, none⟩ = some (.int .i64 x.2.1) ∧ w'.cell? ⟨(ad.add (m * 5)).block, (ad.add (m * 5)).off + 2, none⟩ = some (.bool x.2.2.1) ∧ w'.cell? ⟨(ad.add (m * 5)).block, (ad.add (m * 5)).off + 3, none⟩ = some (.slice A1 x.2.2.2.1.length a1) ∧ w'.cell? ⟨(ad.add (m * 5)).block, (ad.add (m * 5)).off + 4, none⟩ = some (.slice A2 x.2.2.2.2.length a2)) wr.drew := ⟨cell_below bd b2, cell_below bd k2, cell_below hbd E0, cell_below hbd E1, cell_below hbd E2, cell_below hbd E3, cell_below hbd E4⟩
        have hSA : (fun (w' : World) => w'.cell? ⟨w.heap.size, 2, none⟩ = some (.slice (some ad) L.length c) ∧ w'.cell? ⟨w.heap.size + 3, 2, none⟩ = some v ∧ w'.cell? (ad.add (m * 5)) = some (.int .i64 x.1) ∧ w'.cell? ⟨(ad.add (m * 5)).block, (ad.add (m * 5)).off + 1, none⟩ = some (.int .i64 x.2.1) ∧ w'.cell? ⟨(ad.add (m * 5)).block, (ad.add (m * 5)).off + 2, none⟩ = some (.bool x.2.2.1) ∧ w'.cell? ⟨(ad.add (m * 5)).block, (ad.add (m * 5)).off + 3, none⟩ = some (.slice A1 x.2.2.2.1.length a1) ∧ w'.cell? ⟨(ad.add (m * 5)).block, (ad.add (m * 5)).off + 4, none⟩ = some (.slice A2 x.2.2.2.2.length a2)) (wr.drew.alloc (.cells #[.int .i64 x.1, .int .i64 x.2.1, .bool x.2.2.1, .slice A1 x.2.2.2.1.length a1, .slice A2 x.2.2.2.2.length a2] 40)) := ⟨cell_below bda b2, cell_below bda k2, cell_below hba E0, cell_below hba E1, cell_below hba E2, cell_below hba E3, cell_below hba E4⟩
        have hSB : (fun (w' : World) => w'.cell? ⟨w.heap.size, 2, none⟩ = some (.slice (some ad) L.length c) ∧ w'.cell? ⟨w.heap.size + 3, 2, none⟩ = some v ∧ w'.cell? (ad.add (m * 5)) = some (.int .i64 x.1) ∧ w'.cell? ⟨(ad.add (m * 5)).block, (ad.add (m * 5)).off + 1, none⟩ = some (.int .i64 x.2.1) ∧ w'.cell? ⟨(ad.add (m * 5)).block, (ad.add (m * 5)).off + 2, none⟩ = some (.bool x.2.2.1) ∧ w'.cell? ⟨(ad.add (m * 5)).block, (ad.add (m * 5)).off + 3, none⟩ = some (.slice A1 x.2.2.2.1.length a1) ∧ w'.cell? ⟨(ad.add (m * 5)).block, (ad.add (m * 5)).off + 4, none⟩ = some (.slice A2 x.2.2.2.2.length a2)) w8 := ⟨kbox.cell 2, kout.cell 2, cell_below hb8 E0, cell_below hb8 E1, cell_below hb8 E2, cell_below hb8 E3, cell_below hb8 E4⟩
        have hF9 : Fr (fun y => y = w.heap.size + 3) w8 (w8.setCell ⟨w.heap.size + 3, 2, none⟩ v8) := Fr.set (kout.cell 2) (by rw [hve]; exact slne _ _ _) v8
        have HEND : Hid (WW w days each ad c i L dv V1 n1 V2 n2 (m + 1) (w8.setCell ⟨w.heap.size + 3, 2, none⟩ v8)) := Lib.hid ⟨hF9.blk kbox (fun e => by have e' : w.heap.size = w.heap.size + 3 := e; omega), hF9.blk kvis (fun e => by have e' : w.heap.size + 1 = w.heap.size + 3 := e; omega), hF9.blk kret (fun e => by have e' : w.heap.size + 2 = w.heap.size + 3 := e; omega), ⟨v8, kout.set 2 v8, hO8.fr hF9 (fun g hg e => by have e' : g = w.heap.size + 3 := e; have := hO8.block hg; omega)⟩, hb8.trans (hF9.below hb8.size (fun y hy => by have e : y = w.heap.size + 3 := hy; omega)), by have := hf8.size; have := al.size; have : wr.drew.heap.size = wr.heap.size := rfl; simp; omega⟩
        have kf := kout.free 2
        subst hve
        subst hve8
        clear bd al bda KX hle hO8 hf8 hob8 hnb hb8 kbox kvis kret hF9 hsn hx1 hfx E0 E1 E2 E3 E4 hO hW hszr hbd hba
        go_upto_region 7 with fail
        refine wp_region_T (fun (w' : World) => w'.cell? ⟨w.heap.size, 2, none⟩ = some (.slice (some ad) L.length c) ∧ w'.cell? ⟨w.heap.size + 3, 2, none⟩ = some (.slice Av m cv) ∧ w'.cell? (ad.add (m * 5)) = some (.int .i64 x.1) ∧ w'.cell? ⟨(ad.add (m * 5)).block, (ad.add (m * 5)).off + 1, none⟩ = some (.int .i64 x.2.1) ∧ w'.cell? ⟨(ad.add (m * 5)).block, (ad.add (m * 5)).off + 2, none⟩ = some (.bool x.2.2.1) ∧ w'.cell? ⟨(ad.add (m * 5)).block, (ad.add (m * 5)).off + 3, none⟩ = some (.slice A1 x.2.2.2.1.length a1) ∧ w'.cell? ⟨(ad.add (m * 5)).block, (ad.add (m * 5)).off + 4, none⟩ = some (.slice A2 x.2.2.2.2.length a2)) 10 (by kernel_rfl) ?_
        have hS : (fun (w' : World) => w'.cell? ⟨w.heap.size, 2, none⟩ = some (.slice (some ad) L.length c) ∧ w'.cell? ⟨w.heap.size + 3, 2, none⟩ = some (.slice Av m cv) ∧ w'.cell? (ad.add (m * 5)) = some (.int .i64 x.1) ∧ w'.cell? ⟨(ad.add (m * 5)).block, (ad.add (m * 5)).off + 1, none⟩ = some (.int .i64 x.2.1) ∧ w'.cell? ⟨(ad.add (m * 5)).block, (ad.add (m * 5)).off + 2, none⟩ = some (.bool x.2.2.1) ∧ w'.cell? ⟨(ad.add (m * 5)).block, (ad.add (m * 5)).off + 3, none⟩ = some (.slice A1 x.2.2.2.1.length a1) ∧ w'.cell? ⟨(ad.add (m * 5)).block, (ad.add (m * 5)).off + 4, none⟩ = some (.slice A2 x.2.2.2.2.length a2)) _ := hS0
        simp only [List.size_toArray, List.length_cons, List.length_nil, Nat.reduceAdd]
        refine wpAnyT_take 0 (some 30) (v := ?vr1_0) rfl rfl (by kernel_rfl) (by kernel_rfl) (by kernel_rfl) (by kernel_rfl) (fun _ _ _ h => h) rfl ?hyr1_0 hS ?restr1_0
        case hyr1_0 => (intro w hSw; (try dsimp only at hSw); go_simp; (try with_reducible rfl))
        (try simp only [Act.put, List.setIfInBounds_toArray, List.set_cons_zero, List.set_cons_succ])
        refine wpAnyT_take 1 (some 31) (v := ?vr1_1) rfl rfl (by kernel_rfl) (by kernel_rfl) (by kernel_rfl) (by kernel_rfl) (fun _ _ _ h => h) rfl ?hyr1_1 hS ?restr1_1
        case hyr1_1 => (intro w hSw; (try dsimp only at hSw); go_simp; (try with_reducible rfl))
        (try simp only [Act.put, List.setIfInBounds_toArray, List.set_cons_zero, List.set_cons_succ])
        refine wpAnyT_take 2 (some 32) (v := ?vr1_2) rfl rfl (by kernel_rfl) (by kernel_rfl) (by kernel_rfl) (by kernel_rfl) (fun _ _ _ h => h) rfl ?hyr1_2 hS ?restr1_2
        case hyr1_2 => (intro w hSw; (try dsimp only at hSw); go_simp; (try with_reducible rfl))
        (try simp only [Act.put, List.setIfInBounds_toArray, List.set_cons_zero, List.set_cons_succ])
        refine wpAnyT_take 3 (some 33) (v := ?vr1_3) rfl rfl (by kernel_rfl) (by kernel_rfl) (by kernel_rfl) (by kernel_rfl) (fun _ _ _ h => h) rfl ?hyr1_3 hS ?restr1_3
        case hyr1_3 => (intro w hSw; (try dsimp only at hSw); go_simp; (try with_reducible rfl))
        (try simp only [Act.put, List.setIfInBounds_toArray, List.set_cons_zero, List.set_cons_succ])
        refine wpAnyT_take 4 (some 34) (v := ?vr1_4) rfl rfl (by kernel_rfl) (by kernel_rfl) (by kernel_rfl) (by kernel_rfl) (fun _ _ _ h => h) rfl ?hyr1_4 hS ?restr1_4
        case hyr1_4 => (intro w hSw; (try dsimp only at hSw); go_simp; (try with_reducible rfl))
        (try simp only [Act.put, List.setIfInBounds_toArray, List.set_cons_zero, List.set_cons_succ])
        refine wpAnyT_take 5 (some 35) (v := ?vr1_5) rfl rfl (by kernel_rfl) (by kernel_rfl) (by kernel_rfl) (by kernel_rfl) (fun _ _ _ h => h) rfl ?hyr1_5 hS ?restr1_5
        case hyr1_5 => (intro w hSw; (try dsimp only at hSw); go_simp; (try with_reducible rfl))
        (try simp only [Act.put, List.setIfInBounds_toArray, List.set_cons_zero, List.set_cons_succ])
        refine wpAnyT_take 6 (some 36) (v := ?vr1_6) rfl rfl (by kernel_rfl) (by kernel_rfl) (by kernel_rfl) (by kernel_rfl) (fun _ _ _ h => h) rfl ?hyr1_6 hS ?restr1_6
        case hyr1_6 => (intro w hSw; (try dsimp only at hSw); go_simp; (try with_reducible rfl))
        (try simp only [Act.put, List.setIfInBounds_toArray, List.set_cons_zero, List.set_cons_succ])
        refine wpAnyT_one (i := 7) rfl (by kernel_rfl) rfl (fun K hK => ?_)
        simp only [List.getElem_toArray, List.getElem_cons_succ, List.getElem_cons_zero]
        go_simp
        refine hK.out _ _ (fun _ => hSA) ?_
        clear hS K hK
        have hS := hSA
        (try simp only [Act.put, List.setIfInBounds_toArray, List.set_cons_zero, List.set_cons_succ])
        refine wpAnyT_one (i := 8) rfl (by kernel_rfl) rfl (fun K hK => ?_)
        simp only [List.getElem_toArray, List.getElem_cons_succ, List.getElem_cons_zero]
        refine wp_append_run _ (.tmp 31) (.tmp 37) 22 _ _ rfl rfl rfl ⟨_, _, hrun, ?_⟩
        refine hK.out _ _ (fun _ => hSB) ?_
        clear hS K hK
        have hS := hSB
        (try simp only [Act.put, List.setIfInBounds_toArray, List.set_cons_zero, List.set_cons_succ])
        refine wpAnyT_take 9 (some 39) (v := ?vr1_9) rfl rfl (by kernel_rfl) (by kernel_rfl) (by kernel_rfl) (by kernel_rfl) (fun _ _ _ h => h) rfl ?hyr1_9 hS ?restr1_9
        case hyr1_9 => (intro w hSw; (try dsimp only at hSw); go_simp; (try with_reducible rfl))
        (try simp only [Act.put, List.setIfInBounds_toArray, List.set_cons_zero, List.set_cons_succ])
        refine wpAnyT_one (i := 10) rfl (by kernel_rfl) rfl (fun K hK => ?_)
        simp only [List.getElem_toArray, List.getElem_cons_succ, List.getElem_cons_zero]
        go_simp
        refine hK.out _ _ (fun h => absurd rfl h) ?_
        refine wpAnyT_done (by kernel_rfl) ?_ _
        clear hK K hS hSA hSB hS0 hrun
        go_wp2
        exact ⟨⟨m + 1, by omega, by go_num, HEND.out⟩, by simp [intOf]; omega⟩
    · obtain rfl : m = L.length := by omega
      have q1 : ¬ (L.length : Int) < (L.length : Int) := by omega
      have hl : (L.set i dv).take L.length = L.set i dv := List.take_of_length_le (by simp)
      rw [hl] at hO
      have r0 := hW.ret.cell 0
      have r1 := hW.ret.cell 1
      have r2 := hW.ret.cell 2
      have rf := hW.ret.free
      have v0 := kv.cell 0
      have v1 := kv.cell 1
      obtain ⟨L', hL'⟩ : ∃ M, M = L.set i dv := ⟨_, rfl⟩
      rw [← hL'] at hO
      have HL' := Lib.hid hL'
      obtain ⟨Av, cv, rfl, _, _⟩ := hO.shape
      have HO := Lib.hid hO
      clear hW kv hO hl hle hnb hszr hL'
      go_wp2
      have F2 := (FTide.fr HW.out.ret (intne _) (intne _) (slne _ _ _) (.int .i64 days) (.int .i64 each) (.slice Av L'.length cv))
      refine bodyPost_ret (results_cell_row rfl _ _ (w.heap.size + 2) 24 _ (0, 0) _ rfl (blk3 HW.out.ret _ _ _) Try.underlying24 rfl (by kernel_rfl)) rfl ?_
      rw [← HL'.out]
      refine ⟨Av, cv, rfl, ?_, ?_⟩
      · exact (HO.out.fr F2 (fun g hg e => by have e' : g = w.heap.size + 2 := e; have := HO.out.block hg; omega)).vl
      · exact HW.out.bel.trans (F2.below HW.out.bel.size (fun y hy => by have e : y = w.heap.size + 2 := hy; omega))

/-- What Use tells of an agent of a right tide. -/
def UseP (q : Rat) (w : World) (e : Ending) (w' : World) : Prop := Below w.heap.size w w' ∧ ∃ v, e = .returned (.tuple #[v, .int .i64 0]) ∧ FrV w' v q
theorem use_sub {T : Td} {k D i : Nat} (h : T.sold k D i ≠ 0) (v : Rat) : T.use k D i v = v + -(T.pay k D i) := by
  unfold Td.use Td.pay
  rw [if_neg h, if_neg h, Rat.sub_eq_add_neg]
theorem use_szq {L : List VD} {n : Nat} (hn : 1 ≤ n) (hf : FewV n L) (hw : ∀ d ∈ L, Wd d.2.2.2.1 ∧ Wd d.2.2.2.2) {K : Nat} (hK : 1 ≤ K) (D : Nat) {i : Nat} (hi : i < L.length) {v : Rat} (hv : Szq n v) : Szq (2 * n + 1) (v + -((tdOf L).pay K D i)) := (szq_add hv (szq_neg (pay_szq hn hf hw hK D hi))).mono (by omega)
theorem cell_fr {w w' : World} {b : Nat} (k : Fr (fun y => y = b) w w') {a : Addr} {x : Value} (hl : a.block < w.heap.size) (hn : a.block ≠ b) (h : w.cell? a = some x) : w'.cell? a = some x := by
  rw [World.cell?_of_block (w := w) (k.block a.block hl hn)]
  exact h
theorem FrQ.keep {w w' : World} {v : Value} {q : Rat} (k : KeepW w w') (h : FrQ w v q) : FrQ w' v q := by
  obtain ⟨n, a, b, h1, h2, h3⟩ := h
  exact ⟨n, a, b, k.fr h1, h2, h3⟩
theorem use_next {w1 w2 : World} {v1 v2 : Value} {q p : Rat} {a0 a1 a2 a3 a4 a5 : Addr} {x0 x1 x2 x3 x4 x5 : Value} (hb : Below w1.heap.size w1 w2)
    (h : FrQ w1 v1 q ∧ FrQ w1 v2 p ∧ (w1.cell? a0 = some x0 ∧ w1.cell? a1 = some x1 ∧ w1.cell? a2 = some x2) ∧ (w1.cell? a3 = some x3 ∧ w1.cell? a4 = some x4 ∧ w1.cell? a5 = some x5)) :
    FrQ w2 v1 q ∧ FrQ w2 v2 p ∧ (w2.cell? a0 = some x0 ∧ w2.cell? a1 = some x1 ∧ w2.cell? a2 = some x2) ∧ (w2.cell? a3 = some x3 ∧ w2.cell? a4 = some x4 ∧ w2.cell? a5 = some x5) := by
  obtain ⟨h1, h2, ⟨e0, e1, e2⟩, ⟨e3, e4, e5⟩⟩ := h
  exact ⟨h1.below hb, h2.below hb, ⟨cell_below hb e0, cell_below hb e1, cell_below hb e2⟩, ⟨cell_below hb e3, cell_below hb e4, cell_below hb e5⟩⟩
theorem use_set {w1 w2 : World} {b g1 g2 o : Nat} {v1 v2 : Value} {q p : Rat} {x0 x1 x2 x3 x4 x5 : Value} (k : Fr (fun y => y = b) w1 w2) (n1 : g1 ≠ b) (l1 : g1 < w1.heap.size) (n2 : g2 ≠ b) (l2 : g2 < w1.heap.size)
    (h : FrQ w1 v1 q ∧ FrQ w1 v2 p ∧ (w1.cell? ⟨g1, 0, none⟩ = some x0 ∧ w1.cell? ⟨g1, 1, none⟩ = some x1 ∧ w1.cell? ⟨g1, 2, none⟩ = some x2) ∧ (w1.cell? ⟨g2, o, none⟩ = some x3 ∧ w1.cell? ⟨g2, o + 1, none⟩ = some x4 ∧ w1.cell? ⟨g2, o + 2, none⟩ = some x5)) :
    FrQ w2 v1 q ∧ FrQ w2 v2 p ∧ (w2.cell? ⟨g1, 0, none⟩ = some x0 ∧ w2.cell? ⟨g1, 1, none⟩ = some x1 ∧ w2.cell? ⟨g1, 2, none⟩ = some x2) ∧ (w2.cell? ⟨g2, o, none⟩ = some x3 ∧ w2.cell? ⟨g2, o + 1, none⟩ = some x4 ∧ w2.cell? ⟨g2, o + 2, none⟩ = some x5) := by
  obtain ⟨h1, h2, ⟨e0, e1, e2⟩, ⟨e3, e4, e5⟩⟩ := h
  exact ⟨h1.keep k.keep, h2.keep k.keep, ⟨cell_fr k l1 n1 e0, cell_fr k l1 n1 e1, cell_fr k l1 n1 e2⟩, ⟨cell_fr k l2 n2 e3, cell_fr k l2 n2 e4, cell_fr k l2 n2 e5⟩⟩
set_option maxRecDepth 100000 in
set_option maxHeartbeats 8000000 in
theorem use_calls (w : World) (D K : Nat) (A : Option Addr) (c i : Nat) (L : List VD) (h : VL w (.slice A L.length c) L) (hf : FewV 16 L) (hr : rightN (D : Int) (K : Int) L = 0) (hi : i < L.length) (neg : Bool) (ln ld : List Int) (P0 Q0 : Option Addr) (c0 d0 : Nat) (hq : FrIn w (.agg #[.bool neg, .slice P0 ln.length c0, .slice Q0 ld.length d0]) neg ln ld) (hl1 : ln.length ≤ 16) (hl2 : ld.length ≤ 16) :
    Calls Try.prog 31 #[.agg #[.int .i64 (D : Int), .int .i64 (K : Int), .slice A L.length c], .int .i64 (i : Int), .agg #[.bool neg, .slice P0 ln.length c0, .slice Q0 ld.length d0]] w (UseP ((tdOf L).use K D i (fixq neg ln ld)) w) := by
  have hcc := h.bounds
  have HV0 := Lib.hid h
  have HF := Lib.hid hf
  have HW := Lib.hid h.wd
  have HQ0 := Lib.hid hq
  have HR := Lib.hid hr
  obtain ⟨z1, z2, _⟩ := rightN_zero hr
  have hK1 : 1 ≤ K := by omega
  have hL12 : L.length ≤ 12 := by omega
  have hsv : Szq 16 (fixq neg ln ld) := szq_fix hq.wd.1 hq.wd.2 hl1 hl2 (by omega)
  have hsub := use_szq (by omega) hf h.wd hK1 D hi hsv
  have HSUB := Lib.hid hsub
  obtain ⟨wa, hwa⟩ : ∃ W, W = w.alloc (.cells #[.int .i64 (D : Int), .int .i64 (K : Int), .slice A L.length c] 24) := ⟨_, rfl⟩
  obtain ⟨wb, hwb⟩ : ∃ W, W = wa.alloc (.cells #[.bool neg, .slice P0 ln.length c0, .slice Q0 ld.length d0] 38) := ⟨_, rfl⟩
  obtain ⟨wc, hwc⟩ : ∃ W, W = wb.alloc (.cells #[.bool false, .slice none 0 0, .slice none 0 0] 38) := ⟨_, rfl⟩
  have sa : wa.heap.size = w.heap.size + 1 := by rw [hwa]; simp
  have sb : wb.heap.size = w.heap.size + 2 := by rw [hwb]; simp [sa]
  have ba : Below w.heap.size w wa := by rw [hwa]; exact below_alloc0 _ _
  have bb : Below wa.heap.size wa wb := by rw [hwb]; exact below_alloc0 _ _
  have bc : Below wb.heap.size wb wc := by rw [hwc]; exact below_alloc0 _ _
  have KA : Blk wa w.heap.size 24 #[.int .i64 (D : Int), .int .i64 (K : Int), .slice A L.length c] := by rw [hwa]; exact Blk.new _ _ _
  have KB : Blk wb (w.heap.size + 1) 38 #[.bool neg, .slice P0 ln.length c0, .slice Q0 ld.length d0] := by rw [hwb, ← sa]; exact Blk.new _ _ _
  have KC : Blk wc (w.heap.size + 2) 38 #[.bool false, .slice none 0 0, .slice none 0 0] := by rw [hwc, ← sb]; exact Blk.new _ _ _
  have HB := Lib.hid (bl_trans (bl_trans ba bb) bc)
  have HKA := Lib.hid ((KA.below bb).below bc)
  have HKB := Lib.hid (KB.below bc)
  have HKC := Lib.hid KC
  have k0 := HKA.out.cell 0
  have k1 := HKA.out.cell 1
  have k2 := HKA.out.cell 2
  have HWC := Lib.hid (show ((w.alloc (.cells #[.int .i64 (D : Int), .int .i64 (K : Int), .slice A L.length c] 24)).alloc (.cells #[.bool neg, .slice P0 ln.length c0, .slice Q0 ld.length d0] 38)).alloc (.cells #[.bool false, .slice none 0 0, .slice none 0 0] 38) = wc by rw [hwc, hwb, hwa])
  have g1 : decide ((i : Int) < 0) = false := decide_eq_false (by omega)
  have g2 : decide ((L.length : Int) ≤ (i : Int)) = false := decide_eq_false (by omega)
  have q1 : (i : Int) < (L.length : Int) := by omega
  have q2 : ¬ (i : Int) < 0 := by omega
  have q3 : ¬ (L.length : Int) ≤ (i : Int) := by omega
  clear h hf hr hq z1 z2 hsv hsub hwa hwb hwc sa sb ba bb bc KA KB KC
  go_enter Try.func31, Try.ntmps31
  go_upto_region 1 with fail
  rw [HWC.out]
  go_wp2_with fail
  refine (sell_calls _ _ _ A c L (HV0.out.below HB.out) (HF.out.mono (by omega))).mono ?_
  intro e w3 hpo
  obtain ⟨g3, rfl, hT, hb3⟩ := hpo.yes HR.out
  clear hpo
  have hs0 := hT.cell hi
  obtain ⟨sm, hsm⟩ : ∃ s, s = (tdOf L).sold K D i := ⟨_, rfl⟩
  rw [← hsm] at hs0
  have HSM := Lib.hid hsm
  have HB3 := Lib.hid (bl_trans HB.out hb3)
  have HK3 := Lib.hid (HKA.out.below hb3)
  have HQ3 := Lib.hid (HKB.out.below hb3)
  have HC3 := Lib.hid (HKC.out.below hb3)
  clear hT hb3 hsm k0 k1 k2
  have k0 := HK3.out.cell 0
  have k1 := HK3.out.cell 1
  have k2 := HK3.out.cell 2
  by_cases hz : sm = 0
  · have g3' : ((sm : Int) == 0) = true := by rw [hz]; rfl
    have HU := Lib.hid (show (tdOf L).use K D i (fixq neg ln ld) = 0 from if_pos (by rw [← HSM.out]; exact hz))
    clear hz
    go_wp2_with fail
    refine (zero_calls _).mono ?_
    rintro e w6 ⟨v6, rfl, hv6, hb6⟩
    obtain ⟨q, hq⟩ : ∃ q : Rat, q = 0 := ⟨_, rfl⟩
    have hv6 : FrV w6 v6 q := by rw [hq]; exact hv6
    obtain ⟨P1, p1, P2, p2, rfl, _, _, _, _⟩ := FrIn.shape hv6
    have K6 := HC3.out.below hb6
    have m0 := K6.cell 0
    have m1 := K6.cell 1
    have m2 := K6.cell 2
    have mf := K6.free
    have HQ := Lib.hid hq
    have HV6 := Lib.hid hv6
    have HB6 := Lib.hid (bl_trans HB3.out hb6)
    have HK6 := Lib.hid K6
    clear hq hv6 hb6 K6 k0 k1 k2 hs0
    go_wp2
    have F2 := FBox.fr HK6.out (boolne _) (slne _ _ _) (slne _ _ _) (.bool (decide (q.num < 0))) (.slice P1 (dg q.num.natAbs).length p1) (.slice P2 (dg q.den).length p2)
    refine bodyPost_ret (results_fe (u := 7) rfl _ _ (w.heap.size + 2) 38 _ (0, 0) _ rfl (blk3 HK6.out _ _ _) Try.underlying38 rfl (by kernel_rfl)) rfl ?_
    refine ⟨HB6.out.trans (F2.below HB6.out.size (fun y hy => by have e : y = w.heap.size + 2 := hy; omega)), _, rfl, ?_⟩
    rw [HU.out, ← HQ.out]
    exact F2.keep.fr HV6.out
  · have g3' : ((sm : Int) == 0) = false := beq_eq_false_iff_ne.2 hz
    have HU := Lib.hid (use_sub (show (tdOf L).sold K D i ≠ 0 by rw [← HSM.out]; exact hz) (fixq neg ln ld))
    clear hz
    go_wp2_with fail
    refine (pays_calls _ _ _ A c L (HV0.out.below HB3.out) HF.out).mono ?_
    intro e w6 hpo
    have hgl : ∃ g, e = .returned (.tuple #[.slice (some ⟨g, 0, none⟩) L.length L.length, .int .i64 0]) ∧ w3.heap.size ≤ g ∧ FB w6 g L.length L.length (fun j => dq ((tdOf L).pay K D j)) ∧ Below w3.heap.size w3 w6 := by
      obtain ⟨hb, ⟨hz, _⟩ | ⟨_, g, he, hg, hT⟩⟩ := hpo
      · exact absurd HR.out hz
      · exact ⟨g, he, hg, by simpa using hT, hb⟩
    obtain ⟨g6, rfl, hg3, hP, hb6⟩ := hgl
    clear hpo
    obtain ⟨p, hp⟩ : ∃ p, p = (tdOf L).pay K D i := ⟨_, rfl⟩
    have hpl := hP.fl
    rw [pays_list] at hpl
    obtain ⟨ad', cc, C1, c1, C2, c2, hvl, _, _, m0, m1, m2, hfp⟩ := hpl.atq (k := i) (q := p) (by rw [hp]; unfold payL; rw [List.getElem?_map, List.getElem?_range hi]; rfl)
    obtain rfl : ⟨g6, 0, none⟩ = ad' := by simpa using (by simpa using hvl : (some (⟨g6, 0, none⟩ : Addr) = some ad') ∧ _).1
    rw [add_row] at m0 m1 m2
    rw [← hp] at HU HSUB
    have hpsh : Short p := by rw [hp]; exact (pay_szq (n := 16) (by omega) HF.out HW.out hK1 D hi).short (by omega)
    have KQ := HQ3.out.below hb6
    have KR := HC3.out.below hb6
    have hbw := bl_trans HB3.out hb6
    have HBW := Lib.hid hbw
    have HKR := Lib.hid KR
    have HKQ := Lib.hid KQ
    have hg6 : w.heap.size + 2 < g6 := by have := HC3.out.lt; omega
    have hlt6 : g6 < w6.heap.size := hP.lt
    have hqp : FrQ w6 (.agg #[.bool (decide (p.num < 0)), .slice C1 (dg p.num.natAbs).length c1, .slice C2 (dg p.den).length c2]) p := FrV.q hfp hpsh
    obtain ⟨qv, hqv⟩ : ∃ q, q = fixq neg ln ld := ⟨_, rfl⟩
    have hqq : FrQ w6 (.agg #[.bool neg, .slice P0 ln.length c0, .slice Q0 ld.length d0]) qv := ⟨_, _, _, HQ0.out.below hbw, by omega, hqv.symm⟩
    have HQV := Lib.hid hqv
    rw [← hqv] at HU HSUB
    obtain ⟨s, hss⟩ : ∃ s, s = qv + -p := ⟨_, rfl⟩
    have HSS := Lib.hid hss
    have hsh : Short (qv + -p) := HSUB.out.short (by omega)
    have HSH := Lib.hid hsh
    have hS0 : (fun (w' : World) => FrQ w' (.agg #[.bool neg, .slice P0 ln.length c0, .slice Q0 ld.length d0]) qv ∧ FrQ w' (.agg #[.bool (decide (p.num < 0)), .slice C1 (dg p.num.natAbs).length c1, .slice C2 (dg p.den).length c2]) p ∧ (w'.cell? ⟨w.heap.size + 1, 0, none⟩ = some (.bool neg) ∧ w'.cell? ⟨w.heap.size + 1, 1, none⟩ = some (.slice P0 ln.length c0) ∧ w'.cell? ⟨w.heap.size + 1, 2, none⟩ = some (.slice Q0 ld.length d0)) ∧ (w'.cell? ⟨g6, i * 3, none⟩ = some (.bool (decide (p.num < 0))) ∧ w'.cell? ⟨g6, i * 3 + 1, none⟩ = some (.slice C1 (dg p.num.natAbs).length c1) ∧ w'.cell? ⟨g6, i * 3 + 2, none⟩ = some (.slice C2 (dg p.den).length c2))) w6.drew := use_next (bl_drew w6) ⟨hqq, hqp, ⟨KQ.cell 0, KQ.cell 1, KQ.cell 2⟩, ⟨m0, m1, m2⟩⟩
    clear hvl hfp KQ KR hbw hP hpl hqp hqq hqv hss hsh m0 m1 m2 hpsh hp
    go_upto_region 9 with fail
    refine wp_region_T (fun (w' : World) => FrQ w' (.agg #[.bool neg, .slice P0 ln.length c0, .slice Q0 ld.length d0]) qv ∧ FrQ w' (.agg #[.bool (decide (p.num < 0)), .slice C1 (dg p.num.natAbs).length c1, .slice C2 (dg p.den).length c2]) p ∧ (w'.cell? ⟨w.heap.size + 1, 0, none⟩ = some (.bool neg) ∧ w'.cell? ⟨w.heap.size + 1, 1, none⟩ = some (.slice P0 ln.length c0) ∧ w'.cell? ⟨w.heap.size + 1, 2, none⟩ = some (.slice Q0 ld.length d0)) ∧ (w'.cell? ⟨g6, i * 3, none⟩ = some (.bool (decide (p.num < 0))) ∧ w'.cell? ⟨g6, i * 3 + 1, none⟩ = some (.slice C1 (dg p.num.natAbs).length c1) ∧ w'.cell? ⟨g6, i * 3 + 2, none⟩ = some (.slice C2 (dg p.den).length c2))) 7 (by kernel_rfl) ?_
    have hS : (fun (w' : World) => FrQ w' (.agg #[.bool neg, .slice P0 ln.length c0, .slice Q0 ld.length d0]) qv ∧ FrQ w' (.agg #[.bool (decide (p.num < 0)), .slice C1 (dg p.num.natAbs).length c1, .slice C2 (dg p.den).length c2]) p ∧ (w'.cell? ⟨w.heap.size + 1, 0, none⟩ = some (.bool neg) ∧ w'.cell? ⟨w.heap.size + 1, 1, none⟩ = some (.slice P0 ln.length c0) ∧ w'.cell? ⟨w.heap.size + 1, 2, none⟩ = some (.slice Q0 ld.length d0)) ∧ (w'.cell? ⟨g6, i * 3, none⟩ = some (.bool (decide (p.num < 0))) ∧ w'.cell? ⟨g6, i * 3 + 1, none⟩ = some (.slice C1 (dg p.num.natAbs).length c1) ∧ w'.cell? ⟨g6, i * 3 + 2, none⟩ = some (.slice C2 (dg p.den).length c2))) _ := hS0
    simp only [List.size_toArray, List.length_cons, List.length_nil, Nat.reduceAdd]
    refine wpAnyT_take 0 (some 41) (v := ?vr1_0) rfl rfl (by kernel_rfl) (by kernel_rfl) (by kernel_rfl) (by kernel_rfl) (fun _ _ _ h => h) rfl ?hyr1_0 hS ?restr1_0
    case hyr1_0 => (intro w hSw; (try dsimp only at hSw); go_simp; (try with_reducible rfl))
    (try simp only [Act.put, List.setIfInBounds_toArray, List.set_cons_zero, List.set_cons_succ])
    refine wpAnyT_take 1 (some 42) (v := ?vr1_1) rfl rfl (by kernel_rfl) (by kernel_rfl) (by kernel_rfl) (by kernel_rfl) (fun _ _ _ h => h) rfl ?hyr1_1 hS ?restr1_1
    case hyr1_1 => (intro w hSw; (try dsimp only at hSw); go_simp; (try with_reducible rfl))
    (try simp only [Act.put, List.setIfInBounds_toArray, List.set_cons_zero, List.set_cons_succ])
    refine wpAnyT_take 2 (some 43) (v := ?vr1_2) rfl rfl (by kernel_rfl) (by kernel_rfl) (by kernel_rfl) (by kernel_rfl) (fun _ _ _ h => h) rfl ?hyr1_2 hS ?restr1_2
    case hyr1_2 => (intro w hSw; (try dsimp only at hSw); go_simp; (try with_reducible rfl))
    (try simp only [Act.put, List.setIfInBounds_toArray, List.set_cons_zero, List.set_cons_succ])
    refine wpAnyT_take 3 (some 44) (v := ?vr1_3) rfl rfl (by kernel_rfl) (by kernel_rfl) (by kernel_rfl) (by kernel_rfl) (fun _ _ _ h => h) rfl ?hyr1_3 hS ?restr1_3
    case hyr1_3 => (intro w hSw; (try dsimp only at hSw); go_simp; (try with_reducible rfl))
    (try simp only [Act.put, List.setIfInBounds_toArray, List.set_cons_zero, List.set_cons_succ])
    refine wpAnyT_take 4 (some 45) (v := ?vr1_4) rfl rfl (by kernel_rfl) (by kernel_rfl) (by kernel_rfl) (by kernel_rfl) (fun _ _ _ h => h) rfl ?hyr1_4 hS ?restr1_4
    case hyr1_4 => (intro w hSw; (try dsimp only at hSw); go_simp; (try with_reducible rfl))
    (try simp only [Act.put, List.setIfInBounds_toArray, List.set_cons_zero, List.set_cons_succ])
    refine wpAnyT_one (i := 5) rfl (by kernel_rfl) rfl (fun K hK => ?_)
    simp only [List.getElem_toArray, List.getElem_cons_succ, List.getElem_cons_zero]
    go_simp
    go_at_call 67
    with_reducible refine (subq _ _ _ qv p ?_ ?_ HSH.out).mono ?_
    exact hS.1
    exact hS.2.1
    rintro e w8 ⟨v8, rfl, hv8, hb8⟩
    rw [← HSS.out] at hv8
    obtain ⟨P1, p1, P2, p2, rfl, _, _, _, _⟩ := FrIn.shape hv8
    have hS8 := use_next hb8 hS
    have hb6 := bl_trans (bl_drew w6) hb8
    have K8 := HKR.out.below hb6
    have m0 := K8.cell 0
    have m1 := K8.cell 1
    have m2 := K8.cell 2
    have mf := K8.free
    have F2 := FBox.fr K8 (boolne _) (slne _ _ _) (slne _ _ _) (.bool (decide (s.num < 0))) (.slice P1 (dg s.num.natAbs).length p1) (.slice P2 (dg s.den).length p2)
    have hS9 := use_set F2 (by omega) (HKQ.out.below hb6).lt (by omega) (by have := hb6.size; omega) hS8
    have HF2 := Lib.hid F2
    have HV8 := Lib.hid (F2.keep.fr hv8)
    have HK8 := Lib.hid K8
    have hb9 := bl_trans HBW.out hb6
    have HB9 := Lib.hid (hb9.trans (F2.below hb9.size (fun y hy => by have e : y = w.heap.size + 2 := hy; omega)))
    refine hK.out _ _ (fun _ => hS8) ?_
    clear hS K hK hb8 hb6 hv8 K8 F2 hb9
    have hS := hS8
    clear hS8
    (try simp only [Act.put, List.setIfInBounds_toArray, List.set_cons_zero, List.set_cons_succ])
    refine wpAnyT_one (i := 6) rfl (by kernel_rfl) rfl (fun K hK => ?_)
    simp only [List.getElem_toArray, List.getElem_cons_succ, List.getElem_cons_zero]
    go_simp
    refine hK.out _ _ (fun _ => hS9) ?_
    clear hS K hK m0 m1 m2 mf
    have hS := hS9
    clear hS9
    (try simp only [Act.put, List.setIfInBounds_toArray, List.set_cons_zero, List.set_cons_succ])
    refine wpAnyT_one (i := 7) rfl (by kernel_rfl) rfl (fun K hK => ?_)
    simp only [List.getElem_toArray, List.getElem_cons_succ, List.getElem_cons_zero]
    go_simp
    refine hK.out _ _ (fun h => absurd rfl h) ?_
    refine wpAnyT_done (by kernel_rfl) ?_ _
    clear hS K hK hS0
    go_wp2
    refine bodyPost_ret (results_fe (u := 7) rfl _ _ (w.heap.size + 2) 38 _ (0, 0) _ rfl (blk3 HK8.out _ _ _) Try.underlying38 rfl (by kernel_rfl)) rfl ?_
    refine ⟨HB9.out, _, rfl, ?_⟩
    rw [← HQV.out, HU.out, ← HSS.out]
    exact HV8.out

theorem OF.addr {w : World} {B : Nat} {v : Value} {L : List (Bool × List Int × List Int)} (h : OF w B v L) (h0 : 0 < L.length) : ∃ g cap, v = .slice (some ⟨g, 0, none⟩) L.length cap ∧ B ≤ g ∧ g < w.heap.size := by
  obtain ⟨xs, h1, _, _⟩ := h
  rcases h1.2 with ⟨_, h⟩ | ⟨g, cap, cur, rfl, hb, hg, _⟩
  · omega
  · exact ⟨g, cap, rfl, hb, (Array.getElem?_eq_some_iff.1 hg).1⟩
theorem rsubq (w : World) (va vb : Value) (a b : Rat) (ha : FrQ w va a) (hb : FrQ w vb b) (hs : Short (a + -b)) : Calls Try.prog 66 #[va, vb] w (FrPost (a + -b) w) := by
  obtain ⟨n, l, d, h, h2, rfl⟩ := ha
  obtain ⟨n', l', d', h', h2', rfl⟩ := hb
  exact rsub_calls w va vb n n' l d l' d' h h' h2 h2' hs
set_option maxRecDepth 100000 in
set_option maxHeartbeats 8000000 in
theorem ruse_calls (w : World) (D K : Nat) (A : Option Addr) (c i : Nat) (L : List VD) (h : VL w (.slice A L.length c) L) (hf : FewV 16 L) (hr : rightN (D : Int) (K : Int) L = 0) (hi : i < L.length) (neg : Bool) (ln ld : List Int) (P0 Q0 : Option Addr) (c0 d0 : Nat) (hq : FrIn w (.agg #[.bool neg, .slice P0 ln.length c0, .slice Q0 ld.length d0]) neg ln ld) (hl1 : ln.length ≤ 16) (hl2 : ld.length ≤ 16) :
    Calls Try.prog 30 #[.agg #[.int .i64 (D : Int), .int .i64 (K : Int), .slice A L.length c], .int .i64 (i : Int), .agg #[.bool neg, .slice P0 ln.length c0, .slice Q0 ld.length d0]] w (UseP ((tdOf L).use K D i (fixq neg ln ld)) w) := by
  have hcc := h.bounds
  have HV0 := Lib.hid h
  have HF := Lib.hid hf
  have HW := Lib.hid h.wd
  have HQ0 := Lib.hid hq
  have HR := Lib.hid hr
  obtain ⟨z1, z2, _⟩ := rightN_zero hr
  have hK1 : 1 ≤ K := by omega
  have hL12 : L.length ≤ 12 := by omega
  have hsv : Szq 16 (fixq neg ln ld) := szq_fix hq.wd.1 hq.wd.2 hl1 hl2 (by omega)
  have hsub := use_szq (by omega) hf h.wd hK1 D hi hsv
  have HSUB := Lib.hid hsub
  obtain ⟨wa, hwa⟩ : ∃ W, W = w.alloc (.cells #[.int .i64 (D : Int), .int .i64 (K : Int), .slice A L.length c] 24) := ⟨_, rfl⟩
  obtain ⟨wb, hwb⟩ : ∃ W, W = wa.alloc (.cells #[.bool neg, .slice P0 ln.length c0, .slice Q0 ld.length d0] 38) := ⟨_, rfl⟩
  obtain ⟨wc, hwc⟩ : ∃ W, W = wb.alloc (.cells #[.bool false, .slice none 0 0, .slice none 0 0] 38) := ⟨_, rfl⟩
  have sa : wa.heap.size = w.heap.size + 1 := by rw [hwa]; simp
  have sb : wb.heap.size = w.heap.size + 2 := by rw [hwb]; simp [sa]
  have ba : Below w.heap.size w wa := by rw [hwa]; exact below_alloc0 _ _
  have bb : Below wa.heap.size wa wb := by rw [hwb]; exact below_alloc0 _ _
  have bc : Below wb.heap.size wb wc := by rw [hwc]; exact below_alloc0 _ _
  have KA : Blk wa w.heap.size 24 #[.int .i64 (D : Int), .int .i64 (K : Int), .slice A L.length c] := by rw [hwa]; exact Blk.new _ _ _
  have KB : Blk wb (w.heap.size + 1) 38 #[.bool neg, .slice P0 ln.length c0, .slice Q0 ld.length d0] := by rw [hwb, ← sa]; exact Blk.new _ _ _
  have KC : Blk wc (w.heap.size + 2) 38 #[.bool false, .slice none 0 0, .slice none 0 0] := by rw [hwc, ← sb]; exact Blk.new _ _ _
  have HB := Lib.hid (bl_trans (bl_trans ba bb) bc)
  have HKA := Lib.hid ((KA.below bb).below bc)
  have HKB := Lib.hid (KB.below bc)
  have HKC := Lib.hid KC
  have k0 := HKA.out.cell 0
  have k1 := HKA.out.cell 1
  have k2 := HKA.out.cell 2
  have HWC := Lib.hid (show ((w.alloc (.cells #[.int .i64 (D : Int), .int .i64 (K : Int), .slice A L.length c] 24)).alloc (.cells #[.bool neg, .slice P0 ln.length c0, .slice Q0 ld.length d0] 38)).alloc (.cells #[.bool false, .slice none 0 0, .slice none 0 0] 38) = wc by rw [hwc, hwb, hwa])
  have g1 : decide ((i : Int) < 0) = false := decide_eq_false (by omega)
  have g2 : decide ((L.length : Int) ≤ (i : Int)) = false := decide_eq_false (by omega)
  have q1 : (i : Int) < (L.length : Int) := by omega
  have q2 : ¬ (i : Int) < 0 := by omega
  have q3 : ¬ (L.length : Int) ≤ (i : Int) := by omega
  clear h hf hr hq z1 z2 hsv hsub hwa hwb hwc sa sb ba bb bc KA KB KC
  go_enter Try.func30, Try.ntmps30
  go_upto_region 1 with fail
  rw [HWC.out]
  go_wp2_with fail
  refine (rpays_calls _ _ _ A c L (HV0.out.below HB.out) (HF.out.mono (by omega))).mono ?_
  intro e w6 hpo
  have hgl : ∃ v, e = .returned (.tuple #[v, .int .i64 0]) ∧ OF w6 wc.heap.size v ((payL K D L L.length).map dq) ∧ Below wc.heap.size wc w6 := by
    obtain ⟨hb, ⟨hz, _⟩ | ⟨_, v, he, hO⟩⟩ := hpo
    · exact absurd HR.out hz
    · exact ⟨v, he, by simpa using hO, hb⟩
  obtain ⟨v6, rfl, hO6, hb6⟩ := hgl
  clear hpo
  obtain ⟨g6, cap6, rfl, hg6', _⟩ := hO6.addr (by rw [payL_len]; omega)
  rw [payL_len] at hO6 ⊢
  have HO6 := Lib.hid hO6
  have HB6 := Lib.hid (bl_trans HB.out hb6)
  have HK6 := Lib.hid (HKA.out.below hb6)
  have HQ6 := Lib.hid (HKB.out.below hb6)
  have HC6 := Lib.hid (HKC.out.below hb6)
  have hg6 : w.heap.size + 2 < g6 := by have := HKC.out.lt; omega
  clear hO6 hb6 k0 k1 k2 hg6'
  have k0 := HK6.out.cell 0
  have k1 := HK6.out.cell 1
  have k2 := HK6.out.cell 2
  obtain ⟨z1, z2, z3⟩ := rightN_zero HR.out
  go_wp2_with fail
  refine (rsold_calls _ D K A c L (HV0.out.below HB6.out) (HF.out.mono (by omega)) (by omega) (by omega) hL12).mono ?_
  rintro e w3 ⟨g3, rfl, _, hT, hb3⟩
  have hs0 := hT.cell hi
  obtain ⟨sm, hsm⟩ : ∃ s, s = (tdOf L).sold K D i := ⟨_, rfl⟩
  rw [← hsm] at hs0
  have HSM := Lib.hid hsm
  have HB3 := Lib.hid (bl_trans HB6.out hb3)
  have HQ3 := Lib.hid (HQ6.out.below hb3)
  have HC3 := Lib.hid (HC6.out.below hb3)
  have HO3 := Lib.hid (HO6.out.below hb3)
  clear hT hb3 hsm k0 k1 k2 z1 z2 z3
  by_cases hz : sm = 0
  · have g3' : ((sm : Int) == 0) = true := by rw [hz]; rfl
    have HU := Lib.hid (show (tdOf L).use K D i (fixq neg ln ld) = 0 from if_pos (by rw [← HSM.out]; exact hz))
    clear hz
    go_wp2_with fail
    refine (rint_calls _ 0 (by omega) (by omega)).mono ?_
    rintro e w6 ⟨v6, rfl, hv6, hb6⟩
    obtain ⟨q, hq⟩ : ∃ q : Rat, q = 0 := ⟨_, rfl⟩
    have hv6 : FrV w6 v6 q := by rw [hq]; exact hv6
    obtain ⟨P1, p1, P2, p2, rfl, _, _, _, _⟩ := FrIn.shape hv6
    have K6 := HC3.out.below hb6
    have m0 := K6.cell 0
    have m1 := K6.cell 1
    have m2 := K6.cell 2
    have mf := K6.free
    have HQ := Lib.hid hq
    have HV6 := Lib.hid hv6
    have HB6 := Lib.hid (bl_trans HB3.out hb6)
    have HK6 := Lib.hid K6
    clear hq hv6 hb6 K6 hs0
    go_wp2
    have F2 := FBox.fr HK6.out (boolne _) (slne _ _ _) (slne _ _ _) (.bool (decide (q.num < 0))) (.slice P1 (dg q.num.natAbs).length p1) (.slice P2 (dg q.den).length p2)
    refine bodyPost_ret (results_fe (u := 7) rfl _ _ (w.heap.size + 2) 38 _ (0, 0) _ rfl (blk3 HK6.out _ _ _) Try.underlying38 rfl (by kernel_rfl)) rfl ?_
    refine ⟨HB6.out.trans (F2.below HB6.out.size (fun y hy => by have e : y = w.heap.size + 2 := hy; omega)), _, rfl, ?_⟩
    rw [HU.out, ← HQ.out]
    exact F2.keep.fr HV6.out
  · have g3' : ((sm : Int) == 0) = false := beq_eq_false_iff_ne.2 hz
    have HU := Lib.hid (use_sub (show (tdOf L).sold K D i ≠ 0 by rw [← HSM.out]; exact hz) (fixq neg ln ld))
    clear hz
    have hO3 := HO3.out
    have hlt3 : g6 < w3.heap.size := by
      obtain ⟨cs, h⟩ := hO3.typ (g := g6) rfl
      exact (Array.getElem?_eq_some_iff.1 h).1
    have hpl := hO3.fl
    obtain ⟨p, hp⟩ : ∃ p, p = (tdOf L).pay K D i := ⟨_, rfl⟩
    obtain ⟨ad', cc, C1, c1, C2, c2, hvl, _, _, m0, m1, m2, hfp⟩ := hpl.atq (k := i) (q := p) (by rw [hp]; unfold payL; rw [List.getElem?_map, List.getElem?_range hi]; rfl)
    obtain rfl : ⟨g6, 0, none⟩ = ad' := by simpa using (by simpa using hvl : (some (⟨g6, 0, none⟩ : Addr) = some ad') ∧ _).1
    rw [add_row] at m0 m1 m2
    rw [← hp] at HU HSUB
    have hpsh : Short p := by rw [hp]; exact (pay_szq (n := 16) (by omega) HF.out HW.out hK1 D hi).short (by omega)
    have KQ := HQ3.out
    have KR := HC3.out
    have hbw := HB3.out
    have HBW := Lib.hid hbw
    have HKR := Lib.hid KR
    have HKQ := Lib.hid KQ
    have hlt6 : g6 < w3.heap.size := hlt3
    have hqp : FrQ w3 (.agg #[.bool (decide (p.num < 0)), .slice C1 (dg p.num.natAbs).length c1, .slice C2 (dg p.den).length c2]) p := FrV.q hfp hpsh
    obtain ⟨qv, hqv⟩ : ∃ q, q = fixq neg ln ld := ⟨_, rfl⟩
    have hqq : FrQ w3 (.agg #[.bool neg, .slice P0 ln.length c0, .slice Q0 ld.length d0]) qv := ⟨_, _, _, HQ0.out.below hbw, by omega, hqv.symm⟩
    have HQV := Lib.hid hqv
    rw [← hqv] at HU HSUB
    obtain ⟨s, hss⟩ : ∃ s, s = qv + -p := ⟨_, rfl⟩
    have HSS := Lib.hid hss
    have hsh : Short (qv + -p) := HSUB.out.short (by omega)
    have HSH := Lib.hid hsh
    have hS0 : (fun (w' : World) => FrQ w' (.agg #[.bool neg, .slice P0 ln.length c0, .slice Q0 ld.length d0]) qv ∧ FrQ w' (.agg #[.bool (decide (p.num < 0)), .slice C1 (dg p.num.natAbs).length c1, .slice C2 (dg p.den).length c2]) p ∧ (w'.cell? ⟨w.heap.size + 1, 0, none⟩ = some (.bool neg) ∧ w'.cell? ⟨w.heap.size + 1, 1, none⟩ = some (.slice P0 ln.length c0) ∧ w'.cell? ⟨w.heap.size + 1, 2, none⟩ = some (.slice Q0 ld.length d0)) ∧ (w'.cell? ⟨g6, i * 3, none⟩ = some (.bool (decide (p.num < 0))) ∧ w'.cell? ⟨g6, i * 3 + 1, none⟩ = some (.slice C1 (dg p.num.natAbs).length c1) ∧ w'.cell? ⟨g6, i * 3 + 2, none⟩ = some (.slice C2 (dg p.den).length c2))) w3.drew := use_next (bl_drew w3) ⟨hqq, hqp, ⟨KQ.cell 0, KQ.cell 1, KQ.cell 2⟩, ⟨m0, m1, m2⟩⟩
    clear hvl hfp KQ KR hbw hpl hqp hqq hqv hss hsh m0 m1 m2 hpsh hp
    go_upto_region 8 with fail
    refine wp_region_T (fun (w' : World) => FrQ w' (.agg #[.bool neg, .slice P0 ln.length c0, .slice Q0 ld.length d0]) qv ∧ FrQ w' (.agg #[.bool (decide (p.num < 0)), .slice C1 (dg p.num.natAbs).length c1, .slice C2 (dg p.den).length c2]) p ∧ (w'.cell? ⟨w.heap.size + 1, 0, none⟩ = some (.bool neg) ∧ w'.cell? ⟨w.heap.size + 1, 1, none⟩ = some (.slice P0 ln.length c0) ∧ w'.cell? ⟨w.heap.size + 1, 2, none⟩ = some (.slice Q0 ld.length d0)) ∧ (w'.cell? ⟨g6, i * 3, none⟩ = some (.bool (decide (p.num < 0))) ∧ w'.cell? ⟨g6, i * 3 + 1, none⟩ = some (.slice C1 (dg p.num.natAbs).length c1) ∧ w'.cell? ⟨g6, i * 3 + 2, none⟩ = some (.slice C2 (dg p.den).length c2))) 7 (by kernel_rfl) ?_
    have hS : (fun (w' : World) => FrQ w' (.agg #[.bool neg, .slice P0 ln.length c0, .slice Q0 ld.length d0]) qv ∧ FrQ w' (.agg #[.bool (decide (p.num < 0)), .slice C1 (dg p.num.natAbs).length c1, .slice C2 (dg p.den).length c2]) p ∧ (w'.cell? ⟨w.heap.size + 1, 0, none⟩ = some (.bool neg) ∧ w'.cell? ⟨w.heap.size + 1, 1, none⟩ = some (.slice P0 ln.length c0) ∧ w'.cell? ⟨w.heap.size + 1, 2, none⟩ = some (.slice Q0 ld.length d0)) ∧ (w'.cell? ⟨g6, i * 3, none⟩ = some (.bool (decide (p.num < 0))) ∧ w'.cell? ⟨g6, i * 3 + 1, none⟩ = some (.slice C1 (dg p.num.natAbs).length c1) ∧ w'.cell? ⟨g6, i * 3 + 2, none⟩ = some (.slice C2 (dg p.den).length c2))) _ := hS0
    simp only [List.size_toArray, List.length_cons, List.length_nil, Nat.reduceAdd]
    refine wpAnyT_take 0 (some 35) (v := ?vr1_0) rfl rfl (by kernel_rfl) (by kernel_rfl) (by kernel_rfl) (by kernel_rfl) (fun _ _ _ h => h) rfl ?hyr1_0 hS ?restr1_0
    case hyr1_0 => (intro w hSw; (try dsimp only at hSw); go_simp; (try with_reducible rfl))
    (try simp only [Act.put, List.setIfInBounds_toArray, List.set_cons_zero, List.set_cons_succ])
    refine wpAnyT_take 1 (some 36) (v := ?vr1_1) rfl rfl (by kernel_rfl) (by kernel_rfl) (by kernel_rfl) (by kernel_rfl) (fun _ _ _ h => h) rfl ?hyr1_1 hS ?restr1_1
    case hyr1_1 => (intro w hSw; (try dsimp only at hSw); go_simp; (try with_reducible rfl))
    (try simp only [Act.put, List.setIfInBounds_toArray, List.set_cons_zero, List.set_cons_succ])
    refine wpAnyT_take 2 (some 37) (v := ?vr1_2) rfl rfl (by kernel_rfl) (by kernel_rfl) (by kernel_rfl) (by kernel_rfl) (fun _ _ _ h => h) rfl ?hyr1_2 hS ?restr1_2
    case hyr1_2 => (intro w hSw; (try dsimp only at hSw); go_simp; (try with_reducible rfl))
    (try simp only [Act.put, List.setIfInBounds_toArray, List.set_cons_zero, List.set_cons_succ])
    refine wpAnyT_take 3 (some 38) (v := ?vr1_3) rfl rfl (by kernel_rfl) (by kernel_rfl) (by kernel_rfl) (by kernel_rfl) (fun _ _ _ h => h) rfl ?hyr1_3 hS ?restr1_3
    case hyr1_3 => (intro w hSw; (try dsimp only at hSw); go_simp; (try with_reducible rfl))
    (try simp only [Act.put, List.setIfInBounds_toArray, List.set_cons_zero, List.set_cons_succ])
    refine wpAnyT_take 4 (some 39) (v := ?vr1_4) rfl rfl (by kernel_rfl) (by kernel_rfl) (by kernel_rfl) (by kernel_rfl) (fun _ _ _ h => h) rfl ?hyr1_4 hS ?restr1_4
    case hyr1_4 => (intro w hSw; (try dsimp only at hSw); go_simp; (try with_reducible rfl))
    (try simp only [Act.put, List.setIfInBounds_toArray, List.set_cons_zero, List.set_cons_succ])
    refine wpAnyT_one (i := 5) rfl (by kernel_rfl) rfl (fun K hK => ?_)
    simp only [List.getElem_toArray, List.getElem_cons_succ, List.getElem_cons_zero]
    go_simp
    go_at_call 66
    with_reducible refine (rsubq _ _ _ qv p ?_ ?_ HSH.out).mono ?_
    exact hS.1
    exact hS.2.1
    rintro e w8 ⟨v8, rfl, hv8, hb8⟩
    rw [← HSS.out] at hv8
    obtain ⟨P1, p1, P2, p2, rfl, _, _, _, _⟩ := FrIn.shape hv8
    have hS8 := use_next hb8 hS
    have hb6 := bl_trans (bl_drew w3) hb8
    have K8 := HKR.out.below hb6
    have m0 := K8.cell 0
    have m1 := K8.cell 1
    have m2 := K8.cell 2
    have mf := K8.free
    have F2 := FBox.fr K8 (boolne _) (slne _ _ _) (slne _ _ _) (.bool (decide (s.num < 0))) (.slice P1 (dg s.num.natAbs).length p1) (.slice P2 (dg s.den).length p2)
    have hS9 := use_set F2 (by omega) (HKQ.out.below hb6).lt (by omega) (by have := hb6.size; omega) hS8
    have HF2 := Lib.hid F2
    have HV8 := Lib.hid (F2.keep.fr hv8)
    have HK8 := Lib.hid K8
    have hb9 := bl_trans HBW.out hb6
    have HB9 := Lib.hid (hb9.trans (F2.below hb9.size (fun y hy => by have e : y = w.heap.size + 2 := hy; omega)))
    refine hK.out _ _ (fun _ => hS8) ?_
    clear hS K hK hb8 hb6 hv8 K8 F2 hb9
    have hS := hS8
    clear hS8
    (try simp only [Act.put, List.setIfInBounds_toArray, List.set_cons_zero, List.set_cons_succ])
    refine wpAnyT_one (i := 6) rfl (by kernel_rfl) rfl (fun K hK => ?_)
    simp only [List.getElem_toArray, List.getElem_cons_succ, List.getElem_cons_zero]
    go_simp
    refine hK.out _ _ (fun _ => hS9) ?_
    clear hS K hK m0 m1 m2 mf
    have hS := hS9
    clear hS9
    (try simp only [Act.put, List.setIfInBounds_toArray, List.set_cons_zero, List.set_cons_succ])
    refine wpAnyT_one (i := 7) rfl (by kernel_rfl) rfl (fun K hK => ?_)
    simp only [List.getElem_toArray, List.getElem_cons_succ, List.getElem_cons_zero]
    go_simp
    refine hK.out _ _ (fun h => absurd rfl h) ?_
    refine wpAnyT_done (by kernel_rfl) ?_ _
    clear hS K hK hS0
    go_wp2
    refine bodyPost_ret (results_fe (u := 7) rfl _ _ (w.heap.size + 2) 38 _ (0, 0) _ rfl (blk3 HK8.out _ _ _) Try.underlying38 rfl (by kernel_rfl)) rfl ?_
    refine ⟨HB9.out, _, rfl, ?_⟩
    rw [← HQV.out, HU.out, ← HSS.out]
    exact HV8.out

set_option maxRecDepth 100000 in
theorem allowed_calls (w : World) (x y : VD) (A1 A2 B1 B2 : Option Addr) (a1 a2 b1 b2 : Nat) :
    Calls Try.prog 27 #[.agg #[.int .i64 x.1, .int .i64 x.2.1, .bool x.2.2.1, .slice A1 x.2.2.2.1.length a1, .slice A2 x.2.2.2.2.length a2], .agg #[.int .i64 y.1, .int .i64 y.2.1, .bool y.2.2.1, .slice B1 y.2.2.2.1.length b1, .slice B2 y.2.2.2.2.length b2]] w fun e w' => e = .returned (.bool (decide (x.1 ≤ y.1) && decide (y.2.1 ≤ x.2.1))) ∧ Below w.heap.size w w' := by
  obtain ⟨wa, hwa⟩ : ∃ W, W = w.alloc (.cells #[.int .i64 x.1, .int .i64 x.2.1, .bool x.2.2.1, .slice A1 x.2.2.2.1.length a1, .slice A2 x.2.2.2.2.length a2] 40) := ⟨_, rfl⟩
  obtain ⟨wb, hwb⟩ : ∃ W, W = wa.alloc (.cells #[.int .i64 y.1, .int .i64 y.2.1, .bool y.2.2.1, .slice B1 y.2.2.2.1.length b1, .slice B2 y.2.2.2.2.length b2] 40) := ⟨_, rfl⟩
  have sa : wa.heap.size = w.heap.size + 1 := by rw [hwa]; simp
  have ba : Below w.heap.size w wa := by rw [hwa]; exact below_alloc0 _ _
  have bb : Below wa.heap.size wa wb := by rw [hwb]; exact below_alloc0 _ _
  have KA : Blk wa w.heap.size 40 #[.int .i64 x.1, .int .i64 x.2.1, .bool x.2.2.1, .slice A1 x.2.2.2.1.length a1, .slice A2 x.2.2.2.2.length a2] := by rw [hwa]; exact Blk.new _ _ _
  have KB : Blk wb (w.heap.size + 1) 40 #[.int .i64 y.1, .int .i64 y.2.1, .bool y.2.2.1, .slice B1 y.2.2.2.1.length b1, .slice B2 y.2.2.2.2.length b2] := by rw [hwb, ← sa]; exact Blk.new _ _ _
  have ka := KA.below bb
  have x0 := ka.cell 0
  have x1 := ka.cell 1
  have y0 := KB.cell 0
  have y1 := KB.cell 1
  have HB := Lib.hid (bl_trans ba bb)
  have HW := Lib.hid (show (w.alloc (.cells #[.int .i64 x.1, .int .i64 x.2.1, .bool x.2.2.1, .slice A1 x.2.2.2.1.length a1, .slice A2 x.2.2.2.2.length a2] 40)).alloc (.cells #[.int .i64 y.1, .int .i64 y.2.1, .bool y.2.2.1, .slice B1 y.2.2.2.1.length b1, .slice B2 y.2.2.2.2.length b2] 40) = wb by rw [hwb, hwa])
  clear hwa hwb sa ba bb KA KB ka
  by_cases h1 : x.1 ≤ y.1
  · have g1 : decide (x.1 ≤ y.1) = true := decide_eq_true h1
    have HG := Lib.hid g1
    by_cases h2 : y.2.1 ≤ x.2.1
    · have g2 : decide (y.2.1 ≤ x.2.1) = true := decide_eq_true h2
      have HG2 := Lib.hid g2
      go_enter Try.func27, Try.ntmps27
      go_upto_region 1 with fail
      rw [HW.out]
      go_wp2
      go_ret
      exact ⟨by simp [h1, h2], HB.out⟩
    · have g2 : decide (y.2.1 ≤ x.2.1) = false := decide_eq_false h2
      go_enter Try.func27, Try.ntmps27
      go_upto_region 1 with fail
      rw [HW.out]
      go_wp2
      go_ret
      exact ⟨by simp [h1, h2], HB.out⟩
  · have g1 : decide (x.1 ≤ y.1) = false := decide_eq_false h1
    go_enter Try.func27, Try.ntmps27
    go_upto_region 1 with fail
    rw [HW.out]
    go_wp2
    go_ret
    exact ⟨by simp [h1], HB.out⟩
/-- The others are the same when one says something else. -/
theorem tdOf_set_wo (L : List VD) (i : Nat) (dv : VD) : (tdOf (L.set i dv)).wo i = (tdOf L).wo i := by
  have hg : ∀ r, (L.set i dv).getD (sk i r) vd0 = L.getD (sk i r) vd0 := fun r => by
    rw [List.getD_eq_getElem?_getD, List.getD_eq_getElem?_getD, List.getElem?_set_ne (fun e => sk_ne i r e.symm)]
  unfold Td.wo tdOf
  simp only [hg, List.length_set]
theorem FewV.set {n : Nat} {L : List VD} (h : FewV n L) (i : Nat) {dv : VD} (h1 : dv.2.2.2.1.length ≤ n) (h2 : dv.2.2.2.2.length ≤ n) : FewV n (L.set i dv) := fun d hd => by
  rcases List.mem_or_eq_of_mem_set hd with h' | rfl
  · exact h d h'
  · exact ⟨h1, h2⟩
/-- What is right of a tide and of the tide with another visit. -/
theorem truth_of {L : List VD} {D K i : Nat} {x dv : VD} (hx : L[i]? = some x) (hr : rightN (D : Int) (K : Int) L = 0) (hs : rightN (D : Int) (K : Int) (L.set i dv) = 0) (h1 : x.1 ≤ dv.1) (h2 : dv.2.1 ≤ x.2.1) :
    (tdOf (L.set i dv)).use K D i (fqd x.2.2) ≤ (tdOf L).use K D i (fqd x.2.2) ∧ 0 ≤ (tdOf L).use K D i (fqd x.2.2) := by
  have hi := (List.getElem?_eq_some_iff.1 hx).1
  obtain ⟨z1, z2, z3⟩ := rightN_zero hr
  obtain ⟨_, _, z6⟩ := rightN_zero hs
  have hdx : (L.set i dv)[i]? = some dv := by rw [List.getElem?_set_self hi]
  have gx := bad_no (z3 i x hx)
  have gd := bad_no (z6 i dv hdx)
  obtain ⟨t1, t2, t3⟩ := tdOf_at hx
  obtain ⟨s1, s2, s3⟩ := tdOf_at hdx
  rw [← t3]
  have hn : i < (tdOf L).n := hi
  exact ⟨Td.truth (by omega) hn (tdOf_set_wo L i dv).symm (by rw [t1]; omega) (by rw [t1, t2]; omega) (by rw [t2]; omega) (by rw [s1]; omega) (by rw [s1, s2]; omega) (by rw [t1, s1]; omega) (by rw [t2, s2]; omega),
    Td.use_nonneg (by omega) hn (by rw [t1]; omega) (by rw [t1, t2]; omega)⟩
open Go.ChangeShapes Go.WideShapes Go.ChangeAt Go.RowKit Go.Joins

set_option maxRecDepth 100000 in
/-- A visit that is handed in, in five cells. -/
theorem visit_of_trod {H : Type} {enc : TypeId × Value → H} {W : World} {fuel : Nat} {c0 c1 c2 c3 c4 : Value} {x : DataW H × List MemPlace}
    (h : DataW.trod enc Try.prog W 0 (fun _ => true) true fuel 40 [c0, c1, c2, c3, c4] = some x) : ∃ (dv : VD) (V1 V2 : Option Addr) (n1 n2 : Nat), c0 = .int .i64 dv.1 ∧ c1 = .int .i64 dv.2.1 ∧ c2 = .bool dv.2.2.1 ∧ c3 = .slice V1 dv.2.2.2.1.length n1 ∧ c4 = .slice V2 dv.2.2.2.2.length n2 ∧
      FrIn W (.agg #[.bool dv.2.2.1, .slice V1 dv.2.2.2.1.length n1, .slice V2 dv.2.2.2.2.length n2]) dv.2.2.1 dv.2.2.2.1 dv.2.2.2.2 ∧ ∀ B, (∀ n ∈ x.1.weights Try.prog 40, n ≤ B) → dv.2.2.2.1.length ≤ B ∧ dv.2.2.2.2.length ≤ B := by
  obtain ⟨y0, y1, y2, n', hy, _, k0, k1, k2⟩ := Deep.trod_struct3 Try.underlying40 h
  have b0 : Program.cellsOf Try.prog 3 = 1 := by kernel_rfl
  have b3 : Program.cellsOf Try.prog 38 = 3 := by kernel_rfl
  have b1 : Program.cellsOf Try.prog 4 = 1 := by kernel_rfl
  have b2 : Program.cellsOf Try.prog 36 = 1 := by kernel_rfl
  have k0' : DataW.trod enc Try.prog W 0 (fun _ => true) true n' 3 [c0] = some y0 := by simpa [b0] using k0
  have k1' : DataW.trod enc Try.prog W 0 (fun _ => true) true n' 3 [c1] = some y1 := by simpa [b0] using k1
  have k2' : DataW.trod enc Try.prog W 0 (fun _ => true) true n' 38 [c2, c3, c4] = some y2 := by simpa [b0, b3] using k2
  obtain ⟨z0, z1, z2, n2, hz, _, f0, f1, f2⟩ := Deep.trod_struct3 Try.underlying38 k2'
  have f0' : DataW.trod enc Try.prog W 0 (fun _ => true) true n2 4 [c2] = some z0 := by simpa [b1] using f0
  have f1' : DataW.trod enc Try.prog W 0 (fun _ => true) true n2 36 [c3] = some z1 := by simpa [b2] using f1
  have f2' : DataW.trod enc Try.prog W 0 (fun _ => true) true n2 36 [c4] = some z2 := by simpa [b2] using f2
  obtain ⟨p, rfl, _, _⟩ := int_of_trod k0'
  obtain ⟨q, rfl, _, _⟩ := int_of_trod k1'
  obtain ⟨b, hb, _⟩ := DataW.trod_bool Try.underlying4 f0'
  obtain rfl : c2 = .bool b := by simpa using hb
  obtain ⟨ln, r1, w1, g1⟩ := row_of_argB f1'
  obtain ⟨ld, r2, w2, g2⟩ := row_of_argB f2'
  obtain ⟨A1, a1, rfl, _⟩ := id r1
  obtain ⟨A2, a2, rfl, _⟩ := id r2
  have hx : x.1 = .agg [y0.1, y1.1, y2.1] := congrArg Prod.fst hy
  have hz2 : y2.1 = .agg [z0.1, z1.1, z2.1] := congrArg Prod.fst hz
  refine ⟨(p, q, b, ln, ld), A1, A2, a1, a2, rfl, rfl, rfl, rfl, rfl, ⟨_, _, rfl, r1, r2, w1, w2⟩, fun B hB => ⟨g1 B (fun n hn => hB n ?_), g2 B (fun n hn => hB n ?_)⟩⟩
  · rw [hx, hz2]; simp [DataW.weights, DataW.weightsEach, Try.underlying40, Try.underlying38, hn]
  · rw [hx, hz2]; simp [DataW.weights, DataW.weightsEach, Try.underlying40, Try.underlying38, hn]
set_option maxRecDepth 100000 in
/-- What an agent says. -/
theorem told_of_arg {H : Type} {enc : TypeId × Value → H} {W : World} {v : Value} {d : DataW H} {p : List MemPlace}
    (hv : Value.okWide Try.prog W .any 0 45 v) (h : DataW.Trod enc Try.prog W 0 (fun _ => true) true 45 v d p) : ∃ (ag : Int) (dv : VD) (V1 V2 : Option Addr) (n1 n2 : Nat), v = .agg #[.int .i64 ag, .int .i64 dv.1, .int .i64 dv.2.1, .bool dv.2.2.1, .slice V1 dv.2.2.2.1.length n1, .slice V2 dv.2.2.2.2.length n2] ∧
      FrIn W (.agg #[.bool dv.2.2.1, .slice V1 dv.2.2.2.1.length n1, .slice V2 dv.2.2.2.2.length n2]) dv.2.2.1 dv.2.2.2.1 dv.2.2.2.2 ∧ ∀ B, (∀ n ∈ d.weights Try.prog 45, n ≤ B) → dv.2.2.2.1.length ≤ B ∧ dv.2.2.2.2.length ≤ B := by
  obtain ⟨cs, rfl, hsz⟩ := okWide_struct Try.underlying45 hv
  have h6 : Program.cellsOf Try.prog 45 = 6 := by kernel_rfl
  have b0 : Program.cellsOf Try.prog 3 = 1 := by kernel_rfl
  have b5 : Program.cellsOf Try.prog 40 = 5 := by kernel_rfl
  rw [h6] at hsz
  obtain ⟨l⟩ := cs
  match l, hsz with
  | [c0, c1, c2, c3, c4, c5], _ =>
    obtain ⟨fuel, hf⟩ := h
    obtain ⟨y0, y1, n', hy, _, k0, k1⟩ := trod_struct2 Try.underlying45 hf
    have k0' : DataW.trod enc Try.prog W 0 (fun _ => true) true n' 3 [c0] = some y0 := by simpa [Value.cells, b0] using k0
    have k1' : DataW.trod enc Try.prog W 0 (fun _ => true) true n' 40 [c1, c2, c3, c4, c5] = some y1 := by simpa [Value.cells, b5] using k1
    obtain ⟨ag, rfl, _, _⟩ := int_of_trod k0'
    obtain ⟨dv, V1, V2, n1, n2, rfl, rfl, rfl, rfl, rfl, hfr, hB⟩ := visit_of_trod k1'
    have hd : d = .agg [y0.1, y1.1] := congrArg Prod.fst hy
    refine ⟨ag, dv, V1, V2, n1, n2, rfl, hfr, fun B hb => hB B (fun n hn => hb n ?_)⟩
    rw [hd]
    simp [DataW.weights, DataW.weightsEach, Try.underlying45, hn]
end Go.Proofs.Ytajckdheecgceaa
