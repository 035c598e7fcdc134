/-
berthref09.Apply: kind 3.
berthref09.Apply: kind 2.
-/
import Derived.Test.YtmenipaibjifiaaGreatDoorR33
import Derived.Deep.RegionHeld3
set_option linter.unusedVariables false
set_option linter.unusedSimpArgs false
namespace Go.Proofs.YtmenipaibjifiaaGreatDoor
open Go.RowKit Go.BigFrame

set_option maxRecDepth 100000 in
set_option maxHeartbeats 40000000 in
theorem rapply3_k (R : Ending → World → Prop) (w : World) (ok : Nat → Prop) (d : RDom) (x : Chg) (cd cs : List Value) (hok : ∀ k, ok k → k < w.heap.size) (hd : rdomK w ok d cd) (hx : chgK w ok x cs) (hs : ChgFit x)
    (hln : d.nodes.length ≤ 1073741823) (hlp : d.pods.length ≤ 1073741823) (hf : fitsR d x = true) (hk : x.kind = 3)
    (hR : ∀ cd' w', Below w.heap.size w w' → rdomK w' (fun k => ok k ∨ w.heap.size ≤ k) (applyR d x).1 cd' → R (.returned (.tuple #[.agg cd'.toArray, .int .i64 (applyR d x).2])) w') :
    Calls Tryz.prog 11 #[.agg cd.toArray, .agg cs.toArray] w R := by
  have hx0 := hx
  obtain ⟨vla, vta, vca, vlb, vtb, vcb, vplc, vpnc, vptc, vpac, vppc, rfl, hn1, hn2, hp3⟩ := chg_form hx
  have hd0 := hd
  obtain ⟨vn, vp, rfl, hdn, hdp⟩ := hd
  obtain ⟨An, nn, rfl, _, _⟩ := hdn.form
  obtain ⟨Ap, np, rfl, _, _⟩ := hdp.form
  obtain ⟨_, _, _, en, hnl, _, _⟩ := hn2
  obtain ⟨_, _, _, _, _, ep, hpl, _, _, _, _⟩ := hp3
  simp only [List.cons.injEq, and_true, true_and] at en ep
  obtain ⟨rfl, rfl, rfl⟩ := en
  obtain ⟨rfl, rfl, rfl, rfl, rfl⟩ := ep
  have HR := Lib.hid hR
  clear hR hx
  have hB : ∀ o1 o2 o3 : Obj, Below w.heap.size w (((w.alloc o1).alloc o2).alloc o3) := fun o1 o2 o3 => Below.alloc (Below.alloc (Below.alloc (Below.refl _ _) (Nat.le_refl _) _) (by simp) _) (by simp; omega) _
  have t0 : Below w.heap.size w (((w.alloc (.cells #[.slice An d.nodes.length nn, .slice Ap d.pods.length np] 29)).alloc (.cells #[.int .i64 x.kind, .int .i64 x.slot, .int .i64 x.podSlot, .string x.was.name, vla, vta, vca, .bool x.was.cord, .string x.now.name, vlb, vtb, vcb, .bool x.now.cord, .string x.pod.name, vplc, vpnc, vptc, .string x.pod.req, vpac, vppc, .int .i64 x.pod.prio] 42)).alloc (.cells #[.slice none 0 0, .slice none 0 0] 29)) := hB _ _ _
  clear hB
  have od0 : (((w.alloc (.cells #[.slice An d.nodes.length nn, .slice Ap d.pods.length np] 29)).alloc (.cells #[.int .i64 x.kind, .int .i64 x.slot, .int .i64 x.podSlot, .string x.was.name, vla, vta, vca, .bool x.was.cord, .string x.now.name, vlb, vtb, vcb, .bool x.now.cord, .string x.pod.name, vplc, vpnc, vptc, .string x.pod.req, vpac, vppc, .int .i64 x.pod.prio] 42)).alloc (.cells #[.slice none 0 0, .slice none 0 0] 29)).heap[w.heap.size]? = some (.cells #[.slice An d.nodes.length nn, .slice Ap d.pods.length np] 29) := (Below.heap_alloc _ _ _ (by simp; omega)).trans ((Below.heap_alloc _ _ _ (by simp)).trans (heap_alloc_new w _))
  have oc0 : (((w.alloc (.cells #[.slice An d.nodes.length nn, .slice Ap d.pods.length np] 29)).alloc (.cells #[.int .i64 x.kind, .int .i64 x.slot, .int .i64 x.podSlot, .string x.was.name, vla, vta, vca, .bool x.was.cord, .string x.now.name, vlb, vtb, vcb, .bool x.now.cord, .string x.pod.name, vplc, vpnc, vptc, .string x.pod.req, vpac, vppc, .int .i64 x.pod.prio] 42)).alloc (.cells #[.slice none 0 0, .slice none 0 0] 29)).heap[w.heap.size + 1]? = some (.cells #[.int .i64 x.kind, .int .i64 x.slot, .int .i64 x.podSlot, .string x.was.name, vla, vta, vca, .bool x.was.cord, .string x.now.name, vlb, vtb, vcb, .bool x.now.cord, .string x.pod.name, vplc, vpnc, vptc, .string x.pod.req, vpac, vppc, .int .i64 x.pod.prio] 42) := (Below.heap_alloc _ _ _ (by simp)).trans (by simpa using heap_alloc_new (w.alloc (.cells #[.slice An d.nodes.length nn, .slice Ap d.pods.length np] 29)) (.cells #[.int .i64 x.kind, .int .i64 x.slot, .int .i64 x.podSlot, .string x.was.name, vla, vta, vca, .bool x.was.cord, .string x.now.name, vlb, vtb, vcb, .bool x.now.cord, .string x.pod.name, vplc, vpnc, vptc, .string x.pod.req, vpac, vppc, .int .i64 x.pod.prio] 42))
  have oz0 : (((w.alloc (.cells #[.slice An d.nodes.length nn, .slice Ap d.pods.length np] 29)).alloc (.cells #[.int .i64 x.kind, .int .i64 x.slot, .int .i64 x.podSlot, .string x.was.name, vla, vta, vca, .bool x.was.cord, .string x.now.name, vlb, vtb, vcb, .bool x.now.cord, .string x.pod.name, vplc, vpnc, vptc, .string x.pod.req, vpac, vppc, .int .i64 x.pod.prio] 42)).alloc (.cells #[.slice none 0 0, .slice none 0 0] 29)).heap[w.heap.size + 2]? = some (.cells #[.slice none 0 0, .slice none 0 0] 29) := by simpa using heap_alloc_new ((w.alloc (.cells #[.slice An d.nodes.length nn, .slice Ap d.pods.length np] 29)).alloc (.cells #[.int .i64 x.kind, .int .i64 x.slot, .int .i64 x.podSlot, .string x.was.name, vla, vta, vca, .bool x.was.cord, .string x.now.name, vlb, vtb, vcb, .bool x.now.cord, .string x.pod.name, vplc, vpnc, vptc, .string x.pod.req, vpac, vppc, .int .i64 x.pod.prio] 42)) (.cells #[.slice none 0 0, .slice none 0 0] 29)
  have hv : applyR d x = (⟨withNode d.nodes x.slot [⟨x.slot, x.now.labels⟩], d.pods⟩, 0) := by
    unfold applyR
    rw [if_neg (by rw [hf]; simp), if_pos (by omega)]
  rw [hv] at HR
  clear hv
  have HF := Lib.hid hf
  clear hf
  have Hhk := Lib.hid hk
  clear hk
  go_enter Tryz.func11, Tryz.ntmps11
  go_wp2_with (first | refine wpList_load_row rfl 42 _ rfl (w.heap.size + 1) rfl 42 #[.int .i64 x.kind, .int .i64 x.slot, .int .i64 x.podSlot, .string x.was.name, vla, vta, vca, .bool x.was.cord, .string x.now.name, vlb, vtb, vcb, .bool x.now.cord, .string x.pod.name, vplc, vpnc, vptc, .string x.pod.req, vpac, vppc, .int .i64 x.pod.prio] (0, 0) _ oc0 Tryz.underlying42 rfl (by kernel_rfl) ?_)
  refine rfits_k _ _ ok d x [.slice An d.nodes.length nn, .slice Ap d.pods.length np] [.int .i64 x.kind, .int .i64 x.slot, .int .i64 x.podSlot, .string x.was.name, vla, vta, vca, .bool x.was.cord, .string x.now.name, vlb, vtb, vcb, .bool x.now.cord, .string x.pod.name, vplc, vpnc, vptc, .string x.pod.req, vpac, vppc, .int .i64 x.pod.prio] (fun j h => Nat.lt_of_lt_of_le (hok j h) t0.size) (rdomOk.below hd0 t0 hok) (chgOk.below hx0 t0 hok) hs (by omega) (by omega) ?_
  intro w1 hB1
  rw [HF.out]
  have z1 : w.heap.size + 3 ≤ w1.heap.size := by have := hB1.size; simp at this; omega
  have t1 : Below w.heap.size w w1 := t0.trans (hB1.mono (by simp; try omega))
  have od1 := (hB1.block _ (by simp; try omega)).trans od0
  have oc1 := (hB1.block _ (by simp; try omega)).trans oc0
  have oz1 := (hB1.block _ (by simp; try omega)).trans oz0
  clear hB1 od0 oc0 oz0 t0
  have d1_0 : w1.cell? ⟨w.heap.size, 0, none⟩ = some (.slice An d.nodes.length nn) := cell_at od1 rfl
  have d1_1 : w1.cell? ⟨w.heap.size, 1, none⟩ = some (.slice Ap d.pods.length np) := cell_at od1 rfl
  have c1_0 : w1.cell? ⟨w.heap.size + 1, 0, none⟩ = some (.int .i64 x.kind) := cell_at oc1 rfl
  have c1_1 : w1.cell? ⟨w.heap.size + 1, 1, none⟩ = some (.int .i64 x.slot) := cell_at oc1 rfl
  have c1_2 : w1.cell? ⟨w.heap.size + 1, 2, none⟩ = some (.int .i64 x.podSlot) := cell_at oc1 rfl
  have c1_9 : w1.cell? ⟨w.heap.size + 1, 9, none⟩ = some (vlb) := cell_at oc1 rfl
  have c1_14 : w1.cell? ⟨w.heap.size + 1, 14, none⟩ = some (vplc) := cell_at oc1 rfl
  have y1_0 : w1.cell? ⟨w.heap.size + 2, 0, none⟩ = some (.slice none 0 0) := cell_at oz1 rfl
  have g1_0 : w1.frozen? ⟨w.heap.size + 2, 0, none⟩ = false := frozen_at oz1
  have y1_1 : w1.cell? ⟨w.heap.size + 2, 1, none⟩ = some (.slice none 0 0) := cell_at oz1 rfl
  have g1_1 : w1.frozen? ⟨w.heap.size + 2, 1, none⟩ = false := frozen_at oz1
  have hl5 : x.now.labels.length ≤ 1073741824 := by have := hs.1.1; omega
  have hl6 : x.pod.labels.length ≤ 1073741824 := by have := hs.2.1; omega
  have hk := Hhk.out
  clear Hhk
  rw [hk] at c1_0
  clear hk
  go_upto_region 8 with fail
  go_cut [7] (fun v wr => Below w.heap.size w wr ∧ wr.heap[w.heap.size]? = some (.cells #[.slice An d.nodes.length nn, .slice Ap d.pods.length np] 29) ∧ wr.heap[w.heap.size + 1]? = some (.cells #[.int .i64 x.kind, .int .i64 x.slot, .int .i64 x.podSlot, .string x.was.name, vla, vta, vca, .bool x.was.cord, .string x.now.name, vlb, vtb, vcb, .bool x.now.cord, .string x.pod.name, vplc, vpnc, vptc, .string x.pod.req, vpac, vppc, .int .i64 x.pod.prio] 42) ∧ wr.heap[w.heap.size + 2]? = some (.cells #[.slice none 0 0, .slice none 0 0] 29) ∧ w.heap.size + 3 ≤ wr.heap.size ∧ SlK rnodeK 2 wr (fun k => w.heap.size + 3 ≤ k) v [⟨x.slot, x.now.labels⟩])
  case first =>
    go_upto_region 7 with fail
    have HK := Lib.hid (show ∀ w', Below w1.heap.size w1 w' → Below w1.heap.size w1 w' ∧ w'.cell? ⟨w.heap.size + 1, 1, none⟩ = some (.int .i64 x.slot) ∧ w'.cell? ⟨w.heap.size + 1, 9, none⟩ = some (vlb) from fun w' hw => ⟨hw, (Mod.of_below hw).cell' c1_1 (fun h => h), (Mod.of_below hw).cell' c1_9 (fun h => h)⟩)
    have hOk1 : ∀ k, ok k → k < w1.heap.size := fun k h => by have := hok k h; have := t1.size; omega
    have HOK1 := Lib.hid hOk1
    have HPL := Lib.hid (hnl.below labOk t1 hok)
    clear hOk1
    go_region_held3 (fun w' => Below w1.heap.size w1 w' ∧ w'.cell? ⟨w.heap.size + 1, 1, none⟩ = some (.int .i64 x.slot) ∧ w'.cell? ⟨w.heap.size + 1, 9, none⟩ = some (vlb))
      (first
      | exact HK.out _ (Below.refl _ w1).drew
      | exact HK.out _ y1
      | exact HK.out _ (y1.alloc y1.size _))
      (first
      | (go_at_call 51; refine rcopy_k _ _ ok _ x.now.labels (fun j h => HOK1.out j h) (SlK.move labOk HPL.out (fun _ _ => rfl)) hl5 ?_; intro v2 w2 hB2 hv2
         have y1 : Below w1.heap.size w1 w2 := below_of_drew hB2
         obtain ⟨A2, m2, e2, -, -⟩ := hv2.form
         subst e2))
    all_goals (
      go_wp2_with fail
      go_meet
      have q2 : w1.heap.size ≤ w2.heap.size := y1.size
      exact ⟨Below.alloc (t1.trans (y1.mono t1.size)) (by have := t1.size; omega) _, (Below.heap_alloc _ _ _ (by omega)).trans ((y1.block _ (by omega)).trans od1), (Below.heap_alloc _ _ _ (by omega)).trans ((y1.block _ (by omega)).trans oc1), (Below.heap_alloc _ _ _ (by omega)).trans ((y1.block _ (by omega)).trans oz1), (by simp; omega), SlK.single rnodeOk ⟨_, rfl, SlK.mono labOk ((hv2.bnd labOk).below labOk (Below.alloc (Below.refl _ _) (Nat.le_refl _) _) (fun k h => h.2)) (fun k h => Nat.le_trans z1 h.1)⟩ (show w.heap.size + 3 ≤ w2.heap.size by omega) (heap_alloc_new w2 _)⟩)
  case rest =>
    obtain ⟨hB4, od4, oc4, oz4, z4, hn4⟩ := hcut
    clear d1_0 d1_1 c1_0 c1_1 c1_2 c1_9 c1_14 y1_0 y1_1 g1_0 g1_1 od1 oc1 oz1
    have t4 := hB4.drew
    have e0 : wc.cell? ⟨w.heap.size, 0, none⟩ = some (.slice An d.nodes.length nn) := cell_at od4 rfl
    have e1 : wc.cell? ⟨w.heap.size, 1, none⟩ = some (.slice Ap d.pods.length np) := cell_at od4 rfl
    have e2 : wc.cell? ⟨w.heap.size + 1, 1, none⟩ = some (.int .i64 x.slot) := cell_at oc4 rfl
    have od5 : wc.drew.heap[w.heap.size]? = _ := od4
    have oz5 : wc.drew.heap[w.heap.size + 2]? = _ := oz4
    have z5 : w.heap.size + 3 ≤ wc.drew.heap.size := z4
    have hl8 : SlK rnodeK 2 wc.drew (fun k => (ok k ∨ w.heap.size + 3 ≤ k) ∧ k < wc.drew.heap.size) (.slice An d.nodes.length nn) d.nodes := SlK.bnd rnodeOk (SlK.mono rnodeOk ((hdn).below rnodeOk t4 hok) (fun k h => .inl h))
    have hn8 : SlK rnodeK 2 wc.drew (fun k => (ok k ∨ w.heap.size + 3 ≤ k) ∧ k < wc.drew.heap.size) u7 [⟨x.slot, x.now.labels⟩] := SlK.bnd rnodeOk (SlK.mono rnodeOk (show SlK rnodeK 2 wc.drew _ u7 _ from hn4) (fun k h => .inr h))
    obtain ⟨A7, m7, e7, -, -⟩ := hn8.form
    subst e7
    go_wp2_with fail
    go_region_with (go_at_call 52; refine withNode_k _ _ _ _ _ d.nodes [⟨x.slot, x.now.labels⟩] x.slot (fun k h => h.2) hl8 hn8 (by omega) (by simp) ?_; intro v9 w9 hB9 hv9; have p1 := (hB9.cell (p := ⟨w.heap.size, 1, none⟩) (by show w.heap.size < wc.drew.heap.size; omega)).trans e1; have oz9 := (hB9.block (w.heap.size + 2) (by omega)).trans oz5; have p2 := cell_at oz9 (i := 0) rfl; have p3 := cell_at oz9 (i := 1) rfl; have p4 := frozen_at oz9 (i := 0); have p5 := frozen_at oz9 (i := 1); obtain ⟨A9, m9, e9, -, -⟩ := hv9.form; subst e9)
    all_goals (
      have t9 : Below w.heap.size w w9 := t4.trans (hB9.mono t4.size)
      have z9 : w.heap.size + 3 ≤ w9.heap.size := Nat.le_trans z5 hB9.size
      have oy : ((w9.setCell ⟨w.heap.size + 2, 0, none⟩ (.slice A9 (withNode d.nodes x.slot [⟨x.slot, x.now.labels⟩]).length m9)).setCell ⟨w.heap.size + 2, 1, none⟩ (.slice Ap d.pods.length np)).heap[w.heap.size + 2]? = some (.cells #[.slice A9 (withNode d.nodes x.slot [⟨x.slot, x.now.labels⟩]).length m9, .slice Ap d.pods.length np] 29) := heap_setCell_at (heap_setCell_at oz9)
      have x_0 : ((w9.setCell ⟨w.heap.size + 2, 0, none⟩ (.slice A9 (withNode d.nodes x.slot [⟨x.slot, x.now.labels⟩]).length m9)).setCell ⟨w.heap.size + 2, 1, none⟩ (.slice Ap d.pods.length np)).cell? ⟨w.heap.size + 2, 0, none⟩ = some (.slice A9 (withNode d.nodes x.slot [⟨x.slot, x.now.labels⟩]).length m9) := cell_at oy rfl
      have x_1 : ((w9.setCell ⟨w.heap.size + 2, 0, none⟩ (.slice A9 (withNode d.nodes x.slot [⟨x.slot, x.now.labels⟩]).length m9)).setCell ⟨w.heap.size + 2, 1, none⟩ (.slice Ap d.pods.length np)).cell? ⟨w.heap.size + 2, 1, none⟩ = some (.slice Ap d.pods.length np) := cell_at oy rfl
      have gf : Below w.heap.size w ((w9.setCell ⟨w.heap.size + 2, 0, none⟩ (.slice A9 (withNode d.nodes x.slot [⟨x.slot, x.now.labels⟩]).length m9)).setCell ⟨w.heap.size + 2, 1, none⟩ (.slice Ap d.pods.length np)) := Below.setCell (Below.setCell t9 (by simp; try omega) _) (by simp; try omega) _
      have hm9 := (hv9.bnd rnodeOk).move rnodeOk (w' := ((w9.setCell ⟨w.heap.size + 2, 0, none⟩ (.slice A9 (withNode d.nodes x.slot [⟨x.slot, x.now.labels⟩]).length m9)).setCell ⟨w.heap.size + 2, 1, none⟩ (.slice Ap d.pods.length np))) (fun k h => by
        have hk9 : k ≠ w.heap.size + 2 := by
          rcases h.1 with h1 | h1
          · rcases h1.1 with h2 | h2
            · have := hok k h2; omega
            · omega
          · omega
        rw [Below.heap_setCell _ _ _ _ hk9, Below.heap_setCell _ _ _ _ hk9])
      have hv2 := HR.out _ _ gf ⟨_, _, rfl, SlK.mono rnodeOk hm9 (fun k h => by
        rcases h.1 with h1 | h1
        · exact h1.1.imp id (fun h => by omega)
        · exact .inr (by omega)), SlK.mono rpodOk (hdp.below rpodOk gf hok) (fun k h => .inl h)⟩
      go_wp2_with fail
      refine bodyPost_ret ?_ rfl hv2
      simp [results, Tryz.results11, go_sem, x_0, x_1])
end Go.Proofs.YtmenipaibjifiaaGreatDoor

namespace Go.Proofs.YtmenipaibjifiaaGreatDoor
open Go.RowKit Go.BigFrame

set_option maxRecDepth 100000 in
set_option maxHeartbeats 40000000 in
theorem rapply2_k (R : Ending → World → Prop) (w : World) (ok : Nat → Prop) (d : RDom) (x : Chg) (cd cs : List Value) (hok : ∀ k, ok k → k < w.heap.size) (hd : rdomK w ok d cd) (hx : chgK w ok x cs) (hs : ChgFit x)
    (hln : d.nodes.length ≤ 1073741823) (hlp : d.pods.length ≤ 1073741823) (hf : fitsR d x = true) (hk : x.kind = 2)
    (hR : ∀ cd' w', Below w.heap.size w w' → rdomK w' (fun k => ok k ∨ w.heap.size ≤ k) (applyR d x).1 cd' → R (.returned (.tuple #[.agg cd'.toArray, .int .i64 (applyR d x).2])) w') :
    Calls Tryz.prog 11 #[.agg cd.toArray, .agg cs.toArray] w R := by
  have hx0 := hx
  obtain ⟨vla, vta, vca, vlb, vtb, vcb, vplc, vpnc, vptc, vpac, vppc, rfl, hn1, hn2, hp3⟩ := chg_form hx
  have hd0 := hd
  obtain ⟨vn, vp, rfl, hdn, hdp⟩ := hd
  obtain ⟨An, nn, rfl, _, _⟩ := hdn.form
  obtain ⟨Ap, np, rfl, _, _⟩ := hdp.form
  obtain ⟨_, _, _, en, hnl, _, _⟩ := hn2
  obtain ⟨_, _, _, _, _, ep, hpl, _, _, _, _⟩ := hp3
  simp only [List.cons.injEq, and_true, true_and] at en ep
  obtain ⟨rfl, rfl, rfl⟩ := en
  obtain ⟨rfl, rfl, rfl, rfl, rfl⟩ := ep
  have HR := Lib.hid hR
  clear hR hx
  have hB : ∀ o1 o2 o3 : Obj, Below w.heap.size w (((w.alloc o1).alloc o2).alloc o3) := fun o1 o2 o3 => Below.alloc (Below.alloc (Below.alloc (Below.refl _ _) (Nat.le_refl _) _) (by simp) _) (by simp; omega) _
  have t0 : Below w.heap.size w (((w.alloc (.cells #[.slice An d.nodes.length nn, .slice Ap d.pods.length np] 29)).alloc (.cells #[.int .i64 x.kind, .int .i64 x.slot, .int .i64 x.podSlot, .string x.was.name, vla, vta, vca, .bool x.was.cord, .string x.now.name, vlb, vtb, vcb, .bool x.now.cord, .string x.pod.name, vplc, vpnc, vptc, .string x.pod.req, vpac, vppc, .int .i64 x.pod.prio] 42)).alloc (.cells #[.slice none 0 0, .slice none 0 0] 29)) := hB _ _ _
  clear hB
  have od0 : (((w.alloc (.cells #[.slice An d.nodes.length nn, .slice Ap d.pods.length np] 29)).alloc (.cells #[.int .i64 x.kind, .int .i64 x.slot, .int .i64 x.podSlot, .string x.was.name, vla, vta, vca, .bool x.was.cord, .string x.now.name, vlb, vtb, vcb, .bool x.now.cord, .string x.pod.name, vplc, vpnc, vptc, .string x.pod.req, vpac, vppc, .int .i64 x.pod.prio] 42)).alloc (.cells #[.slice none 0 0, .slice none 0 0] 29)).heap[w.heap.size]? = some (.cells #[.slice An d.nodes.length nn, .slice Ap d.pods.length np] 29) := (Below.heap_alloc _ _ _ (by simp; omega)).trans ((Below.heap_alloc _ _ _ (by simp)).trans (heap_alloc_new w _))
  have oc0 : (((w.alloc (.cells #[.slice An d.nodes.length nn, .slice Ap d.pods.length np] 29)).alloc (.cells #[.int .i64 x.kind, .int .i64 x.slot, .int .i64 x.podSlot, .string x.was.name, vla, vta, vca, .bool x.was.cord, .string x.now.name, vlb, vtb, vcb, .bool x.now.cord, .string x.pod.name, vplc, vpnc, vptc, .string x.pod.req, vpac, vppc, .int .i64 x.pod.prio] 42)).alloc (.cells #[.slice none 0 0, .slice none 0 0] 29)).heap[w.heap.size + 1]? = some (.cells #[.int .i64 x.kind, .int .i64 x.slot, .int .i64 x.podSlot, .string x.was.name, vla, vta, vca, .bool x.was.cord, .string x.now.name, vlb, vtb, vcb, .bool x.now.cord, .string x.pod.name, vplc, vpnc, vptc, .string x.pod.req, vpac, vppc, .int .i64 x.pod.prio] 42) := (Below.heap_alloc _ _ _ (by simp)).trans (by simpa using heap_alloc_new (w.alloc (.cells #[.slice An d.nodes.length nn, .slice Ap d.pods.length np] 29)) (.cells #[.int .i64 x.kind, .int .i64 x.slot, .int .i64 x.podSlot, .string x.was.name, vla, vta, vca, .bool x.was.cord, .string x.now.name, vlb, vtb, vcb, .bool x.now.cord, .string x.pod.name, vplc, vpnc, vptc, .string x.pod.req, vpac, vppc, .int .i64 x.pod.prio] 42))
  have oz0 : (((w.alloc (.cells #[.slice An d.nodes.length nn, .slice Ap d.pods.length np] 29)).alloc (.cells #[.int .i64 x.kind, .int .i64 x.slot, .int .i64 x.podSlot, .string x.was.name, vla, vta, vca, .bool x.was.cord, .string x.now.name, vlb, vtb, vcb, .bool x.now.cord, .string x.pod.name, vplc, vpnc, vptc, .string x.pod.req, vpac, vppc, .int .i64 x.pod.prio] 42)).alloc (.cells #[.slice none 0 0, .slice none 0 0] 29)).heap[w.heap.size + 2]? = some (.cells #[.slice none 0 0, .slice none 0 0] 29) := by simpa using heap_alloc_new ((w.alloc (.cells #[.slice An d.nodes.length nn, .slice Ap d.pods.length np] 29)).alloc (.cells #[.int .i64 x.kind, .int .i64 x.slot, .int .i64 x.podSlot, .string x.was.name, vla, vta, vca, .bool x.was.cord, .string x.now.name, vlb, vtb, vcb, .bool x.now.cord, .string x.pod.name, vplc, vpnc, vptc, .string x.pod.req, vpac, vppc, .int .i64 x.pod.prio] 42)) (.cells #[.slice none 0 0, .slice none 0 0] 29)
  have hv : applyR d x = (⟨withNode d.nodes x.slot [], d.pods⟩, 0) := by
    unfold applyR
    rw [if_neg (by rw [hf]; simp), if_neg (by omega), if_pos hk]
  rw [hv] at HR
  clear hv
  have HF := Lib.hid hf
  clear hf
  have Hhk := Lib.hid hk
  clear hk
  go_enter Tryz.func11, Tryz.ntmps11
  go_wp2_with (first | refine wpList_load_row rfl 42 _ rfl (w.heap.size + 1) rfl 42 #[.int .i64 x.kind, .int .i64 x.slot, .int .i64 x.podSlot, .string x.was.name, vla, vta, vca, .bool x.was.cord, .string x.now.name, vlb, vtb, vcb, .bool x.now.cord, .string x.pod.name, vplc, vpnc, vptc, .string x.pod.req, vpac, vppc, .int .i64 x.pod.prio] (0, 0) _ oc0 Tryz.underlying42 rfl (by kernel_rfl) ?_)
  refine rfits_k _ _ ok d x [.slice An d.nodes.length nn, .slice Ap d.pods.length np] [.int .i64 x.kind, .int .i64 x.slot, .int .i64 x.podSlot, .string x.was.name, vla, vta, vca, .bool x.was.cord, .string x.now.name, vlb, vtb, vcb, .bool x.now.cord, .string x.pod.name, vplc, vpnc, vptc, .string x.pod.req, vpac, vppc, .int .i64 x.pod.prio] (fun j h => Nat.lt_of_lt_of_le (hok j h) t0.size) (rdomOk.below hd0 t0 hok) (chgOk.below hx0 t0 hok) hs (by omega) (by omega) ?_
  intro w1 hB1
  rw [HF.out]
  have z1 : w.heap.size + 3 ≤ w1.heap.size := by have := hB1.size; simp at this; omega
  have t1 : Below w.heap.size w w1 := t0.trans (hB1.mono (by simp; try omega))
  have od1 := (hB1.block _ (by simp; try omega)).trans od0
  have oc1 := (hB1.block _ (by simp; try omega)).trans oc0
  have oz1 := (hB1.block _ (by simp; try omega)).trans oz0
  clear hB1 od0 oc0 oz0 t0
  have d1_0 : w1.cell? ⟨w.heap.size, 0, none⟩ = some (.slice An d.nodes.length nn) := cell_at od1 rfl
  have d1_1 : w1.cell? ⟨w.heap.size, 1, none⟩ = some (.slice Ap d.pods.length np) := cell_at od1 rfl
  have c1_0 : w1.cell? ⟨w.heap.size + 1, 0, none⟩ = some (.int .i64 x.kind) := cell_at oc1 rfl
  have c1_1 : w1.cell? ⟨w.heap.size + 1, 1, none⟩ = some (.int .i64 x.slot) := cell_at oc1 rfl
  have c1_2 : w1.cell? ⟨w.heap.size + 1, 2, none⟩ = some (.int .i64 x.podSlot) := cell_at oc1 rfl
  have c1_9 : w1.cell? ⟨w.heap.size + 1, 9, none⟩ = some (vlb) := cell_at oc1 rfl
  have c1_14 : w1.cell? ⟨w.heap.size + 1, 14, none⟩ = some (vplc) := cell_at oc1 rfl
  have y1_0 : w1.cell? ⟨w.heap.size + 2, 0, none⟩ = some (.slice none 0 0) := cell_at oz1 rfl
  have g1_0 : w1.frozen? ⟨w.heap.size + 2, 0, none⟩ = false := frozen_at oz1
  have y1_1 : w1.cell? ⟨w.heap.size + 2, 1, none⟩ = some (.slice none 0 0) := cell_at oz1 rfl
  have g1_1 : w1.frozen? ⟨w.heap.size + 2, 1, none⟩ = false := frozen_at oz1
  have hl5 : x.now.labels.length ≤ 1073741824 := by have := hs.1.1; omega
  have hl6 : x.pod.labels.length ≤ 1073741824 := by have := hs.2.1; omega
  have hk := Hhk.out
  clear Hhk
  rw [hk] at c1_0
  clear hk
  have t1d := t1.drew
  have z2d : w.heap.size + 3 ≤ w1.drew.heap.size := z1
  have od2 : w1.drew.heap[w.heap.size]? = _ := od1
  have oz2 : w1.drew.heap[w.heap.size + 2]? = _ := oz1
  have e0 : w1.drew.cell? ⟨w.heap.size, 0, none⟩ = some (.slice An d.nodes.length nn) := cell_at od2 rfl
  have e1 : w1.drew.cell? ⟨w.heap.size, 1, none⟩ = some (.slice Ap d.pods.length np) := cell_at od2 rfl
  have hl8 : SlK rnodeK 2 w1.drew (fun k => (ok k ∨ w.heap.size + 3 ≤ k) ∧ k < w1.drew.heap.size) (.slice An d.nodes.length nn) d.nodes := SlK.bnd rnodeOk (SlK.mono rnodeOk ((hdn).below rnodeOk t1d hok) (fun k h => .inl h))
  have hn8 : SlK rnodeK 2 w1.drew (fun k => (ok k ∨ w.heap.size + 3 ≤ k) ∧ k < w1.drew.heap.size) (.slice none 0 0) [] := SlK.nil
  go_wp2_with fail
  go_region_with (go_at_call 52; refine withNode_k _ _ _ _ _ d.nodes [] x.slot (fun k h => h.2) hl8 hn8 (by omega) (by simp) ?_; intro v9 w9 hB9 hv9; have p1 := (hB9.cell (p := ⟨w.heap.size, 1, none⟩) (by show w.heap.size < w1.drew.heap.size; omega)).trans e1; have oz9 := (hB9.block (w.heap.size + 2) (by omega)).trans oz2; have p2 := cell_at oz9 (i := 0) rfl; have p3 := cell_at oz9 (i := 1) rfl; have p4 := frozen_at oz9 (i := 0); have p5 := frozen_at oz9 (i := 1); obtain ⟨A9, m9, e9, -, -⟩ := hv9.form; subst e9)
  all_goals (
    have t9 : Below w.heap.size w w9 := t1d.trans (hB9.mono t1d.size)
    have z9 : w.heap.size + 3 ≤ w9.heap.size := Nat.le_trans z2d hB9.size
    have oy : ((w9.setCell ⟨w.heap.size + 2, 0, none⟩ (.slice A9 (withNode d.nodes x.slot []).length m9)).setCell ⟨w.heap.size + 2, 1, none⟩ (.slice Ap d.pods.length np)).heap[w.heap.size + 2]? = some (.cells #[.slice A9 (withNode d.nodes x.slot []).length m9, .slice Ap d.pods.length np] 29) := heap_setCell_at (heap_setCell_at oz9)
    have x_0 : ((w9.setCell ⟨w.heap.size + 2, 0, none⟩ (.slice A9 (withNode d.nodes x.slot []).length m9)).setCell ⟨w.heap.size + 2, 1, none⟩ (.slice Ap d.pods.length np)).cell? ⟨w.heap.size + 2, 0, none⟩ = some (.slice A9 (withNode d.nodes x.slot []).length m9) := cell_at oy rfl
    have x_1 : ((w9.setCell ⟨w.heap.size + 2, 0, none⟩ (.slice A9 (withNode d.nodes x.slot []).length m9)).setCell ⟨w.heap.size + 2, 1, none⟩ (.slice Ap d.pods.length np)).cell? ⟨w.heap.size + 2, 1, none⟩ = some (.slice Ap d.pods.length np) := cell_at oy rfl
    have gf : Below w.heap.size w ((w9.setCell ⟨w.heap.size + 2, 0, none⟩ (.slice A9 (withNode d.nodes x.slot []).length m9)).setCell ⟨w.heap.size + 2, 1, none⟩ (.slice Ap d.pods.length np)) := Below.setCell (Below.setCell t9 (by simp; try omega) _) (by simp; try omega) _
    have hm9 := (hv9.bnd rnodeOk).move rnodeOk (w' := ((w9.setCell ⟨w.heap.size + 2, 0, none⟩ (.slice A9 (withNode d.nodes x.slot []).length m9)).setCell ⟨w.heap.size + 2, 1, none⟩ (.slice Ap d.pods.length np))) (fun k h => by
      have hk9 : k ≠ w.heap.size + 2 := by
        rcases h.1 with h1 | h1
        · rcases h1.1 with h2 | h2
          · have := hok k h2; omega
          · omega
        · omega
      rw [Below.heap_setCell _ _ _ _ hk9, Below.heap_setCell _ _ _ _ hk9])
    have hv2 := HR.out _ _ gf ⟨_, _, rfl, SlK.mono rnodeOk hm9 (fun k h => by
      rcases h.1 with h1 | h1
      · exact h1.1.imp id (fun h => by omega)
      · exact .inr (by omega)), SlK.mono rpodOk (hdp.below rpodOk gf hok) (fun k h => .inl h)⟩
    go_wp2_with fail
    refine bodyPost_ret ?_ rfl hv2
    simp [results, Tryz.results11, go_sem, x_0, x_1])
end Go.Proofs.YtmenipaibjifiaaGreatDoor
