/-
berthref09.Apply: any other kind (5).
berthref09.Apply.
-/
import Derived.Test.YtmenipaibjifiaaGreatDoorR33
import Derived.Deep.RegionHeld3
import Derived.Test.YtmenipaibjifiaaGreatDoorR34
import Derived.Test.YtmenipaibjifiaaGreatDoorR35
set_option linter.unusedVariables false
set_option linter.unusedSimpArgs false
namespace Go.Proofs.YtmenipaibjifiaaGreatDoor
open Go.RowKit Go.BigFrame

set_option maxRecDepth 100000 in
set_option maxHeartbeats 40000000 in
theorem rapply5_k (R : Ending → World → Prop) (w : World) (ok : Nat → Prop) (d : RDom) (x : Chg) (cd cs : List Value) (hok : ∀ k, ok k → k < w.heap.size) (hd : rdomK w ok d cd) (hx : chgK w ok x cs) (hs : ChgFit x)
    (hln : d.nodes.length ≤ 1073741823) (hlp : d.pods.length ≤ 1073741823) (hf : fitsR d x = true) (hk1 : x.kind ≠ 1) (hk2 : x.kind ≠ 2) (hk3 : x.kind ≠ 3) (hk4 : x.kind ≠ 4)
    (hR : ∀ cd' w', Below w.heap.size w w' → rdomK w' (fun k => ok k ∨ w.heap.size ≤ k) (applyR d x).1 cd' → R (.returned (.tuple #[.agg cd'.toArray, .int .i64 (applyR d x).2])) w') :
    Calls Tryz.prog 11 #[.agg cd.toArray, .agg cs.toArray] w R := by
  have hx0 := hx
  obtain ⟨vla, vta, vca, vlb, vtb, vcb, vplc, vpnc, vptc, vpac, vppc, rfl, hn1, hn2, hp3⟩ := chg_form hx
  have hd0 := hd
  obtain ⟨vn, vp, rfl, hdn, hdp⟩ := hd
  obtain ⟨An, nn, rfl, _, _⟩ := hdn.form
  obtain ⟨Ap, np, rfl, _, _⟩ := hdp.form
  obtain ⟨_, _, _, en, hnl, _, _⟩ := hn2
  obtain ⟨_, _, _, _, _, ep, hpl, _, _, _, _⟩ := hp3
  simp only [List.cons.injEq, and_true, true_and] at en ep
  obtain ⟨rfl, rfl, rfl⟩ := en
  obtain ⟨rfl, rfl, rfl, rfl, rfl⟩ := ep
  have HR := Lib.hid hR
  clear hR hx
  have hB : ∀ o1 o2 o3 : Obj, Below w.heap.size w (((w.alloc o1).alloc o2).alloc o3) := fun o1 o2 o3 => Below.alloc (Below.alloc (Below.alloc (Below.refl _ _) (Nat.le_refl _) _) (by simp) _) (by simp; omega) _
  have t0 : Below w.heap.size w (((w.alloc (.cells #[.slice An d.nodes.length nn, .slice Ap d.pods.length np] 29)).alloc (.cells #[.int .i64 x.kind, .int .i64 x.slot, .int .i64 x.podSlot, .string x.was.name, vla, vta, vca, .bool x.was.cord, .string x.now.name, vlb, vtb, vcb, .bool x.now.cord, .string x.pod.name, vplc, vpnc, vptc, .string x.pod.req, vpac, vppc, .int .i64 x.pod.prio] 42)).alloc (.cells #[.slice none 0 0, .slice none 0 0] 29)) := hB _ _ _
  clear hB
  have od0 : (((w.alloc (.cells #[.slice An d.nodes.length nn, .slice Ap d.pods.length np] 29)).alloc (.cells #[.int .i64 x.kind, .int .i64 x.slot, .int .i64 x.podSlot, .string x.was.name, vla, vta, vca, .bool x.was.cord, .string x.now.name, vlb, vtb, vcb, .bool x.now.cord, .string x.pod.name, vplc, vpnc, vptc, .string x.pod.req, vpac, vppc, .int .i64 x.pod.prio] 42)).alloc (.cells #[.slice none 0 0, .slice none 0 0] 29)).heap[w.heap.size]? = some (.cells #[.slice An d.nodes.length nn, .slice Ap d.pods.length np] 29) := (Below.heap_alloc _ _ _ (by simp; omega)).trans ((Below.heap_alloc _ _ _ (by simp)).trans (heap_alloc_new w _))
  have oc0 : (((w.alloc (.cells #[.slice An d.nodes.length nn, .slice Ap d.pods.length np] 29)).alloc (.cells #[.int .i64 x.kind, .int .i64 x.slot, .int .i64 x.podSlot, .string x.was.name, vla, vta, vca, .bool x.was.cord, .string x.now.name, vlb, vtb, vcb, .bool x.now.cord, .string x.pod.name, vplc, vpnc, vptc, .string x.pod.req, vpac, vppc, .int .i64 x.pod.prio] 42)).alloc (.cells #[.slice none 0 0, .slice none 0 0] 29)).heap[w.heap.size + 1]? = some (.cells #[.int .i64 x.kind, .int .i64 x.slot, .int .i64 x.podSlot, .string x.was.name, vla, vta, vca, .bool x.was.cord, .string x.now.name, vlb, vtb, vcb, .bool x.now.cord, .string x.pod.name, vplc, vpnc, vptc, .string x.pod.req, vpac, vppc, .int .i64 x.pod.prio] 42) := (Below.heap_alloc _ _ _ (by simp)).trans (by simpa using heap_alloc_new (w.alloc (.cells #[.slice An d.nodes.length nn, .slice Ap d.pods.length np] 29)) (.cells #[.int .i64 x.kind, .int .i64 x.slot, .int .i64 x.podSlot, .string x.was.name, vla, vta, vca, .bool x.was.cord, .string x.now.name, vlb, vtb, vcb, .bool x.now.cord, .string x.pod.name, vplc, vpnc, vptc, .string x.pod.req, vpac, vppc, .int .i64 x.pod.prio] 42))
  have oz0 : (((w.alloc (.cells #[.slice An d.nodes.length nn, .slice Ap d.pods.length np] 29)).alloc (.cells #[.int .i64 x.kind, .int .i64 x.slot, .int .i64 x.podSlot, .string x.was.name, vla, vta, vca, .bool x.was.cord, .string x.now.name, vlb, vtb, vcb, .bool x.now.cord, .string x.pod.name, vplc, vpnc, vptc, .string x.pod.req, vpac, vppc, .int .i64 x.pod.prio] 42)).alloc (.cells #[.slice none 0 0, .slice none 0 0] 29)).heap[w.heap.size + 2]? = some (.cells #[.slice none 0 0, .slice none 0 0] 29) := by simpa using heap_alloc_new ((w.alloc (.cells #[.slice An d.nodes.length nn, .slice Ap d.pods.length np] 29)).alloc (.cells #[.int .i64 x.kind, .int .i64 x.slot, .int .i64 x.podSlot, .string x.was.name, vla, vta, vca, .bool x.was.cord, .string x.now.name, vlb, vtb, vcb, .bool x.now.cord, .string x.pod.name, vplc, vpnc, vptc, .string x.pod.req, vpac, vppc, .int .i64 x.pod.prio] 42)) (.cells #[.slice none 0 0, .slice none 0 0] 29)
  have hv : applyR d x = (⟨d.nodes, withPod d.pods x.podSlot []⟩, 0) := by
    unfold applyR
    rw [if_neg (by rw [hf]; simp), if_neg (by omega), if_neg hk2, if_neg hk4]
  rw [hv] at HR
  clear hv
  have HF := Lib.hid hf
  clear hf
  have Hhk1 := Lib.hid hk1
  have Hhk2 := Lib.hid hk2
  have Hhk3 := Lib.hid hk3
  have Hhk4 := Lib.hid hk4
  clear hk1 hk2 hk3 hk4
  go_enter Tryz.func11, Tryz.ntmps11
  go_wp2_with (first | refine wpList_load_row rfl 42 _ rfl (w.heap.size + 1) rfl 42 #[.int .i64 x.kind, .int .i64 x.slot, .int .i64 x.podSlot, .string x.was.name, vla, vta, vca, .bool x.was.cord, .string x.now.name, vlb, vtb, vcb, .bool x.now.cord, .string x.pod.name, vplc, vpnc, vptc, .string x.pod.req, vpac, vppc, .int .i64 x.pod.prio] (0, 0) _ oc0 Tryz.underlying42 rfl (by kernel_rfl) ?_)
  refine rfits_k _ _ ok d x [.slice An d.nodes.length nn, .slice Ap d.pods.length np] [.int .i64 x.kind, .int .i64 x.slot, .int .i64 x.podSlot, .string x.was.name, vla, vta, vca, .bool x.was.cord, .string x.now.name, vlb, vtb, vcb, .bool x.now.cord, .string x.pod.name, vplc, vpnc, vptc, .string x.pod.req, vpac, vppc, .int .i64 x.pod.prio] (fun j h => Nat.lt_of_lt_of_le (hok j h) t0.size) (rdomOk.below hd0 t0 hok) (chgOk.below hx0 t0 hok) hs (by omega) (by omega) ?_
  intro w1 hB1
  rw [HF.out]
  have z1 : w.heap.size + 3 ≤ w1.heap.size := by have := hB1.size; simp at this; omega
  have t1 : Below w.heap.size w w1 := t0.trans (hB1.mono (by simp; try omega))
  have od1 := (hB1.block _ (by simp; try omega)).trans od0
  have oc1 := (hB1.block _ (by simp; try omega)).trans oc0
  have oz1 := (hB1.block _ (by simp; try omega)).trans oz0
  clear hB1 od0 oc0 oz0 t0
  have d1_0 : w1.cell? ⟨w.heap.size, 0, none⟩ = some (.slice An d.nodes.length nn) := cell_at od1 rfl
  have d1_1 : w1.cell? ⟨w.heap.size, 1, none⟩ = some (.slice Ap d.pods.length np) := cell_at od1 rfl
  have c1_0 : w1.cell? ⟨w.heap.size + 1, 0, none⟩ = some (.int .i64 x.kind) := cell_at oc1 rfl
  have c1_1 : w1.cell? ⟨w.heap.size + 1, 1, none⟩ = some (.int .i64 x.slot) := cell_at oc1 rfl
  have c1_2 : w1.cell? ⟨w.heap.size + 1, 2, none⟩ = some (.int .i64 x.podSlot) := cell_at oc1 rfl
  have c1_9 : w1.cell? ⟨w.heap.size + 1, 9, none⟩ = some (vlb) := cell_at oc1 rfl
  have c1_14 : w1.cell? ⟨w.heap.size + 1, 14, none⟩ = some (vplc) := cell_at oc1 rfl
  have y1_0 : w1.cell? ⟨w.heap.size + 2, 0, none⟩ = some (.slice none 0 0) := cell_at oz1 rfl
  have g1_0 : w1.frozen? ⟨w.heap.size + 2, 0, none⟩ = false := frozen_at oz1
  have y1_1 : w1.cell? ⟨w.heap.size + 2, 1, none⟩ = some (.slice none 0 0) := cell_at oz1 rfl
  have g1_1 : w1.frozen? ⟨w.heap.size + 2, 1, none⟩ = false := frozen_at oz1
  have hl5 : x.now.labels.length ≤ 1073741824 := by have := hs.1.1; omega
  have hl6 : x.pod.labels.length ≤ 1073741824 := by have := hs.2.1; omega
  have hk1 := Hhk1.out
  clear Hhk1
  have hk2 := Hhk2.out
  clear Hhk2
  have hk3 := Hhk3.out
  clear Hhk3
  have hk4 := Hhk4.out
  clear Hhk4
  have q1 : (x.kind == 1) = false := by simpa using hk1
  have q2 : (x.kind == 2) = false := by simpa using hk2
  have q3 : (x.kind == 3) = false := by simpa using hk3
  have q4 : (x.kind == 4) = false := by simpa using hk4
  clear hk1 hk2 hk3 hk4
  have t1d := t1.drew
  have z2d : w.heap.size + 3 ≤ w1.drew.heap.size := z1
  have od2 : w1.drew.heap[w.heap.size]? = _ := od1
  have oz2 : w1.drew.heap[w.heap.size + 2]? = _ := oz1
  have e0 : w1.drew.cell? ⟨w.heap.size, 0, none⟩ = some (.slice An d.nodes.length nn) := cell_at od2 rfl
  have e1 : w1.drew.cell? ⟨w.heap.size, 1, none⟩ = some (.slice Ap d.pods.length np) := cell_at od2 rfl
  have hl8 : SlK rpodK 3 w1.drew (fun k => (ok k ∨ w.heap.size + 3 ≤ k) ∧ k < w1.drew.heap.size) (.slice Ap d.pods.length np) d.pods := SlK.bnd rpodOk (SlK.mono rpodOk ((hdp).below rpodOk t1d hok) (fun k h => .inl h))
  have hn8 : SlK rpodK 3 w1.drew (fun k => (ok k ∨ w.heap.size + 3 ≤ k) ∧ k < w1.drew.heap.size) (.slice none 0 0) [] := SlK.nil
  go_wp2_with fail
  go_region_with (go_at_call 53; refine withPod_k _ _ _ _ _ d.pods [] x.podSlot (fun k h => h.2) hl8 hn8 (by omega) (by simp) ?_; intro v9 w9 hB9 hv9; have p1 := (hB9.cell (p := ⟨w.heap.size, 0, none⟩) (by show w.heap.size < w1.drew.heap.size; omega)).trans e0; have oz9 := (hB9.block (w.heap.size + 2) (by omega)).trans oz2; have p2 := cell_at oz9 (i := 0) rfl; have p3 := cell_at oz9 (i := 1) rfl; have p4 := frozen_at oz9 (i := 0); have p5 := frozen_at oz9 (i := 1); obtain ⟨A9, m9, e9, -, -⟩ := hv9.form; subst e9)
  all_goals (
    have t9 : Below w.heap.size w w9 := t1d.trans (hB9.mono t1d.size)
    have z9 : w.heap.size + 3 ≤ w9.heap.size := Nat.le_trans z2d hB9.size
    have oy : ((w9.setCell ⟨w.heap.size + 2, 0, none⟩ (.slice An d.nodes.length nn)).setCell ⟨w.heap.size + 2, 1, none⟩ (.slice A9 (withPod d.pods x.podSlot []).length m9)).heap[w.heap.size + 2]? = some (.cells #[.slice An d.nodes.length nn, .slice A9 (withPod d.pods x.podSlot []).length m9] 29) := heap_setCell_at (heap_setCell_at oz9)
    have x_0 : ((w9.setCell ⟨w.heap.size + 2, 0, none⟩ (.slice An d.nodes.length nn)).setCell ⟨w.heap.size + 2, 1, none⟩ (.slice A9 (withPod d.pods x.podSlot []).length m9)).cell? ⟨w.heap.size + 2, 0, none⟩ = some (.slice An d.nodes.length nn) := cell_at oy rfl
    have x_1 : ((w9.setCell ⟨w.heap.size + 2, 0, none⟩ (.slice An d.nodes.length nn)).setCell ⟨w.heap.size + 2, 1, none⟩ (.slice A9 (withPod d.pods x.podSlot []).length m9)).cell? ⟨w.heap.size + 2, 1, none⟩ = some (.slice A9 (withPod d.pods x.podSlot []).length m9) := cell_at oy rfl
    have gf : Below w.heap.size w ((w9.setCell ⟨w.heap.size + 2, 0, none⟩ (.slice An d.nodes.length nn)).setCell ⟨w.heap.size + 2, 1, none⟩ (.slice A9 (withPod d.pods x.podSlot []).length m9)) := Below.setCell (Below.setCell t9 (by simp; try omega) _) (by simp; try omega) _
    have hm9 := (hv9.bnd rpodOk).move rpodOk (w' := ((w9.setCell ⟨w.heap.size + 2, 0, none⟩ (.slice An d.nodes.length nn)).setCell ⟨w.heap.size + 2, 1, none⟩ (.slice A9 (withPod d.pods x.podSlot []).length m9))) (fun k h => by
      have hk9 : k ≠ w.heap.size + 2 := by
        rcases h.1 with h1 | h1
        · rcases h1.1 with h2 | h2
          · have := hok k h2; omega
          · omega
        · omega
      rw [Below.heap_setCell _ _ _ _ hk9, Below.heap_setCell _ _ _ _ hk9])
    have hv2 := HR.out _ _ gf ⟨_, _, rfl, SlK.mono rnodeOk (hdn.below rnodeOk gf hok) (fun k h => .inl h), SlK.mono rpodOk hm9 (fun k h => by
      rcases h.1 with h1 | h1
      · exact h1.1.imp id (fun h => by omega)
      · exact .inr (by omega))⟩
    go_wp2_with fail
    refine bodyPost_ret ?_ rfl hv2
    simp [results, Tryz.results11, go_sem, x_0, x_1])
end Go.Proofs.YtmenipaibjifiaaGreatDoor

namespace Go.Proofs.YtmenipaibjifiaaGreatDoor
open Go.RowKit Go.BigFrame

theorem rapply_k (R : Ending → World → Prop) (w : World) (ok : Nat → Prop) (d : RDom) (x : Chg) (cd cs : List Value) (hok : ∀ k, ok k → k < w.heap.size) (hd : rdomK w ok d cd) (hx : chgK w ok x cs) (hs : ChgFit x)
    (hln : d.nodes.length ≤ 1073741823) (hlp : d.pods.length ≤ 1073741823) 
    (hR : ∀ cd' w', Below w.heap.size w w' → rdomK w' (fun k => ok k ∨ w.heap.size ≤ k) (applyR d x).1 cd' → R (.returned (.tuple #[.agg cd'.toArray, .int .i64 (applyR d x).2])) w') :
    Calls Tryz.prog 11 #[.agg cd.toArray, .agg cs.toArray] w R := by
  cases hf : fitsR d x with
  | false => exact rapplyNo_k R w ok d x cd cs hok hd hx hs hln hlp hf hR
  | true =>
    by_cases k1 : x.kind = 1
    · exact rapply1_k R w ok d x cd cs hok hd hx hs hln hlp hf k1 hR
    by_cases k2 : x.kind = 2
    · exact rapply2_k R w ok d x cd cs hok hd hx hs hln hlp hf k2 hR
    by_cases k3 : x.kind = 3
    · exact rapply3_k R w ok d x cd cs hok hd hx hs hln hlp hf k3 hR
    by_cases k4 : x.kind = 4
    · exact rapply4_k R w ok d x cd cs hok hd hx hs hln hlp hf k4 hR
    exact rapply5_k R w ok d x cd cs hok hd hx hs hln hlp hf k1 k2 k3 k4 hR
end Go.Proofs.YtmenipaibjifiaaGreatDoor
