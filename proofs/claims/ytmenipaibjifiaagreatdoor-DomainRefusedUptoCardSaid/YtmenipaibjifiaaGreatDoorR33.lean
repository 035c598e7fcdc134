/-
berthref09.Fits.
berthref09.Apply: refused.
-/
import Derived.Test.YtmenipaibjifiaaGreatDoorR31
import Derived.Test.YtmenipaibjifiaaGreatDoorR32
import Derived.Deep.RegionWith
set_option linter.unusedVariables false
set_option linter.unusedSimpArgs false
namespace Go.Proofs.YtmenipaibjifiaaGreatDoor
open Go.RowKit Go.BigFrame

theorem rdomOk : KOk rdomK 2 where
  len := fun ⟨_, _, h, _⟩ => by rw [h]; rfl
  move := fun ⟨vn, vp, h, h1, h2⟩ hm => ⟨vn, vp, h, h1.move rnodeOk hm, h2.move rpodOk hm⟩
  mono := fun ⟨vn, vp, h, h1, h2⟩ hm => ⟨vn, vp, h, h1.mono rnodeOk hm, h2.mono rpodOk hm⟩
  bnd := fun ⟨vn, vp, h, h1, h2⟩ => ⟨vn, vp, h, h1.bnd rnodeOk, h2.bnd rpodOk⟩
theorem idxBy_cases {α : Type} (p : α → Bool) (l : List α) : idxBy p l = -1 ∨ ∃ k, ∃ hk : k < l.length, idxBy p l = (k : Int) ∧ p (l[k]'hk) = true := by
  cases h : l.findIdx? p with
  | none => left; unfold idxBy; rw [h]
  | some k =>
    obtain ⟨hk, h1, _⟩ := List.findIdx?_eq_some_iff_getElem.1 h
    exact .inr ⟨k, hk, by unfold idxBy; rw [h], h1⟩
def nodeAt (d : RDom) (s : Int) : Int := idxBy (fun x : RNode => decide (x.slot = s)) d.nodes
def podAt (d : RDom) (s : Int) : Int := idxBy (fun x : RPod => decide (x.slot = s)) d.pods
/-- What the tests of Fits say, by their answers. -/
def fitsC (kind : Int) (n : Int) (inside : Bool) (p : Int) (e f : Int) (on : Bool) (mine : Bool) : Bool :=
  if kind = 1 then decide (n < 0) && e == 0
  else if kind = 2 then decide (0 ≤ n) && !on
  else if kind = 3 then decide (0 ≤ n) && e == 0
  else if kind = 4 then decide (0 ≤ n) && inside && decide (p < 0) && f == 0
  else if kind = 5 then inside && decide (0 ≤ p) && mine
  else false
/-- The table of P9.2. -/
def fitsR (d : RDom) (ch : Chg) : Bool :=
  if ch.slot < 0 ∨ 512 ≤ ch.slot then false
  else fitsC ch.kind (nodeAt d ch.slot) (decide (0 ≤ ch.podSlot) && decide (ch.podSlot < 2048)) (podAt d ch.podSlot) (chk ch.now.labels).2 (chk ch.pod.labels).2 (d.pods.any (fun x : RPod => decide (x.on = ch.slot)))
    (match d.pods.findIdx? (fun x : RPod => decide (x.slot = ch.podSlot)) with | some k => (d.pods[k]?.map (fun q => q.on)) == some ch.slot | none => false)
def ChgFit (c : Chg) : Prop := LabsSmall c.now.labels ∧ LabsSmall c.pod.labels

set_option maxRecDepth 100000 in
set_option maxHeartbeats 40000000 in
theorem rfits_k (R : Ending → World → Prop) (w : World) (ok : Nat → Prop) (d : RDom) (x : Chg) (cd cs : List Value) (hok : ∀ k, ok k → k < w.heap.size) (hd : rdomK w ok d cd) (hx : chgK w ok x cs) (hs : ChgFit x)
    (hln : d.nodes.length ≤ 1073741824) (hlp : d.pods.length ≤ 1073741824)
    (hR : ∀ w', Below w.heap.size w w' → R (.returned (.bool (fitsR d x))) w') :
    Calls Tryz.prog 50 #[.agg cd.toArray, .agg cs.toArray] w R := by
  obtain ⟨vla, vta, vca, vlb, vtb, vcb, vplc, vpnc, vptc, vpac, vppc, rfl, hn1, hn2, hp3⟩ := chg_form hx
  have hd0 := hd
  obtain ⟨vn, vp, rfl, hdn, hdp⟩ := hd
  obtain ⟨s1, s2⟩ := hs
  obtain ⟨_, _, _, en, hnl, _, _⟩ := hn2
  obtain ⟨_, _, _, _, _, ep, hpl, _, _, _, _⟩ := hp3
  simp only [List.cons.injEq, and_true, true_and] at en ep
  obtain ⟨rfl, rfl, rfl⟩ := en
  obtain ⟨rfl, rfl, rfl, rfl, rfl⟩ := ep
  have HR := Lib.hid hR
  clear hR hx
  have hB : ∀ o1 o2 : Obj, Below w.heap.size w ((w.alloc o1).alloc o2) := fun o1 o2 => Below.alloc (Below.alloc (Below.refl _ _) (Nat.le_refl _) _) (by simp) _
  have t0 : Below w.heap.size w ((w.alloc (.cells #[vn, vp] 29)).alloc (.cells #[.int .i64 x.kind, .int .i64 x.slot, .int .i64 x.podSlot, .string x.was.name, vla, vta, vca, .bool x.was.cord, .string x.now.name, vlb, vtb, vcb, .bool x.now.cord, .string x.pod.name, vplc, vpnc, vptc, .string x.pod.req, vpac, vppc, .int .i64 x.pod.prio] 42)) := hB _ _
  clear hB
  have od0 : ((w.alloc (.cells #[vn, vp] 29)).alloc (.cells #[.int .i64 x.kind, .int .i64 x.slot, .int .i64 x.podSlot, .string x.was.name, vla, vta, vca, .bool x.was.cord, .string x.now.name, vlb, vtb, vcb, .bool x.now.cord, .string x.pod.name, vplc, vpnc, vptc, .string x.pod.req, vpac, vppc, .int .i64 x.pod.prio] 42)).heap[w.heap.size]? = some (.cells #[vn, vp] 29) := (Below.heap_alloc _ _ _ (by simp)).trans (heap_alloc_new w _)
  have oc0 : ((w.alloc (.cells #[vn, vp] 29)).alloc (.cells #[.int .i64 x.kind, .int .i64 x.slot, .int .i64 x.podSlot, .string x.was.name, vla, vta, vca, .bool x.was.cord, .string x.now.name, vlb, vtb, vcb, .bool x.now.cord, .string x.pod.name, vplc, vpnc, vptc, .string x.pod.req, vpac, vppc, .int .i64 x.pod.prio] 42)).heap[w.heap.size + 1]? = some (.cells #[.int .i64 x.kind, .int .i64 x.slot, .int .i64 x.podSlot, .string x.was.name, vla, vta, vca, .bool x.was.cord, .string x.now.name, vlb, vtb, vcb, .bool x.now.cord, .string x.pod.name, vplc, vpnc, vptc, .string x.pod.req, vpac, vppc, .int .i64 x.pod.prio] 42) := by simpa using heap_alloc_new (w.alloc (.cells #[vn, vp] 29)) (.cells #[.int .i64 x.kind, .int .i64 x.slot, .int .i64 x.podSlot, .string x.was.name, vla, vta, vca, .bool x.was.cord, .string x.now.name, vlb, vtb, vcb, .bool x.now.cord, .string x.pod.name, vplc, vpnc, vptc, .string x.pod.req, vpac, vppc, .int .i64 x.pod.prio] 42)
  have d0_0 : ((w.alloc (.cells #[vn, vp] 29)).alloc (.cells #[.int .i64 x.kind, .int .i64 x.slot, .int .i64 x.podSlot, .string x.was.name, vla, vta, vca, .bool x.was.cord, .string x.now.name, vlb, vtb, vcb, .bool x.now.cord, .string x.pod.name, vplc, vpnc, vptc, .string x.pod.req, vpac, vppc, .int .i64 x.pod.prio] 42)).cell? ⟨w.heap.size, 0, none⟩ = some (vn) := cell_at od0 rfl
  have d0_1 : ((w.alloc (.cells #[vn, vp] 29)).alloc (.cells #[.int .i64 x.kind, .int .i64 x.slot, .int .i64 x.podSlot, .string x.was.name, vla, vta, vca, .bool x.was.cord, .string x.now.name, vlb, vtb, vcb, .bool x.now.cord, .string x.pod.name, vplc, vpnc, vptc, .string x.pod.req, vpac, vppc, .int .i64 x.pod.prio] 42)).cell? ⟨w.heap.size, 1, none⟩ = some (vp) := cell_at od0 rfl
  have c0_0 : ((w.alloc (.cells #[vn, vp] 29)).alloc (.cells #[.int .i64 x.kind, .int .i64 x.slot, .int .i64 x.podSlot, .string x.was.name, vla, vta, vca, .bool x.was.cord, .string x.now.name, vlb, vtb, vcb, .bool x.now.cord, .string x.pod.name, vplc, vpnc, vptc, .string x.pod.req, vpac, vppc, .int .i64 x.pod.prio] 42)).cell? ⟨w.heap.size + 1, 0, none⟩ = some (.int .i64 x.kind) := cell_at oc0 rfl
  have c0_1 : ((w.alloc (.cells #[vn, vp] 29)).alloc (.cells #[.int .i64 x.kind, .int .i64 x.slot, .int .i64 x.podSlot, .string x.was.name, vla, vta, vca, .bool x.was.cord, .string x.now.name, vlb, vtb, vcb, .bool x.now.cord, .string x.pod.name, vplc, vpnc, vptc, .string x.pod.req, vpac, vppc, .int .i64 x.pod.prio] 42)).cell? ⟨w.heap.size + 1, 1, none⟩ = some (.int .i64 x.slot) := cell_at oc0 rfl
  have c0_2 : ((w.alloc (.cells #[vn, vp] 29)).alloc (.cells #[.int .i64 x.kind, .int .i64 x.slot, .int .i64 x.podSlot, .string x.was.name, vla, vta, vca, .bool x.was.cord, .string x.now.name, vlb, vtb, vcb, .bool x.now.cord, .string x.pod.name, vplc, vpnc, vptc, .string x.pod.req, vpac, vppc, .int .i64 x.pod.prio] 42)).cell? ⟨w.heap.size + 1, 2, none⟩ = some (.int .i64 x.podSlot) := cell_at oc0 rfl
  have c0_9 : ((w.alloc (.cells #[vn, vp] 29)).alloc (.cells #[.int .i64 x.kind, .int .i64 x.slot, .int .i64 x.podSlot, .string x.was.name, vla, vta, vca, .bool x.was.cord, .string x.now.name, vlb, vtb, vcb, .bool x.now.cord, .string x.pod.name, vplc, vpnc, vptc, .string x.pod.req, vpac, vppc, .int .i64 x.pod.prio] 42)).cell? ⟨w.heap.size + 1, 9, none⟩ = some (vlb) := cell_at oc0 rfl
  have c0_14 : ((w.alloc (.cells #[vn, vp] 29)).alloc (.cells #[.int .i64 x.kind, .int .i64 x.slot, .int .i64 x.podSlot, .string x.was.name, vla, vta, vca, .bool x.was.cord, .string x.now.name, vlb, vtb, vcb, .bool x.now.cord, .string x.pod.name, vplc, vpnc, vptc, .string x.pod.req, vpac, vppc, .int .i64 x.pod.prio] 42)).cell? ⟨w.heap.size + 1, 14, none⟩ = some (vplc) := cell_at oc0 rfl
  by_cases hsl : x.slot < 0 ∨ 512 ≤ x.slot
  · have hv2 := HR.out _ t0
    rw [show fitsR d x = false by unfold fitsR; rw [if_pos hsl]] at hv2
    go_enter Tryz.func50, Tryz.ntmps50
    rcases Int.lt_or_le x.slot 0 with h0 | h0
    · have h1 : decide (x.slot < 0) = true := by simpa using h0
      go_wp2_with fail
      exact hv2
    · have h1 : decide (x.slot < 0) = false := by simpa using h0
      have h2 : decide (512 ≤ x.slot) = true := by simp; omega
      go_wp2_with fail
      exact hv2
  have h1 : decide (x.slot < 0) = false := by simp; omega
  have h2 : decide (512 ≤ x.slot) = false := by simp; omega
  have HE : Hid (fitsR d x = fitsC x.kind (nodeAt d x.slot) (decide (0 ≤ x.podSlot) && decide (x.podSlot < 2048)) (podAt d x.podSlot) (chk x.now.labels).2 (chk x.pod.labels).2 (d.pods.any (fun y : RPod => decide (y.on = x.slot))) (match d.pods.findIdx? (fun y : RPod => decide (y.slot = x.podSlot)) with | some k => (d.pods[k]?.map (fun q => q.on)) == some x.slot | none => false)) := by
    show _ = _
    unfold fitsR
    rw [if_neg hsl]
  clear hsl
  rw [HE.out] at HR
  clear HE
  generalize hN : nodeAt d x.slot = n at HR
  have HN : Hid (idxBy (fun y : RNode => decide (y.slot = x.slot)) d.nodes = n) := hN
  clear hN
  generalize hE : (chk x.now.labels).2 = e at HR
  have HE2 := Lib.hid hE
  clear hE
  generalize hF : (chk x.pod.labels).2 = f at HR
  have HF := Lib.hid hF
  clear hF
  generalize hO : d.pods.any (fun y : RPod => decide (y.on = x.slot)) = on at HR
  have HO := Lib.hid hO
  clear hO
  have hP : ∃ p mine, podAt d x.podSlot = p ∧ (match d.pods.findIdx? (fun y : RPod => decide (y.slot = x.podSlot)) with | some k => (d.pods[k]?.map (fun q => q.on)) == some x.slot | none => false) = mine ∧
      (p = -1 ∨ ∃ k, ∃ hk : k < d.pods.length, p = (k : Int) ∧ mine = ((d.pods[k]'hk).on == x.slot)) := by
    refine ⟨_, _, rfl, rfl, ?_⟩
    unfold podAt idxBy
    cases hi : d.pods.findIdx? (fun y : RPod => decide (y.slot = x.podSlot)) with
    | none => exact .inl rfl
    | some k =>
      obtain ⟨hk, _, _⟩ := List.findIdx?_eq_some_iff_getElem.1 hi
      refine .inr ⟨k, hk, rfl, ?_⟩
      simp [List.getElem?_eq_getElem hk]
  obtain ⟨p, mine, hp1, hp2, hpc⟩ := hP
  rw [hp1, hp2] at HR
  have HP : Hid (idxBy (fun y : RPod => decide (y.slot = x.podSlot)) d.pods = p) := hp1
  clear hp1 hp2
  cases h3 : decide (0 ≤ x.podSlot) <;> cases h4 : decide (x.podSlot < 2048) <;> (
  simp only [h3, h4, Bool.and_true, Bool.and_false, Bool.true_and, Bool.false_and] at HR
  go_enter Tryz.func50, Tryz.ntmps50
  go_wp2_with fail
  refine rnode_k _ _ ok d x.slot [vn, vp] (fun j h => Nat.lt_of_lt_of_le (hok j h) t0.size) (rdomOk.below hd0 t0 hok) hln ?_
  intro w1 hB1
  rw [HN.out]
  have z1 : w.heap.size + 2 ≤ w1.heap.size := by have := hB1.size; simp at this; omega
  have t1 : Below w.heap.size w w1 := t0.trans (hB1.mono (by simp; try omega))
  have od1 := (hB1.block _ (by simp; try omega)).trans od0
  have oc1 := (hB1.block _ (by simp; try omega)).trans oc0
  clear hB1 od0 oc0 t0 d0_0 d0_1 c0_0 c0_1 c0_2 c0_9 c0_14
  have d1_0 : w1.cell? ⟨w.heap.size, 0, none⟩ = some (vn) := cell_at od1 rfl
  have d1_1 : w1.cell? ⟨w.heap.size, 1, none⟩ = some (vp) := cell_at od1 rfl
  have c1_0 : w1.cell? ⟨w.heap.size + 1, 0, none⟩ = some (.int .i64 x.kind) := cell_at oc1 rfl
  have c1_1 : w1.cell? ⟨w.heap.size + 1, 1, none⟩ = some (.int .i64 x.slot) := cell_at oc1 rfl
  have c1_2 : w1.cell? ⟨w.heap.size + 1, 2, none⟩ = some (.int .i64 x.podSlot) := cell_at oc1 rfl
  have c1_9 : w1.cell? ⟨w.heap.size + 1, 9, none⟩ = some (vlb) := cell_at oc1 rfl
  have c1_14 : w1.cell? ⟨w.heap.size + 1, 14, none⟩ = some (vplc) := cell_at oc1 rfl
  go_wp2_with fail
  refine rpod_k _ _ ok d x.podSlot [vn, vp] (fun j h => Nat.lt_of_lt_of_le (hok j h) t1.size) (rdomOk.below hd0 t1 hok) hlp ?_
  intro w2 hB2
  rw [HP.out]
  have z2 : w.heap.size + 2 ≤ w2.heap.size := by have := hB2.size; omega
  have t2 : Below w.heap.size w w2 := t1.trans (hB2.mono (by omega))
  have od2 := (hB2.block _ (by omega)).trans od1
  have oc2 := (hB2.block _ (by omega)).trans oc1
  clear hB2 od1 oc1 t1 d1_0 d1_1 c1_0 c1_1 c1_2 c1_9 c1_14
  have d2_0 : w2.cell? ⟨w.heap.size, 0, none⟩ = some (vn) := cell_at od2 rfl
  have d2_1 : w2.cell? ⟨w.heap.size, 1, none⟩ = some (vp) := cell_at od2 rfl
  have c2_0 : w2.cell? ⟨w.heap.size + 1, 0, none⟩ = some (.int .i64 x.kind) := cell_at oc2 rfl
  have c2_1 : w2.cell? ⟨w.heap.size + 1, 1, none⟩ = some (.int .i64 x.slot) := cell_at oc2 rfl
  have c2_2 : w2.cell? ⟨w.heap.size + 1, 2, none⟩ = some (.int .i64 x.podSlot) := cell_at oc2 rfl
  have c2_9 : w2.cell? ⟨w.heap.size + 1, 9, none⟩ = some (vlb) := cell_at oc2 rfl
  have c2_14 : w2.cell? ⟨w.heap.size + 1, 14, none⟩ = some (vplc) := cell_at oc2 rfl
  go_wp2_with fail
  refine rcheck_k _ _ ok _ x.now.labels (fun j h => Nat.lt_of_lt_of_le (hok j h) t2.size) (hnl.below labOk t2 hok) s1 ?_
  intro w3 hB3
  rw [HE2.out]
  have z3 : w.heap.size + 2 ≤ w3.heap.size := by have := hB3.size; omega
  have t3 : Below w.heap.size w w3 := t2.trans (hB3.mono (by omega))
  have od3 := (hB3.block _ (by omega)).trans od2
  have oc3 := (hB3.block _ (by omega)).trans oc2
  clear hB3 od2 oc2 t2 d2_0 d2_1 c2_0 c2_1 c2_2 c2_9 c2_14
  have d3_0 : w3.cell? ⟨w.heap.size, 0, none⟩ = some (vn) := cell_at od3 rfl
  have d3_1 : w3.cell? ⟨w.heap.size, 1, none⟩ = some (vp) := cell_at od3 rfl
  have c3_0 : w3.cell? ⟨w.heap.size + 1, 0, none⟩ = some (.int .i64 x.kind) := cell_at oc3 rfl
  have c3_1 : w3.cell? ⟨w.heap.size + 1, 1, none⟩ = some (.int .i64 x.slot) := cell_at oc3 rfl
  have c3_2 : w3.cell? ⟨w.heap.size + 1, 2, none⟩ = some (.int .i64 x.podSlot) := cell_at oc3 rfl
  have c3_9 : w3.cell? ⟨w.heap.size + 1, 9, none⟩ = some (vlb) := cell_at oc3 rfl
  have c3_14 : w3.cell? ⟨w.heap.size + 1, 14, none⟩ = some (vplc) := cell_at oc3 rfl
  go_wp2_with fail
  refine rcheck_k _ _ ok _ x.pod.labels (fun j h => Nat.lt_of_lt_of_le (hok j h) t3.size) (hpl.below labOk t3 hok) s2 ?_
  intro w4 hB4
  rw [HF.out]
  have z4 : w.heap.size + 2 ≤ w4.heap.size := by have := hB4.size; omega
  have t4 : Below w.heap.size w w4 := t3.trans (hB4.mono (by omega))
  have od4 := (hB4.block _ (by omega)).trans od3
  have oc4 := (hB4.block _ (by omega)).trans oc3
  clear hB4 od3 oc3 t3 d3_0 d3_1 c3_0 c3_1 c3_2 c3_9 c3_14
  have d4_0 : w4.cell? ⟨w.heap.size, 0, none⟩ = some (vn) := cell_at od4 rfl
  have d4_1 : w4.cell? ⟨w.heap.size, 1, none⟩ = some (vp) := cell_at od4 rfl
  have c4_0 : w4.cell? ⟨w.heap.size + 1, 0, none⟩ = some (.int .i64 x.kind) := cell_at oc4 rfl
  have c4_1 : w4.cell? ⟨w.heap.size + 1, 1, none⟩ = some (.int .i64 x.slot) := cell_at oc4 rfl
  have c4_2 : w4.cell? ⟨w.heap.size + 1, 2, none⟩ = some (.int .i64 x.podSlot) := cell_at oc4 rfl
  have c4_9 : w4.cell? ⟨w.heap.size + 1, 9, none⟩ = some (vlb) := cell_at oc4 rfl
  have c4_14 : w4.cell? ⟨w.heap.size + 1, 14, none⟩ = some (vplc) := cell_at oc4 rfl
  go_wp2_with fail
  refine rstands_k _ _ ok d x.slot [vn, vp] (fun j h => Nat.lt_of_lt_of_le (hok j h) t4.size) (rdomOk.below hd0 t4 hok) hlp ?_
  intro w5 hB5
  rw [HO.out]
  have z5 : w.heap.size + 2 ≤ w5.heap.size := by have := hB5.size; omega
  have t5 : Below w.heap.size w w5 := t4.trans (hB5.mono (by omega))
  have od5 := (hB5.block _ (by omega)).trans od4
  have oc5 := (hB5.block _ (by omega)).trans oc4
  clear hB5 od4 oc4 t4 d4_0 d4_1 c4_0 c4_1 c4_2 c4_9 c4_14
  have d5_0 : w5.cell? ⟨w.heap.size, 0, none⟩ = some (vn) := cell_at od5 rfl
  have d5_1 : w5.cell? ⟨w.heap.size, 1, none⟩ = some (vp) := cell_at od5 rfl
  have c5_0 : w5.cell? ⟨w.heap.size + 1, 0, none⟩ = some (.int .i64 x.kind) := cell_at oc5 rfl
  have c5_1 : w5.cell? ⟨w.heap.size + 1, 1, none⟩ = some (.int .i64 x.slot) := cell_at oc5 rfl
  have c5_2 : w5.cell? ⟨w.heap.size + 1, 2, none⟩ = some (.int .i64 x.podSlot) := cell_at oc5 rfl
  have c5_9 : w5.cell? ⟨w.heap.size + 1, 9, none⟩ = some (vlb) := cell_at oc5 rfl
  have c5_14 : w5.cell? ⟨w.heap.size + 1, 14, none⟩ = some (vplc) := cell_at oc5 rfl
  have hv2 := HR.out _ t5
  by_cases k1 : x.kind = 1
  · rw [k1] at c5_0 hv2
    cases hn : decide (n < 0) <;> cases he : (e == 0) <;> (
      go_wp2_with fail
      exact ret_bool hv2 (by simp [fitsC, hn, he]))
  by_cases k2 : x.kind = 2
  · rw [k2] at c5_0 hv2
    cases hn : decide (0 ≤ n) <;> cases ho : on <;> (
      go_wp2_with fail
      exact ret_bool hv2 (by simp [fitsC, hn, ho]))
  by_cases k3 : x.kind = 3
  · rw [k3] at c5_0 hv2
    cases hn : decide (0 ≤ n) <;> cases he : (e == 0) <;> (
      go_wp2_with fail
      exact ret_bool hv2 (by simp [fitsC, hn, he]))
  by_cases k4 : x.kind = 4
  · rw [k4] at c5_0 hv2
    cases hn : decide (0 ≤ n) <;> cases hp : decide (p < 0) <;> cases hf : (f == 0) <;> (
      go_wp2_with fail
      exact ret_bool hv2 (by simp [fitsC, hn, hp, hf]))
  by_cases k5 : x.kind = 5
  · rw [k5] at c5_0 HR
    clear hv2
    have hx5 := hdp.below rpodOk t5 hok
    rcases hpc with rfl | ⟨k, hkl, rfl, rfl⟩
    · go_wp2_with fail
      go_region
      go_wp2_with fail
      exact ret_bool (HR.out _ (by first | exact t5.drew | exact t5)) (by simp [fitsC])
    · obtain ⟨b, off, c', he, _, _, hbk, hbl, hce⟩ := hx5.addr (by omega)
      subst he
      obtain ⟨v1, e0, e1, e2, hv1⟩ := rpod_cells hce k hkl
      clear hce
      go_wp2_with fail
      go_region
      go_wp2_with fail
      exact ret_bool (HR.out _ (by first | exact t5.drew | exact t5)) (by simp [fitsC])
  have q1 : (x.kind == 1) = false := by simpa using k1
  have q2 : (x.kind == 2) = false := by simpa using k2
  have q3 : (x.kind == 3) = false := by simpa using k3
  have q4 : (x.kind == 4) = false := by simpa using k4
  have q5 : (x.kind == 5) = false := by simpa using k5
  rw [show ∀ i m, fitsC x.kind n i p e f on m = false from fun i m => by simp [fitsC, k1, k2, k3, k4, k5]] at hv2
  clear k1 k2 k3 k4 k5
  go_wp2_with fail
  exact hv2)
end Go.Proofs.YtmenipaibjifiaaGreatDoor

namespace Go.Proofs.YtmenipaibjifiaaGreatDoor
open Go.RowKit Go.BigFrame

theorem below_of_drew {w w' : World} (h : Below w.drew.heap.size w.drew w') : Below w.heap.size w w' := ⟨h.os, h.tape, h.output, h.size, h.block⟩
def applyR (d : RDom) (x : Chg) : RDom × Int :=
  if fitsR d x = false then (d, 90)
  else if x.kind = 1 ∨ x.kind = 3 then (⟨withNode d.nodes x.slot [⟨x.slot, x.now.labels⟩], d.pods⟩, 0)
  else if x.kind = 2 then (⟨withNode d.nodes x.slot [], d.pods⟩, 0)
  else if x.kind = 4 then (⟨d.nodes, withPod d.pods x.podSlot [⟨x.podSlot, x.slot, x.pod.labels⟩]⟩, 0)
  else (⟨d.nodes, withPod d.pods x.podSlot []⟩, 0)
theorem SlK.single {α : Type} {K : KRel α} {sz : Nat} {w : World} {ok : Nat → Prop} {x : α} {cs : List Value} {b : Nat} {T : TypeId} {fz : Nat × Nat} (H : KOk K sz) (h : K w ok x cs) (hb : ok b) (ho : w.heap[b]? = some (.cells cs.toArray T fz)) : SlK K sz w ok (.slice (some ⟨b, 0, none⟩) 1 1) [x] := by
  refine ⟨_, 1, rfl, Nat.le_refl _, by simp [maxLen], .inr ⟨b, 0, rfl, hb, (Array.getElem?_eq_some_iff.1 ho).1, fun j y hy => ?_⟩⟩
  cases j with
  | succ j => simp at hy
  | zero =>
    simp at hy
    subst hy
    exact ⟨cs, h, H.len h, fun i u hu => cell_at ho (by simpa using hu)⟩

set_option maxRecDepth 100000 in
set_option maxHeartbeats 40000000 in
theorem rapplyNo_k (R : Ending → World → Prop) (w : World) (ok : Nat → Prop) (d : RDom) (x : Chg) (cd cs : List Value) (hok : ∀ k, ok k → k < w.heap.size) (hd : rdomK w ok d cd) (hx : chgK w ok x cs) (hs : ChgFit x)
    (hln : d.nodes.length ≤ 1073741823) (hlp : d.pods.length ≤ 1073741823) (hf : fitsR d x = false)
    (hR : ∀ cd' w', Below w.heap.size w w' → rdomK w' (fun k => ok k ∨ w.heap.size ≤ k) (applyR d x).1 cd' → R (.returned (.tuple #[.agg cd'.toArray, .int .i64 (applyR d x).2])) w') :
    Calls Tryz.prog 11 #[.agg cd.toArray, .agg cs.toArray] w R := by
  have hx0 := hx
  obtain ⟨vla, vta, vca, vlb, vtb, vcb, vplc, vpnc, vptc, vpac, vppc, rfl, hn1, hn2, hp3⟩ := chg_form hx
  have hd0 := hd
  obtain ⟨vn, vp, rfl, hdn, hdp⟩ := hd
  obtain ⟨An, nn, rfl, _, _⟩ := hdn.form
  obtain ⟨Ap, np, rfl, _, _⟩ := hdp.form
  obtain ⟨_, _, _, en, hnl, _, _⟩ := hn2
  obtain ⟨_, _, _, _, _, ep, hpl, _, _, _, _⟩ := hp3
  simp only [List.cons.injEq, and_true, true_and] at en ep
  obtain ⟨rfl, rfl, rfl⟩ := en
  obtain ⟨rfl, rfl, rfl, rfl, rfl⟩ := ep
  have HR := Lib.hid hR
  clear hR hx
  have hB : ∀ o1 o2 o3 : Obj, Below w.heap.size w (((w.alloc o1).alloc o2).alloc o3) := fun o1 o2 o3 => Below.alloc (Below.alloc (Below.alloc (Below.refl _ _) (Nat.le_refl _) _) (by simp) _) (by simp; omega) _
  have t0 : Below w.heap.size w (((w.alloc (.cells #[.slice An d.nodes.length nn, .slice Ap d.pods.length np] 29)).alloc (.cells #[.int .i64 x.kind, .int .i64 x.slot, .int .i64 x.podSlot, .string x.was.name, vla, vta, vca, .bool x.was.cord, .string x.now.name, vlb, vtb, vcb, .bool x.now.cord, .string x.pod.name, vplc, vpnc, vptc, .string x.pod.req, vpac, vppc, .int .i64 x.pod.prio] 42)).alloc (.cells #[.slice none 0 0, .slice none 0 0] 29)) := hB _ _ _
  clear hB
  have od0 : (((w.alloc (.cells #[.slice An d.nodes.length nn, .slice Ap d.pods.length np] 29)).alloc (.cells #[.int .i64 x.kind, .int .i64 x.slot, .int .i64 x.podSlot, .string x.was.name, vla, vta, vca, .bool x.was.cord, .string x.now.name, vlb, vtb, vcb, .bool x.now.cord, .string x.pod.name, vplc, vpnc, vptc, .string x.pod.req, vpac, vppc, .int .i64 x.pod.prio] 42)).alloc (.cells #[.slice none 0 0, .slice none 0 0] 29)).heap[w.heap.size]? = some (.cells #[.slice An d.nodes.length nn, .slice Ap d.pods.length np] 29) := (Below.heap_alloc _ _ _ (by simp; omega)).trans ((Below.heap_alloc _ _ _ (by simp)).trans (heap_alloc_new w _))
  have oc0 : (((w.alloc (.cells #[.slice An d.nodes.length nn, .slice Ap d.pods.length np] 29)).alloc (.cells #[.int .i64 x.kind, .int .i64 x.slot, .int .i64 x.podSlot, .string x.was.name, vla, vta, vca, .bool x.was.cord, .string x.now.name, vlb, vtb, vcb, .bool x.now.cord, .string x.pod.name, vplc, vpnc, vptc, .string x.pod.req, vpac, vppc, .int .i64 x.pod.prio] 42)).alloc (.cells #[.slice none 0 0, .slice none 0 0] 29)).heap[w.heap.size + 1]? = some (.cells #[.int .i64 x.kind, .int .i64 x.slot, .int .i64 x.podSlot, .string x.was.name, vla, vta, vca, .bool x.was.cord, .string x.now.name, vlb, vtb, vcb, .bool x.now.cord, .string x.pod.name, vplc, vpnc, vptc, .string x.pod.req, vpac, vppc, .int .i64 x.pod.prio] 42) := (Below.heap_alloc _ _ _ (by simp)).trans (by simpa using heap_alloc_new (w.alloc (.cells #[.slice An d.nodes.length nn, .slice Ap d.pods.length np] 29)) (.cells #[.int .i64 x.kind, .int .i64 x.slot, .int .i64 x.podSlot, .string x.was.name, vla, vta, vca, .bool x.was.cord, .string x.now.name, vlb, vtb, vcb, .bool x.now.cord, .string x.pod.name, vplc, vpnc, vptc, .string x.pod.req, vpac, vppc, .int .i64 x.pod.prio] 42))
  have oz0 : (((w.alloc (.cells #[.slice An d.nodes.length nn, .slice Ap d.pods.length np] 29)).alloc (.cells #[.int .i64 x.kind, .int .i64 x.slot, .int .i64 x.podSlot, .string x.was.name, vla, vta, vca, .bool x.was.cord, .string x.now.name, vlb, vtb, vcb, .bool x.now.cord, .string x.pod.name, vplc, vpnc, vptc, .string x.pod.req, vpac, vppc, .int .i64 x.pod.prio] 42)).alloc (.cells #[.slice none 0 0, .slice none 0 0] 29)).heap[w.heap.size + 2]? = some (.cells #[.slice none 0 0, .slice none 0 0] 29) := by simpa using heap_alloc_new ((w.alloc (.cells #[.slice An d.nodes.length nn, .slice Ap d.pods.length np] 29)).alloc (.cells #[.int .i64 x.kind, .int .i64 x.slot, .int .i64 x.podSlot, .string x.was.name, vla, vta, vca, .bool x.was.cord, .string x.now.name, vlb, vtb, vcb, .bool x.now.cord, .string x.pod.name, vplc, vpnc, vptc, .string x.pod.req, vpac, vppc, .int .i64 x.pod.prio] 42)) (.cells #[.slice none 0 0, .slice none 0 0] 29)
  have hv : applyR d x = (d, 90) := by
    unfold applyR
    rw [if_pos hf]
  rw [hv] at HR
  clear hv
  have HF := Lib.hid hf
  clear hf
  go_enter Tryz.func11, Tryz.ntmps11
  go_wp2_with (first | refine wpList_load_row rfl 42 _ rfl (w.heap.size + 1) rfl 42 #[.int .i64 x.kind, .int .i64 x.slot, .int .i64 x.podSlot, .string x.was.name, vla, vta, vca, .bool x.was.cord, .string x.now.name, vlb, vtb, vcb, .bool x.now.cord, .string x.pod.name, vplc, vpnc, vptc, .string x.pod.req, vpac, vppc, .int .i64 x.pod.prio] (0, 0) _ oc0 Tryz.underlying42 rfl (by kernel_rfl) ?_)
  refine rfits_k _ _ ok d x [.slice An d.nodes.length nn, .slice Ap d.pods.length np] [.int .i64 x.kind, .int .i64 x.slot, .int .i64 x.podSlot, .string x.was.name, vla, vta, vca, .bool x.was.cord, .string x.now.name, vlb, vtb, vcb, .bool x.now.cord, .string x.pod.name, vplc, vpnc, vptc, .string x.pod.req, vpac, vppc, .int .i64 x.pod.prio] (fun j h => Nat.lt_of_lt_of_le (hok j h) t0.size) (rdomOk.below hd0 t0 hok) (chgOk.below hx0 t0 hok) hs (by omega) (by omega) ?_
  intro w1 hB1
  rw [HF.out]
  have z1 : w.heap.size + 3 ≤ w1.heap.size := by have := hB1.size; simp at this; omega
  have t1 : Below w.heap.size w w1 := t0.trans (hB1.mono (by simp; try omega))
  have od1 := (hB1.block _ (by simp; try omega)).trans od0
  have oc1 := (hB1.block _ (by simp; try omega)).trans oc0
  have oz1 := (hB1.block _ (by simp; try omega)).trans oz0
  clear hB1 od0 oc0 oz0 t0
  have d1_0 : w1.cell? ⟨w.heap.size, 0, none⟩ = some (.slice An d.nodes.length nn) := cell_at od1 rfl
  have d1_1 : w1.cell? ⟨w.heap.size, 1, none⟩ = some (.slice Ap d.pods.length np) := cell_at od1 rfl
  have c1_0 : w1.cell? ⟨w.heap.size + 1, 0, none⟩ = some (.int .i64 x.kind) := cell_at oc1 rfl
  have c1_1 : w1.cell? ⟨w.heap.size + 1, 1, none⟩ = some (.int .i64 x.slot) := cell_at oc1 rfl
  have c1_2 : w1.cell? ⟨w.heap.size + 1, 2, none⟩ = some (.int .i64 x.podSlot) := cell_at oc1 rfl
  have c1_9 : w1.cell? ⟨w.heap.size + 1, 9, none⟩ = some (vlb) := cell_at oc1 rfl
  have c1_14 : w1.cell? ⟨w.heap.size + 1, 14, none⟩ = some (vplc) := cell_at oc1 rfl
  have y1_0 : w1.cell? ⟨w.heap.size + 2, 0, none⟩ = some (.slice none 0 0) := cell_at oz1 rfl
  have g1_0 : w1.frozen? ⟨w.heap.size + 2, 0, none⟩ = false := frozen_at oz1
  have y1_1 : w1.cell? ⟨w.heap.size + 2, 1, none⟩ = some (.slice none 0 0) := cell_at oz1 rfl
  have g1_1 : w1.frozen? ⟨w.heap.size + 2, 1, none⟩ = false := frozen_at oz1
  have hl5 : x.now.labels.length ≤ 1073741824 := by have := hs.1.1; omega
  have hl6 : x.pod.labels.length ≤ 1073741824 := by have := hs.2.1; omega
  have oy : ((w1.setCell ⟨w.heap.size + 2, 0, none⟩ (.slice An d.nodes.length nn)).setCell ⟨w.heap.size + 2, 1, none⟩ (.slice Ap d.pods.length np)).heap[w.heap.size + 2]? = some (.cells #[.slice An d.nodes.length nn, .slice Ap d.pods.length np] 29) := heap_setCell_at (heap_setCell_at oz1)
  have x_0 : ((w1.setCell ⟨w.heap.size + 2, 0, none⟩ (.slice An d.nodes.length nn)).setCell ⟨w.heap.size + 2, 1, none⟩ (.slice Ap d.pods.length np)).cell? ⟨w.heap.size + 2, 0, none⟩ = some (.slice An d.nodes.length nn) := cell_at oy rfl
  have x_1 : ((w1.setCell ⟨w.heap.size + 2, 0, none⟩ (.slice An d.nodes.length nn)).setCell ⟨w.heap.size + 2, 1, none⟩ (.slice Ap d.pods.length np)).cell? ⟨w.heap.size + 2, 1, none⟩ = some (.slice Ap d.pods.length np) := cell_at oy rfl
  have gf : Below w.heap.size w ((w1.setCell ⟨w.heap.size + 2, 0, none⟩ (.slice An d.nodes.length nn)).setCell ⟨w.heap.size + 2, 1, none⟩ (.slice Ap d.pods.length np)) := Below.setCell (Below.setCell t1 (by simp; try omega) _) (by simp; try omega) _
  have hv2 := HR.out _ _ gf (rdomOk.mono (rdomOk.below hd0 gf hok) (fun j h => .inl h))
  go_wp2_with fail
  refine bodyPost_ret ?_ rfl hv2
  simp [results, Tryz.results11, go_sem, x_0, x_1]
end Go.Proofs.YtmenipaibjifiaaGreatDoor
