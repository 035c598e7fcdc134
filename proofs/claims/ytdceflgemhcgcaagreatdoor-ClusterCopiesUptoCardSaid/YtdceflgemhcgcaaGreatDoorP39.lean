/-
  Cluster.Bind: a pod that is let in (its node's first), a pod for which there is no room.
-/
import Derived.Test.YtdceflgemhcgcaaGreatDoorP38
set_option linter.unusedVariables false
set_option linter.unusedSimpArgs false
namespace Go.Proofs.YtdceflgemhcgcaaGreatDoor
open Go.RowKit Go.BigFrame

def bindS (S : CSt) (node : ByteArray) (q : Pd) : CSt := enterS { S with bound := putT S.bound q.name (q, node) } node q
def bindC (S : CSt) (s : Nat) (n : Nod) (q : Pd) : Chg := ⟨4, (s : Int), (freeT S.bound : Int), n, n, q⟩
def chgZ : List Value := [.int .i64 0, .int .i64 0, .int .i64 0, .string ⟨#[]⟩, .slice none 0 0, .slice none 0 0, .slice none 0 0, .bool false, .string ⟨#[]⟩, .slice none 0 0, .slice none 0 0, .slice none 0 0, .bool false, .string ⟨#[]⟩, .slice none 0 0, .slice none 0 0, .slice none 0 0, .string ⟨#[]⟩, .slice none 0 0, .slice none 0 0, .int .i64 0]
set_option maxRecDepth 100000 in
set_option maxHeartbeats 16000000 in
theorem bindShort_k (R : Ending → World → Prop) (w : World) (h : CHdr) (own : COwn) (S : CSt) (hG : GOk w) (hc : CluAt w h own S) (ok : Nat → Prop) (hok : ∀ k, ok k → k < w.heap.size) (x : Pd) (cs : List Value) (hx : pdK w ok x cs) (fit : PdFit x) (q : Pd) (hq : chkPod x = (q, flt0)) (node : ByteArray) (s : Nat) (r : SRow Nod) (ht : There S node s r)
    (n1 : 1 ≤ q.name.size) (n2 : q.name.size ≤ 63) (hfb : aget S.bound.find q.name = none) (hlb : S.bound.find.length < 2048) (gq : GoodI q.needs) (gc : GoodI r.thing.cap) (gs : GoodI ((S.sums node).getD [])) (bad : ByteArray) (hsh : shortI q.needs r.thing.cap ((S.sums node).getD []) = (bad, 29))
    (hR : ∀ v w', Below w.heap.size w w' → ErrIs w' v (refuseF 68 bad) → R (.returned (.tuple #[.agg chgZ.toArray, v])) w') :
    Calls Tryz.prog 38 #[.pointer (some ⟨h.c, 0, none⟩), .agg cs.toArray, .string node] w R := by
  have hx0 := hx
  obtain ⟨vX1, vX2, vX3, vX4, vX5, rfl, hx1, hx2, hx3, hx4, hx5⟩ := hx
  obtain ⟨X1, dX1, rfl, _, _⟩ := hx1.form
  obtain ⟨X2, dX2, rfl, _, _⟩ := hx2.form
  obtain ⟨X3, dX3, rfl, _, _⟩ := hx3.form
  obtain ⟨X4, dX4, rfl, _, _⟩ := hx4.form
  obtain ⟨X5, dX5, rfl, _, _⟩ := hx5.form
  have HR := Lib.hid hR
  have HC := Lib.hid hc
  have HX := Lib.hid hx0
  have HF := Lib.hid fit
  have HM := Lib.hid hq
  have HFB := Lib.hid hfb
  have HOK := Lib.hid hok
  have GQ := Lib.hid gq
  have GC := Lib.hid gc
  have GS := Lib.hid gs
  have HTH := Lib.hid ht
  have lq : q.needs.length ≤ 16 := gq.1
  have lc : r.thing.cap.length ≤ 16 := gc.1
  have ls : ((S.sums node).getD []).length ≤ 16 := gs.1
  obtain ⟨so, hso⟩ : ∃ l, (S.sums node).getD [] = l := ⟨_, rfl⟩
  rw [hso] at ls
  have HSO := Lib.hid hso
  obtain ⟨w1, hw1⟩ : ∃ w1, w1 = ((w.alloc (.cells #[.string x.name, .slice X1 x.labels.length dX1, .slice X2 x.needs.length dX2, .slice X3 x.tols.length dX3, .string x.req, .slice X4 x.apart.length dX4, .slice X5 x.prefer.length dX5, .int .i64 x.prio] 31)).alloc (.cells #[.int .i64 0, .int .i64 0, .int .i64 0, .string ⟨#[]⟩, .slice none 0 0, .slice none 0 0, .slice none 0 0, .bool false, .string ⟨#[]⟩, .slice none 0 0, .slice none 0 0, .slice none 0 0, .bool false, .string ⟨#[]⟩, .slice none 0 0, .slice none 0 0, .slice none 0 0, .string ⟨#[]⟩, .slice none 0 0, .slice none 0 0, .int .i64 0] 71)) := ⟨_, rfl⟩
  have HB1 := Lib.hid (show Below w.heap.size w w1 by
    rw [hw1]
    exact Below.alloc (Below.alloc (Below.refl _ _) (Nat.le_refl _) _) (by simp) _)
  have z1 : w.heap.size + 2 ≤ w1.heap.size := by rw [hw1]; simp
  have o1 : w1.heap[w.heap.size]? = some (.cells #[.string x.name, .slice X1 x.labels.length dX1, .slice X2 x.needs.length dX2, .slice X3 x.tols.length dX3, .string x.req, .slice X4 x.apart.length dX4, .slice X5 x.prefer.length dX5, .int .i64 x.prio] 31 (0, 0)) := by rw [hw1]; exact hkeep (heap_alloc_new w _) _
  have o2 : w1.heap[w.heap.size + 1]? = some (.cells #[.int .i64 0, .int .i64 0, .int .i64 0, .string ⟨#[]⟩, .slice none 0 0, .slice none 0 0, .slice none 0 0, .bool false, .string ⟨#[]⟩, .slice none 0 0, .slice none 0 0, .slice none 0 0, .bool false, .string ⟨#[]⟩, .slice none 0 0, .slice none 0 0, .slice none 0 0, .string ⟨#[]⟩, .slice none 0 0, .slice none 0 0, .int .i64 0] 71 (0, 0)) := by rw [hw1]; simpa using heap_alloc_new (w.alloc _) _
  have HO2 := Lib.hid o2
  have HG1 := Lib.hid (hG.below HB1.out)
  clear hR hc hx0 hx1 hx2 hx3 hx4 hx5 fit hq hfb hok hG o2 gq gc gs ht hso
  go_enter Tryz.func38, Tryz.ntmps38
  go_upto_region 1 with fail
  rw [← hw1]
  clear hw1
  go_wp2_with (refine wpList_load_row rfl 31 _ rfl w.heap.size rfl 31 #[.string x.name, .slice X1 x.labels.length dX1, .slice X2 x.needs.length dX2, .slice X3 x.tols.length dX3, .string x.req, .slice X4 x.apart.length dX4, .slice X5 x.prefer.length dX5, .int .i64 x.prio] (0, 0) _ o1 Tryz.underlying31 rfl (by kernel_rfl) ?_)
  refine checkPod_k _ _ ok x [.string x.name, .slice X1 x.labels.length dX1, .slice X2 x.needs.length dX2, .slice X3 x.tols.length dX3, .string x.req, .slice X4 x.apart.length dX4, .slice X5 x.prefer.length dX5, .int .i64 x.prio] HG1.out (fun k hk => Nat.lt_of_lt_of_le (HOK.out k hk) HB1.out.size) (pdOk.move HX.out (fun k hk => HB1.out.block k (HOK.out k hk))) HF.out ?_
  intro cm ve w3 g3 hk3 he3
  rw [HM.out] at hk3 he3
  have hve : ve = .nilIface := by
    rcases he3 with he3 | he3
    · exact he3.2
    · exact absurd rfl he3.1
  subst hve
  obtain ⟨vQ1, vQ2, vQ3, vQ4, vQ5, rfl, hq1, hq2, hq3, hq4, hq5⟩ := hk3
  obtain ⟨Q1, dQ1, rfl, _, _⟩ := hq1.form
  obtain ⟨Q2, dQ2, rfl, _, _⟩ := hq2.form
  obtain ⟨Q3, dQ3, rfl, _, _⟩ := hq3.form
  obtain ⟨Q4, dQ4, rfl, _, _⟩ := hq4.form
  obtain ⟨Q5, dQ5, rfl, _, _⟩ := hq5.form
  have HK3 := Lib.hid (pdOk.bnd (show pdK w3 (fun k => w1.heap.size ≤ k) q [.string q.name, .slice Q1 q.labels.length dQ1, .slice Q2 q.needs.length dQ2, .slice Q3 q.tols.length dQ3, .string q.req, .slice Q4 q.apart.length dQ4, .slice Q5 q.prefer.length dQ5, .int .i64 q.prio] from ⟨_, _, _, _, _, rfl, hq1, hq2, hq3, hq4, hq5⟩))
  have G3 := Lib.hid g3
  have HB3 := Lib.hid (HB1.out.trans (G3.out.mono HB1.out.size))
  obtain ⟨hc3, he3'⟩ := HC.out.imms HB3.out (a := w1.heap.size) HB1.out.size
  obtain ⟨own3, hown3⟩ : ∃ o, o = immIn own w1.heap.size w3.heap.size := ⟨_, rfl⟩
  have hi3 : ∀ k, w1.heap.size ≤ k ∧ k < w3.heap.size → Imm own3 k := fun k hk => by rw [hown3]; exact immIn_in hk.1 hk.2
  rw [← hown3] at hc3 he3'
  have HOW3 := Lib.hid hown3
  have HI3 := Lib.hid hi3
  have HC3 := Lib.hid hc3
  have HE3 := Lib.hid he3'
  have HQ2 := Lib.hid (hq2.bnd itmOk)
  clear g3 hq1 hq2 hq3 hq4 hq5 he3 hc3 he3' hi3 hown3 o1
  obtain ⟨w4, hw4⟩ : ∃ w4, w4 = (w3.alloc (.cells #[.string ⟨#[]⟩, .slice none 0 0, .slice none 0 0, .slice none 0 0, .string ⟨#[]⟩, .slice none 0 0, .slice none 0 0, .int .i64 0] 31)).setRow w3.heap.size #[.string q.name, .slice Q1 q.labels.length dQ1, .slice Q2 q.needs.length dQ2, .slice Q3 q.tols.length dQ3, .string q.req, .slice Q4 q.apart.length dQ4, .slice Q5 q.prefer.length dQ5, .int .i64 q.prio] := ⟨_, rfl⟩
  have oa : (w3.alloc (.cells #[.string ⟨#[]⟩, .slice none 0 0, .slice none 0 0, .slice none 0 0, .string ⟨#[]⟩, .slice none 0 0, .slice none 0 0, .int .i64 0] 31)).heap[w3.heap.size]? = some (.cells #[.string ⟨#[]⟩, .slice none 0 0, .slice none 0 0, .slice none 0 0, .string ⟨#[]⟩, .slice none 0 0, .slice none 0 0, .int .i64 0] 31 (0, 0)) := heap_alloc_new _ _
  have o4 : w4.heap[w3.heap.size]? = some (.cells #[.string q.name, .slice Q1 q.labels.length dQ1, .slice Q2 q.needs.length dQ2, .slice Q3 q.tols.length dQ3, .string q.req, .slice Q4 q.apart.length dQ4, .slice Q5 q.prefer.length dQ5, .int .i64 q.prio] 31 (0, 0)) := by rw [hw4]; exact setRow_heap _ _ _ _ _ _ oa
  have G4 := Lib.hid (show Below w3.heap.size w3 w4 by rw [hw4]; exact below_setRow (Below.alloc (Below.refl _ _) (Nat.le_refl _) _) (Nat.le_refl _) _)
  have HB4 := Lib.hid (HB3.out.trans (G4.out.mono HB3.out.size))
  have HC4 := Lib.hid (HC3.out.below G4.out)
  have HO4 := Lib.hid o4
  go_upto_region 4 with (refine wpList_store_row rfl 31 _ _ rfl w3.heap.size #[.string q.name, .slice Q1 q.labels.length dQ1, .slice Q2 q.needs.length dQ2, .slice Q3 q.tols.length dQ3, .string q.req, .slice Q4 q.apart.length dQ4, .slice Q5 q.prefer.length dQ5, .int .i64 q.prio] rfl rfl 31 #[.string ⟨#[]⟩, .slice none 0 0, .slice none 0 0, .slice none 0 0, .string ⟨#[]⟩, .slice none 0 0, .slice none 0 0, .int .i64 0] oa (by kernel_rfl) (by simp) (by simp [Value.oneCell']) ?_)
  rw [← hw4]
  clear hw4 oa o4
  go_wp2_with fail
  refine seekOk_k _ _ h own3 S node HC4.out s r HTH.out ?_
  intro cn w5 g5 hk5
  obtain ⟨vN1, vN2, vN3, rfl, hn1, hn2, hn3⟩ := hk5
  obtain ⟨N1, dN1, rfl, _, _⟩ := hn1.form
  obtain ⟨N2, dN2, rfl, _, _⟩ := hn2.form
  obtain ⟨N3, dN3, rfl, _, _⟩ := hn3.form
  have HK5 := Lib.hid (nodOk.bnd (show nodK w5 (fun k => w4.heap.size ≤ k) r.thing [.string r.thing.name, .slice N1 r.thing.labels.length dN1, .slice N2 r.thing.taints.length dN2, .slice N3 r.thing.cap.length dN3, .bool r.thing.cord] from ⟨_, _, _, rfl, hn1, hn2, hn3⟩))
  have HN3 := Lib.hid (hn3.bnd itmOk)
  have G5 := Lib.hid g5
  have HB5 := Lib.hid (HB4.out.trans (G5.out.mono HB4.out.size))
  clear g5 hn1 hn2 hn3
  obtain ⟨w6, hw6⟩ : ∃ w6, w6 = (w5.alloc (.cells #[.string ⟨#[]⟩, .slice none 0 0, .slice none 0 0, .slice none 0 0, .bool false] 26)).setRow w5.heap.size #[.string r.thing.name, .slice N1 r.thing.labels.length dN1, .slice N2 r.thing.taints.length dN2, .slice N3 r.thing.cap.length dN3, .bool r.thing.cord] := ⟨_, rfl⟩
  have oa : (w5.alloc (.cells #[.string ⟨#[]⟩, .slice none 0 0, .slice none 0 0, .slice none 0 0, .bool false] 26)).heap[w5.heap.size]? = some (.cells #[.string ⟨#[]⟩, .slice none 0 0, .slice none 0 0, .slice none 0 0, .bool false] 26 (0, 0)) := heap_alloc_new _ _
  have o6 : w6.heap[w5.heap.size]? = some (.cells #[.string r.thing.name, .slice N1 r.thing.labels.length dN1, .slice N2 r.thing.taints.length dN2, .slice N3 r.thing.cap.length dN3, .bool r.thing.cord] 26 (0, 0)) := by rw [hw6]; exact setRow_heap _ _ _ _ _ _ oa
  have G6 := Lib.hid (show Below w5.heap.size w5 w6 by rw [hw6]; exact below_setRow (Below.alloc (Below.refl _ _) (Nat.le_refl _) _) (Nat.le_refl _) _)
  have HB6 := Lib.hid (HB5.out.trans (G6.out.mono HB5.out.size))
  have G46 := Lib.hid (G5.out.trans (G6.out.mono G5.out.size))
  have HC6 := Lib.hid (HC4.out.below G46.out)
  have HO6 := Lib.hid o6
  have HP6 := Lib.hid ((G46.out.block w3.heap.size (Array.getElem?_eq_some_iff.1 HO4.out).1).trans HO4.out)
  go_upto_region 7 with (refine wpList_store_row rfl 26 _ _ rfl w5.heap.size #[.string r.thing.name, .slice N1 r.thing.labels.length dN1, .slice N2 r.thing.taints.length dN2, .slice N3 r.thing.cap.length dN3, .bool r.thing.cord] rfl rfl 26 #[.string ⟨#[]⟩, .slice none 0 0, .slice none 0 0, .slice none 0 0, .bool false] oa (by kernel_rfl) (by simp) (by simp [Value.oneCell']) ?_)
  rw [← hw6]
  clear hw6 oa o6
  go_upto_region 9 with fail
  go_cut [14] (fun v W => v = .bool false ∧ Below w6.heap.size w6 W)
  case first =>
    have HK := Lib.hid (show ∀ W, Below w6.heap.size w6 W → Below w6.heap.size w6 W ∧ W.cell? ⟨h.c, 3, none⟩ = some (.pointer (some ⟨h.t2, 0, none⟩)) ∧ W.cell? ⟨w3.heap.size, 0, none⟩ = some (.string q.name) from fun W g => ⟨g, (Mod.of_below g).cell' (cell_at HC6.out.cell rfl) (fun h => h), (Mod.of_below g).cell' (cell_at HP6.out rfl) (fun h => h)⟩)
    have YA := Lib.hid (Below.refl w6.heap.size w6).drew
    refine wp_region_held_drew (S := fun W => Below w6.heap.size w6 W ∧ W.cell? ⟨h.c, 3, none⟩ = some (.pointer (some ⟨h.t2, 0, none⟩)) ∧ W.cell? ⟨w3.heap.size, 0, none⟩ = some (.string q.name)) (by kernel_rfl) (HK.out _ YA.out) (fun hHeld => ?_)
    refine' wpAnyH_take (i := 0) (v := _) (List.getElem?_toArray.trans rfl) (by kernel_rfl) (by kernel_rfl) (by kernel_rfl) (fun _ _ _ h => h) (Or.inl ⟨by rfl, ?y0a⟩) hHeld ?r0a
    case y0a => intro w h; (try dsimp only at h); go_simp; (try with_reducible rfl)
    try simp only [Act.put, List.setIfInBounds_toArray, List.set_cons_zero, List.set_cons_succ]
    refine' wpAnyH_take (i := 1) (v := _) (List.getElem?_toArray.trans rfl) (by kernel_rfl) (by kernel_rfl) (by kernel_rfl) (fun _ _ _ h => h) (Or.inl ⟨by rfl, ?y1a⟩) hHeld ?r1a
    case y1a => intro w h; (try dsimp only at h); go_simp; (try with_reducible rfl)
    try simp only [Act.put, List.setIfInBounds_toArray, List.set_cons_zero, List.set_cons_succ]
    refine' wpAnyH_take (i := 2) (v := _) (List.getElem?_toArray.trans rfl) (by kernel_rfl) (by kernel_rfl) (by kernel_rfl) (fun _ _ _ h => h) (Or.inl ⟨by rfl, ?y2a⟩) hHeld ?r2a
    case y2a => intro w h; (try dsimp only at h); go_simp; (try with_reducible rfl)
    try simp only [Act.put, List.setIfInBounds_toArray, List.set_cons_zero, List.set_cons_succ]
    refine' wpAnyH_take (i := 3) (v := _) (List.getElem?_toArray.trans rfl) (by kernel_rfl) (by kernel_rfl) (by kernel_rfl) (fun _ _ _ h => h) (Or.inl ⟨by rfl, ?y3a⟩) hHeld ?r3a
    case y3a => intro w h; (try dsimp only at h); go_simp; (try with_reducible rfl)
    try simp only [Act.put, List.setIfInBounds_toArray, List.set_cons_zero, List.set_cons_succ]
    refine' wpAnyH_take (i := 4) (v := _) (List.getElem?_toArray.trans rfl) (by kernel_rfl) (by kernel_rfl) (by kernel_rfl) (fun _ _ _ h => h) (Or.inl ⟨by rfl, ?y4a⟩) hHeld ?r4a
    case y4a => intro w h; (try dsimp only at h); go_simp; (try with_reducible rfl)
    try simp only [Act.put, List.setIfInBounds_toArray, List.set_cons_zero, List.set_cons_succ]
    refine' wpAnyH_take (i := 5) (v := _) (List.getElem?_toArray.trans rfl) (by kernel_rfl) (by kernel_rfl) (by kernel_rfl) (fun _ _ _ h => h) (Or.inl ⟨by rfl, ?y5a⟩) hHeld ?r5a
    case y5a => intro w h; (try dsimp only at h); go_simp; (try with_reducible rfl)
    try simp only [Act.put, List.setIfInBounds_toArray, List.set_cons_zero, List.set_cons_succ]
    refine wpAnyH_ready (rs := [6, 11]) (by kernel_rfl) (by simp) ?_
    refine AllReadyH.cons (List.getElem?_toArray.trans rfl) (fun K hK => ?_) (AllReadyH.cons (List.getElem?_toArray.trans rfl) (fun K hK => ?_) AllReadyH.nil)
    · go_simp
      refine findB_none _ _ (Imm own3) h.t2 h.m2 h.v2 S.bound q.name (HC6.out.below YA.out).tb n1 n2 HFB.out ?_
      intro w7 g7
      have Y7 := Lib.hid (YA.out.trans (g7.mono YA.out.size))
      clear g7
      go_wp2_with fail
      refine hK.out _ _ (HK.out _ Y7.out) (fun hHeld => ?_)
      clear hK K
      try simp only [Act.put, List.setIfInBounds_toArray, List.set_cons_zero, List.set_cons_succ]
      refine' wpAnyH_take (i := 7) (v := _) (List.getElem?_toArray.trans rfl) (by kernel_rfl) (by kernel_rfl) (by kernel_rfl) (fun _ _ _ h => h) (Or.inl ⟨by rfl, ?y7b⟩) hHeld ?r7b
      case y7b => intro w h; (try dsimp only at h); go_simp; (try with_reducible rfl)
      try simp only [Act.put, List.setIfInBounds_toArray, List.set_cons_zero, List.set_cons_succ]
      refine' wpAnyH_take (i := 8) (v := _) (List.getElem?_toArray.trans rfl) (by kernel_rfl) (by kernel_rfl) (by kernel_rfl) (fun _ _ _ h => h) (Or.inl ⟨by rfl, ?y8b⟩) hHeld ?r8b
      case y8b => intro w h; (try dsimp only at h); go_simp; (try with_reducible rfl)
      try simp only [Act.put, List.setIfInBounds_toArray, List.set_cons_zero, List.set_cons_succ]
      refine' wpAnyH_take (i := 9) (v := _) (List.getElem?_toArray.trans rfl) (by kernel_rfl) (by kernel_rfl) (by kernel_rfl) (fun _ _ _ h => h) (Or.inl ⟨by rfl, ?y9b⟩) hHeld ?r9b
      case y9b => intro w h; (try dsimp only at h); go_simp; (try with_reducible rfl)
      try simp only [Act.put, List.setIfInBounds_toArray, List.set_cons_zero, List.set_cons_succ]
      refine' wpAnyH_take (i := 10) (v := _) (List.getElem?_toArray.trans rfl) (by kernel_rfl) (by kernel_rfl) (by kernel_rfl) (fun _ _ _ h => h) (Or.inl ⟨by rfl, ?y10b⟩) hHeld ?r10b
      case y10b => intro w h; (try dsimp only at h); go_simp; (try with_reducible rfl)
      try simp only [Act.put, List.setIfInBounds_toArray, List.set_cons_zero, List.set_cons_succ]
      refine wpAnyH_ready (rs := [11]) (by kernel_rfl) (by simp) ?_
      refine AllReadyH.cons (List.getElem?_toArray.trans rfl) (fun K hK => ?_) AllReadyH.nil
      go_simp
      have o7 : (w7.alloc (.cells #[.string ⟨#[]⟩, .slice none 0 0, .slice none 0 0, .slice none 0 0, .string ⟨#[]⟩, .slice none 0 0, .slice none 0 0, .int .i64 0, .string ⟨#[]⟩] 176)).heap[w7.heap.size]? = some (.cells #[.string ⟨#[]⟩, .slice none 0 0, .slice none 0 0, .slice none 0 0, .string ⟨#[]⟩, .slice none 0 0, .slice none 0 0, .int .i64 0, .string ⟨#[]⟩] 176 (0, 0)) := heap_alloc_new _ _
      have Y8 := Lib.hid (Y7.out.alloc Y7.out.size (.cells #[.string ⟨#[]⟩, .slice none 0 0, .slice none 0 0, .slice none 0 0, .string ⟨#[]⟩, .slice none 0 0, .slice none 0 0, .int .i64 0, .string ⟨#[]⟩] 176))
      refine hK.out _ _ (HK.out _ Y8.out) (fun hHeld => ?_)
      clear hK K
      try simp only [Act.put, List.setIfInBounds_toArray, List.set_cons_zero, List.set_cons_succ]
      refine' wpAnyH_take (i := 12) (v := _) (List.getElem?_toArray.trans rfl) (by kernel_rfl) (by kernel_rfl) (by kernel_rfl) (fun _ _ _ h => h) (Or.inl ⟨by rfl, ?y12c⟩) hHeld ?r12c
      case y12c => intro w h; (try dsimp only at h); go_simp; (try with_reducible rfl)
      try simp only [Act.put, List.setIfInBounds_toArray, List.set_cons_zero, List.set_cons_succ]
      refine wpAnyH_ready (rs := [13]) (by kernel_rfl) (by simp) ?_
      refine AllReadyH.cons (List.getElem?_toArray.trans rfl) (fun K hK => ?_) AllReadyH.nil
      refine wp_store_row 176 _ _ rfl w7.heap.size #[.string ⟨#[]⟩, .slice none 0 0, .slice none 0 0, .slice none 0 0, .string ⟨#[]⟩, .slice none 0 0, .slice none 0 0, .int .i64 0, .string ⟨#[]⟩] rfl rfl 176 #[.string ⟨#[]⟩, .slice none 0 0, .slice none 0 0, .slice none 0 0, .string ⟨#[]⟩, .slice none 0 0, .slice none 0 0, .int .i64 0, .string ⟨#[]⟩] o7 (by kernel_rfl) (by simp) (by simp [Value.oneCell']) ?_
      have Y9 := Lib.hid (show Below w6.heap.size w6 ((w7.alloc (.cells #[.string ⟨#[]⟩, .slice none 0 0, .slice none 0 0, .slice none 0 0, .string ⟨#[]⟩, .slice none 0 0, .slice none 0 0, .int .i64 0, .string ⟨#[]⟩] 176)).setRow w7.heap.size #[.string ⟨#[]⟩, .slice none 0 0, .slice none 0 0, .slice none 0 0, .string ⟨#[]⟩, .slice none 0 0, .slice none 0 0, .int .i64 0, .string ⟨#[]⟩]) from below_setRow Y8.out Y7.out.size _)
      refine hK.out _ _ (HK.out _ Y9.out) (fun hHeld => ?_)
      clear hK K
      try simp only [Act.put, List.setIfInBounds_toArray, List.set_cons_zero, List.set_cons_succ]
      refine' wpAnyH_take (i := 14) (v := _) (List.getElem?_toArray.trans rfl) (by kernel_rfl) (by kernel_rfl) (by kernel_rfl) (fun _ _ _ h => h) (Or.inl ⟨by rfl, ?y14c⟩) hHeld ?r14c
      case y14c => intro w h; (try dsimp only at h); go_simp; (try with_reducible rfl)
      try simp only [Act.put, List.setIfInBounds_toArray, List.set_cons_zero, List.set_cons_succ]
      refine wpAnyH_done (by kernel_rfl) ?_ _
      go_wp2_with fail
      go_meet
      exact ⟨rfl, Y9.out⟩
    · go_simp
      have YB := Lib.hid (show Below w6.heap.size w6 (w6.alloc (.cells #[.string ⟨#[]⟩, .slice none 0 0, .slice none 0 0, .slice none 0 0, .string ⟨#[]⟩, .slice none 0 0, .slice none 0 0, .int .i64 0, .string ⟨#[]⟩] 176)).drew from (Below.alloc (Below.refl _ _) (Nat.le_refl _) (.cells #[.string ⟨#[]⟩, .slice none 0 0, .slice none 0 0, .slice none 0 0, .string ⟨#[]⟩, .slice none 0 0, .slice none 0 0, .int .i64 0, .string ⟨#[]⟩] 176)).drew)
      have oB : (w6.alloc (.cells #[.string ⟨#[]⟩, .slice none 0 0, .slice none 0 0, .slice none 0 0, .string ⟨#[]⟩, .slice none 0 0, .slice none 0 0, .int .i64 0, .string ⟨#[]⟩] 176)).drew.heap[w6.heap.size]? = some (.cells #[.string ⟨#[]⟩, .slice none 0 0, .slice none 0 0, .slice none 0 0, .string ⟨#[]⟩, .slice none 0 0, .slice none 0 0, .int .i64 0, .string ⟨#[]⟩] 176 (0, 0)) := heap_alloc_new _ _
      refine hK.out _ _ (HK.out _ YB.out) (fun hHeld => ?_)
      clear hK K
      try simp only [Act.put, List.setIfInBounds_toArray, List.set_cons_zero, List.set_cons_succ]
      refine wpAnyH_ready (rs := [6]) (by kernel_rfl) (by simp) ?_
      refine AllReadyH.cons (List.getElem?_toArray.trans rfl) (fun K hK => ?_) AllReadyH.nil
      go_simp
      refine findB_none _ _ (Imm own3) h.t2 h.m2 h.v2 S.bound q.name (HC6.out.below YB.out).tb n1 n2 HFB.out ?_
      intro w7 g7
      have Y7 := Lib.hid (YB.out.trans (g7.mono YB.out.size))
      have o7 : w7.heap[w6.heap.size]? = some (.cells #[.string ⟨#[]⟩, .slice none 0 0, .slice none 0 0, .slice none 0 0, .string ⟨#[]⟩, .slice none 0 0, .slice none 0 0, .int .i64 0, .string ⟨#[]⟩] 176 (0, 0)) := (g7.block w6.heap.size (by simp)).trans oB
      clear g7 oB
      go_wp2_with fail
      refine hK.out _ _ (HK.out _ Y7.out) (fun hHeld => ?_)
      clear hK K
      try simp only [Act.put, List.setIfInBounds_toArray, List.set_cons_zero, List.set_cons_succ]
      refine' wpAnyH_take (i := 7) (v := _) (List.getElem?_toArray.trans rfl) (by kernel_rfl) (by kernel_rfl) (by kernel_rfl) (fun _ _ _ h => h) (Or.inl ⟨by rfl, ?y7f⟩) hHeld ?r7f
      case y7f => intro w h; (try dsimp only at h); go_simp; (try with_reducible rfl)
      try simp only [Act.put, List.setIfInBounds_toArray, List.set_cons_zero, List.set_cons_succ]
      refine' wpAnyH_take (i := 8) (v := _) (List.getElem?_toArray.trans rfl) (by kernel_rfl) (by kernel_rfl) (by kernel_rfl) (fun _ _ _ h => h) (Or.inl ⟨by rfl, ?y8f⟩) hHeld ?r8f
      case y8f => intro w h; (try dsimp only at h); go_simp; (try with_reducible rfl)
      try simp only [Act.put, List.setIfInBounds_toArray, List.set_cons_zero, List.set_cons_succ]
      refine' wpAnyH_take (i := 9) (v := _) (List.getElem?_toArray.trans rfl) (by kernel_rfl) (by kernel_rfl) (by kernel_rfl) (fun _ _ _ h => h) (Or.inl ⟨by rfl, ?y9f⟩) hHeld ?r9f
      case y9f => intro w h; (try dsimp only at h); go_simp; (try with_reducible rfl)
      try simp only [Act.put, List.setIfInBounds_toArray, List.set_cons_zero, List.set_cons_succ]
      refine' wpAnyH_take (i := 10) (v := _) (List.getElem?_toArray.trans rfl) (by kernel_rfl) (by kernel_rfl) (by kernel_rfl) (fun _ _ _ h => h) (Or.inl ⟨by rfl, ?y10f⟩) hHeld ?r10f
      case y10f => intro w h; (try dsimp only at h); go_simp; (try with_reducible rfl)
      try simp only [Act.put, List.setIfInBounds_toArray, List.set_cons_zero, List.set_cons_succ]
      refine' wpAnyH_take (i := 12) (v := _) (List.getElem?_toArray.trans rfl) (by kernel_rfl) (by kernel_rfl) (by kernel_rfl) (fun _ _ _ h => h) (Or.inl ⟨by rfl, ?y12f⟩) hHeld ?r12f
      case y12f => intro w h; (try dsimp only at h); go_simp; (try with_reducible rfl)
      try simp only [Act.put, List.setIfInBounds_toArray, List.set_cons_zero, List.set_cons_succ]
      refine wpAnyH_ready (rs := [13]) (by kernel_rfl) (by simp) ?_
      refine AllReadyH.cons (List.getElem?_toArray.trans rfl) (fun K hK => ?_) AllReadyH.nil
      refine wp_store_row 176 _ _ rfl w6.heap.size #[.string ⟨#[]⟩, .slice none 0 0, .slice none 0 0, .slice none 0 0, .string ⟨#[]⟩, .slice none 0 0, .slice none 0 0, .int .i64 0, .string ⟨#[]⟩] rfl rfl 176 #[.string ⟨#[]⟩, .slice none 0 0, .slice none 0 0, .slice none 0 0, .string ⟨#[]⟩, .slice none 0 0, .slice none 0 0, .int .i64 0, .string ⟨#[]⟩] o7 (by kernel_rfl) (by simp) (by simp [Value.oneCell']) ?_
      have Y9 := Lib.hid (show Below w6.heap.size w6 (w7.setRow w6.heap.size #[.string ⟨#[]⟩, .slice none 0 0, .slice none 0 0, .slice none 0 0, .string ⟨#[]⟩, .slice none 0 0, .slice none 0 0, .int .i64 0, .string ⟨#[]⟩]) from below_setRow Y7.out (Nat.le_refl _) _)
      refine hK.out _ _ (HK.out _ Y9.out) (fun hHeld => ?_)
      clear hK K
      try simp only [Act.put, List.setIfInBounds_toArray, List.set_cons_zero, List.set_cons_succ]
      refine' wpAnyH_take (i := 14) (v := _) (List.getElem?_toArray.trans rfl) (by kernel_rfl) (by kernel_rfl) (by kernel_rfl) (fun _ _ _ h => h) (Or.inl ⟨by rfl, ?y14f⟩) hHeld ?r14f
      case y14f => intro w h; (try dsimp only at h); go_simp; (try with_reducible rfl)
      try simp only [Act.put, List.setIfInBounds_toArray, List.set_cons_zero, List.set_cons_succ]
      refine wpAnyH_done (by kernel_rfl) ?_ _
      go_wp2_with fail
      go_meet
      exact ⟨rfl, Y9.out⟩
  obtain ⟨rfl, hB9⟩ := hcut
  rename World => w9
  have G9 := Lib.hid hB9
  have HB9 := Lib.hid (HB6.out.trans (G9.out.mono HB6.out.size))
  have HC9 := Lib.hid (HC6.out.below G9.out)
  have HP9 := Lib.hid ((G9.out.block w3.heap.size (Array.getElem?_eq_some_iff.1 HP6.out).1).trans HP6.out)
  have HN9 := Lib.hid ((G9.out.block w5.heap.size (Array.getElem?_eq_some_iff.1 HO6.out).1).trans HO6.out)
  have hgl : ¬ (2048 : Int) ≤ (S.bound.find.length : Int) := by omega
  clear hB9
  have y3 : w9.cell? ⟨h.c, 3, none⟩ = some (.pointer (some ⟨h.t2, 0, none⟩)) := cell_at HC9.out.cell rfl
  go_wp2_with fail
  refine lenB_k _ _ (Imm own3) h.t2 h.m2 h.v2 S.bound HC9.out.tb ?_
  go_upto_region 14 with fail
  clear y3 hgl
  have HQN := Lib.hid (HQ2.out.move itmOk (w' := w9) (fun k hk => (((G4.out.trans (G46.out.mono G4.out.size)).trans (G9.out.mono (Nat.le_trans G4.out.size G46.out.size))).block k hk.2)))
  have HNN := Lib.hid (HN3.out.move itmOk (w' := w9) (fun k hk => (G6.out.trans (G9.out.mono G6.out.size)).block k hk.2))
  have HSH := Lib.hid hsh
  clear hsh
  go_cut [15, 16] (fun a e W => a = .string bad ∧ e = .int .i64 29 ∧ Below w9.heap.size w9 W)
  case first =>
    have HK := Lib.hid (show ∀ W, Below w9.heap.size w9 W → Below w9.heap.size w9 W ∧ W.cell? ⟨w3.heap.size, 2, none⟩ = some (.slice Q2 q.needs.length dQ2) ∧ W.cell? ⟨w5.heap.size, 3, none⟩ = some (.slice N3 r.thing.cap.length dN3) from fun W g => ⟨g, (Mod.of_below g).cell' (cell_at HP9.out rfl) (fun h => h), (Mod.of_below g).cell' (cell_at HN9.out rfl) (fun h => h)⟩)
    have YA := Lib.hid (Below.refl w9.heap.size w9).drew
    refine wp_region_held_drew (S := fun W => Below w9.heap.size w9 W ∧ W.cell? ⟨w3.heap.size, 2, none⟩ = some (.slice Q2 q.needs.length dQ2) ∧ W.cell? ⟨w5.heap.size, 3, none⟩ = some (.slice N3 r.thing.cap.length dN3)) (by kernel_rfl) (HK.out _ YA.out) (fun hHeld => ?_)
    refine' wpAnyH_take (i := 0) (v := _) (List.getElem?_toArray.trans rfl) (by kernel_rfl) (by kernel_rfl) (by kernel_rfl) (fun _ _ _ h => h) (Or.inl ⟨by rfl, ?y0d⟩) hHeld ?r0d
    case y0d => intro w h; (try dsimp only at h); go_simp; (try with_reducible rfl)
    try simp only [Act.put, List.setIfInBounds_toArray, List.set_cons_zero, List.set_cons_succ]
    refine' wpAnyH_take (i := 1) (v := _) (List.getElem?_toArray.trans rfl) (by kernel_rfl) (by kernel_rfl) (by kernel_rfl) (fun _ _ _ h => h) (Or.inl ⟨by rfl, ?y1d⟩) hHeld ?r1d
    case y1d => intro w h; (try dsimp only at h); go_simp; (try with_reducible rfl)
    try simp only [Act.put, List.setIfInBounds_toArray, List.set_cons_zero, List.set_cons_succ]
    refine' wpAnyH_take (i := 2) (v := _) (List.getElem?_toArray.trans rfl) (by kernel_rfl) (by kernel_rfl) (by kernel_rfl) (fun _ _ _ h => h) (Or.inl ⟨by rfl, ?y2d⟩) hHeld ?r2d
    case y2d => intro w h; (try dsimp only at h); go_simp; (try with_reducible rfl)
    try simp only [Act.put, List.setIfInBounds_toArray, List.set_cons_zero, List.set_cons_succ]
    refine' wpAnyH_take (i := 3) (v := _) (List.getElem?_toArray.trans rfl) (by kernel_rfl) (by kernel_rfl) (by kernel_rfl) (fun _ _ _ h => h) (Or.inl ⟨by rfl, ?y3d⟩) hHeld ?r3d
    case y3d => intro w h; (try dsimp only at h); go_simp; (try with_reducible rfl)
    try simp only [Act.put, List.setIfInBounds_toArray, List.set_cons_zero, List.set_cons_succ]
    refine' wpAnyH_take (i := 4) (v := _) (List.getElem?_toArray.trans rfl) (by kernel_rfl) (by kernel_rfl) (by kernel_rfl) (fun _ _ _ h => h) (Or.inl ⟨by rfl, ?y4d⟩) hHeld ?r4d
    case y4d => intro w h; (try dsimp only at h); go_simp; (try with_reducible rfl)
    try simp only [Act.put, List.setIfInBounds_toArray, List.set_cons_zero, List.set_cons_succ]
    refine' wpAnyH_take (i := 5) (v := _) (List.getElem?_toArray.trans rfl) (by kernel_rfl) (by kernel_rfl) (by kernel_rfl) (fun _ _ _ h => h) (Or.inl ⟨by rfl, ?y5d⟩) hHeld ?r5d
    case y5d => intro w h; (try dsimp only at h); go_simp; (try with_reducible rfl)
    try simp only [Act.put, List.setIfInBounds_toArray, List.set_cons_zero, List.set_cons_succ]
    refine' wpAnyH_take (i := 6) (v := _) (List.getElem?_toArray.trans rfl) (by kernel_rfl) (by kernel_rfl) (by kernel_rfl) (fun _ _ _ h => h) (Or.inl ⟨by rfl, ?y6d⟩) hHeld ?r6d
    case y6d => intro w h; (try dsimp only at h); go_simp; (try with_reducible rfl)
    try simp only [Act.put, List.setIfInBounds_toArray, List.set_cons_zero, List.set_cons_succ]
    refine' wpAnyH_take (i := 7) (v := _) (List.getElem?_toArray.trans rfl) (by kernel_rfl) (by kernel_rfl) (by kernel_rfl) (fun _ _ _ h => h) (Or.inl ⟨by rfl, ?y7d⟩) hHeld ?r7d
    case y7d => intro w h; (try dsimp only at h); go_simp; (try with_reducible rfl)
    try simp only [Act.put, List.setIfInBounds_toArray, List.set_cons_zero, List.set_cons_succ]
    refine wpAnyH_ready (rs := [8]) (by kernel_rfl) (by simp) ?_
    refine AllReadyH.cons (List.getElem?_toArray.trans rfl) (fun K hK => ?_) AllReadyH.nil
    go_simp
    refine sum_k _ _ h own3 S node (HC9.out.below YA.out) (by rw [HSO.out]; omega) ?_
    rw [HSO.out]
    intro vs wa ga hsa
    obtain ⟨As, ds, es, _, _⟩ := hsa.form
    subst es
    have Ya := Lib.hid (YA.out.trans (ga.mono YA.out.size))
    have HSA := Lib.hid (hsa.bnd itmOk)
    clear ga hsa
    go_wp2_with fail
    refine hK.out _ _ (HK.out _ Ya.out) (fun hHeld => ?_)
    clear hK K
    try simp only [Act.put, List.setIfInBounds_toArray, List.set_cons_zero, List.set_cons_succ]
    refine wpAnyH_ready (rs := [9]) (by kernel_rfl) (by simp) ?_
    refine AllReadyH.cons (List.getElem?_toArray.trans rfl) (fun K hK => ?_) AllReadyH.nil
    go_simp
    refine qshort_k _ _ (fun k => k < wa.heap.size) _ _ _ q.needs r.thing.cap so (fun k hk => hk) (((HQN.out.bnd itmOk).below itmOk Ya.out (fun k hk => hk.2)).mono itmOk (fun k hk => Nat.lt_of_lt_of_le hk.2 Ya.out.size)) GQ.out (((HNN.out.bnd itmOk).below itmOk Ya.out (fun k hk => hk.2)).mono itmOk (fun k hk => Nat.lt_of_lt_of_le hk.2 Ya.out.size)) GC.out (HSA.out.mono itmOk (fun k hk => hk.2)) (by rw [← HSO.out]; exact GS.out) ?_
    rw [← HSO.out, HSH.out]
    intro wb gb
    have Yb := Lib.hid (Ya.out.trans (gb.mono Ya.out.size))
    clear gb
    go_wp2_with fail
    refine hK.out _ _ (HK.out _ Yb.out) (fun hHeld => ?_)
    clear hK K
    try simp only [Act.put, List.setIfInBounds_toArray, List.set_cons_zero, List.set_cons_succ]
    refine' wpAnyH_take (i := 10) (v := _) (List.getElem?_toArray.trans rfl) (by kernel_rfl) (by kernel_rfl) (by kernel_rfl) (fun _ _ _ h => h) (Or.inl ⟨by rfl, ?y10e⟩) hHeld ?r10e
    case y10e => intro w h; (try dsimp only at h); go_simp; (try with_reducible rfl)
    try simp only [Act.put, List.setIfInBounds_toArray, List.set_cons_zero, List.set_cons_succ]
    refine' wpAnyH_take (i := 11) (v := _) (List.getElem?_toArray.trans rfl) (by kernel_rfl) (by kernel_rfl) (by kernel_rfl) (fun _ _ _ h => h) (Or.inl ⟨by rfl, ?y11e⟩) hHeld ?r11e
    case y11e => intro w h; (try dsimp only at h); go_simp; (try with_reducible rfl)
    try simp only [Act.put, List.setIfInBounds_toArray, List.set_cons_zero, List.set_cons_succ]
    refine' wpAnyH_take (i := 12) (v := _) (List.getElem?_toArray.trans rfl) (by kernel_rfl) (by kernel_rfl) (by kernel_rfl) (fun _ _ _ h => h) (Or.inl ⟨by rfl, ?y12e⟩) hHeld ?r12e
    case y12e => intro w h; (try dsimp only at h); go_simp; (try with_reducible rfl)
    try simp only [Act.put, List.setIfInBounds_toArray, List.set_cons_zero, List.set_cons_succ]
    refine' wpAnyH_take (i := 13) (v := _) (List.getElem?_toArray.trans rfl) (by kernel_rfl) (by kernel_rfl) (by kernel_rfl) (fun _ _ _ h => h) (Or.inl ⟨by rfl, ?y13e⟩) hHeld ?r13e
    case y13e => intro w h; (try dsimp only at h); go_simp; (try with_reducible rfl)
    try simp only [Act.put, List.setIfInBounds_toArray, List.set_cons_zero, List.set_cons_succ]
    refine' wpAnyH_take (i := 14) (v := _) (List.getElem?_toArray.trans rfl) (by kernel_rfl) (by kernel_rfl) (by kernel_rfl) (fun _ _ _ h => h) (Or.inl ⟨by rfl, ?y14e⟩) hHeld ?r14e
    case y14e => intro w h; (try dsimp only at h); go_simp; (try with_reducible rfl)
    try simp only [Act.put, List.setIfInBounds_toArray, List.set_cons_zero, List.set_cons_succ]
    refine wpAnyH_done (by kernel_rfl) ?_ _
    go_wp2_with fail
    go_meet
    exact ⟨rfl, rfl, Yb.out⟩
  obtain ⟨rfl, rfl, hB10⟩ := hcut
  rename World => w10
  have G10 := Lib.hid hB10
  have HB10 := Lib.hid (HB9.out.trans (G10.out.mono HB9.out.size))
  have HC10 := Lib.hid (HC9.out.below G10.out)
  have HP10 := Lib.hid ((G10.out.block w3.heap.size (Array.getElem?_eq_some_iff.1 HP9.out).1).trans HP9.out)
  have HN10 := Lib.hid ((G10.out.block w5.heap.size (Array.getElem?_eq_some_iff.1 HN9.out).1).trans HN9.out)
  have HG13 := Lib.hid ((((G3.out.trans (G4.out.mono G3.out.size)).trans (G46.out.mono (Nat.le_trans G3.out.size G4.out.size))).trans (G9.out.mono (Nat.le_trans (Nat.le_trans G3.out.size G4.out.size) G46.out.size))).trans (G10.out.mono (Nat.le_trans (Nat.le_trans (Nat.le_trans G3.out.size G4.out.size) G46.out.size) G9.out.size)))
  have HZ10 := Lib.hid ((HG13.out.block (w.heap.size + 1) (by omega)).trans HO2.out)
  clear hB10
  go_wp2_with fail
  refine refuse_k _ _ _ _ (by decide) ?_
  intro ve wz gz hez
  have HEZ := Lib.hid hez
  have oz := (gz.block (w.heap.size + 1) (Array.getElem?_eq_some_iff.1 HZ10.out).1).trans HZ10.out
  have HBZ := Lib.hid (HB10.out.trans (gz.mono HB10.out.size))
  have yy : (wz.setRow (w.heap.size + 1) #[.int .i64 0, .int .i64 0, .int .i64 0, .string ⟨#[]⟩, .slice none 0 0, .slice none 0 0, .slice none 0 0, .bool false, .string ⟨#[]⟩, .slice none 0 0, .slice none 0 0, .slice none 0 0, .bool false, .string ⟨#[]⟩, .slice none 0 0, .slice none 0 0, .slice none 0 0, .string ⟨#[]⟩, .slice none 0 0, .slice none 0 0, .int .i64 0]).heap[w.heap.size + 1]? = some (.cells #[.int .i64 0, .int .i64 0, .int .i64 0, .string ⟨#[]⟩, .slice none 0 0, .slice none 0 0, .slice none 0 0, .bool false, .string ⟨#[]⟩, .slice none 0 0, .slice none 0 0, .slice none 0 0, .bool false, .string ⟨#[]⟩, .slice none 0 0, .slice none 0 0, .slice none 0 0, .string ⟨#[]⟩, .slice none 0 0, .slice none 0 0, .int .i64 0] 71 (0, 0)) := setRow_heap _ _ _ _ _ _ oz
  have hv : R (.returned (.tuple #[.agg #[.int .i64 0, .int .i64 0, .int .i64 0, .string ⟨#[]⟩, .slice none 0 0, .slice none 0 0, .slice none 0 0, .bool false, .string ⟨#[]⟩, .slice none 0 0, .slice none 0 0, .slice none 0 0, .bool false, .string ⟨#[]⟩, .slice none 0 0, .slice none 0 0, .slice none 0 0, .string ⟨#[]⟩, .slice none 0 0, .slice none 0 0, .int .i64 0], ve])) (wz.setRow (w.heap.size + 1) #[.int .i64 0, .int .i64 0, .int .i64 0, .string ⟨#[]⟩, .slice none 0 0, .slice none 0 0, .slice none 0 0, .bool false, .string ⟨#[]⟩, .slice none 0 0, .slice none 0 0, .slice none 0 0, .bool false, .string ⟨#[]⟩, .slice none 0 0, .slice none 0 0, .slice none 0 0, .string ⟨#[]⟩, .slice none 0 0, .slice none 0 0, .int .i64 0]) := HR.out ve (wz.setRow (w.heap.size + 1) #[.int .i64 0, .int .i64 0, .int .i64 0, .string ⟨#[]⟩, .slice none 0 0, .slice none 0 0, .slice none 0 0, .bool false, .string ⟨#[]⟩, .slice none 0 0, .slice none 0 0, .slice none 0 0, .bool false, .string ⟨#[]⟩, .slice none 0 0, .slice none 0 0, .slice none 0 0, .string ⟨#[]⟩, .slice none 0 0, .slice none 0 0, .int .i64 0]) (below_setRow HBZ.out (by omega) _) (HEZ.out.row oz (by decide) _)
  clear gz hez
  go_wp2_with (refine wpList_store_row rfl 71 _ _ rfl (w.heap.size + 1) #[.int .i64 0, .int .i64 0, .int .i64 0, .string ⟨#[]⟩, .slice none 0 0, .slice none 0 0, .slice none 0 0, .bool false, .string ⟨#[]⟩, .slice none 0 0, .slice none 0 0, .slice none 0 0, .bool false, .string ⟨#[]⟩, .slice none 0 0, .slice none 0 0, .slice none 0 0, .string ⟨#[]⟩, .slice none 0 0, .slice none 0 0, .int .i64 0] rfl rfl 71 #[.int .i64 0, .int .i64 0, .int .i64 0, .string ⟨#[]⟩, .slice none 0 0, .slice none 0 0, .slice none 0 0, .bool false, .string ⟨#[]⟩, .slice none 0 0, .slice none 0 0, .slice none 0 0, .bool false, .string ⟨#[]⟩, .slice none 0 0, .slice none 0 0, .slice none 0 0, .string ⟨#[]⟩, .slice none 0 0, .slice none 0 0, .int .i64 0] oz (by kernel_rfl) (by simp) (by simp [Value.oneCell']) ?_)
  exact bodyPost_ret (results_row_tmp Tryz.results38 _ _ (w.heap.size + 1) 71 #[.int .i64 0, .int .i64 0, .int .i64 0, .string ⟨#[]⟩, .slice none 0 0, .slice none 0 0, .slice none 0 0, .bool false, .string ⟨#[]⟩, .slice none 0 0, .slice none 0 0, .slice none 0 0, .bool false, .string ⟨#[]⟩, .slice none 0 0, .slice none 0 0, .slice none 0 0, .string ⟨#[]⟩, .slice none 0 0, .slice none 0 0, .int .i64 0] (0, 0) _ rfl yy Tryz.underlying71 rfl (by kernel_rfl)) rfl hv
end Go.Proofs.YtdceflgemhcgcaaGreatDoor
