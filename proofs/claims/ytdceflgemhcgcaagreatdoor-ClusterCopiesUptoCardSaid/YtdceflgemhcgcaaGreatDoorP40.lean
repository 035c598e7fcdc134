/-
  Cluster.Bind: a pod that is let in (its node's first).
-/
import Derived.Test.YtdceflgemhcgcaaGreatDoorP39
set_option linter.unusedVariables false
set_option linter.unusedSimpArgs false
namespace Go.Proofs.YtdceflgemhcgcaaGreatDoor
open Go.RowKit Go.BigFrame

set_option maxRecDepth 100000 in
set_option maxHeartbeats 16000000 in
theorem bindOk_k (R : Ending → World → Prop) (w : World) (h : CHdr) (own : COwn) (S : CSt) (hG : GOk w) (hc : CluAt w h own S) (ok : Nat → Prop) (hok : ∀ k, ok k → k < w.heap.size) (x : Pd) (cs : List Value) (hx : pdK w ok x cs) (fit : PdFit x) (q : Pd) (hq : chkPod x = (q, flt0)) (node : ByteArray) (s : Nat) (r : SRow Nod) (ht : There S node s r)
    (n1 : 1 ≤ q.name.size) (n2 : q.name.size ≤ 63) (hfb : aget S.bound.find q.name = none) (hlb : S.bound.find.length < 2048) (gq : GoodI q.needs) (gc : GoodI r.thing.cap) (gs : GoodI ((S.sums node).getD [])) (hlow : S.bound.low ≤ S.bound.rows.length) (hrl : S.bound.rows.length ≤ 2048) (hsh : shortI q.needs r.thing.cap ((S.sums node).getD []) = (⟨#[]⟩, 0))
    (hnone : S.pods node = none) (hln : (bothN ((S.sums node).getD []) q.needs).length ≤ 16) (hfit : ∀ n, qget ((S.sums node).getD []) n + qget q.needs n ≤ 9223372036854775807) (hshort : PdShort q)
    (hR : ∀ h' own' cs' w', h'.c = h.c → CluAt w' h' own' (bindS S node q) → Ext' w own own' → Mod (Mine own) w w' → chgK w' (fun k => w.heap.size ≤ k) (bindC S s r.thing q) cs' → R (.returned (.tuple #[.agg cs'.toArray, .nilIface])) w') :
    Calls Tryz.prog 38 #[.pointer (some ⟨h.c, 0, none⟩), .agg cs.toArray, .string node] w R := by
  have hx0 := hx
  obtain ⟨vX1, vX2, vX3, vX4, vX5, rfl, hx1, hx2, hx3, hx4, hx5⟩ := hx
  obtain ⟨X1, dX1, rfl, _, _⟩ := hx1.form
  obtain ⟨X2, dX2, rfl, _, _⟩ := hx2.form
  obtain ⟨X3, dX3, rfl, _, _⟩ := hx3.form
  obtain ⟨X4, dX4, rfl, _, _⟩ := hx4.form
  obtain ⟨X5, dX5, rfl, _, _⟩ := hx5.form
  have HR := Lib.hid hR
  have HC := Lib.hid hc
  have HX := Lib.hid hx0
  have HF := Lib.hid fit
  have HM := Lib.hid hq
  have HFB := Lib.hid hfb
  have HOK := Lib.hid hok
  have GQ := Lib.hid gq
  have GC := Lib.hid gc
  have GS := Lib.hid gs
  have HTH := Lib.hid ht
  have lq : q.needs.length ≤ 16 := gq.1
  have lc : r.thing.cap.length ≤ 16 := gc.1
  have ls : ((S.sums node).getD []).length ≤ 16 := gs.1
  obtain ⟨so, hso⟩ : ∃ l, (S.sums node).getD [] = l := ⟨_, rfl⟩
  rw [hso] at ls
  have HSO := Lib.hid hso
  obtain ⟨w1, hw1⟩ : ∃ w1, w1 = ((w.alloc (.cells #[.string x.name, .slice X1 x.labels.length dX1, .slice X2 x.needs.length dX2, .slice X3 x.tols.length dX3, .string x.req, .slice X4 x.apart.length dX4, .slice X5 x.prefer.length dX5, .int .i64 x.prio] 31)).alloc (.cells #[.int .i64 0, .int .i64 0, .int .i64 0, .string ⟨#[]⟩, .slice none 0 0, .slice none 0 0, .slice none 0 0, .bool false, .string ⟨#[]⟩, .slice none 0 0, .slice none 0 0, .slice none 0 0, .bool false, .string ⟨#[]⟩, .slice none 0 0, .slice none 0 0, .slice none 0 0, .string ⟨#[]⟩, .slice none 0 0, .slice none 0 0, .int .i64 0] 71)) := ⟨_, rfl⟩
  have HB1 := Lib.hid (show Below w.heap.size w w1 by
    rw [hw1]
    exact Below.alloc (Below.alloc (Below.refl _ _) (Nat.le_refl _) _) (by simp) _)
  have z1 : w.heap.size + 2 ≤ w1.heap.size := by rw [hw1]; simp
  have o1 : w1.heap[w.heap.size]? = some (.cells #[.string x.name, .slice X1 x.labels.length dX1, .slice X2 x.needs.length dX2, .slice X3 x.tols.length dX3, .string x.req, .slice X4 x.apart.length dX4, .slice X5 x.prefer.length dX5, .int .i64 x.prio] 31 (0, 0)) := by rw [hw1]; exact hkeep (heap_alloc_new w _) _
  have o2 : w1.heap[w.heap.size + 1]? = some (.cells #[.int .i64 0, .int .i64 0, .int .i64 0, .string ⟨#[]⟩, .slice none 0 0, .slice none 0 0, .slice none 0 0, .bool false, .string ⟨#[]⟩, .slice none 0 0, .slice none 0 0, .slice none 0 0, .bool false, .string ⟨#[]⟩, .slice none 0 0, .slice none 0 0, .slice none 0 0, .string ⟨#[]⟩, .slice none 0 0, .slice none 0 0, .int .i64 0] 71 (0, 0)) := by rw [hw1]; simpa using heap_alloc_new (w.alloc _) _
  have HO2 := Lib.hid o2
  have HG1 := Lib.hid (hG.below HB1.out)
  have HLN := Lib.hid hln
  have HFT := Lib.hid hfit
  have HNO := Lib.hid hnone
  have HSHT := Lib.hid hshort
  clear hln hfit hnone hshort
  clear hR hc hx0 hx1 hx2 hx3 hx4 hx5 fit hq hfb hok hG o2 gq gc gs ht hso
  go_enter Tryz.func38, Tryz.ntmps38
  go_upto_region 1 with fail
  rw [← hw1]
  clear hw1
  go_wp2_with (refine wpList_load_row rfl 31 _ rfl w.heap.size rfl 31 #[.string x.name, .slice X1 x.labels.length dX1, .slice X2 x.needs.length dX2, .slice X3 x.tols.length dX3, .string x.req, .slice X4 x.apart.length dX4, .slice X5 x.prefer.length dX5, .int .i64 x.prio] (0, 0) _ o1 Tryz.underlying31 rfl (by kernel_rfl) ?_)
  refine checkPod_k _ _ ok x [.string x.name, .slice X1 x.labels.length dX1, .slice X2 x.needs.length dX2, .slice X3 x.tols.length dX3, .string x.req, .slice X4 x.apart.length dX4, .slice X5 x.prefer.length dX5, .int .i64 x.prio] HG1.out (fun k hk => Nat.lt_of_lt_of_le (HOK.out k hk) HB1.out.size) (pdOk.move HX.out (fun k hk => HB1.out.block k (HOK.out k hk))) HF.out ?_
  intro cm ve w3 g3 hk3 he3
  rw [HM.out] at hk3 he3
  have hve : ve = .nilIface := by
    rcases he3 with he3 | he3
    · exact he3.2
    · exact absurd rfl he3.1
  subst hve
  obtain ⟨vQ1, vQ2, vQ3, vQ4, vQ5, rfl, hq1, hq2, hq3, hq4, hq5⟩ := hk3
  obtain ⟨Q1, dQ1, rfl, _, _⟩ := hq1.form
  obtain ⟨Q2, dQ2, rfl, _, _⟩ := hq2.form
  obtain ⟨Q3, dQ3, rfl, _, _⟩ := hq3.form
  obtain ⟨Q4, dQ4, rfl, _, _⟩ := hq4.form
  obtain ⟨Q5, dQ5, rfl, _, _⟩ := hq5.form
  have HK3 := Lib.hid (pdOk.bnd (show pdK w3 (fun k => w1.heap.size ≤ k) q [.string q.name, .slice Q1 q.labels.length dQ1, .slice Q2 q.needs.length dQ2, .slice Q3 q.tols.length dQ3, .string q.req, .slice Q4 q.apart.length dQ4, .slice Q5 q.prefer.length dQ5, .int .i64 q.prio] from ⟨_, _, _, _, _, rfl, hq1, hq2, hq3, hq4, hq5⟩))
  have G3 := Lib.hid g3
  have HB3 := Lib.hid (HB1.out.trans (G3.out.mono HB1.out.size))
  obtain ⟨hc3, he3'⟩ := HC.out.imms HB3.out (a := w1.heap.size) HB1.out.size
  obtain ⟨own3, hown3⟩ : ∃ o, o = immIn own w1.heap.size w3.heap.size := ⟨_, rfl⟩
  have hi3 : ∀ k, w1.heap.size ≤ k ∧ k < w3.heap.size → Imm own3 k := fun k hk => by rw [hown3]; exact immIn_in hk.1 hk.2
  rw [← hown3] at hc3 he3'
  have HOW3 := Lib.hid hown3
  have HI3 := Lib.hid hi3
  have HC3 := Lib.hid hc3
  have HE3 := Lib.hid he3'
  have HQ2 := Lib.hid (hq2.bnd itmOk)
  clear g3 hq1 hq2 hq3 hq4 hq5 he3 hc3 he3' hi3 hown3 o1
  obtain ⟨w4, hw4⟩ : ∃ w4, w4 = (w3.alloc (.cells #[.string ⟨#[]⟩, .slice none 0 0, .slice none 0 0, .slice none 0 0, .string ⟨#[]⟩, .slice none 0 0, .slice none 0 0, .int .i64 0] 31)).setRow w3.heap.size #[.string q.name, .slice Q1 q.labels.length dQ1, .slice Q2 q.needs.length dQ2, .slice Q3 q.tols.length dQ3, .string q.req, .slice Q4 q.apart.length dQ4, .slice Q5 q.prefer.length dQ5, .int .i64 q.prio] := ⟨_, rfl⟩
  have oa : (w3.alloc (.cells #[.string ⟨#[]⟩, .slice none 0 0, .slice none 0 0, .slice none 0 0, .string ⟨#[]⟩, .slice none 0 0, .slice none 0 0, .int .i64 0] 31)).heap[w3.heap.size]? = some (.cells #[.string ⟨#[]⟩, .slice none 0 0, .slice none 0 0, .slice none 0 0, .string ⟨#[]⟩, .slice none 0 0, .slice none 0 0, .int .i64 0] 31 (0, 0)) := heap_alloc_new _ _
  have o4 : w4.heap[w3.heap.size]? = some (.cells #[.string q.name, .slice Q1 q.labels.length dQ1, .slice Q2 q.needs.length dQ2, .slice Q3 q.tols.length dQ3, .string q.req, .slice Q4 q.apart.length dQ4, .slice Q5 q.prefer.length dQ5, .int .i64 q.prio] 31 (0, 0)) := by rw [hw4]; exact setRow_heap _ _ _ _ _ _ oa
  have G4 := Lib.hid (show Below w3.heap.size w3 w4 by rw [hw4]; exact below_setRow (Below.alloc (Below.refl _ _) (Nat.le_refl _) _) (Nat.le_refl _) _)
  have HB4 := Lib.hid (HB3.out.trans (G4.out.mono HB3.out.size))
  have HC4 := Lib.hid (HC3.out.below G4.out)
  have HO4 := Lib.hid o4
  go_upto_region 4 with (refine wpList_store_row rfl 31 _ _ rfl w3.heap.size #[.string q.name, .slice Q1 q.labels.length dQ1, .slice Q2 q.needs.length dQ2, .slice Q3 q.tols.length dQ3, .string q.req, .slice Q4 q.apart.length dQ4, .slice Q5 q.prefer.length dQ5, .int .i64 q.prio] rfl rfl 31 #[.string ⟨#[]⟩, .slice none 0 0, .slice none 0 0, .slice none 0 0, .string ⟨#[]⟩, .slice none 0 0, .slice none 0 0, .int .i64 0] oa (by kernel_rfl) (by simp) (by simp [Value.oneCell']) ?_)
  rw [← hw4]
  clear hw4 oa o4
  go_wp2_with fail
  refine seekOk_k _ _ h own3 S node HC4.out s r HTH.out ?_
  intro cn w5 g5 hk5
  obtain ⟨vN1, vN2, vN3, rfl, hn1, hn2, hn3⟩ := hk5
  obtain ⟨N1, dN1, rfl, _, _⟩ := hn1.form
  obtain ⟨N2, dN2, rfl, _, _⟩ := hn2.form
  obtain ⟨N3, dN3, rfl, _, _⟩ := hn3.form
  have HK5 := Lib.hid (nodOk.bnd (show nodK w5 (fun k => w4.heap.size ≤ k) r.thing [.string r.thing.name, .slice N1 r.thing.labels.length dN1, .slice N2 r.thing.taints.length dN2, .slice N3 r.thing.cap.length dN3, .bool r.thing.cord] from ⟨_, _, _, rfl, hn1, hn2, hn3⟩))
  have HN3 := Lib.hid (hn3.bnd itmOk)
  have G5 := Lib.hid g5
  have HB5 := Lib.hid (HB4.out.trans (G5.out.mono HB4.out.size))
  clear g5 hn1 hn2 hn3
  obtain ⟨w6, hw6⟩ : ∃ w6, w6 = (w5.alloc (.cells #[.string ⟨#[]⟩, .slice none 0 0, .slice none 0 0, .slice none 0 0, .bool false] 26)).setRow w5.heap.size #[.string r.thing.name, .slice N1 r.thing.labels.length dN1, .slice N2 r.thing.taints.length dN2, .slice N3 r.thing.cap.length dN3, .bool r.thing.cord] := ⟨_, rfl⟩
  have oa : (w5.alloc (.cells #[.string ⟨#[]⟩, .slice none 0 0, .slice none 0 0, .slice none 0 0, .bool false] 26)).heap[w5.heap.size]? = some (.cells #[.string ⟨#[]⟩, .slice none 0 0, .slice none 0 0, .slice none 0 0, .bool false] 26 (0, 0)) := heap_alloc_new _ _
  have o6 : w6.heap[w5.heap.size]? = some (.cells #[.string r.thing.name, .slice N1 r.thing.labels.length dN1, .slice N2 r.thing.taints.length dN2, .slice N3 r.thing.cap.length dN3, .bool r.thing.cord] 26 (0, 0)) := by rw [hw6]; exact setRow_heap _ _ _ _ _ _ oa
  have G6 := Lib.hid (show Below w5.heap.size w5 w6 by rw [hw6]; exact below_setRow (Below.alloc (Below.refl _ _) (Nat.le_refl _) _) (Nat.le_refl _) _)
  have HB6 := Lib.hid (HB5.out.trans (G6.out.mono HB5.out.size))
  have G46 := Lib.hid (G5.out.trans (G6.out.mono G5.out.size))
  have HC6 := Lib.hid (HC4.out.below G46.out)
  have HO6 := Lib.hid o6
  have HP6 := Lib.hid ((G46.out.block w3.heap.size (Array.getElem?_eq_some_iff.1 HO4.out).1).trans HO4.out)
  go_upto_region 7 with (refine wpList_store_row rfl 26 _ _ rfl w5.heap.size #[.string r.thing.name, .slice N1 r.thing.labels.length dN1, .slice N2 r.thing.taints.length dN2, .slice N3 r.thing.cap.length dN3, .bool r.thing.cord] rfl rfl 26 #[.string ⟨#[]⟩, .slice none 0 0, .slice none 0 0, .slice none 0 0, .bool false] oa (by kernel_rfl) (by simp) (by simp [Value.oneCell']) ?_)
  rw [← hw6]
  clear hw6 oa o6
  go_upto_region 9 with fail
  go_cut [14] (fun v W => v = .bool false ∧ Below w6.heap.size w6 W)
  case first =>
    have HK := Lib.hid (show ∀ W, Below w6.heap.size w6 W → Below w6.heap.size w6 W ∧ W.cell? ⟨h.c, 3, none⟩ = some (.pointer (some ⟨h.t2, 0, none⟩)) ∧ W.cell? ⟨w3.heap.size, 0, none⟩ = some (.string q.name) from fun W g => ⟨g, (Mod.of_below g).cell' (cell_at HC6.out.cell rfl) (fun h => h), (Mod.of_below g).cell' (cell_at HP6.out rfl) (fun h => h)⟩)
    have YA := Lib.hid (Below.refl w6.heap.size w6).drew
    refine wp_region_held_drew (S := fun W => Below w6.heap.size w6 W ∧ W.cell? ⟨h.c, 3, none⟩ = some (.pointer (some ⟨h.t2, 0, none⟩)) ∧ W.cell? ⟨w3.heap.size, 0, none⟩ = some (.string q.name)) (by kernel_rfl) (HK.out _ YA.out) (fun hHeld => ?_)
    refine' wpAnyH_take (i := 0) (v := _) (List.getElem?_toArray.trans rfl) (by kernel_rfl) (by kernel_rfl) (by kernel_rfl) (fun _ _ _ h => h) (Or.inl ⟨by rfl, ?y0a⟩) hHeld ?r0a
    case y0a => intro w h; (try dsimp only at h); go_simp; (try with_reducible rfl)
    try simp only [Act.put, List.setIfInBounds_toArray, List.set_cons_zero, List.set_cons_succ]
    refine' wpAnyH_take (i := 1) (v := _) (List.getElem?_toArray.trans rfl) (by kernel_rfl) (by kernel_rfl) (by kernel_rfl) (fun _ _ _ h => h) (Or.inl ⟨by rfl, ?y1a⟩) hHeld ?r1a
    case y1a => intro w h; (try dsimp only at h); go_simp; (try with_reducible rfl)
    try simp only [Act.put, List.setIfInBounds_toArray, List.set_cons_zero, List.set_cons_succ]
    refine' wpAnyH_take (i := 2) (v := _) (List.getElem?_toArray.trans rfl) (by kernel_rfl) (by kernel_rfl) (by kernel_rfl) (fun _ _ _ h => h) (Or.inl ⟨by rfl, ?y2a⟩) hHeld ?r2a
    case y2a => intro w h; (try dsimp only at h); go_simp; (try with_reducible rfl)
    try simp only [Act.put, List.setIfInBounds_toArray, List.set_cons_zero, List.set_cons_succ]
    refine' wpAnyH_take (i := 3) (v := _) (List.getElem?_toArray.trans rfl) (by kernel_rfl) (by kernel_rfl) (by kernel_rfl) (fun _ _ _ h => h) (Or.inl ⟨by rfl, ?y3a⟩) hHeld ?r3a
    case y3a => intro w h; (try dsimp only at h); go_simp; (try with_reducible rfl)
    try simp only [Act.put, List.setIfInBounds_toArray, List.set_cons_zero, List.set_cons_succ]
    refine' wpAnyH_take (i := 4) (v := _) (List.getElem?_toArray.trans rfl) (by kernel_rfl) (by kernel_rfl) (by kernel_rfl) (fun _ _ _ h => h) (Or.inl ⟨by rfl, ?y4a⟩) hHeld ?r4a
    case y4a => intro w h; (try dsimp only at h); go_simp; (try with_reducible rfl)
    try simp only [Act.put, List.setIfInBounds_toArray, List.set_cons_zero, List.set_cons_succ]
    refine' wpAnyH_take (i := 5) (v := _) (List.getElem?_toArray.trans rfl) (by kernel_rfl) (by kernel_rfl) (by kernel_rfl) (fun _ _ _ h => h) (Or.inl ⟨by rfl, ?y5a⟩) hHeld ?r5a
    case y5a => intro w h; (try dsimp only at h); go_simp; (try with_reducible rfl)
    try simp only [Act.put, List.setIfInBounds_toArray, List.set_cons_zero, List.set_cons_succ]
    refine wpAnyH_ready (rs := [6, 11]) (by kernel_rfl) (by simp) ?_
    refine AllReadyH.cons (List.getElem?_toArray.trans rfl) (fun K hK => ?_) (AllReadyH.cons (List.getElem?_toArray.trans rfl) (fun K hK => ?_) AllReadyH.nil)
    · go_simp
      refine findB_none _ _ (Imm own3) h.t2 h.m2 h.v2 S.bound q.name (HC6.out.below YA.out).tb n1 n2 HFB.out ?_
      intro w7 g7
      have Y7 := Lib.hid (YA.out.trans (g7.mono YA.out.size))
      clear g7
      go_wp2_with fail
      refine hK.out _ _ (HK.out _ Y7.out) (fun hHeld => ?_)
      clear hK K
      try simp only [Act.put, List.setIfInBounds_toArray, List.set_cons_zero, List.set_cons_succ]
      refine' wpAnyH_take (i := 7) (v := _) (List.getElem?_toArray.trans rfl) (by kernel_rfl) (by kernel_rfl) (by kernel_rfl) (fun _ _ _ h => h) (Or.inl ⟨by rfl, ?y7b⟩) hHeld ?r7b
      case y7b => intro w h; (try dsimp only at h); go_simp; (try with_reducible rfl)
      try simp only [Act.put, List.setIfInBounds_toArray, List.set_cons_zero, List.set_cons_succ]
      refine' wpAnyH_take (i := 8) (v := _) (List.getElem?_toArray.trans rfl) (by kernel_rfl) (by kernel_rfl) (by kernel_rfl) (fun _ _ _ h => h) (Or.inl ⟨by rfl, ?y8b⟩) hHeld ?r8b
      case y8b => intro w h; (try dsimp only at h); go_simp; (try with_reducible rfl)
      try simp only [Act.put, List.setIfInBounds_toArray, List.set_cons_zero, List.set_cons_succ]
      refine' wpAnyH_take (i := 9) (v := _) (List.getElem?_toArray.trans rfl) (by kernel_rfl) (by kernel_rfl) (by kernel_rfl) (fun _ _ _ h => h) (Or.inl ⟨by rfl, ?y9b⟩) hHeld ?r9b
      case y9b => intro w h; (try dsimp only at h); go_simp; (try with_reducible rfl)
      try simp only [Act.put, List.setIfInBounds_toArray, List.set_cons_zero, List.set_cons_succ]
      refine' wpAnyH_take (i := 10) (v := _) (List.getElem?_toArray.trans rfl) (by kernel_rfl) (by kernel_rfl) (by kernel_rfl) (fun _ _ _ h => h) (Or.inl ⟨by rfl, ?y10b⟩) hHeld ?r10b
      case y10b => intro w h; (try dsimp only at h); go_simp; (try with_reducible rfl)
      try simp only [Act.put, List.setIfInBounds_toArray, List.set_cons_zero, List.set_cons_succ]
      refine wpAnyH_ready (rs := [11]) (by kernel_rfl) (by simp) ?_
      refine AllReadyH.cons (List.getElem?_toArray.trans rfl) (fun K hK => ?_) AllReadyH.nil
      go_simp
      have o7 : (w7.alloc (.cells #[.string ⟨#[]⟩, .slice none 0 0, .slice none 0 0, .slice none 0 0, .string ⟨#[]⟩, .slice none 0 0, .slice none 0 0, .int .i64 0, .string ⟨#[]⟩] 176)).heap[w7.heap.size]? = some (.cells #[.string ⟨#[]⟩, .slice none 0 0, .slice none 0 0, .slice none 0 0, .string ⟨#[]⟩, .slice none 0 0, .slice none 0 0, .int .i64 0, .string ⟨#[]⟩] 176 (0, 0)) := heap_alloc_new _ _
      have Y8 := Lib.hid (Y7.out.alloc Y7.out.size (.cells #[.string ⟨#[]⟩, .slice none 0 0, .slice none 0 0, .slice none 0 0, .string ⟨#[]⟩, .slice none 0 0, .slice none 0 0, .int .i64 0, .string ⟨#[]⟩] 176))
      refine hK.out _ _ (HK.out _ Y8.out) (fun hHeld => ?_)
      clear hK K
      try simp only [Act.put, List.setIfInBounds_toArray, List.set_cons_zero, List.set_cons_succ]
      refine' wpAnyH_take (i := 12) (v := _) (List.getElem?_toArray.trans rfl) (by kernel_rfl) (by kernel_rfl) (by kernel_rfl) (fun _ _ _ h => h) (Or.inl ⟨by rfl, ?y12c⟩) hHeld ?r12c
      case y12c => intro w h; (try dsimp only at h); go_simp; (try with_reducible rfl)
      try simp only [Act.put, List.setIfInBounds_toArray, List.set_cons_zero, List.set_cons_succ]
      refine wpAnyH_ready (rs := [13]) (by kernel_rfl) (by simp) ?_
      refine AllReadyH.cons (List.getElem?_toArray.trans rfl) (fun K hK => ?_) AllReadyH.nil
      refine wp_store_row 176 _ _ rfl w7.heap.size #[.string ⟨#[]⟩, .slice none 0 0, .slice none 0 0, .slice none 0 0, .string ⟨#[]⟩, .slice none 0 0, .slice none 0 0, .int .i64 0, .string ⟨#[]⟩] rfl rfl 176 #[.string ⟨#[]⟩, .slice none 0 0, .slice none 0 0, .slice none 0 0, .string ⟨#[]⟩, .slice none 0 0, .slice none 0 0, .int .i64 0, .string ⟨#[]⟩] o7 (by kernel_rfl) (by simp) (by simp [Value.oneCell']) ?_
      have Y9 := Lib.hid (show Below w6.heap.size w6 ((w7.alloc (.cells #[.string ⟨#[]⟩, .slice none 0 0, .slice none 0 0, .slice none 0 0, .string ⟨#[]⟩, .slice none 0 0, .slice none 0 0, .int .i64 0, .string ⟨#[]⟩] 176)).setRow w7.heap.size #[.string ⟨#[]⟩, .slice none 0 0, .slice none 0 0, .slice none 0 0, .string ⟨#[]⟩, .slice none 0 0, .slice none 0 0, .int .i64 0, .string ⟨#[]⟩]) from below_setRow Y8.out Y7.out.size _)
      refine hK.out _ _ (HK.out _ Y9.out) (fun hHeld => ?_)
      clear hK K
      try simp only [Act.put, List.setIfInBounds_toArray, List.set_cons_zero, List.set_cons_succ]
      refine' wpAnyH_take (i := 14) (v := _) (List.getElem?_toArray.trans rfl) (by kernel_rfl) (by kernel_rfl) (by kernel_rfl) (fun _ _ _ h => h) (Or.inl ⟨by rfl, ?y14c⟩) hHeld ?r14c
      case y14c => intro w h; (try dsimp only at h); go_simp; (try with_reducible rfl)
      try simp only [Act.put, List.setIfInBounds_toArray, List.set_cons_zero, List.set_cons_succ]
      refine wpAnyH_done (by kernel_rfl) ?_ _
      go_wp2_with fail
      go_meet
      exact ⟨rfl, Y9.out⟩
    · go_simp
      have YB := Lib.hid (show Below w6.heap.size w6 (w6.alloc (.cells #[.string ⟨#[]⟩, .slice none 0 0, .slice none 0 0, .slice none 0 0, .string ⟨#[]⟩, .slice none 0 0, .slice none 0 0, .int .i64 0, .string ⟨#[]⟩] 176)).drew from (Below.alloc (Below.refl _ _) (Nat.le_refl _) (.cells #[.string ⟨#[]⟩, .slice none 0 0, .slice none 0 0, .slice none 0 0, .string ⟨#[]⟩, .slice none 0 0, .slice none 0 0, .int .i64 0, .string ⟨#[]⟩] 176)).drew)
      have oB : (w6.alloc (.cells #[.string ⟨#[]⟩, .slice none 0 0, .slice none 0 0, .slice none 0 0, .string ⟨#[]⟩, .slice none 0 0, .slice none 0 0, .int .i64 0, .string ⟨#[]⟩] 176)).drew.heap[w6.heap.size]? = some (.cells #[.string ⟨#[]⟩, .slice none 0 0, .slice none 0 0, .slice none 0 0, .string ⟨#[]⟩, .slice none 0 0, .slice none 0 0, .int .i64 0, .string ⟨#[]⟩] 176 (0, 0)) := heap_alloc_new _ _
      refine hK.out _ _ (HK.out _ YB.out) (fun hHeld => ?_)
      clear hK K
      try simp only [Act.put, List.setIfInBounds_toArray, List.set_cons_zero, List.set_cons_succ]
      refine wpAnyH_ready (rs := [6]) (by kernel_rfl) (by simp) ?_
      refine AllReadyH.cons (List.getElem?_toArray.trans rfl) (fun K hK => ?_) AllReadyH.nil
      go_simp
      refine findB_none _ _ (Imm own3) h.t2 h.m2 h.v2 S.bound q.name (HC6.out.below YB.out).tb n1 n2 HFB.out ?_
      intro w7 g7
      have Y7 := Lib.hid (YB.out.trans (g7.mono YB.out.size))
      have o7 : w7.heap[w6.heap.size]? = some (.cells #[.string ⟨#[]⟩, .slice none 0 0, .slice none 0 0, .slice none 0 0, .string ⟨#[]⟩, .slice none 0 0, .slice none 0 0, .int .i64 0, .string ⟨#[]⟩] 176 (0, 0)) := (g7.block w6.heap.size (by simp)).trans oB
      clear g7 oB
      go_wp2_with fail
      refine hK.out _ _ (HK.out _ Y7.out) (fun hHeld => ?_)
      clear hK K
      try simp only [Act.put, List.setIfInBounds_toArray, List.set_cons_zero, List.set_cons_succ]
      refine' wpAnyH_take (i := 7) (v := _) (List.getElem?_toArray.trans rfl) (by kernel_rfl) (by kernel_rfl) (by kernel_rfl) (fun _ _ _ h => h) (Or.inl ⟨by rfl, ?y7f⟩) hHeld ?r7f
      case y7f => intro w h; (try dsimp only at h); go_simp; (try with_reducible rfl)
      try simp only [Act.put, List.setIfInBounds_toArray, List.set_cons_zero, List.set_cons_succ]
      refine' wpAnyH_take (i := 8) (v := _) (List.getElem?_toArray.trans rfl) (by kernel_rfl) (by kernel_rfl) (by kernel_rfl) (fun _ _ _ h => h) (Or.inl ⟨by rfl, ?y8f⟩) hHeld ?r8f
      case y8f => intro w h; (try dsimp only at h); go_simp; (try with_reducible rfl)
      try simp only [Act.put, List.setIfInBounds_toArray, List.set_cons_zero, List.set_cons_succ]
      refine' wpAnyH_take (i := 9) (v := _) (List.getElem?_toArray.trans rfl) (by kernel_rfl) (by kernel_rfl) (by kernel_rfl) (fun _ _ _ h => h) (Or.inl ⟨by rfl, ?y9f⟩) hHeld ?r9f
      case y9f => intro w h; (try dsimp only at h); go_simp; (try with_reducible rfl)
      try simp only [Act.put, List.setIfInBounds_toArray, List.set_cons_zero, List.set_cons_succ]
      refine' wpAnyH_take (i := 10) (v := _) (List.getElem?_toArray.trans rfl) (by kernel_rfl) (by kernel_rfl) (by kernel_rfl) (fun _ _ _ h => h) (Or.inl ⟨by rfl, ?y10f⟩) hHeld ?r10f
      case y10f => intro w h; (try dsimp only at h); go_simp; (try with_reducible rfl)
      try simp only [Act.put, List.setIfInBounds_toArray, List.set_cons_zero, List.set_cons_succ]
      refine' wpAnyH_take (i := 12) (v := _) (List.getElem?_toArray.trans rfl) (by kernel_rfl) (by kernel_rfl) (by kernel_rfl) (fun _ _ _ h => h) (Or.inl ⟨by rfl, ?y12f⟩) hHeld ?r12f
      case y12f => intro w h; (try dsimp only at h); go_simp; (try with_reducible rfl)
      try simp only [Act.put, List.setIfInBounds_toArray, List.set_cons_zero, List.set_cons_succ]
      refine wpAnyH_ready (rs := [13]) (by kernel_rfl) (by simp) ?_
      refine AllReadyH.cons (List.getElem?_toArray.trans rfl) (fun K hK => ?_) AllReadyH.nil
      refine wp_store_row 176 _ _ rfl w6.heap.size #[.string ⟨#[]⟩, .slice none 0 0, .slice none 0 0, .slice none 0 0, .string ⟨#[]⟩, .slice none 0 0, .slice none 0 0, .int .i64 0, .string ⟨#[]⟩] rfl rfl 176 #[.string ⟨#[]⟩, .slice none 0 0, .slice none 0 0, .slice none 0 0, .string ⟨#[]⟩, .slice none 0 0, .slice none 0 0, .int .i64 0, .string ⟨#[]⟩] o7 (by kernel_rfl) (by simp) (by simp [Value.oneCell']) ?_
      have Y9 := Lib.hid (show Below w6.heap.size w6 (w7.setRow w6.heap.size #[.string ⟨#[]⟩, .slice none 0 0, .slice none 0 0, .slice none 0 0, .string ⟨#[]⟩, .slice none 0 0, .slice none 0 0, .int .i64 0, .string ⟨#[]⟩]) from below_setRow Y7.out (Nat.le_refl _) _)
      refine hK.out _ _ (HK.out _ Y9.out) (fun hHeld => ?_)
      clear hK K
      try simp only [Act.put, List.setIfInBounds_toArray, List.set_cons_zero, List.set_cons_succ]
      refine' wpAnyH_take (i := 14) (v := _) (List.getElem?_toArray.trans rfl) (by kernel_rfl) (by kernel_rfl) (by kernel_rfl) (fun _ _ _ h => h) (Or.inl ⟨by rfl, ?y14f⟩) hHeld ?r14f
      case y14f => intro w h; (try dsimp only at h); go_simp; (try with_reducible rfl)
      try simp only [Act.put, List.setIfInBounds_toArray, List.set_cons_zero, List.set_cons_succ]
      refine wpAnyH_done (by kernel_rfl) ?_ _
      go_wp2_with fail
      go_meet
      exact ⟨rfl, Y9.out⟩
  obtain ⟨rfl, hB9⟩ := hcut
  rename World => w9
  have G9 := Lib.hid hB9
  have HB9 := Lib.hid (HB6.out.trans (G9.out.mono HB6.out.size))
  have HC9 := Lib.hid (HC6.out.below G9.out)
  have HP9 := Lib.hid ((G9.out.block w3.heap.size (Array.getElem?_eq_some_iff.1 HP6.out).1).trans HP6.out)
  have HN9 := Lib.hid ((G9.out.block w5.heap.size (Array.getElem?_eq_some_iff.1 HO6.out).1).trans HO6.out)
  have hgl : ¬ (2048 : Int) ≤ (S.bound.find.length : Int) := by omega
  clear hB9
  have y3 : w9.cell? ⟨h.c, 3, none⟩ = some (.pointer (some ⟨h.t2, 0, none⟩)) := cell_at HC9.out.cell rfl
  go_wp2_with fail
  refine lenB_k _ _ (Imm own3) h.t2 h.m2 h.v2 S.bound HC9.out.tb ?_
  go_upto_region 14 with fail
  clear y3 hgl
  have HQN := Lib.hid (HQ2.out.move itmOk (w' := w9) (fun k hk => (((G4.out.trans (G46.out.mono G4.out.size)).trans (G9.out.mono (Nat.le_trans G4.out.size G46.out.size))).block k hk.2)))
  have HNN := Lib.hid (HN3.out.move itmOk (w' := w9) (fun k hk => (G6.out.trans (G9.out.mono G6.out.size)).block k hk.2))
  have HSH := Lib.hid hsh
  clear hsh
  go_cut [15, 16] (fun a e W => a = .string ⟨#[]⟩ ∧ e = .int .i64 0 ∧ Below w9.heap.size w9 W)
  case first =>
    have HK := Lib.hid (show ∀ W, Below w9.heap.size w9 W → Below w9.heap.size w9 W ∧ W.cell? ⟨w3.heap.size, 2, none⟩ = some (.slice Q2 q.needs.length dQ2) ∧ W.cell? ⟨w5.heap.size, 3, none⟩ = some (.slice N3 r.thing.cap.length dN3) from fun W g => ⟨g, (Mod.of_below g).cell' (cell_at HP9.out rfl) (fun h => h), (Mod.of_below g).cell' (cell_at HN9.out rfl) (fun h => h)⟩)
    have YA := Lib.hid (Below.refl w9.heap.size w9).drew
    refine wp_region_held_drew (S := fun W => Below w9.heap.size w9 W ∧ W.cell? ⟨w3.heap.size, 2, none⟩ = some (.slice Q2 q.needs.length dQ2) ∧ W.cell? ⟨w5.heap.size, 3, none⟩ = some (.slice N3 r.thing.cap.length dN3)) (by kernel_rfl) (HK.out _ YA.out) (fun hHeld => ?_)
    refine' wpAnyH_take (i := 0) (v := _) (List.getElem?_toArray.trans rfl) (by kernel_rfl) (by kernel_rfl) (by kernel_rfl) (fun _ _ _ h => h) (Or.inl ⟨by rfl, ?y0d⟩) hHeld ?r0d
    case y0d => intro w h; (try dsimp only at h); go_simp; (try with_reducible rfl)
    try simp only [Act.put, List.setIfInBounds_toArray, List.set_cons_zero, List.set_cons_succ]
    refine' wpAnyH_take (i := 1) (v := _) (List.getElem?_toArray.trans rfl) (by kernel_rfl) (by kernel_rfl) (by kernel_rfl) (fun _ _ _ h => h) (Or.inl ⟨by rfl, ?y1d⟩) hHeld ?r1d
    case y1d => intro w h; (try dsimp only at h); go_simp; (try with_reducible rfl)
    try simp only [Act.put, List.setIfInBounds_toArray, List.set_cons_zero, List.set_cons_succ]
    refine' wpAnyH_take (i := 2) (v := _) (List.getElem?_toArray.trans rfl) (by kernel_rfl) (by kernel_rfl) (by kernel_rfl) (fun _ _ _ h => h) (Or.inl ⟨by rfl, ?y2d⟩) hHeld ?r2d
    case y2d => intro w h; (try dsimp only at h); go_simp; (try with_reducible rfl)
    try simp only [Act.put, List.setIfInBounds_toArray, List.set_cons_zero, List.set_cons_succ]
    refine' wpAnyH_take (i := 3) (v := _) (List.getElem?_toArray.trans rfl) (by kernel_rfl) (by kernel_rfl) (by kernel_rfl) (fun _ _ _ h => h) (Or.inl ⟨by rfl, ?y3d⟩) hHeld ?r3d
    case y3d => intro w h; (try dsimp only at h); go_simp; (try with_reducible rfl)
    try simp only [Act.put, List.setIfInBounds_toArray, List.set_cons_zero, List.set_cons_succ]
    refine' wpAnyH_take (i := 4) (v := _) (List.getElem?_toArray.trans rfl) (by kernel_rfl) (by kernel_rfl) (by kernel_rfl) (fun _ _ _ h => h) (Or.inl ⟨by rfl, ?y4d⟩) hHeld ?r4d
    case y4d => intro w h; (try dsimp only at h); go_simp; (try with_reducible rfl)
    try simp only [Act.put, List.setIfInBounds_toArray, List.set_cons_zero, List.set_cons_succ]
    refine' wpAnyH_take (i := 5) (v := _) (List.getElem?_toArray.trans rfl) (by kernel_rfl) (by kernel_rfl) (by kernel_rfl) (fun _ _ _ h => h) (Or.inl ⟨by rfl, ?y5d⟩) hHeld ?r5d
    case y5d => intro w h; (try dsimp only at h); go_simp; (try with_reducible rfl)
    try simp only [Act.put, List.setIfInBounds_toArray, List.set_cons_zero, List.set_cons_succ]
    refine' wpAnyH_take (i := 6) (v := _) (List.getElem?_toArray.trans rfl) (by kernel_rfl) (by kernel_rfl) (by kernel_rfl) (fun _ _ _ h => h) (Or.inl ⟨by rfl, ?y6d⟩) hHeld ?r6d
    case y6d => intro w h; (try dsimp only at h); go_simp; (try with_reducible rfl)
    try simp only [Act.put, List.setIfInBounds_toArray, List.set_cons_zero, List.set_cons_succ]
    refine' wpAnyH_take (i := 7) (v := _) (List.getElem?_toArray.trans rfl) (by kernel_rfl) (by kernel_rfl) (by kernel_rfl) (fun _ _ _ h => h) (Or.inl ⟨by rfl, ?y7d⟩) hHeld ?r7d
    case y7d => intro w h; (try dsimp only at h); go_simp; (try with_reducible rfl)
    try simp only [Act.put, List.setIfInBounds_toArray, List.set_cons_zero, List.set_cons_succ]
    refine wpAnyH_ready (rs := [8]) (by kernel_rfl) (by simp) ?_
    refine AllReadyH.cons (List.getElem?_toArray.trans rfl) (fun K hK => ?_) AllReadyH.nil
    go_simp
    refine sum_k _ _ h own3 S node (HC9.out.below YA.out) (by rw [HSO.out]; omega) ?_
    rw [HSO.out]
    intro vs wa ga hsa
    obtain ⟨As, ds, es, _, _⟩ := hsa.form
    subst es
    have Ya := Lib.hid (YA.out.trans (ga.mono YA.out.size))
    have HSA := Lib.hid (hsa.bnd itmOk)
    clear ga hsa
    go_wp2_with fail
    refine hK.out _ _ (HK.out _ Ya.out) (fun hHeld => ?_)
    clear hK K
    try simp only [Act.put, List.setIfInBounds_toArray, List.set_cons_zero, List.set_cons_succ]
    refine wpAnyH_ready (rs := [9]) (by kernel_rfl) (by simp) ?_
    refine AllReadyH.cons (List.getElem?_toArray.trans rfl) (fun K hK => ?_) AllReadyH.nil
    go_simp
    refine qshort_k _ _ (fun k => k < wa.heap.size) _ _ _ q.needs r.thing.cap so (fun k hk => hk) (((HQN.out.bnd itmOk).below itmOk Ya.out (fun k hk => hk.2)).mono itmOk (fun k hk => Nat.lt_of_lt_of_le hk.2 Ya.out.size)) GQ.out (((HNN.out.bnd itmOk).below itmOk Ya.out (fun k hk => hk.2)).mono itmOk (fun k hk => Nat.lt_of_lt_of_le hk.2 Ya.out.size)) GC.out (HSA.out.mono itmOk (fun k hk => hk.2)) (by rw [← HSO.out]; exact GS.out) ?_
    rw [← HSO.out, HSH.out]
    intro wb gb
    have Yb := Lib.hid (Ya.out.trans (gb.mono Ya.out.size))
    clear gb
    go_wp2_with fail
    refine hK.out _ _ (HK.out _ Yb.out) (fun hHeld => ?_)
    clear hK K
    try simp only [Act.put, List.setIfInBounds_toArray, List.set_cons_zero, List.set_cons_succ]
    refine' wpAnyH_take (i := 10) (v := _) (List.getElem?_toArray.trans rfl) (by kernel_rfl) (by kernel_rfl) (by kernel_rfl) (fun _ _ _ h => h) (Or.inl ⟨by rfl, ?y10e⟩) hHeld ?r10e
    case y10e => intro w h; (try dsimp only at h); go_simp; (try with_reducible rfl)
    try simp only [Act.put, List.setIfInBounds_toArray, List.set_cons_zero, List.set_cons_succ]
    refine' wpAnyH_take (i := 11) (v := _) (List.getElem?_toArray.trans rfl) (by kernel_rfl) (by kernel_rfl) (by kernel_rfl) (fun _ _ _ h => h) (Or.inl ⟨by rfl, ?y11e⟩) hHeld ?r11e
    case y11e => intro w h; (try dsimp only at h); go_simp; (try with_reducible rfl)
    try simp only [Act.put, List.setIfInBounds_toArray, List.set_cons_zero, List.set_cons_succ]
    refine' wpAnyH_take (i := 12) (v := _) (List.getElem?_toArray.trans rfl) (by kernel_rfl) (by kernel_rfl) (by kernel_rfl) (fun _ _ _ h => h) (Or.inl ⟨by rfl, ?y12e⟩) hHeld ?r12e
    case y12e => intro w h; (try dsimp only at h); go_simp; (try with_reducible rfl)
    try simp only [Act.put, List.setIfInBounds_toArray, List.set_cons_zero, List.set_cons_succ]
    refine' wpAnyH_take (i := 13) (v := _) (List.getElem?_toArray.trans rfl) (by kernel_rfl) (by kernel_rfl) (by kernel_rfl) (fun _ _ _ h => h) (Or.inl ⟨by rfl, ?y13e⟩) hHeld ?r13e
    case y13e => intro w h; (try dsimp only at h); go_simp; (try with_reducible rfl)
    try simp only [Act.put, List.setIfInBounds_toArray, List.set_cons_zero, List.set_cons_succ]
    refine' wpAnyH_take (i := 14) (v := _) (List.getElem?_toArray.trans rfl) (by kernel_rfl) (by kernel_rfl) (by kernel_rfl) (fun _ _ _ h => h) (Or.inl ⟨by rfl, ?y14e⟩) hHeld ?r14e
    case y14e => intro w h; (try dsimp only at h); go_simp; (try with_reducible rfl)
    try simp only [Act.put, List.setIfInBounds_toArray, List.set_cons_zero, List.set_cons_succ]
    refine wpAnyH_done (by kernel_rfl) ?_ _
    go_wp2_with fail
    go_meet
    exact ⟨rfl, rfl, Yb.out⟩
  obtain ⟨rfl, rfl, hB10⟩ := hcut
  rename World => w10
  have G10 := Lib.hid hB10
  have HB10 := Lib.hid (HB9.out.trans (G10.out.mono HB9.out.size))
  have HC10 := Lib.hid (HC9.out.below G10.out)
  have HP10 := Lib.hid ((G10.out.block w3.heap.size (Array.getElem?_eq_some_iff.1 HP9.out).1).trans HP9.out)
  have HN10 := Lib.hid ((G10.out.block w5.heap.size (Array.getElem?_eq_some_iff.1 HN9.out).1).trans HN9.out)
  have HG13 := Lib.hid ((((G3.out.trans (G4.out.mono G3.out.size)).trans (G46.out.mono (Nat.le_trans G3.out.size G4.out.size))).trans (G9.out.mono (Nat.le_trans (Nat.le_trans G3.out.size G4.out.size) G46.out.size))).trans (G10.out.mono (Nat.le_trans (Nat.le_trans (Nat.le_trans G3.out.size G4.out.size) G46.out.size) G9.out.size)))
  have HZ10 := Lib.hid ((HG13.out.block (w.heap.size + 1) (by omega)).trans HO2.out)
  clear hB10
  have HK10 := Lib.hid (show plcK w10 (Imm own3) (q, node) [.string q.name, .slice Q1 q.labels.length dQ1, .slice Q2 q.needs.length dQ2, .slice Q3 q.tols.length dQ3, .string q.req, .slice Q4 q.apart.length dQ4, .slice Q5 q.prefer.length dQ5, .int .i64 q.prio, .string node] from ⟨[.string q.name, .slice Q1 q.labels.length dQ1, .slice Q2 q.needs.length dQ2, .slice Q3 q.tols.length dQ3, .string q.req, .slice Q4 q.apart.length dQ4, .slice Q5 q.prefer.length dQ5, .int .i64 q.prio], rfl, pdOk.mono (pdOk.move HK3.out (fun k hk => ((((G4.out.trans (G46.out.mono G4.out.size)).trans (G9.out.mono (Nat.le_trans G4.out.size G46.out.size))).trans (G10.out.mono (Nat.le_trans (Nat.le_trans G4.out.size G46.out.size) G9.out.size))).block k hk.2))) (fun k hk => HI3.out k hk)⟩)
  have tg : ∀ k t, own3 k = some t → t ≠ .t2 → t ≠ .m2 → t ≠ .r2 → ¬ (k = h.t2 ∨ k = h.m2 ∨ h.v2.ownBlock = some k) := fun k t hk h1 h2 h3 hh => by
    rcases hh with rfl | rfl | hh
    · rw [HC10.out.ot2] at hk; exact h1 (Option.some.inj hk).symm
    · rw [HC10.out.om2] at hk; exact h2 (Option.some.inj hk).symm
    · rw [HC10.out.ov2 k hh] at hk; exact h3 (Option.some.inj hk).symm
  have tn : ∀ k, own3 k = none → ¬ (k = h.t2 ∨ k = h.m2 ∨ h.v2.ownBlock = some k) := fun k hk hh => by
    rcases hh with rfl | rfl | hh
    · rw [HC10.out.ot2] at hk; cases hk
    · rw [HC10.out.om2] at hk; cases hk
    · rw [HC10.out.ov2 k hh] at hk; cases hk
  have TG := Lib.hid tg
  have TN := Lib.hid tn
  have N8 := Lib.hid (show own3 w3.heap.size = none from HC3.out.lim _ (Nat.le_refl _))
  have N11 := Lib.hid (show own3 w5.heap.size = none from HC3.out.lim _ (Nat.le_trans G4.out.size G5.out.size))
  have NB := Lib.hid (show own3 (w.heap.size + 1) = none by
    rw [HOW3.out]
    unfold immIn
    rw [if_neg (by omega)]
    exact HC.out.lim _ (by omega))
  clear tg tn
  go_upto_region 17 with fail
  go_cut [17] (fun v W => v = .int .i64 (freeT S.bound : Int) ∧ ∃ vr, Mod (fun k => k = h.t2 ∨ k = h.m2 ∨ h.v2.ownBlock = some k) w10 W ∧ PlcT own3 W h.t2 h.m2 vr (putT S.bound q.name (q, node)) ∧ (vr.ownBlock = h.v2.ownBlock ∨ ∃ b, vr.ownBlock = some b ∧ w10.heap.size ≤ b))
  case first =>
    have HK := Lib.hid (show ∀ W, Below w10.heap.size w10 W → W.cell? ⟨h.c, 3, none⟩ = some (.pointer (some ⟨h.t2, 0, none⟩)) ∧ W.cell? ⟨w3.heap.size, 0, none⟩ = some (.string q.name) ∧ W.rangeAt w3.heap.size 0 [.string q.name, .slice Q1 q.labels.length dQ1, .slice Q2 q.needs.length dQ2, .slice Q3 q.tols.length dQ3, .string q.req, .slice Q4 q.apart.length dQ4, .slice Q5 q.prefer.length dQ5, .int .i64 q.prio] from fun W g => ⟨(Mod.of_below g).cell' (cell_at HC10.out.cell rfl) (fun h => h), (Mod.of_below g).cell' (cell_at HP10.out rfl) (fun h => h), by
      have h := World.rangeAt_of_block ((g.block w3.heap.size (Array.getElem?_eq_some_iff.1 HP10.out).1).trans HP10.out) 0 8
      simpa using h⟩)
    have YA := Lib.hid (Below.refl w10.heap.size w10).drew
    refine wp_region_held_drew (S := fun W => W.cell? ⟨h.c, 3, none⟩ = some (.pointer (some ⟨h.t2, 0, none⟩)) ∧ W.cell? ⟨w3.heap.size, 0, none⟩ = some (.string q.name) ∧ W.rangeAt w3.heap.size 0 [.string q.name, .slice Q1 q.labels.length dQ1, .slice Q2 q.needs.length dQ2, .slice Q3 q.tols.length dQ3, .string q.req, .slice Q4 q.apart.length dQ4, .slice Q5 q.prefer.length dQ5, .int .i64 q.prio]) (by kernel_rfl) (HK.out _ YA.out) (fun hHeld => ?_)
    refine' wpAnyH_take (i := 0) (v := _) (List.getElem?_toArray.trans rfl) (by kernel_rfl) (by kernel_rfl) (by kernel_rfl) (fun _ _ _ h => h) (Or.inl ⟨by rfl, ?y0g⟩) hHeld ?r0g
    case y0g => intro w h; (try dsimp only at h); go_simp; (try with_reducible rfl)
    try simp only [Act.put, List.setIfInBounds_toArray, List.set_cons_zero, List.set_cons_succ]
    refine' wpAnyH_take (i := 1) (v := _) (List.getElem?_toArray.trans rfl) (by kernel_rfl) (by kernel_rfl) (by kernel_rfl) (fun _ _ _ h => h) (Or.inl ⟨by rfl, ?y1g⟩) hHeld ?r1g
    case y1g => intro w h; (try dsimp only at h); go_simp; (try with_reducible rfl)
    try simp only [Act.put, List.setIfInBounds_toArray, List.set_cons_zero, List.set_cons_succ]
    refine' wpAnyH_take (i := 2) (v := _) (List.getElem?_toArray.trans rfl) (by kernel_rfl) (by kernel_rfl) (by kernel_rfl) (fun _ _ _ h => h) (Or.inl ⟨by rfl, ?y2g⟩) hHeld ?r2g
    case y2g => intro w h; (try dsimp only at h); go_simp; (try with_reducible rfl)
    try simp only [Act.put, List.setIfInBounds_toArray, List.set_cons_zero, List.set_cons_succ]
    refine' wpAnyH_take (i := 3) (v := _) (List.getElem?_toArray.trans rfl) (by kernel_rfl) (by kernel_rfl) (by kernel_rfl) (fun _ _ _ h => h) (Or.inl ⟨by rfl, ?y3g⟩) hHeld ?r3g
    case y3g => intro w h; (try dsimp only at h); go_simp; (try with_reducible rfl)
    try simp only [Act.put, List.setIfInBounds_toArray, List.set_cons_zero, List.set_cons_succ]
    refine' wpAnyH_take (i := 4) (v := _) (List.getElem?_toArray.trans rfl) (by kernel_rfl) (by kernel_rfl) (by kernel_rfl) (fun _ _ _ h => h) (Or.inl ⟨by rfl, ?y4g⟩) hHeld ?r4g
    case y4g => intro w h; (try dsimp only at h); go_simp; (try with_reducible rfl)
    try simp only [Act.put, List.setIfInBounds_toArray, List.set_cons_zero, List.set_cons_succ]
    refine' wpAnyH_take (i := 5) (v := _) (List.getElem?_toArray.trans rfl) (by kernel_rfl) (by kernel_rfl) (by kernel_rfl) (fun _ _ _ h => h) (Or.inl ⟨by rfl, ?y5g⟩) hHeld ?r5g
    case y5g => intro w h; (try dsimp only at h); go_simp; (try with_reducible rfl)
    try simp only [Act.put, List.setIfInBounds_toArray, List.set_cons_zero, List.set_cons_succ]
    refine' wpAnyH_take (i := 6) (v := _) (List.getElem?_toArray.trans rfl) (by kernel_rfl) (by kernel_rfl) (by kernel_rfl) (fun _ _ _ h => h) (yieldsIf_load_mid (by rfl) 31 _ rfl (w3.heap.size) 0 rfl [.string q.name, .slice Q1 q.labels.length dQ1, .slice Q2 q.needs.length dQ2, .slice Q3 q.tols.length dQ3, .string q.req, .slice Q4 q.apart.length dQ4, .slice Q5 q.prefer.length dQ5, .int .i64 q.prio] _ (fun V hV => hV.2.2) Tryz.underlying31 rfl (by kernel_rfl)) hHeld ?_
    try simp only [Act.put, List.setIfInBounds_toArray, List.set_cons_zero, List.set_cons_succ]
    refine' wpAnyH_take (i := 7) (v := _) (List.getElem?_toArray.trans rfl) (by kernel_rfl) (by kernel_rfl) (by kernel_rfl) (fun _ _ _ h => h) (Or.inl ⟨by rfl, ?y7g⟩) hHeld ?r7g
    case y7g => intro w h; (try dsimp only at h); go_simp; (try with_reducible rfl)
    try simp only [Act.put, List.setIfInBounds_toArray, List.set_cons_zero, List.set_cons_succ]
    refine' wpAnyH_take (i := 8) (v := _) (List.getElem?_toArray.trans rfl) (by kernel_rfl) (by kernel_rfl) (by kernel_rfl) (fun _ _ _ h => h) (Or.inl ⟨by rfl, ?y8g⟩) hHeld ?r8g
    case y8g => intro w h; (try dsimp only at h); go_simp; (try with_reducible rfl)
    try simp only [Act.put, List.setIfInBounds_toArray, List.set_cons_zero, List.set_cons_succ]
    refine wpAnyH_ready (rs := [9]) (by kernel_rfl) (by simp) ?_
    refine AllReadyH.cons (List.getElem?_toArray.trans rfl) (fun K hK => ?_) AllReadyH.nil
    go_simp
    refine putB_k _ _ (Imm own3) h.t2 h.m2 h.v2 S.bound q.name (HC10.out.below YA.out).tb n1 n2 HFB.out hlb hlow hrl (fun e => by unfold Imm at e; rw [HC10.out.ot2] at e; cases e) (fun e => by unfold Imm at e; rw [HC10.out.om2] at e; cases e) (q, node) [.string q.name, .slice Q1 q.labels.length dQ1, .slice Q2 q.needs.length dQ2, .slice Q3 q.tols.length dQ3, .string q.req, .slice Q4 q.apart.length dQ4, .slice Q5 q.prefer.length dQ5, .int .i64 q.prio, .string node] (plcOk.move HK10.out (fun k hk => rfl)) ?_
    intro vr w11 hm11 ht11 hv11
    have M11 := Lib.hid (show Mod (fun k => k = h.t2 ∨ k = h.m2 ∨ h.v2.ownBlock = some k) w10 w11 from ⟨hm11.os, hm11.tape, hm11.output, hm11.size, hm11.block⟩)
    have T11 := Lib.hid ht11
    have V11 := Lib.hid hv11
    clear hm11 ht11 hv11
    go_wp2_with fail
    refine hK.out _ _ ⟨M11.out.cell' (cell_at HC10.out.cell rfl) (TG.out _ _ HC10.out.oc (fun e => by cases e) (fun e => by cases e) (fun e => by cases e)), M11.out.cell' (cell_at HP10.out rfl) (TN.out _ N8.out), by
      have h := World.rangeAt_of_block ((M11.out.block w3.heap.size (Array.getElem?_eq_some_iff.1 HP10.out).1 (TN.out _ N8.out)).trans HP10.out) 0 8
      simpa using h⟩ (fun hHeld => ?_)
    clear hK K
    try simp only [Act.put, List.setIfInBounds_toArray, List.set_cons_zero, List.set_cons_succ]
    refine' wpAnyH_take (i := 10) (v := _) (List.getElem?_toArray.trans rfl) (by kernel_rfl) (by kernel_rfl) (by kernel_rfl) (fun _ _ _ h => h) (Or.inl ⟨by rfl, ?y10h⟩) hHeld ?r10h
    case y10h => intro w h; (try dsimp only at h); go_simp; (try with_reducible rfl)
    try simp only [Act.put, List.setIfInBounds_toArray, List.set_cons_zero, List.set_cons_succ]
    refine' wpAnyH_take (i := 11) (v := _) (List.getElem?_toArray.trans rfl) (by kernel_rfl) (by kernel_rfl) (by kernel_rfl) (fun _ _ _ h => h) (Or.inl ⟨by rfl, ?y11h⟩) hHeld ?r11h
    case y11h => intro w h; (try dsimp only at h); go_simp; (try with_reducible rfl)
    try simp only [Act.put, List.setIfInBounds_toArray, List.set_cons_zero, List.set_cons_succ]
    refine' wpAnyH_take (i := 12) (v := _) (List.getElem?_toArray.trans rfl) (by kernel_rfl) (by kernel_rfl) (by kernel_rfl) (fun _ _ _ h => h) (Or.inl ⟨by rfl, ?y12h⟩) hHeld ?r12h
    case y12h => intro w h; (try dsimp only at h); go_simp; (try with_reducible rfl)
    try simp only [Act.put, List.setIfInBounds_toArray, List.set_cons_zero, List.set_cons_succ]
    refine' wpAnyH_take (i := 13) (v := _) (List.getElem?_toArray.trans rfl) (by kernel_rfl) (by kernel_rfl) (by kernel_rfl) (fun _ _ _ h => h) (Or.inl ⟨by rfl, ?y13h⟩) hHeld ?r13h
    case y13h => intro w h; (try dsimp only at h); go_simp; (try with_reducible rfl)
    try simp only [Act.put, List.setIfInBounds_toArray, List.set_cons_zero, List.set_cons_succ]
    refine' wpAnyH_take (i := 14) (v := _) (List.getElem?_toArray.trans rfl) (by kernel_rfl) (by kernel_rfl) (by kernel_rfl) (fun _ _ _ h => h) (Or.inl ⟨by rfl, ?y14h⟩) hHeld ?r14h
    case y14h => intro w h; (try dsimp only at h); go_simp; (try with_reducible rfl)
    try simp only [Act.put, List.setIfInBounds_toArray, List.set_cons_zero, List.set_cons_succ]
    refine wpAnyH_done (by kernel_rfl) ?_ _
    go_wp2_with fail
    go_meet
    exact ⟨rfl, vr, M11.out, T11.out, V11.out⟩
  obtain ⟨rfl, vr, hM11, hT11, hV11⟩ := hcut
  rename World => w11
  obtain ⟨hc11, he11⟩ := HC10.out.setB hM11 hT11 hV11
  obtain ⟨own11, hown11⟩ : ∃ o, o = putO own3 vr .r2 := ⟨_, rfl⟩
  rw [← hown11] at hc11 he11
  obtain ⟨h11, hh11⟩ : ∃ q : CHdr, q = { h with v2 := vr } := ⟨_, rfl⟩
  rw [← hh11] at hc11
  have hcc : h11.c = h.c := by rw [hh11]
  have HC11 := Lib.hid hc11
  have HE11 := Lib.hid he11
  have HM11 := Lib.hid hM11
  have p11 := (hM11.block w3.heap.size (Array.getElem?_eq_some_iff.1 HP10.out).1 (TN.out _ N8.out)).trans HP10.out
  have q11 := (hM11.block w5.heap.size (Array.getElem?_eq_some_iff.1 HN10.out).1 (TN.out _ N11.out)).trans HN10.out
  have r11 := (hM11.block (w.heap.size + 1) (Array.getElem?_eq_some_iff.1 HZ10.out).1 (TN.out _ NB.out)).trans HZ10.out
  have HP11 := Lib.hid p11
  have HN11 := Lib.hid q11
  have HZ11 := Lib.hid r11
  have ext : ∀ k, own3 k = none → k < w10.heap.size → own11 k = none := fun k hk hl => (HE11.out k hl).trans hk
  have M8 := Lib.hid (ext _ N8.out (Array.getElem?_eq_some_iff.1 HP10.out).1)
  have M11' := Lib.hid (ext _ N11.out (Array.getElem?_eq_some_iff.1 HN10.out).1)
  have MB := Lib.hid (ext _ NB.out (Array.getElem?_eq_some_iff.1 HZ10.out).1)
  have HQ11 := Lib.hid (show pdK w11 (fun k => w1.heap.size ≤ k ∧ k < w3.heap.size) q [.string q.name, .slice Q1 q.labels.length dQ1, .slice Q2 q.needs.length dQ2, .slice Q3 q.tols.length dQ3, .string q.req, .slice Q4 q.apart.length dQ4, .slice Q5 q.prefer.length dQ5, .int .i64 q.prio] from pdOk.move (w := w10) (pdOk.move HK3.out (fun k hk => ((((G4.out.trans (G46.out.mono G4.out.size)).trans (G9.out.mono (Nat.le_trans G4.out.size G46.out.size))).trans (G10.out.mono (Nat.le_trans (Nat.le_trans G4.out.size G46.out.size) G9.out.size))).block k hk.2))) (fun k hk => hM11.block k (HC10.out.lt (HI3.out k hk)) (TG.out _ _ (HI3.out k hk) (fun e => by cases e) (fun e => by cases e) (fun e => by cases e))))
  have z311 : w3.heap.size ≤ w11.heap.size := Nat.le_trans (Nat.le_trans (Nat.le_trans (Nat.le_trans G4.out.size G46.out.size) G9.out.size) G10.out.size) hM11.size
  have z1011 : w10.heap.size ≤ w11.heap.size := hM11.size
  have HR11 := Lib.hid (show nodK w11 (fun k => w4.heap.size ≤ k ∧ k < w5.heap.size) r.thing [.string r.thing.name, .slice N1 r.thing.labels.length dN1, .slice N2 r.thing.taints.length dN2, .slice N3 r.thing.cap.length dN3, .bool r.thing.cord] from nodOk.move (w := w10) (nodOk.move HK5.out (fun k hk => (((G6.out.trans (G9.out.mono G6.out.size)).trans (G10.out.mono (Nat.le_trans G6.out.size G9.out.size))).block k hk.2))) (fun k hk => hM11.block k (Nat.lt_of_lt_of_le hk.2 (Nat.le_trans (Nat.le_trans G6.out.size G9.out.size) G10.out.size)) (TN.out _ (HC3.out.lim _ (Nat.le_trans G4.out.size hk.1)))))
  clear hM11 hT11 hV11 hc11 he11 p11 q11 r11 ext
  have hs11 : (S.sums node).getD [] = so := HSO.out
  go_upto_region 18 with fail
  have HK18 := Lib.hid (show ∀ W : World, W.heap[w3.heap.size]? = w11.heap[w3.heap.size]? → W.rangeAt w3.heap.size 0 [.string q.name, .slice Q1 q.labels.length dQ1, .slice Q2 q.needs.length dQ2, .slice Q3 q.tols.length dQ3, .string q.req, .slice Q4 q.apart.length dQ4, .slice Q5 q.prefer.length dQ5, .int .i64 q.prio] from fun W hW => by
    have h := World.rangeAt_of_block (hW.trans HP11.out) 0 8
    simpa using h)
  refine wp_region_held_drew (S := fun W => W.rangeAt w3.heap.size 0 [.string q.name, .slice Q1 q.labels.length dQ1, .slice Q2 q.needs.length dQ2, .slice Q3 q.tols.length dQ3, .string q.req, .slice Q4 q.apart.length dQ4, .slice Q5 q.prefer.length dQ5, .int .i64 q.prio]) (by kernel_rfl) (HK18.out _ rfl) (fun hHeld => ?_)
  refine' wpAnyH_take (i := 0) (v := _) (List.getElem?_toArray.trans rfl) (by kernel_rfl) (by kernel_rfl) (by kernel_rfl) (fun _ _ _ h => h) (Or.inl ⟨by rfl, ?y0k⟩) hHeld ?r0k
  case y0k => intro w h; (try dsimp only at h); go_simp; (try with_reducible rfl)
  try simp only [Act.put, List.setIfInBounds_toArray, List.set_cons_zero, List.set_cons_succ]
  refine' wpAnyH_take (i := 1) (v := _) (List.getElem?_toArray.trans rfl) (by kernel_rfl) (by kernel_rfl) (by kernel_rfl) (fun _ _ _ h => h) (Or.inl ⟨by rfl, ?y1k⟩) hHeld ?r1k
  case y1k => intro w h; (try dsimp only at h); go_simp; (try with_reducible rfl)
  try simp only [Act.put, List.setIfInBounds_toArray, List.set_cons_zero, List.set_cons_succ]
  refine' wpAnyH_take (i := 2) (v := _) (List.getElem?_toArray.trans rfl) (by kernel_rfl) (by kernel_rfl) (by kernel_rfl) (fun _ _ _ h => h) (Or.inl ⟨by rfl, ?y2k⟩) hHeld ?r2k
  case y2k => intro w h; (try dsimp only at h); go_simp; (try with_reducible rfl)
  try simp only [Act.put, List.setIfInBounds_toArray, List.set_cons_zero, List.set_cons_succ]
  refine' wpAnyH_take (i := 3) (v := _) (List.getElem?_toArray.trans rfl) (by kernel_rfl) (by kernel_rfl) (by kernel_rfl) (fun _ _ _ h => h) (Or.inl ⟨by rfl, ?y3k⟩) hHeld ?r3k
  case y3k => intro w h; (try dsimp only at h); go_simp; (try with_reducible rfl)
  try simp only [Act.put, List.setIfInBounds_toArray, List.set_cons_zero, List.set_cons_succ]
  refine' wpAnyH_take (i := 4) (v := _) (List.getElem?_toArray.trans rfl) (by kernel_rfl) (by kernel_rfl) (by kernel_rfl) (fun _ _ _ h => h) (yieldsIf_load_mid (by rfl) 31 _ rfl (w3.heap.size) 0 rfl [.string q.name, .slice Q1 q.labels.length dQ1, .slice Q2 q.needs.length dQ2, .slice Q3 q.tols.length dQ3, .string q.req, .slice Q4 q.apart.length dQ4, .slice Q5 q.prefer.length dQ5, .int .i64 q.prio] _ (fun V hV => hV) Tryz.underlying31 rfl (by kernel_rfl)) hHeld ?_
  try simp only [Act.put, List.setIfInBounds_toArray, List.set_cons_zero, List.set_cons_succ]
  refine wpAnyH_ready (rs := [5]) (by kernel_rfl) (by simp) ?_
  refine AllReadyH.cons (List.getElem?_toArray.trans rfl) (fun K hK => ?_) AllReadyH.nil
  go_simp
  rw [← hcc]
  refine enterNew_k _ _ h11 own11 { S with bound := putT S.bound q.name (q, node) } node (HC11.out.below (Below.refl _ _).drew) (fun k => w1.heap.size ≤ k ∧ k < w3.heap.size) (fun k hk => Nat.lt_of_lt_of_le hk.2 z311) q [.string q.name, .slice Q1 q.labels.length dQ1, .slice Q2 q.needs.length dQ2, .slice Q3 q.tols.length dQ3, .string q.req, .slice Q4 q.apart.length dQ4, .slice Q5 q.prefer.length dQ5, .int .i64 q.prio] (pdOk.move HQ11.out (fun k hk => rfl)) HNO.out GS.out GQ.out HLN.out HFT.out ?_
  intro own12 w12 hc12 he12 hm12
  have HC12 := Lib.hid (show CluAt w12 h11 own12 (bindS S node q) from hc12)
  have HE12 := Lib.hid (show Ext' w11 own11 own12 from he12)
  have HM12 := Lib.hid (show Mod (Led own11) w11 w12 from ⟨hm12.os, hm12.tape, hm12.output, hm12.size, hm12.block⟩)
  have ln : ∀ k, own11 k = none → ¬ Led own11 k := fun k hk hh => by
    rcases hh with hh | hh | ⟨a, hh⟩ <;> (rw [hk] at hh; cases hh)
  have li : ∀ k, own11 k = some .imm → ¬ Led own11 k := fun k hk hh => by
    rcases hh with hh | hh | ⟨a, hh⟩ <;> (rw [hk] at hh; cases hh)
  have p12 := (HM12.out.block w3.heap.size (Array.getElem?_eq_some_iff.1 HP11.out).1 (ln _ M8.out)).trans HP11.out
  have q12 := (HM12.out.block w5.heap.size (Array.getElem?_eq_some_iff.1 HN11.out).1 (ln _ M11'.out)).trans HN11.out
  have r12 := (HM12.out.block (w.heap.size + 1) (Array.getElem?_eq_some_iff.1 HZ11.out).1 (ln _ MB.out)).trans HZ11.out
  have HP12 := Lib.hid p12
  have HN12 := Lib.hid q12
  have HZ12 := Lib.hid r12
  have HQ12 := Lib.hid (pdOk.move (w' := w12) HQ11.out (fun k hk => HM12.out.block k (Nat.lt_of_lt_of_le hk.2 z311) (li k ((HE11.out k (Nat.lt_of_lt_of_le hk.2 (Nat.le_trans (Nat.le_trans (Nat.le_trans G4.out.size G46.out.size) G9.out.size) G10.out.size))).trans (HI3.out k hk)))))
  have HR12 := Lib.hid (nodOk.move (w' := w12) HR11.out (fun k hk => HM12.out.block k (Nat.lt_of_lt_of_le hk.2 (Nat.le_trans (Nat.le_trans (Nat.le_trans G6.out.size G9.out.size) G10.out.size) z1011)) (ln k ((HE11.out k (Nat.lt_of_lt_of_le hk.2 (Nat.le_trans (Nat.le_trans G6.out.size G9.out.size) G10.out.size))).trans (HC3.out.lim _ (Nat.le_trans G4.out.size hk.1))))))
  have z1112 : w11.heap.size ≤ w12.heap.size := HM12.out.size
  have zb12 : own12 (w.heap.size + 1) = none := (HE12.out _ (Array.getElem?_eq_some_iff.1 HZ11.out).1).trans MB.out
  clear hc12 he12 hm12 ln li p12 q12 r12
  go_wp2_with fail
  refine hK.out _ _ (by
    have h := World.rangeAt_of_block HP12.out 0 8
    simpa using h) (fun hHeld => ?_)
  clear hK K
  try simp only [Act.put, List.setIfInBounds_toArray, List.set_cons_zero, List.set_cons_succ]
  refine wpAnyH_done (by kernel_rfl) ?_ _
  go_upto_region 19 with fail
  have HK19 := Lib.hid (show ∀ W, Below w12.heap.size w12 W → W.rangeAt w5.heap.size 0 [.string r.thing.name, .slice N1 r.thing.labels.length dN1, .slice N2 r.thing.taints.length dN2, .slice N3 r.thing.cap.length dN3, .bool r.thing.cord] ∧ W.rangeAt w3.heap.size 0 [.string q.name, .slice Q1 q.labels.length dQ1, .slice Q2 q.needs.length dQ2, .slice Q3 q.tols.length dQ3, .string q.req, .slice Q4 q.apart.length dQ4, .slice Q5 q.prefer.length dQ5, .int .i64 q.prio] from fun W g => ⟨by
    have h := World.rangeAt_of_block ((g.block w5.heap.size (Array.getElem?_eq_some_iff.1 HN12.out).1).trans HN12.out) 0 5
    simpa using h, by
    have h := World.rangeAt_of_block ((g.block w3.heap.size (Array.getElem?_eq_some_iff.1 HP12.out).1).trans HP12.out) 0 8
    simpa using h⟩)
  have YA := Lib.hid (Below.refl w12.heap.size w12).drew
  refine wp_region_held_drew (S := fun W => W.rangeAt w5.heap.size 0 [.string r.thing.name, .slice N1 r.thing.labels.length dN1, .slice N2 r.thing.taints.length dN2, .slice N3 r.thing.cap.length dN3, .bool r.thing.cord] ∧ W.rangeAt w3.heap.size 0 [.string q.name, .slice Q1 q.labels.length dQ1, .slice Q2 q.needs.length dQ2, .slice Q3 q.tols.length dQ3, .string q.req, .slice Q4 q.apart.length dQ4, .slice Q5 q.prefer.length dQ5, .int .i64 q.prio]) (by kernel_rfl) (HK19.out _ YA.out) (fun hHeld => ?_)
  refine' wpAnyH_take (i := 0) (v := _) (List.getElem?_toArray.trans rfl) (by kernel_rfl) (by kernel_rfl) (by kernel_rfl) (fun _ _ _ h => h) (Or.inl ⟨by rfl, ?y0m⟩) hHeld ?r0m
  case y0m => intro w h; (try dsimp only at h); go_simp; (try with_reducible rfl)
  try simp only [Act.put, List.setIfInBounds_toArray, List.set_cons_zero, List.set_cons_succ]
  refine' wpAnyH_take (i := 1) (v := _) (List.getElem?_toArray.trans rfl) (by kernel_rfl) (by kernel_rfl) (by kernel_rfl) (fun _ _ _ h => h) (Or.inl ⟨by rfl, ?y1m⟩) hHeld ?r1m
  case y1m => intro w h; (try dsimp only at h); go_simp; (try with_reducible rfl)
  try simp only [Act.put, List.setIfInBounds_toArray, List.set_cons_zero, List.set_cons_succ]
  refine' wpAnyH_take (i := 2) (v := _) (List.getElem?_toArray.trans rfl) (by kernel_rfl) (by kernel_rfl) (by kernel_rfl) (fun _ _ _ h => h) (yieldsIf_load_mid (by rfl) 26 _ rfl (w5.heap.size) 0 rfl [.string r.thing.name, .slice N1 r.thing.labels.length dN1, .slice N2 r.thing.taints.length dN2, .slice N3 r.thing.cap.length dN3, .bool r.thing.cord] _ (fun V hV => hV.1) Tryz.underlying26 rfl (by kernel_rfl)) hHeld ?_
  try simp only [Act.put, List.setIfInBounds_toArray, List.set_cons_zero, List.set_cons_succ]
  refine' wpAnyH_take (i := 3) (v := _) (List.getElem?_toArray.trans rfl) (by kernel_rfl) (by kernel_rfl) (by kernel_rfl) (fun _ _ _ h => h) (yieldsIf_load_mid (by rfl) 26 _ rfl (w5.heap.size) 0 rfl [.string r.thing.name, .slice N1 r.thing.labels.length dN1, .slice N2 r.thing.taints.length dN2, .slice N3 r.thing.cap.length dN3, .bool r.thing.cord] _ (fun V hV => hV.1) Tryz.underlying26 rfl (by kernel_rfl)) hHeld ?_
  try simp only [Act.put, List.setIfInBounds_toArray, List.set_cons_zero, List.set_cons_succ]
  refine' wpAnyH_take (i := 5) (v := _) (List.getElem?_toArray.trans rfl) (by kernel_rfl) (by kernel_rfl) (by kernel_rfl) (fun _ _ _ h => h) (yieldsIf_load_mid (by rfl) 31 _ rfl (w3.heap.size) 0 rfl [.string q.name, .slice Q1 q.labels.length dQ1, .slice Q2 q.needs.length dQ2, .slice Q3 q.tols.length dQ3, .string q.req, .slice Q4 q.apart.length dQ4, .slice Q5 q.prefer.length dQ5, .int .i64 q.prio] _ (fun V hV => hV.2) Tryz.underlying31 rfl (by kernel_rfl)) hHeld ?_
  try simp only [Act.put, List.setIfInBounds_toArray, List.set_cons_zero, List.set_cons_succ]
  refine wpAnyH_ready (rs := [4]) (by kernel_rfl) (by simp) ?_
  refine AllReadyH.cons (List.getElem?_toArray.trans rfl) (fun K hK => ?_) AllReadyH.nil
  go_simp
  refine ownNode_k _ _ (fun k => w4.heap.size ≤ k ∧ k < w5.heap.size) r.thing [.string r.thing.name, .slice N1 r.thing.labels.length dN1, .slice N2 r.thing.taints.length dN2, .slice N3 r.thing.cap.length dN3, .bool r.thing.cord] (fun k hk => Nat.lt_of_lt_of_le (Nat.lt_of_lt_of_le hk.2 (Nat.le_trans (Nat.le_trans G6.out.size G9.out.size) G10.out.size)) (Nat.le_trans z1011 (Nat.le_trans z1112 YA.out.size))) (nodOk.move HR12.out (fun k hk => rfl)) HTH.out.short ?_
  intro co w13 g13 hk13
  obtain ⟨vO1, vO2, vO3, rfl, ho1, ho2, ho3⟩ := hk13
  obtain ⟨O1, dO1, rfl, _, _⟩ := ho1.form
  obtain ⟨O2, dO2, rfl, _, _⟩ := ho2.form
  obtain ⟨O3, dO3, rfl, _, _⟩ := ho3.form
  have Y13 := Lib.hid (YA.out.trans (g13.mono YA.out.size))
  have HO13 := Lib.hid (nodOk.bnd (show nodK w13 (fun k => w12.heap.size ≤ k) r.thing [.string r.thing.name, .slice O1 r.thing.labels.length dO1, .slice O2 r.thing.taints.length dO2, .slice O3 r.thing.cap.length dO3, .bool r.thing.cord] from ⟨_, _, _, rfl, ho1, ho2, ho3⟩))
  clear g13 ho1 ho2 ho3
  go_wp2_with fail
  refine hK.out _ _ (HK19.out _ Y13.out) (fun hHeld => ?_)
  clear hK K
  try simp only [Act.put, List.setIfInBounds_toArray, List.set_cons_zero, List.set_cons_succ]
  refine wpAnyH_ready (rs := [6]) (by kernel_rfl) (by simp) ?_
  refine AllReadyH.cons (List.getElem?_toArray.trans rfl) (fun K hK => ?_) AllReadyH.nil
  go_simp
  refine ownPod_k _ _ (fun k => w1.heap.size ≤ k ∧ k < w3.heap.size) q [.string q.name, .slice Q1 q.labels.length dQ1, .slice Q2 q.needs.length dQ2, .slice Q3 q.tols.length dQ3, .string q.req, .slice Q4 q.apart.length dQ4, .slice Q5 q.prefer.length dQ5, .int .i64 q.prio] (fun k hk => Nat.lt_of_lt_of_le hk.2 (Nat.le_trans z311 (Nat.le_trans z1112 Y13.out.size))) (pdOk.move HQ12.out (fun k hk => Y13.out.block k (Nat.lt_of_lt_of_le hk.2 (Nat.le_trans z311 z1112)))) HSHT.out ?_
  intro cp w14 g14 hk14
  obtain ⟨vP1, vP2, vP3, vP4, vP5, rfl, hp1, hp2, hp3, hp4, hp5⟩ := hk14
  obtain ⟨P1, dP1, rfl, _, _⟩ := hp1.form
  obtain ⟨P2, dP2, rfl, _, _⟩ := hp2.form
  obtain ⟨P3, dP3, rfl, _, _⟩ := hp3.form
  obtain ⟨P4, dP4, rfl, _, _⟩ := hp4.form
  obtain ⟨P5, dP5, rfl, _, _⟩ := hp5.form
  have Y14 := Lib.hid (Y13.out.trans (g14.mono Y13.out.size))
  have HP14 := Lib.hid (show pdK w14 (fun k => w13.heap.size ≤ k) q [.string q.name, .slice P1 q.labels.length dP1, .slice P2 q.needs.length dP2, .slice P3 q.tols.length dP3, .string q.req, .slice P4 q.apart.length dP4, .slice P5 q.prefer.length dP5, .int .i64 q.prio] from ⟨_, _, _, _, _, rfl, hp1, hp2, hp3, hp4, hp5⟩)
  have HO14 := Lib.hid (nodOk.move (w' := w14) HO13.out (fun k hk => g14.block k hk.2))
  clear g14 hp1 hp2 hp3 hp4 hp5
  go_wp2_with fail
  refine hK.out _ _ (HK19.out _ Y14.out) (fun hHeld => ?_)
  clear hK K
  try simp only [Act.put, List.setIfInBounds_toArray, List.set_cons_zero, List.set_cons_succ]
  refine' wpAnyH_take (i := 7) (v := _) (List.getElem?_toArray.trans rfl) (by kernel_rfl) (by kernel_rfl) (by kernel_rfl) (fun _ _ _ h => h) (Or.inl ⟨by rfl, ?y7n⟩) hHeld ?r7n
  case y7n => intro w h; (try dsimp only at h); go_simp; (try with_reducible rfl)
  try simp only [Act.put, List.setIfInBounds_toArray, List.set_cons_zero, List.set_cons_succ]
  have o14 := (Y14.out.block (w.heap.size + 1) (Array.getElem?_eq_some_iff.1 HZ12.out).1).trans HZ12.out
  refine wpAnyH_ready (rs := [8]) (by kernel_rfl) (by simp) ?_
  refine AllReadyH.cons (List.getElem?_toArray.trans rfl) (fun K hK => ?_) AllReadyH.nil
  refine wp_store_row 71 _ _ rfl (w.heap.size + 1) #[.int .i64 4, .int .i64 (s : Int), .int .i64 (freeT S.bound : Int), .string r.thing.name, .slice N1 r.thing.labels.length dN1, .slice N2 r.thing.taints.length dN2, .slice N3 r.thing.cap.length dN3, .bool r.thing.cord, .string r.thing.name, .slice O1 r.thing.labels.length dO1, .slice O2 r.thing.taints.length dO2, .slice O3 r.thing.cap.length dO3, .bool r.thing.cord, .string q.name, .slice P1 q.labels.length dP1, .slice P2 q.needs.length dP2, .slice P3 q.tols.length dP3, .string q.req, .slice P4 q.apart.length dP4, .slice P5 q.prefer.length dP5, .int .i64 q.prio] rfl rfl 71 #[.int .i64 0, .int .i64 0, .int .i64 0, .string ⟨#[]⟩, .slice none 0 0, .slice none 0 0, .slice none 0 0, .bool false, .string ⟨#[]⟩, .slice none 0 0, .slice none 0 0, .slice none 0 0, .bool false, .string ⟨#[]⟩, .slice none 0 0, .slice none 0 0, .slice none 0 0, .string ⟨#[]⟩, .slice none 0 0, .slice none 0 0, .int .i64 0] o14 (by kernel_rfl) (by simp) (by simp [Value.oneCell']) ?_
  have z13 : w.heap.size + 2 ≤ w3.heap.size := Nat.le_trans z1 G3.out.size
  have ME := Lib.hid (show Mod (fun k => k = w.heap.size + 1) w14 (w14.setRow (w.heap.size + 1) #[.int .i64 4, .int .i64 (s : Int), .int .i64 (freeT S.bound : Int), .string r.thing.name, .slice N1 r.thing.labels.length dN1, .slice N2 r.thing.taints.length dN2, .slice N3 r.thing.cap.length dN3, .bool r.thing.cord, .string r.thing.name, .slice O1 r.thing.labels.length dO1, .slice O2 r.thing.taints.length dO2, .slice O3 r.thing.cap.length dO3, .bool r.thing.cord, .string q.name, .slice P1 q.labels.length dP1, .slice P2 q.needs.length dP2, .slice P3 q.tols.length dP3, .string q.req, .slice P4 q.apart.length dP4, .slice P5 q.prefer.length dP5, .int .i64 q.prio]) from ⟨rfl, rfl, rfl, by simp, fun k _ hk => setRow_other _ _ _ _ hk⟩)
  have n8 : ¬ w3.heap.size = w.heap.size + 1 := by omega
  have n11 : ¬ w5.heap.size = w.heap.size + 1 := by have := G4.out.size; have := G5.out.size; omega
  have zN12 : w5.heap.size < w12.heap.size := (Array.getElem?_eq_some_iff.1 HN12.out).1
  refine hK.out _ _ ⟨by
    have h := World.rangeAt_of_block ((ME.out.block w5.heap.size (Nat.lt_of_lt_of_le zN12 Y14.out.size) n11).trans ((Y14.out.block w5.heap.size zN12).trans HN12.out)) 0 5
    simpa using h, by
    have zP12 : w3.heap.size < w12.heap.size := (Array.getElem?_eq_some_iff.1 HP12.out).1
    have h := World.rangeAt_of_block ((ME.out.block w3.heap.size (Nat.lt_of_lt_of_le zP12 Y14.out.size) n8).trans ((Y14.out.block w3.heap.size zP12).trans HP12.out)) 0 8
    simpa using h⟩ (fun hHeld => ?_)
  clear hK K
  try simp only [Act.put, List.setIfInBounds_toArray, List.set_cons_zero, List.set_cons_succ]
  refine' wpAnyH_take (i := 9) (v := _) (List.getElem?_toArray.trans rfl) (by kernel_rfl) (by kernel_rfl) (by kernel_rfl) (fun _ _ _ h => h) (Or.inl ⟨by rfl, ?y9p⟩) hHeld ?r9p
  case y9p => intro w h; (try dsimp only at h); go_simp; (try with_reducible rfl)
  try simp only [Act.put, List.setIfInBounds_toArray, List.set_cons_zero, List.set_cons_succ]
  refine wpAnyH_done (by kernel_rfl) ?_ _
  have yy : (w14.setRow (w.heap.size + 1) #[.int .i64 4, .int .i64 (s : Int), .int .i64 (freeT S.bound : Int), .string r.thing.name, .slice N1 r.thing.labels.length dN1, .slice N2 r.thing.taints.length dN2, .slice N3 r.thing.cap.length dN3, .bool r.thing.cord, .string r.thing.name, .slice O1 r.thing.labels.length dO1, .slice O2 r.thing.taints.length dO2, .slice O3 r.thing.cap.length dO3, .bool r.thing.cord, .string q.name, .slice P1 q.labels.length dP1, .slice P2 q.needs.length dP2, .slice P3 q.tols.length dP3, .string q.req, .slice P4 q.apart.length dP4, .slice P5 q.prefer.length dP5, .int .i64 q.prio]).heap[w.heap.size + 1]? = some (.cells #[.int .i64 4, .int .i64 (s : Int), .int .i64 (freeT S.bound : Int), .string r.thing.name, .slice N1 r.thing.labels.length dN1, .slice N2 r.thing.taints.length dN2, .slice N3 r.thing.cap.length dN3, .bool r.thing.cord, .string r.thing.name, .slice O1 r.thing.labels.length dO1, .slice O2 r.thing.taints.length dO2, .slice O3 r.thing.cap.length dO3, .bool r.thing.cord, .string q.name, .slice P1 q.labels.length dP1, .slice P2 q.needs.length dP2, .slice P3 q.tols.length dP3, .string q.req, .slice P4 q.apart.length dP4, .slice P5 q.prefer.length dP5, .int .i64 q.prio] 71 (0, 0)) := setRow_heap _ _ _ _ _ _ o14
  have hcE := ((HC12.out.below Y14.out).outside ME.out (fun k hk => by rw [hk]; exact zb12))
  have l1 : w1.heap.size ≤ w3.heap.size := G3.out.size
  have l3 : w3.heap.size ≤ w10.heap.size := Nat.le_trans (Nat.le_trans (Nat.le_trans G4.out.size G46.out.size) G9.out.size) G10.out.size
  have heE : Ext' w own own12 := ((HE3.out.trans HE11.out HB10.out.size).trans HE12.out (Nat.le_trans HB10.out.size z1011))
  have hmE : Mod (Mine own) w (w14.setRow (w.heap.size + 1) #[.int .i64 4, .int .i64 (s : Int), .int .i64 (freeT S.bound : Int), .string r.thing.name, .slice N1 r.thing.labels.length dN1, .slice N2 r.thing.taints.length dN2, .slice N3 r.thing.cap.length dN3, .bool r.thing.cord, .string r.thing.name, .slice O1 r.thing.labels.length dO1, .slice O2 r.thing.taints.length dO2, .slice O3 r.thing.cap.length dO3, .bool r.thing.cord, .string q.name, .slice P1 q.labels.length dP1, .slice P2 q.needs.length dP2, .slice P3 q.tols.length dP3, .string q.req, .slice P4 q.apart.length dP4, .slice P5 q.prefer.length dP5, .int .i64 q.prio]) := by
    have m1 : Mod (Mine own) w w11 := ((Mod.of_below HB10.out).mono (T := Mine own) (fun _ _ h => h.elim)).trans HM11.out (fun k hk hh => by
      unfold Mine
      rcases hh with rfl | rfl | hh
      · rw [HC.out.ot2]; simp
      · rw [HC.out.om2]; simp
      · rw [HC.out.ov2 _ hh]; simp)
    have m2 : Mod (Mine own) w w12 := m1.trans HM12.out (fun k hk hh => by
      have e : own11 k = own k := (HE11.out k (Nat.lt_of_lt_of_le hk HB10.out.size)).trans (HE3.out k hk)
      unfold Mine
      rw [← e]
      rcases hh with hh | hh | ⟨a, hh⟩ <;> (rw [hh]; simp))
    exact (m2.trans (Mod.of_below Y14.out) (fun _ _ h => h.elim)).trans ME.out (fun k hk e => by omega)
  have hkE : chgK (w14.setRow (w.heap.size + 1) #[.int .i64 4, .int .i64 (s : Int), .int .i64 (freeT S.bound : Int), .string r.thing.name, .slice N1 r.thing.labels.length dN1, .slice N2 r.thing.taints.length dN2, .slice N3 r.thing.cap.length dN3, .bool r.thing.cord, .string r.thing.name, .slice O1 r.thing.labels.length dO1, .slice O2 r.thing.taints.length dO2, .slice O3 r.thing.cap.length dO3, .bool r.thing.cord, .string q.name, .slice P1 q.labels.length dP1, .slice P2 q.needs.length dP2, .slice P3 q.tols.length dP3, .string q.req, .slice P4 q.apart.length dP4, .slice P5 q.prefer.length dP5, .int .i64 q.prio]) (fun k => w.heap.size ≤ k) (bindC S s r.thing q) [.int .i64 4, .int .i64 (s : Int), .int .i64 (freeT S.bound : Int), .string r.thing.name, .slice N1 r.thing.labels.length dN1, .slice N2 r.thing.taints.length dN2, .slice N3 r.thing.cap.length dN3, .bool r.thing.cord, .string r.thing.name, .slice O1 r.thing.labels.length dO1, .slice O2 r.thing.taints.length dO2, .slice O3 r.thing.cap.length dO3, .bool r.thing.cord, .string q.name, .slice P1 q.labels.length dP1, .slice P2 q.needs.length dP2, .slice P3 q.tols.length dP3, .string q.req, .slice P4 q.apart.length dP4, .slice P5 q.prefer.length dP5, .int .i64 q.prio] := by
    have zz : ∀ k, w12.heap.size ≤ k → ¬ k = w.heap.size + 1 := fun k hk => by omega
    refine ⟨_, _, _, rfl, nodOk.mono (nodOk.move (w' := w14.setRow (w.heap.size + 1) #[.int .i64 4, .int .i64 (s : Int), .int .i64 (freeT S.bound : Int), .string r.thing.name, .slice N1 r.thing.labels.length dN1, .slice N2 r.thing.taints.length dN2, .slice N3 r.thing.cap.length dN3, .bool r.thing.cord, .string r.thing.name, .slice O1 r.thing.labels.length dO1, .slice O2 r.thing.taints.length dO2, .slice O3 r.thing.cap.length dO3, .bool r.thing.cord, .string q.name, .slice P1 q.labels.length dP1, .slice P2 q.needs.length dP2, .slice P3 q.tols.length dP3, .string q.req, .slice P4 q.apart.length dP4, .slice P5 q.prefer.length dP5, .int .i64 q.prio]) HR12.out (fun k hk => (setRow_other _ _ _ _ (by have := G4.out.size; omega)).trans (Y14.out.block k (Nat.lt_of_lt_of_le (Nat.lt_of_lt_of_le hk.2 (Nat.le_trans (Nat.le_trans G6.out.size G9.out.size) G10.out.size)) (Nat.le_trans z1011 z1112))))) (fun k hk => Nat.le_trans HB4.out.size hk.1), nodOk.mono (nodOk.move (w' := w14.setRow (w.heap.size + 1) #[.int .i64 4, .int .i64 (s : Int), .int .i64 (freeT S.bound : Int), .string r.thing.name, .slice N1 r.thing.labels.length dN1, .slice N2 r.thing.taints.length dN2, .slice N3 r.thing.cap.length dN3, .bool r.thing.cord, .string r.thing.name, .slice O1 r.thing.labels.length dO1, .slice O2 r.thing.taints.length dO2, .slice O3 r.thing.cap.length dO3, .bool r.thing.cord, .string q.name, .slice P1 q.labels.length dP1, .slice P2 q.needs.length dP2, .slice P3 q.tols.length dP3, .string q.req, .slice P4 q.apart.length dP4, .slice P5 q.prefer.length dP5, .int .i64 q.prio]) HO14.out (fun k hk => setRow_other _ _ _ _ (zz k hk.1))) (fun k hk => by have := hk.1; omega), pdOk.mono (pdOk.move (w' := w14.setRow (w.heap.size + 1) #[.int .i64 4, .int .i64 (s : Int), .int .i64 (freeT S.bound : Int), .string r.thing.name, .slice N1 r.thing.labels.length dN1, .slice N2 r.thing.taints.length dN2, .slice N3 r.thing.cap.length dN3, .bool r.thing.cord, .string r.thing.name, .slice O1 r.thing.labels.length dO1, .slice O2 r.thing.taints.length dO2, .slice O3 r.thing.cap.length dO3, .bool r.thing.cord, .string q.name, .slice P1 q.labels.length dP1, .slice P2 q.needs.length dP2, .slice P3 q.tols.length dP3, .string q.req, .slice P4 q.apart.length dP4, .slice P5 q.prefer.length dP5, .int .i64 q.prio]) HP14.out (fun k hk => setRow_other _ _ _ _ (zz k (Nat.le_trans Y13.out.size hk)))) (fun k hk => by have := Y13.out.size; omega)⟩
  have hv := HR.out h11 own12 [.int .i64 4, .int .i64 (s : Int), .int .i64 (freeT S.bound : Int), .string r.thing.name, .slice N1 r.thing.labels.length dN1, .slice N2 r.thing.taints.length dN2, .slice N3 r.thing.cap.length dN3, .bool r.thing.cord, .string r.thing.name, .slice O1 r.thing.labels.length dO1, .slice O2 r.thing.taints.length dO2, .slice O3 r.thing.cap.length dO3, .bool r.thing.cord, .string q.name, .slice P1 q.labels.length dP1, .slice P2 q.needs.length dP2, .slice P3 q.tols.length dP3, .string q.req, .slice P4 q.apart.length dP4, .slice P5 q.prefer.length dP5, .int .i64 q.prio] (w14.setRow (w.heap.size + 1) #[.int .i64 4, .int .i64 (s : Int), .int .i64 (freeT S.bound : Int), .string r.thing.name, .slice N1 r.thing.labels.length dN1, .slice N2 r.thing.taints.length dN2, .slice N3 r.thing.cap.length dN3, .bool r.thing.cord, .string r.thing.name, .slice O1 r.thing.labels.length dO1, .slice O2 r.thing.taints.length dO2, .slice O3 r.thing.cap.length dO3, .bool r.thing.cord, .string q.name, .slice P1 q.labels.length dP1, .slice P2 q.needs.length dP2, .slice P3 q.tols.length dP3, .string q.req, .slice P4 q.apart.length dP4, .slice P5 q.prefer.length dP5, .int .i64 q.prio]) hcc hcE heE hmE hkE
  clear hcE heE hmE hkE
  go_wp2_with fail
  exact bodyPost_ret (results_row_tmp Tryz.results38 _ _ (w.heap.size + 1) 71 #[.int .i64 4, .int .i64 (s : Int), .int .i64 (freeT S.bound : Int), .string r.thing.name, .slice N1 r.thing.labels.length dN1, .slice N2 r.thing.taints.length dN2, .slice N3 r.thing.cap.length dN3, .bool r.thing.cord, .string r.thing.name, .slice O1 r.thing.labels.length dO1, .slice O2 r.thing.taints.length dO2, .slice O3 r.thing.cap.length dO3, .bool r.thing.cord, .string q.name, .slice P1 q.labels.length dP1, .slice P2 q.needs.length dP2, .slice P3 q.tols.length dP3, .string q.req, .slice P4 q.apart.length dP4, .slice P5 q.prefer.length dP5, .int .i64 q.prio] (0, 0) _ rfl yy Tryz.underlying71 rfl (by kernel_rfl)) rfl hv
end Go.Proofs.YtdceflgemhcgcaaGreatDoor
