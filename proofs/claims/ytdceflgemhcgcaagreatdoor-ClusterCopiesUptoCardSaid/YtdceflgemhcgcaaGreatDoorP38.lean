/-
  Cluster.Add of a node that is let in.
-/
import Derived.Test.YtdceflgemhcgcaaGreatDoorP37
set_option linter.unusedVariables false
set_option linter.unusedSimpArgs false
namespace Go.Proofs.YtdceflgemhcgcaaGreatDoor
open Go.RowKit Go.BigFrame

/-- Blocks that are not its own have been written. -/
theorem CluAt.outside {w w' : World} {h : CHdr} {own : COwn} {S : CSt} {X : Nat → Prop} (hc : CluAt w h own S) (hm : Mod X w w') (hx : ∀ k, X k → own k = none) : CluAt w' h own S := by
  have he := Ext'.refl w own
  have hl : ∀ k, w'.heap.size ≤ k → own k = none := fun k hk => hc.lim k (Nat.le_trans hm.size hk)
  exact { hc with
    cell := (hm.block _ (hc.lt hc.oc) (fun e => by have := hx _ e; rw [hc.oc] at this; cases this)).trans hc.cell
    lim := hl
    tn := tab_step nodOk hc.ot1 hc.om1 hc.ov1 (fun e => by cases e) hm he hl (fun j hj => by rw [hx j hj]; refine ⟨?_, ?_, ?_, ?_⟩ <;> (intro q; cases q)) hc.tn
    tb := tab_step plcOk hc.ot2 hc.om2 hc.ov2 (fun e => by cases e) hm he hl (fun j hj => by rw [hx j hj]; refine ⟨?_, ?_, ?_, ?_⟩ <;> (intro q; cases q)) hc.tb
    sums := sums_step hc.ob1 hm he (fun j hj => by rw [hx j hj]; refine ⟨?_, ?_⟩ <;> (intro q; cases q)) hc.sums
    pods := pods_step hc.ob2 hm he (fun j hj => by rw [hx j hj]; exact ⟨fun k q => (by cases q), fun q => (by cases q)⟩) hc.pods }
def addS (S : CSt) (m : Nod) : CSt := { S with nodes := putT S.nodes m.name m }
/-- What is anybody's of it. -/
def Mine (own : COwn) : Nat → Prop := fun k => own k ≠ none
def addC (S : CSt) (m : Nod) : Chg := ⟨1, (freeT S.nodes : Int), -1, nod0, m, pd0⟩
set_option maxRecDepth 100000 in
set_option maxHeartbeats 16000000 in
theorem addOk_k (R : Ending → World → Prop) (w : World) (h : CHdr) (own : COwn) (S : CSt) (hG : GOk w) (hc : CluAt w h own S) (ok : Nat → Prop) (hok : ∀ k, ok k → k < w.heap.size) (x : Nod) (cs : List Value) (hx : nodK w ok x cs) (fit : NodFit x) (m : Nod) (hm : chkNode x = (m, flt0)) (hsh : NodShort m)
    (n1 : 1 ≤ m.name.size) (n2 : m.name.size ≤ 63) (hf : aget S.nodes.find m.name = none) (hln : S.nodes.find.length < 512) (hlow : S.nodes.low ≤ S.nodes.rows.length) (hrl : S.nodes.rows.length ≤ 512)
    (hR : ∀ h' own' cs' w', h'.c = h.c → CluAt w' h' own' (addS S m) → Ext' w own own' → Mod (Mine own) w w' → chgK w' (fun k => w.heap.size ≤ k) (addC S m) cs' → R (.returned (.tuple #[.agg cs'.toArray, .nilIface])) w') :
    Calls Tryz.prog 37 #[.pointer (some ⟨h.c, 0, none⟩), .agg cs.toArray] w R := by
  have hx0 := hx
  obtain ⟨vl, vt, vc, rfl, hl1, hl2, hl3⟩ := hx
  obtain ⟨Al, dl, rfl, _, _⟩ := hl1.form
  obtain ⟨At, dt, rfl, _, _⟩ := hl2.form
  obtain ⟨Ac, dc, rfl, _, _⟩ := hl3.form
  have HR := Lib.hid hR
  have HC := Lib.hid hc
  have HX := Lib.hid hx0
  have HF := Lib.hid fit
  have HM := Lib.hid hm
  have HSH := Lib.hid hsh
  have HFN := Lib.hid hf
  have HOK := Lib.hid hok
  obtain ⟨w1, hw1⟩ : ∃ w1, w1 = ((w.alloc (.cells #[.string x.name, .slice Al x.labels.length dl, .slice At x.taints.length dt, .slice Ac x.cap.length dc, .bool x.cord] 26)).alloc (.cells #[.int .i64 0, .int .i64 0, .int .i64 0, .string ⟨#[]⟩, .slice none 0 0, .slice none 0 0, .slice none 0 0, .bool false, .string ⟨#[]⟩, .slice none 0 0, .slice none 0 0, .slice none 0 0, .bool false, .string ⟨#[]⟩, .slice none 0 0, .slice none 0 0, .slice none 0 0, .string ⟨#[]⟩, .slice none 0 0, .slice none 0 0, .int .i64 0] 71)) := ⟨_, rfl⟩
  have HB1 := Lib.hid (show Below w.heap.size w w1 by
    rw [hw1]
    exact Below.alloc (Below.alloc (Below.refl _ _) (Nat.le_refl _) _) (by simp) _)
  have z1 : w.heap.size + 2 ≤ w1.heap.size := by rw [hw1]; simp
  have o1 : w1.heap[w.heap.size]? = some (.cells #[.string x.name, .slice Al x.labels.length dl, .slice At x.taints.length dt, .slice Ac x.cap.length dc, .bool x.cord] 26 (0, 0)) := by rw [hw1]; exact hkeep (heap_alloc_new w _) _
  have o2 : w1.heap[w.heap.size + 1]? = some (.cells #[.int .i64 0, .int .i64 0, .int .i64 0, .string ⟨#[]⟩, .slice none 0 0, .slice none 0 0, .slice none 0 0, .bool false, .string ⟨#[]⟩, .slice none 0 0, .slice none 0 0, .slice none 0 0, .bool false, .string ⟨#[]⟩, .slice none 0 0, .slice none 0 0, .slice none 0 0, .string ⟨#[]⟩, .slice none 0 0, .slice none 0 0, .int .i64 0] 71 (0, 0)) := by rw [hw1]; simpa using heap_alloc_new (w.alloc _) _
  have HO2 := Lib.hid o2
  have HG1 := Lib.hid (hG.below HB1.out)
  clear hR hc hx0 hl1 hl2 hl3 fit hm hsh hf hok hG o2
  go_enter Tryz.func37, Tryz.ntmps37
  go_upto_region 1 with fail
  rw [← hw1]
  clear hw1
  go_wp2_with (refine wpList_load_row rfl 26 _ rfl w.heap.size rfl 26 #[.string x.name, .slice Al x.labels.length dl, .slice At x.taints.length dt, .slice Ac x.cap.length dc, .bool x.cord] (0, 0) _ o1 Tryz.underlying26 rfl (by kernel_rfl) ?_)
  refine checkNode_k _ _ ok x [.string x.name, .slice Al x.labels.length dl, .slice At x.taints.length dt, .slice Ac x.cap.length dc, .bool x.cord] HG1.out (fun k hk => Nat.lt_of_lt_of_le (HOK.out k hk) HB1.out.size) (nodOk.move HX.out (fun k hk => HB1.out.block k (HOK.out k hk))) HF.out ?_
  intro cm ve w3 g3 hk3 he3
  rw [HM.out] at hk3 he3
  have hve : ve = .nilIface := by
    rcases he3 with he3 | he3
    · exact he3.2
    · exact absurd rfl he3.1
  subst hve
  obtain ⟨v1, v2, v3, rfl, k1, k2, k3⟩ := hk3
  obtain ⟨A1, d1, rfl, _, _⟩ := k1.form
  obtain ⟨A2, d2, rfl, _, _⟩ := k2.form
  obtain ⟨A3, d3, rfl, _, _⟩ := k3.form
  have HK3 := Lib.hid (nodOk.bnd (show nodK w3 (fun k => w1.heap.size ≤ k) m [.string m.name, .slice A1 m.labels.length d1, .slice A2 m.taints.length d2, .slice A3 m.cap.length d3, .bool m.cord] from ⟨_, _, _, rfl, k1, k2, k3⟩))
  have G3 := Lib.hid g3
  have HB3 := Lib.hid (HB1.out.trans (G3.out.mono HB1.out.size))
  obtain ⟨hc3, he3'⟩ := HC.out.imms HB3.out (a := w1.heap.size) HB1.out.size
  obtain ⟨own3, hown3⟩ : ∃ o, o = immIn own w1.heap.size w3.heap.size := ⟨_, rfl⟩
  have hi3 : ∀ k, w1.heap.size ≤ k ∧ k < w3.heap.size → Imm own3 k := fun k hk => by rw [hown3]; exact immIn_in hk.1 hk.2
  rw [← hown3] at hc3 he3'
  have HOW3 := Lib.hid hown3
  have HI3 := Lib.hid hi3
  have HC3 := Lib.hid hc3
  have HE3 := Lib.hid he3'
  clear g3 k1 k2 k3 he3 hc3 he3' hi3 hown3 o1
  obtain ⟨w4, hw4⟩ : ∃ w4, w4 = (w3.alloc (.cells #[.string ⟨#[]⟩, .slice none 0 0, .slice none 0 0, .slice none 0 0, .bool false] 26)).setRow w3.heap.size #[.string m.name, .slice A1 m.labels.length d1, .slice A2 m.taints.length d2, .slice A3 m.cap.length d3, .bool m.cord] := ⟨_, rfl⟩
  have oa : (w3.alloc (.cells #[.string ⟨#[]⟩, .slice none 0 0, .slice none 0 0, .slice none 0 0, .bool false] 26)).heap[w3.heap.size]? = some (.cells #[.string ⟨#[]⟩, .slice none 0 0, .slice none 0 0, .slice none 0 0, .bool false] 26 (0, 0)) := heap_alloc_new _ _
  have o4 : w4.heap[w3.heap.size]? = some (.cells #[.string m.name, .slice A1 m.labels.length d1, .slice A2 m.taints.length d2, .slice A3 m.cap.length d3, .bool m.cord] 26 (0, 0)) := by rw [hw4]; exact setRow_heap _ _ _ _ _ _ oa
  have G4 := Lib.hid (show Below w3.heap.size w3 w4 by rw [hw4]; exact below_setRow (Below.alloc (Below.refl _ _) (Nat.le_refl _) _) (Nat.le_refl _) _)
  have HB4 := Lib.hid (HB3.out.trans (G4.out.mono HB3.out.size))
  have HC4 := Lib.hid (HC3.out.below G4.out)
  have HO4 := Lib.hid o4
  have HK4 := Lib.hid (show nodK w4 (Imm own3) m [.string m.name, .slice A1 m.labels.length d1, .slice A2 m.taints.length d2, .slice A3 m.cap.length d3, .bool m.cord] from nodOk.mono (nodOk.move HK3.out (fun k hk => G4.out.block k hk.2)) (fun k hk => HI3.out k hk))
  go_upto_region 4 with (refine wpList_store_row rfl 26 _ _ rfl w3.heap.size #[.string m.name, .slice A1 m.labels.length d1, .slice A2 m.taints.length d2, .slice A3 m.cap.length d3, .bool m.cord] rfl rfl 26 #[.string ⟨#[]⟩, .slice none 0 0, .slice none 0 0, .slice none 0 0, .bool false] oa (by kernel_rfl) (by simp) (by simp [Value.oneCell']) ?_)
  rw [← hw4]
  clear hw4 oa o4
  have y0 : w4.cell? ⟨h.c, 2, none⟩ = some (.pointer (some ⟨h.t1, 0, none⟩)) := cell_at HC4.out.cell rfl
  have HK := Lib.hid (show ∀ W, Below w4.heap.size w4 W → W.cell? ⟨h.c, 2, none⟩ = some (.pointer (some ⟨h.t1, 0, none⟩)) ∧ W.cell? ⟨w3.heap.size, 0, none⟩ = some (.string m.name) ∧ W.rangeAt w3.heap.size 0 [.string m.name, .slice A1 m.labels.length d1, .slice A2 m.taints.length d2, .slice A3 m.cap.length d3, .bool m.cord] from fun W g => ⟨(Mod.of_below g).cell' (cell_at HC4.out.cell rfl) (fun h => h), (Mod.of_below g).cell' (cell_at HO4.out rfl) (fun h => h), by
    have h := World.rangeAt_of_block ((g.block w3.heap.size (Array.getElem?_eq_some_iff.1 HO4.out).1).trans HO4.out) 0 5
    simpa using h⟩)
  go_upto_region 6 with fail
  clear y0
  go_cut [8, 9] (fun v e W => v = .int .i64 (freeT S.nodes : Int) ∧ e = .int .i64 0 ∧ ∃ vr, Mod (fun k => k = h.t1 ∨ k = h.m1 ∨ h.v1.ownBlock = some k) w4 W ∧ NodT own3 W h.t1 h.m1 vr (putT S.nodes m.name m) ∧ (vr.ownBlock = h.v1.ownBlock ∨ ∃ b, vr.ownBlock = some b ∧ w4.heap.size ≤ b))
  case first =>
    have YA := Lib.hid (Below.refl w4.heap.size w4).drew
    refine wp_region_held_drew (S := fun W => W.cell? ⟨h.c, 2, none⟩ = some (.pointer (some ⟨h.t1, 0, none⟩)) ∧ W.cell? ⟨w3.heap.size, 0, none⟩ = some (.string m.name) ∧ W.rangeAt w3.heap.size 0 [.string m.name, .slice A1 m.labels.length d1, .slice A2 m.taints.length d2, .slice A3 m.cap.length d3, .bool m.cord]) (by kernel_rfl) (HK.out _ YA.out) (fun hHeld => ?_)
    refine' wpAnyH_take (i := 0) (v := _) (List.getElem?_toArray.trans rfl) (by kernel_rfl) (by kernel_rfl) (by kernel_rfl) (fun _ _ _ h => h) (Or.inl ⟨by rfl, ?y0a⟩) hHeld ?r0a
    case y0a => intro w h; (try dsimp only at h); go_simp; (try with_reducible rfl)
    try simp only [Act.put, List.setIfInBounds_toArray, List.set_cons_zero, List.set_cons_succ]
    refine' wpAnyH_take (i := 1) (v := _) (List.getElem?_toArray.trans rfl) (by kernel_rfl) (by kernel_rfl) (by kernel_rfl) (fun _ _ _ h => h) (Or.inl ⟨by rfl, ?y1a⟩) hHeld ?r1a
    case y1a => intro w h; (try dsimp only at h); go_simp; (try with_reducible rfl)
    try simp only [Act.put, List.setIfInBounds_toArray, List.set_cons_zero, List.set_cons_succ]
    refine' wpAnyH_take (i := 2) (v := _) (List.getElem?_toArray.trans rfl) (by kernel_rfl) (by kernel_rfl) (by kernel_rfl) (fun _ _ _ h => h) (Or.inl ⟨by rfl, ?y2a⟩) hHeld ?r2a
    case y2a => intro w h; (try dsimp only at h); go_simp; (try with_reducible rfl)
    try simp only [Act.put, List.setIfInBounds_toArray, List.set_cons_zero, List.set_cons_succ]
    refine' wpAnyH_take (i := 3) (v := _) (List.getElem?_toArray.trans rfl) (by kernel_rfl) (by kernel_rfl) (by kernel_rfl) (fun _ _ _ h => h) (Or.inl ⟨by rfl, ?y3a⟩) hHeld ?r3a
    case y3a => intro w h; (try dsimp only at h); go_simp; (try with_reducible rfl)
    try simp only [Act.put, List.setIfInBounds_toArray, List.set_cons_zero, List.set_cons_succ]
    refine' wpAnyH_take (i := 4) (v := _) (List.getElem?_toArray.trans rfl) (by kernel_rfl) (by kernel_rfl) (by kernel_rfl) (fun _ _ _ h => h) (Or.inl ⟨by rfl, ?y4a⟩) hHeld ?r4a
    case y4a => intro w h; (try dsimp only at h); go_simp; (try with_reducible rfl)
    try simp only [Act.put, List.setIfInBounds_toArray, List.set_cons_zero, List.set_cons_succ]
    refine' wpAnyH_take (i := 5) (v := _) (List.getElem?_toArray.trans rfl) (by kernel_rfl) (by kernel_rfl) (by kernel_rfl) (fun _ _ _ h => h) (Or.inl ⟨by rfl, ?y5a⟩) hHeld ?r5a
    case y5a => intro w h; (try dsimp only at h); go_simp; (try with_reducible rfl)
    try simp only [Act.put, List.setIfInBounds_toArray, List.set_cons_zero, List.set_cons_succ]
    refine' wpAnyH_take (i := 6) (v := _) (List.getElem?_toArray.trans rfl) (by kernel_rfl) (by kernel_rfl) (by kernel_rfl) (fun _ _ _ h => h) (yieldsIf_load_mid (by rfl) 26 _ rfl w3.heap.size 0 rfl [.string m.name, .slice A1 m.labels.length d1, .slice A2 m.taints.length d2, .slice A3 m.cap.length d3, .bool m.cord] _ (fun V hV => hV.2.2) Tryz.underlying26 rfl (by kernel_rfl)) hHeld ?_
    try simp only [Act.put, List.setIfInBounds_toArray, List.set_cons_zero, List.set_cons_succ]
    refine wpAnyH_ready (rs := [7]) (by kernel_rfl) (by simp) ?_
    refine AllReadyH.cons (List.getElem?_toArray.trans rfl) (fun K hK => ?_) AllReadyH.nil
    go_simp
    refine putA_k _ _ (Imm own3) h.t1 h.m1 h.v1 S.nodes m.name (HC4.out.below YA.out).tn n1 n2 HFN.out hln hlow hrl (fun e => by unfold Imm at e; rw [HC4.out.ot1] at e; cases e) (fun e => by unfold Imm at e; rw [HC4.out.om1] at e; cases e) m [.string m.name, .slice A1 m.labels.length d1, .slice A2 m.taints.length d2, .slice A3 m.cap.length d3, .bool m.cord] (nodOk.move HK4.out (fun k hk => rfl)) ?_
    intro vr w6 hm6 ht6 hv6
    have M6 := Lib.hid (show Mod (fun k => k = h.t1 ∨ k = h.m1 ∨ h.v1.ownBlock = some k) w4 w6 from ⟨hm6.os, hm6.tape, hm6.output, hm6.size, hm6.block⟩)
    have T6 := Lib.hid ht6
    have V6 := Lib.hid hv6
    have hn : ∀ k t, own3 k = some t → (t = .hdr ∨ t = .imm) → ¬ (k = h.t1 ∨ k = h.m1 ∨ h.v1.ownBlock = some k) := fun k t hk ht hh => by
      rcases hh with rfl | rfl | hh
      · rw [HC4.out.ot1] at hk; cases hk; rcases ht with ht | ht <;> cases ht
      · rw [HC4.out.om1] at hk; cases hk; rcases ht with ht | ht <;> cases ht
      · rw [HC4.out.ov1 k hh] at hk; cases hk; rcases ht with ht | ht <;> cases ht
    have hn3 : ¬ (w3.heap.size = h.t1 ∨ w3.heap.size = h.m1 ∨ h.v1.ownBlock = some w3.heap.size) := fun hh => by
      have o3 : own3 w3.heap.size = none := HC3.out.lim _ (Nat.le_refl _)
      rcases hh with hh | hh | hh
      · rw [hh, HC4.out.ot1] at o3; cases o3
      · rw [hh, HC4.out.om1] at o3; cases o3
      · rw [HC4.out.ov1 _ hh] at o3; cases o3
    clear hm6 ht6 hv6
    go_wp2_with fail
    refine hK.out _ _ ⟨M6.out.cell' (cell_at HC4.out.cell rfl) (hn _ _ HC4.out.oc (.inl rfl)), M6.out.cell' (cell_at HO4.out rfl) hn3, by
      have h := World.rangeAt_of_block ((M6.out.block w3.heap.size (Array.getElem?_eq_some_iff.1 HO4.out).1 hn3).trans HO4.out) 0 5
      simpa using h⟩ (fun hHeld => ?_)
    clear hK K hn hn3
    try simp only [Act.put, List.setIfInBounds_toArray, List.set_cons_zero, List.set_cons_succ]
    refine' wpAnyH_take (i := 8) (v := _) (List.getElem?_toArray.trans rfl) (by kernel_rfl) (by kernel_rfl) (by kernel_rfl) (fun _ _ _ h => h) (Or.inl ⟨by rfl, ?y8b⟩) hHeld ?r8b
    case y8b => intro w h; (try dsimp only at h); go_simp; (try with_reducible rfl)
    try simp only [Act.put, List.setIfInBounds_toArray, List.set_cons_zero, List.set_cons_succ]
    refine' wpAnyH_take (i := 9) (v := _) (List.getElem?_toArray.trans rfl) (by kernel_rfl) (by kernel_rfl) (by kernel_rfl) (fun _ _ _ h => h) (Or.inl ⟨by rfl, ?y9b⟩) hHeld ?r9b
    case y9b => intro w h; (try dsimp only at h); go_simp; (try with_reducible rfl)
    try simp only [Act.put, List.setIfInBounds_toArray, List.set_cons_zero, List.set_cons_succ]
    refine' wpAnyH_take (i := 10) (v := _) (List.getElem?_toArray.trans rfl) (by kernel_rfl) (by kernel_rfl) (by kernel_rfl) (fun _ _ _ h => h) (Or.inl ⟨by rfl, ?y10b⟩) hHeld ?r10b
    case y10b => intro w h; (try dsimp only at h); go_simp; (try with_reducible rfl)
    try simp only [Act.put, List.setIfInBounds_toArray, List.set_cons_zero, List.set_cons_succ]
    refine' wpAnyH_take (i := 11) (v := _) (List.getElem?_toArray.trans rfl) (by kernel_rfl) (by kernel_rfl) (by kernel_rfl) (fun _ _ _ h => h) (Or.inl ⟨by rfl, ?y11b⟩) hHeld ?r11b
    case y11b => intro w h; (try dsimp only at h); go_simp; (try with_reducible rfl)
    try simp only [Act.put, List.setIfInBounds_toArray, List.set_cons_zero, List.set_cons_succ]
    refine' wpAnyH_take (i := 12) (v := _) (List.getElem?_toArray.trans rfl) (by kernel_rfl) (by kernel_rfl) (by kernel_rfl) (fun _ _ _ h => h) (Or.inl ⟨by rfl, ?y12b⟩) hHeld ?r12b
    case y12b => intro w h; (try dsimp only at h); go_simp; (try with_reducible rfl)
    try simp only [Act.put, List.setIfInBounds_toArray, List.set_cons_zero, List.set_cons_succ]
    refine wpAnyH_done (by kernel_rfl) ?_ _
    go_wp2_with fail
    go_meet
    exact ⟨rfl, rfl, vr, M6.out, T6.out, V6.out⟩
  obtain ⟨rfl, rfl, vr, hM6, hT6, hV6⟩ := hcut
  rename World => w6
  obtain ⟨hc6, he6⟩ := HC4.out.setN hM6 hT6 hV6
  have HC6 := Lib.hid hc6
  have HE6 := Lib.hid he6
  have nB : ∀ k, w.heap.size ≤ k → k < w.heap.size + 2 → ¬ (k = h.t1 ∨ k = h.m1 ∨ h.v1.ownBlock = some k) := fun k hk1 hk2 hh => by
    have o3 : own k = none := HC.out.lim _ hk1
    rcases hh with hh | hh | hh
    · rw [hh, HC.out.ot1] at o3; cases o3
    · rw [hh, HC.out.om1] at o3; cases o3
    · rw [HC.out.ov1 _ hh] at o3; cases o3
  have n3 : ¬ (w3.heap.size = h.t1 ∨ w3.heap.size = h.m1 ∨ h.v1.ownBlock = some w3.heap.size) := fun hh => by
    have o3 : own3 w3.heap.size = none := HC3.out.lim _ (Nat.le_refl _)
    rcases hh with hh | hh | hh
    · rw [hh, HC4.out.ot1] at o3; cases o3
    · rw [hh, HC4.out.om1] at o3; cases o3
    · rw [HC4.out.ov1 _ hh] at o3; cases o3
  have o6 := (hM6.block w3.heap.size (Array.getElem?_eq_some_iff.1 HO4.out).1 n3).trans HO4.out
  have q2 := (hM6.block (w.heap.size + 1) (by have := G3.out.size; have := G4.out.size; omega) (nB _ (by omega) (by omega))).trans ((((G3.out.trans (G4.out.mono G3.out.size)).block (w.heap.size + 1) (by omega))).trans HO2.out)
  have HQ2 := Lib.hid q2
  have M06 := Lib.hid (show Mod (Mine own) w w6 from ((Mod.of_below HB4.out).mono (T := Mine own) (fun _ _ h => h.elim)).trans hM6 (fun k hk hh => by
    unfold Mine
    rcases hh with rfl | rfl | hh
    · rw [HC.out.ot1]; simp
    · rw [HC.out.om1]; simp
    · rw [HC.out.ov1 _ hh]; simp))
  have hK6 : nodK w6 (Imm own3) m [.string m.name, .slice A1 m.labels.length d1, .slice A2 m.taints.length d2, .slice A3 m.cap.length d3, .bool m.cord] := nodOk.move HK4.out (fun k hk => hM6.block k (HC4.out.lt hk) (fun hh => by
    unfold Imm at hk
    rcases hh with rfl | rfl | hh
    · rw [HC4.out.ot1] at hk; cases hk
    · rw [HC4.out.om1] at hk; cases hk
    · rw [HC4.out.ov1 _ hh] at hk; cases hk))
  have HK6 := Lib.hid hK6
  have zz : w4.heap.size ≤ w6.heap.size := hM6.size
  have HM6 := Lib.hid hM6
  clear hM6 hT6 hV6 hc6 he6 nB n3 q2 hK6
  go_wp2_with (refine wpList_load_row rfl 26 _ rfl w3.heap.size rfl 26 #[.string m.name, .slice A1 m.labels.length d1, .slice A2 m.taints.length d2, .slice A3 m.cap.length d3, .bool m.cord] (0, 0) _ o6 Tryz.underlying26 rfl (by kernel_rfl) ?_)
  refine ownNode_k _ _ (Imm own3) m [.string m.name, .slice A1 m.labels.length d1, .slice A2 m.taints.length d2, .slice A3 m.cap.length d3, .bool m.cord] (fun k hk => Nat.lt_of_lt_of_le (HC4.out.lt hk) zz) HK6.out HSH.out ?_
  intro co w8 g8 hk8
  obtain ⟨v1, v2, v3, rfl, k1, k2, k3⟩ := hk8
  obtain ⟨U1, e1, rfl, _, _⟩ := k1.form
  obtain ⟨U2, e2, rfl, _, _⟩ := k2.form
  obtain ⟨U3, e3, rfl, _, _⟩ := k3.form
  have HK8 := Lib.hid (show nodK w8 (fun k => w6.heap.size ≤ k) m [.string m.name, .slice U1 m.labels.length e1, .slice U2 m.taints.length e2, .slice U3 m.cap.length e3, .bool m.cord] from ⟨_, _, _, rfl, k1, k2, k3⟩)
  have G8 := Lib.hid g8
  have o8 := (g8.block (w.heap.size + 1) (Array.getElem?_eq_some_iff.1 HQ2.out).1).trans HQ2.out
  have zB4 : w.heap.size + 2 ≤ w4.heap.size := by have := G3.out.size; have := G4.out.size; omega
  have zB : w.heap.size + 2 ≤ w6.heap.size := by have := G3.out.size; have := G4.out.size; omega
  have HM8 := Lib.hid (show Mod (fun k => k = w.heap.size + 1) w8 (w8.setRow (w.heap.size + 1) #[.int .i64 1, .int .i64 (freeT S.nodes : Int), .int .i64 (-1), .string ⟨#[]⟩, .slice none 0 0, .slice none 0 0, .slice none 0 0, .bool false, .string m.name, .slice U1 m.labels.length e1, .slice U2 m.taints.length e2, .slice U3 m.cap.length e3, .bool m.cord, .string ⟨#[]⟩, .slice none 0 0, .slice none 0 0, .slice none 0 0, .string ⟨#[]⟩, .slice none 0 0, .slice none 0 0, .int .i64 0]) from ⟨rfl, rfl, rfl, by simp, fun k _ hk => setRow_other _ _ _ _ hk⟩)
  have yy : (w8.setRow (w.heap.size + 1) #[.int .i64 1, .int .i64 (freeT S.nodes : Int), .int .i64 (-1), .string ⟨#[]⟩, .slice none 0 0, .slice none 0 0, .slice none 0 0, .bool false, .string m.name, .slice U1 m.labels.length e1, .slice U2 m.taints.length e2, .slice U3 m.cap.length e3, .bool m.cord, .string ⟨#[]⟩, .slice none 0 0, .slice none 0 0, .slice none 0 0, .string ⟨#[]⟩, .slice none 0 0, .slice none 0 0, .int .i64 0]).heap[w.heap.size + 1]? = some (.cells #[.int .i64 1, .int .i64 (freeT S.nodes : Int), .int .i64 (-1), .string ⟨#[]⟩, .slice none 0 0, .slice none 0 0, .slice none 0 0, .bool false, .string m.name, .slice U1 m.labels.length e1, .slice U2 m.taints.length e2, .slice U3 m.cap.length e3, .bool m.cord, .string ⟨#[]⟩, .slice none 0 0, .slice none 0 0, .slice none 0 0, .string ⟨#[]⟩, .slice none 0 0, .slice none 0 0, .int .i64 0] 71 (0, 0)) := setRow_heap _ _ _ _ _ _ o8
  clear g8 k1 k2 k3 o6
  have hcE : CluAt (w8.setRow (w.heap.size + 1) #[.int .i64 1, .int .i64 (freeT S.nodes : Int), .int .i64 (-1), .string ⟨#[]⟩, .slice none 0 0, .slice none 0 0, .slice none 0 0, .bool false, .string m.name, .slice U1 m.labels.length e1, .slice U2 m.taints.length e2, .slice U3 m.cap.length e3, .bool m.cord, .string ⟨#[]⟩, .slice none 0 0, .slice none 0 0, .slice none 0 0, .string ⟨#[]⟩, .slice none 0 0, .slice none 0 0, .int .i64 0]) { h with v1 := vr } (putO own3 vr .r1) (addS S m) := by
    refine (HC6.out.below G8.out).outside HM8.out (fun k hk => ?_)
    subst hk
    have e1 : own (w.heap.size + 1) = none := HC.out.lim _ (by omega)
    have e3 : own3 (w.heap.size + 1) = none := by
      rw [HOW3.out]
      unfold immIn
      rw [if_neg (by omega)]
      exact e1
    unfold putO
    rw [if_neg (fun e => ?_)]
    · exact e3
    · have e9 := HC6.out.ov1 _ e
      rw [HE6.out _ (by omega), e3] at e9
      cases e9
  have hmE : Mod (Mine own) w (w8.setRow (w.heap.size + 1) #[.int .i64 1, .int .i64 (freeT S.nodes : Int), .int .i64 (-1), .string ⟨#[]⟩, .slice none 0 0, .slice none 0 0, .slice none 0 0, .bool false, .string m.name, .slice U1 m.labels.length e1, .slice U2 m.taints.length e2, .slice U3 m.cap.length e3, .bool m.cord, .string ⟨#[]⟩, .slice none 0 0, .slice none 0 0, .slice none 0 0, .string ⟨#[]⟩, .slice none 0 0, .slice none 0 0, .int .i64 0]) := (M06.out.trans (Mod.of_below G8.out) (fun _ _ h => h.elim)).trans HM8.out (fun k hk e => by omega)
  have heE : Ext' w own (putO own3 vr .r1) := HE3.out.trans HE6.out HB4.out.size
  have hkE : chgK (w8.setRow (w.heap.size + 1) #[.int .i64 1, .int .i64 (freeT S.nodes : Int), .int .i64 (-1), .string ⟨#[]⟩, .slice none 0 0, .slice none 0 0, .slice none 0 0, .bool false, .string m.name, .slice U1 m.labels.length e1, .slice U2 m.taints.length e2, .slice U3 m.cap.length e3, .bool m.cord, .string ⟨#[]⟩, .slice none 0 0, .slice none 0 0, .slice none 0 0, .string ⟨#[]⟩, .slice none 0 0, .slice none 0 0, .int .i64 0]) (fun k => w.heap.size ≤ k) (addC S m) [.int .i64 1, .int .i64 (freeT S.nodes : Int), .int .i64 (-1), .string ⟨#[]⟩, .slice none 0 0, .slice none 0 0, .slice none 0 0, .bool false, .string m.name, .slice U1 m.labels.length e1, .slice U2 m.taints.length e2, .slice U3 m.cap.length e3, .bool m.cord, .string ⟨#[]⟩, .slice none 0 0, .slice none 0 0, .slice none 0 0, .string ⟨#[]⟩, .slice none 0 0, .slice none 0 0, .int .i64 0] := ⟨_, _, _, rfl, nodK_zero _ _, nodOk.mono (nodOk.move (w' := w8.setRow (w.heap.size + 1) #[.int .i64 1, .int .i64 (freeT S.nodes : Int), .int .i64 (-1), .string ⟨#[]⟩, .slice none 0 0, .slice none 0 0, .slice none 0 0, .bool false, .string m.name, .slice U1 m.labels.length e1, .slice U2 m.taints.length e2, .slice U3 m.cap.length e3, .bool m.cord, .string ⟨#[]⟩, .slice none 0 0, .slice none 0 0, .slice none 0 0, .string ⟨#[]⟩, .slice none 0 0, .slice none 0 0, .int .i64 0]) HK8.out (fun k hk => setRow_other _ _ _ _ (by omega))) (fun k hk => by omega), ⟨_, _, _, _, _, rfl, SlK.nil, SlK.nil, SlK.nil, SlK.nil, SlK.nil⟩⟩
  have hv := HR.out { h with v1 := vr } (putO own3 vr .r1) [.int .i64 1, .int .i64 (freeT S.nodes : Int), .int .i64 (-1), .string ⟨#[]⟩, .slice none 0 0, .slice none 0 0, .slice none 0 0, .bool false, .string m.name, .slice U1 m.labels.length e1, .slice U2 m.taints.length e2, .slice U3 m.cap.length e3, .bool m.cord, .string ⟨#[]⟩, .slice none 0 0, .slice none 0 0, .slice none 0 0, .string ⟨#[]⟩, .slice none 0 0, .slice none 0 0, .int .i64 0] (w8.setRow (w.heap.size + 1) #[.int .i64 1, .int .i64 (freeT S.nodes : Int), .int .i64 (-1), .string ⟨#[]⟩, .slice none 0 0, .slice none 0 0, .slice none 0 0, .bool false, .string m.name, .slice U1 m.labels.length e1, .slice U2 m.taints.length e2, .slice U3 m.cap.length e3, .bool m.cord, .string ⟨#[]⟩, .slice none 0 0, .slice none 0 0, .slice none 0 0, .string ⟨#[]⟩, .slice none 0 0, .slice none 0 0, .int .i64 0]) rfl hcE heE hmE hkE
  clear hcE hmE heE hkE
  go_wp2_with (refine wpList_store_row rfl 71 _ _ rfl (w.heap.size + 1) #[.int .i64 1, .int .i64 (freeT S.nodes : Int), .int .i64 (-1), .string ⟨#[]⟩, .slice none 0 0, .slice none 0 0, .slice none 0 0, .bool false, .string m.name, .slice U1 m.labels.length e1, .slice U2 m.taints.length e2, .slice U3 m.cap.length e3, .bool m.cord, .string ⟨#[]⟩, .slice none 0 0, .slice none 0 0, .slice none 0 0, .string ⟨#[]⟩, .slice none 0 0, .slice none 0 0, .int .i64 0] rfl rfl 71 #[.int .i64 0, .int .i64 0, .int .i64 0, .string ⟨#[]⟩, .slice none 0 0, .slice none 0 0, .slice none 0 0, .bool false, .string ⟨#[]⟩, .slice none 0 0, .slice none 0 0, .slice none 0 0, .bool false, .string ⟨#[]⟩, .slice none 0 0, .slice none 0 0, .slice none 0 0, .string ⟨#[]⟩, .slice none 0 0, .slice none 0 0, .int .i64 0] o8 (by kernel_rfl) (by simp) (by simp [Value.oneCell']) ?_)
  exact bodyPost_ret (results_row_tmp Tryz.results37 _ _ (w.heap.size + 1) 71 #[.int .i64 1, .int .i64 (freeT S.nodes : Int), .int .i64 (-1), .string ⟨#[]⟩, .slice none 0 0, .slice none 0 0, .slice none 0 0, .bool false, .string m.name, .slice U1 m.labels.length e1, .slice U2 m.taints.length e2, .slice U3 m.cap.length e3, .bool m.cord, .string ⟨#[]⟩, .slice none 0 0, .slice none 0 0, .slice none 0 0, .string ⟨#[]⟩, .slice none 0 0, .slice none 0 0, .int .i64 0] (0, 0) _ rfl yy Tryz.underlying71 rfl (by kernel_rfl)) rfl hv
end Go.Proofs.YtdceflgemhcgcaaGreatDoor
