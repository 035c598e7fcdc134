/-
  CheckNode and CheckPod: the reference's and the program's answer the same.
-/
import Derived.Test.YtdceflgemhcgcaaGreatDoorP18
import Derived.Test.YtdceflgemhcgcaaGreatDoorP12
import Derived.Test.YtdceflgemhcgcaaGreatDoorP29
import Derived.Test.YtdceflgemhcgcaaGreatDoorP28
import Derived.Test.YtdceflgemhcgcaaGreatDoorP05
import Derived.Test.YtdceflgemhcgcaaGreatDoorP17
set_option linter.unusedVariables false
set_option linter.unusedSimpArgs false
namespace Go.Proofs.YtdceflgemhcgcaaGreatDoor
open Go.RowKit Go.BigFrame

def nod0 : Nod := ⟨⟨#[]⟩, [], [], [], false⟩
def pd0 : Pd := ⟨⟨#[]⟩, [], [], [], ⟨#[]⟩, [], [], 0⟩
def chkNode (x : Nod) : Nod × Flt :=
  if nameB x.name = false then (nod0, refuseF 30 x.name) else
  if (labMake x.labels).2.2 ≠ 0 then (nod0, refuseF (labMake x.labels).2.2 (labMake x.labels).2.1) else
  if (tntMake x.taints).2.2 ≠ 0 then (nod0, ⟨(tntMake x.taints).2.2, (tntMake x.taints).2.1, ⟨#[]⟩⟩) else
  if (itmMake x.cap).2.2 ≠ 0 then (nod0, refuseF (itmMake x.cap).2.2 (itmMake x.cap).2.1) else
  (⟨x.name, (labMake x.labels).1, (tntMake x.taints).1, (itmMake x.cap).1, x.cord⟩, flt0)
def chkPod (x : Pd) : Pd × Flt :=
  if nameB x.name = false then (pd0, refuseF 30 x.name) else
  if (labMake x.labels).2.2 ≠ 0 then (pd0, refuseF (labMake x.labels).2.2 (labMake x.labels).2.1) else
  if (itmMake x.needs).2.2 ≠ 0 then (pd0, refuseF (itmMake x.needs).2.2 (itmMake x.needs).2.1) else
  if (tolsChk x.tols).2 ≠ 0 then (pd0, ⟨(tolsChk x.tols).2, (tolsChk x.tols).1, ⟨#[]⟩⟩) else
  (⟨x.name, (labMake x.labels).1, (itmMake x.needs).1, x.tols, x.req, x.apart, x.prefer, x.prio⟩, flt0)
theorem chkNode_1 {x : Nod} (h : nameB x.name = false) : chkNode x = (nod0, refuseF 30 x.name) := by unfold chkNode; simp [h]
theorem chkNode_2 {x : Nod} {m1 s1 e1} (h : nameB x.name = true) (h1 : labMake x.labels = (m1, s1, e1)) (he : ¬ e1 = 0) : chkNode x = (nod0, refuseF e1 s1) := by unfold chkNode; simp [h, h1, he]
theorem chkNode_3 {x : Nod} {m1 s1} {m2 s2 e2} (h : nameB x.name = true) (h1 : labMake x.labels = (m1, s1, 0)) (h2 : tntMake x.taints = (m2, s2, e2)) (he : ¬ e2 = 0) : chkNode x = (nod0, ⟨e2, s2, ⟨#[]⟩⟩) := by unfold chkNode; simp [h, h1, h2, he]
theorem chkNode_4 {x : Nod} {m1 s1} {m2 s2} {m3 s3 e3} (h : nameB x.name = true) (h1 : labMake x.labels = (m1, s1, 0)) (h2 : tntMake x.taints = (m2, s2, 0)) (h3 : itmMake x.cap = (m3, s3, e3)) (he : ¬ e3 = 0) : chkNode x = (nod0, refuseF e3 s3) := by unfold chkNode; simp [h, h1, h2, h3, he]
theorem chkNode_5 {x : Nod} {m1 s1} {m2 s2} {m3 s3} (h : nameB x.name = true) (h1 : labMake x.labels = (m1, s1, 0)) (h2 : tntMake x.taints = (m2, s2, 0)) (h3 : itmMake x.cap = (m3, s3, 0)) : chkNode x = (⟨x.name, m1, m2, m3, x.cord⟩, flt0) := by unfold chkNode; simp [h, h1, h2, h3]
theorem chkPod_1 {x : Pd} (h : nameB x.name = false) : chkPod x = (pd0, refuseF 30 x.name) := by unfold chkPod; simp [h]
theorem chkPod_2 {x : Pd} {m1 s1 e1} (h : nameB x.name = true) (h1 : labMake x.labels = (m1, s1, e1)) (he : ¬ e1 = 0) : chkPod x = (pd0, refuseF e1 s1) := by unfold chkPod; simp [h, h1, he]
theorem chkPod_3 {x : Pd} {m1 s1} {m2 s2 e2} (h : nameB x.name = true) (h1 : labMake x.labels = (m1, s1, 0)) (h2 : itmMake x.needs = (m2, s2, e2)) (he : ¬ e2 = 0) : chkPod x = (pd0, refuseF e2 s2) := by unfold chkPod; simp [h, h1, h2, he]
theorem chkPod_4 {x : Pd} {m1 s1} {m2 s2} {s3 e3} (h : nameB x.name = true) (h1 : labMake x.labels = (m1, s1, 0)) (h2 : itmMake x.needs = (m2, s2, 0)) (h3 : tolsChk x.tols = (s3, e3)) (he : ¬ e3 = 0) : chkPod x = (pd0, ⟨e3, s3, ⟨#[]⟩⟩) := by unfold chkPod; simp [h, h1, h2, h3, he]
theorem chkPod_5 {x : Pd} {m1 s1} {m2 s2} {s3} (h : nameB x.name = true) (h1 : labMake x.labels = (m1, s1, 0)) (h2 : itmMake x.needs = (m2, s2, 0)) (h3 : tolsChk x.tols = (s3, 0)) : chkPod x = (⟨x.name, m1, m2, x.tols, x.req, x.apart, x.prefer, x.prio⟩, flt0) := by unfold chkPod; simp [h, h1, h2, h3]
def NodFit (x : Nod) : Prop := x.name.size ≤ 1048576 ∧ ((∀ s ∈ x.labels, s.key.size ≤ 1048576 ∧ s.val.size ≤ 1048576) ∧ x.labels.length ≤ 1073741824) ∧ ((∀ s ∈ x.taints, s.key.size ≤ 1048576 ∧ s.val.size ≤ 1048576 ∧ s.eff.size ≤ 1048576) ∧ x.taints.length ≤ 1073741824) ∧
  ((∀ s ∈ x.cap, s.name.size ≤ 1048576 ∧ (-9223372036854775808 ≤ s.n ∧ s.n ≤ 9223372036854775807)) ∧ x.cap.length ≤ 1073741824)
def PdFit (x : Pd) : Prop := x.name.size ≤ 1048576 ∧ ((∀ s ∈ x.labels, s.key.size ≤ 1048576 ∧ s.val.size ≤ 1048576) ∧ x.labels.length ≤ 1073741824) ∧ ((∀ s ∈ x.tols, s.key.size ≤ 1048576 ∧ s.val.size ≤ 1048576) ∧ x.tols.length ≤ 1073741824) ∧
  ((∀ s ∈ x.needs, s.name.size ≤ 1048576 ∧ (-9223372036854775808 ≤ s.n ∧ s.n ≤ 9223372036854775807)) ∧ x.needs.length ≤ 1073741824) ∧ x.apart.length ≤ 1073741824 ∧ x.prefer.length ≤ 1073741824
theorem ErrIs.row {w : World} {v : Value} {f : Flt} (h : ErrIs w v f) {g : Nat} {cs : Array Value} {T : TypeId} {fr : Nat × Nat} (hg : w.heap[g]? = some (.cells cs T fr)) (hT : T ≠ 139) (new : Array Value) : ErrIs (w.setRow g new) v f := by
  rcases h with h | ⟨h0, b, h1, h2⟩
  · exact .inl h
  · refine .inr ⟨h0, b, h1, (setRow_other _ _ _ _ (fun e => ?_)).trans h2⟩
    subst e
    rw [hg] at h2
    simp only [Option.some.injEq, Obj.cells.injEq] at h2
    exact hT h2.2.1
set_option maxRecDepth 100000 in
set_option maxHeartbeats 8000000 in
theorem rcheckNode_k (R : Ending → World → Prop) (w : World) (ok : Nat → Prop) (x : Nod) (cs : List Value) (hok : ∀ k, ok k → k < w.heap.size) (hx : nodK w ok x cs) (fit : NodFit x)
    (hR : ∀ cs' w', Below w.heap.size w w' → nodK w' (fun k => w.heap.size ≤ k) (chkNode x).1 cs' → R (.returned (.tuple #[.agg cs'.toArray, .agg (fltC (chkNode x).2).toArray])) w') :
    Calls Tryz.prog 16 #[.agg cs.toArray] w R := by
  obtain ⟨vl, vt, vc, rfl, hl, ht, hc⟩ := hx
  obtain ⟨Al, dl, rfl, _, _⟩ := hl.form
  obtain ⟨At, dt, rfl, _, _⟩ := ht.form
  obtain ⟨Ac, dc, rfl, _, _⟩ := hc.form
  obtain ⟨fn, fl, ft, fc⟩ := fit

  have HR := Lib.hid hR
  have FN := Lib.hid fn
  have FL := Lib.hid fl
  have FT := Lib.hid ft
  have FC := Lib.hid fc
  have HL := Lib.hid hl
  have HT := Lib.hid ht
  have HC := Lib.hid hc
  have HOK := Lib.hid hok
  clear hR fn fl ft fc hl ht hc hok
  obtain ⟨w1, hw1⟩ : ∃ w1, w1 = (((w.alloc (.cells #[.string x.name, .slice Al x.labels.length dl, .slice At x.taints.length dt, .slice Ac x.cap.length dc, .bool x.cord] 26)).alloc (.cells #[.string ⟨#[]⟩, .slice none 0 0, .slice none 0 0, .slice none 0 0, .bool false] 26)).alloc (.cells #[.int .i64 0, .int .i64 0, .string ⟨#[]⟩, .int .i64 0, .int .i64 0, .int .i64 0, .string ⟨#[]⟩, .int .i64 0, .int .i64 0, .int .i64 0, .string ⟨#[]⟩, .int .i64 0, .int .i64 0, .int .i64 0, .string ⟨#[]⟩, .int .i64 0, .int .i64 0, .int .i64 0, .string ⟨#[]⟩] 51)) := ⟨_, rfl⟩
  have z1 : w.heap.size + 3 ≤ w1.heap.size := by rw [hw1]; simp
  have HB1 := Lib.hid (show Below w.heap.size w w1 by
    rw [hw1]
    exact Below.alloc (Below.alloc (Below.alloc (Below.refl _ _) (Nat.le_refl _) _) (by simp) _) (by simp; omega) _)
  have HS := Lib.hid (show ∀ W, Below w1.heap.size w1 W → W.cell? ⟨w.heap.size, 0, none⟩ = some (.string x.name) ∧ W.cell? ⟨w.heap.size, 1, none⟩ = some (.slice Al x.labels.length dl) ∧ W.cell? ⟨w.heap.size, 2, none⟩ = some (.slice At x.taints.length dt) ∧ W.cell? ⟨w.heap.size, 3, none⟩ = some (.slice Ac x.cap.length dc) ∧ W.cell? ⟨w.heap.size, 4, none⟩ = some (.bool x.cord) ∧ W.heap[w.heap.size]? = some (.cells #[.string x.name, .slice Al x.labels.length dl, .slice At x.taints.length dt, .slice Ac x.cap.length dc, .bool x.cord] 26 (0, 0)) ∧ W.heap[w.heap.size + 1]? = some (.cells #[.string ⟨#[]⟩, .slice none 0 0, .slice none 0 0, .slice none 0 0, .bool false] 26 (0, 0)) ∧ W.heap[w.heap.size + 2]? = some (.cells #[.int .i64 0, .int .i64 0, .string ⟨#[]⟩, .int .i64 0, .int .i64 0, .int .i64 0, .string ⟨#[]⟩, .int .i64 0, .int .i64 0, .int .i64 0, .string ⟨#[]⟩, .int .i64 0, .int .i64 0, .int .i64 0, .string ⟨#[]⟩, .int .i64 0, .int .i64 0, .int .i64 0, .string ⟨#[]⟩] 51 (0, 0)) by
    intro W g
    have k1 : w1.heap[w.heap.size]? = some (.cells #[.string x.name, .slice Al x.labels.length dl, .slice At x.taints.length dt, .slice Ac x.cap.length dc, .bool x.cord] 26 (0, 0)) := by
      rw [hw1]
      exact hkeep (hkeep (heap_alloc_new w _) _) _
    have k2 : w1.heap[w.heap.size + 1]? = some (.cells #[.string ⟨#[]⟩, .slice none 0 0, .slice none 0 0, .slice none 0 0, .bool false] 26 (0, 0)) := by
      rw [hw1]
      exact hkeep (by simpa using heap_alloc_new (w.alloc _) _) _
    have k3 : w1.heap[w.heap.size + 2]? = some (.cells #[.int .i64 0, .int .i64 0, .string ⟨#[]⟩, .int .i64 0, .int .i64 0, .int .i64 0, .string ⟨#[]⟩, .int .i64 0, .int .i64 0, .int .i64 0, .string ⟨#[]⟩, .int .i64 0, .int .i64 0, .int .i64 0, .string ⟨#[]⟩, .int .i64 0, .int .i64 0, .int .i64 0, .string ⟨#[]⟩] 51 (0, 0)) := by
      rw [hw1]
      simpa using heap_alloc_new ((w.alloc _).alloc _) _
    have l1 := (g.block w.heap.size (by omega)).trans k1
    have l2 := (g.block (w.heap.size + 1) (by omega)).trans k2
    have l3 := (g.block (w.heap.size + 2) (by omega)).trans k3
    exact ⟨cell_at l1 rfl, cell_at l1 rfl, cell_at l1 rfl, cell_at l1 rfl, cell_at l1 rfl, l1, l2, l3⟩)
  go_enter Tryz.func16, Tryz.ntmps16
  go_upto_region 1 with fail
  rw [← hw1]
  clear hw1
  obtain ⟨c0, c1, c2, c3, c4, o1, o2, o3⟩ := HS.out w1 (Below.refl _ _)
  go_wp2_with fail
  refine rname_k _ _ _ FN.out ?_
  intro w2 g2
  have G2 := Lib.hid g2
  clear g2 c0 c1 c2 c3 c4 o1 o2 o3
  obtain ⟨c0, c1, c2, c3, c4, o1, o2, o3⟩ := HS.out w2 G2.out
  obtain ⟨b, hb⟩ : ∃ b, nameB x.name = b := ⟨_, rfl⟩
  rw [hb]
  have HN := Lib.hid hb
  clear hb
  cases b with
  | false =>
    have HQ := Lib.hid (chkNode_1 HN.out)
    go_wp2_with fail
    refine rrefuse_k _ _ _ _ ?_
    intro w3 gw3
    have Gw3 := Lib.hid (G2.out.trans (gw3.mono G2.out.size))
    clear gw3 c0 c1 c2 c3 c4 o1 o2 o3
    obtain ⟨c0, c1, c2, c3, c4, o1, o2, o3⟩ := HS.out w3 Gw3.out
    have q3 : (w3.setRow (w.heap.size + 1) #[.string ⟨#[]⟩, .slice none 0 0, .slice none 0 0, .slice none 0 0, .bool false]).heap[w.heap.size + 2]? = some (.cells #[.int .i64 0, .int .i64 0, .string ⟨#[]⟩, .int .i64 0, .int .i64 0, .int .i64 0, .string ⟨#[]⟩, .int .i64 0, .int .i64 0, .int .i64 0, .string ⟨#[]⟩, .int .i64 0, .int .i64 0, .int .i64 0, .string ⟨#[]⟩, .int .i64 0, .int .i64 0, .int .i64 0, .string ⟨#[]⟩] 51 (0, 0)) := (setRow_other _ _ _ _ (by omega)).trans o3
    have p3 : ((w3.setRow (w.heap.size + 1) #[.string ⟨#[]⟩, .slice none 0 0, .slice none 0 0, .slice none 0 0, .bool false]).setRow (w.heap.size + 2) #[.int .i64 30, .int .i64 (-1), .string x.name, .int .i64 0, .int .i64 0, .int .i64 0, .string ⟨#[]⟩, .int .i64 0, .int .i64 0, .int .i64 0, .string ⟨#[]⟩, .int .i64 0, .int .i64 0, .int .i64 0, .string ⟨#[]⟩, .int .i64 0, .int .i64 0, .int .i64 0, .string ⟨#[]⟩]).heap[w.heap.size + 2]? = some (.cells #[.int .i64 30, .int .i64 (-1), .string x.name, .int .i64 0, .int .i64 0, .int .i64 0, .string ⟨#[]⟩, .int .i64 0, .int .i64 0, .int .i64 0, .string ⟨#[]⟩, .int .i64 0, .int .i64 0, .int .i64 0, .string ⟨#[]⟩, .int .i64 0, .int .i64 0, .int .i64 0, .string ⟨#[]⟩] 51 (0, 0)) := setRow_heap _ _ _ _ _ _ q3
    have p2 : ((w3.setRow (w.heap.size + 1) #[.string ⟨#[]⟩, .slice none 0 0, .slice none 0 0, .slice none 0 0, .bool false]).setRow (w.heap.size + 2) #[.int .i64 30, .int .i64 (-1), .string x.name, .int .i64 0, .int .i64 0, .int .i64 0, .string ⟨#[]⟩, .int .i64 0, .int .i64 0, .int .i64 0, .string ⟨#[]⟩, .int .i64 0, .int .i64 0, .int .i64 0, .string ⟨#[]⟩, .int .i64 0, .int .i64 0, .int .i64 0, .string ⟨#[]⟩]).heap[w.heap.size + 1]? = some (.cells #[.string ⟨#[]⟩, .slice none 0 0, .slice none 0 0, .slice none 0 0, .bool false] 26 (0, 0)) := (setRow_other _ _ _ _ (by omega)).trans (setRow_heap _ _ _ _ _ _ o2)
    have hv : R (.returned (.tuple #[.agg #[.string ⟨#[]⟩, .slice none 0 0, .slice none 0 0, .slice none 0 0, .bool false], .agg #[.int .i64 30, .int .i64 (-1), .string x.name, .int .i64 0, .int .i64 0, .int .i64 0, .string ⟨#[]⟩, .int .i64 0, .int .i64 0, .int .i64 0, .string ⟨#[]⟩, .int .i64 0, .int .i64 0, .int .i64 0, .string ⟨#[]⟩, .int .i64 0, .int .i64 0, .int .i64 0, .string ⟨#[]⟩]])) ((w3.setRow (w.heap.size + 1) #[.string ⟨#[]⟩, .slice none 0 0, .slice none 0 0, .slice none 0 0, .bool false]).setRow (w.heap.size + 2) #[.int .i64 30, .int .i64 (-1), .string x.name, .int .i64 0, .int .i64 0, .int .i64 0, .string ⟨#[]⟩, .int .i64 0, .int .i64 0, .int .i64 0, .string ⟨#[]⟩, .int .i64 0, .int .i64 0, .int .i64 0, .string ⟨#[]⟩, .int .i64 0, .int .i64 0, .int .i64 0, .string ⟨#[]⟩]) := by
      have h := HR.out [.string ⟨#[]⟩, .slice none 0 0, .slice none 0 0, .slice none 0 0, .bool false] ((w3.setRow (w.heap.size + 1) #[.string ⟨#[]⟩, .slice none 0 0, .slice none 0 0, .slice none 0 0, .bool false]).setRow (w.heap.size + 2) #[.int .i64 30, .int .i64 (-1), .string x.name, .int .i64 0, .int .i64 0, .int .i64 0, .string ⟨#[]⟩, .int .i64 0, .int .i64 0, .int .i64 0, .string ⟨#[]⟩, .int .i64 0, .int .i64 0, .int .i64 0, .string ⟨#[]⟩, .int .i64 0, .int .i64 0, .int .i64 0, .string ⟨#[]⟩]) (below_setRow (below_setRow (HB1.out.trans ((Gw3.out).mono HB1.out.size)) (by omega) _) (by omega) _) (by rw [HQ.out]; exact ⟨_, _, _, rfl, SlK.nil, SlK.nil, SlK.nil⟩)
      rw [HQ.out] at h
      exact h
    go_wp2_with (first | (refine wpList_store_row rfl 26 _ _ rfl (w.heap.size + 1) #[.string ⟨#[]⟩, .slice none 0 0, .slice none 0 0, .slice none 0 0, .bool false] rfl rfl 26 #[.string ⟨#[]⟩, .slice none 0 0, .slice none 0 0, .slice none 0 0, .bool false] o2 (by kernel_rfl) (by simp) (by simp [Value.oneCell']) ?_) | (refine wpList_store_row rfl 51 _ _ rfl (w.heap.size + 2) #[.int .i64 30, .int .i64 (-1), .string x.name, .int .i64 0, .int .i64 0, .int .i64 0, .string ⟨#[]⟩, .int .i64 0, .int .i64 0, .int .i64 0, .string ⟨#[]⟩, .int .i64 0, .int .i64 0, .int .i64 0, .string ⟨#[]⟩, .int .i64 0, .int .i64 0, .int .i64 0, .string ⟨#[]⟩] rfl rfl 51 #[.int .i64 0, .int .i64 0, .string ⟨#[]⟩, .int .i64 0, .int .i64 0, .int .i64 0, .string ⟨#[]⟩, .int .i64 0, .int .i64 0, .int .i64 0, .string ⟨#[]⟩, .int .i64 0, .int .i64 0, .int .i64 0, .string ⟨#[]⟩, .int .i64 0, .int .i64 0, .int .i64 0, .string ⟨#[]⟩] q3 (by kernel_rfl) (by simp) (by simp [Value.oneCell']) ?_))
    exact bodyPost_ret (results_rows2 Tryz.results16 _ _ (w.heap.size + 1) (w.heap.size + 2) 26 51 #[.string ⟨#[]⟩, .slice none 0 0, .slice none 0 0, .slice none 0 0, .bool false] #[.int .i64 30, .int .i64 (-1), .string x.name, .int .i64 0, .int .i64 0, .int .i64 0, .string ⟨#[]⟩, .int .i64 0, .int .i64 0, .int .i64 0, .string ⟨#[]⟩, .int .i64 0, .int .i64 0, .int .i64 0, .string ⟨#[]⟩, .int .i64 0, .int .i64 0, .int .i64 0, .string ⟨#[]⟩] (0, 0) (0, 0) _ _ rfl p2 Tryz.underlying26 rfl (by kernel_rfl) rfl p3 Tryz.underlying51 rfl (by kernel_rfl)) rfl hv
  | true =>
    obtain ⟨m1, s1, e1, hm⟩ : ∃ m s e, labMake x.labels = (m, s, e) := ⟨_, _, _, rfl⟩
    have HM1 := Lib.hid hm
    have hbw := HB1.out.trans (G2.out.mono HB1.out.size)
    have HBW1 := Lib.hid hbw
    clear hbw
    go_wp2_with fail
    refine rlmake_k _ _ ok _ x.labels (fun k hk => Nat.lt_of_lt_of_le (HOK.out k hk) HBW1.out.size) (HL.out.below labOk HBW1.out HOK.out) FL.out.1 FL.out.2 ?_
    intro v1 w4 gw4 hv1
    rw [hm] at hv1 ⊢
    dsimp only at hv1
    have G4 := Lib.hid (G2.out.trans (gw4.mono G2.out.size))
    obtain ⟨A1, d1, ev1, _, _⟩ := hv1.form
    subst ev1
    have HV1 := Lib.hid (hv1.bnd labOk)
    clear hv1
    have GG1 := Lib.hid gw4
    clear gw4 hm c0 c1 c2 c3 c4 o1 o2 o3
    obtain ⟨c0, c1, c2, c3, c4, o1, o2, o3⟩ := HS.out w4 G4.out
    by_cases he : ¬ e1 = 0
    · have HQ := Lib.hid (chkNode_2 HN.out HM1.out he)
      go_wp2_with fail
      refine rrefuse_k _ _ _ _ ?_
      intro w5 gw5
      have Gw5 := Lib.hid (G4.out.trans (gw5.mono G4.out.size))
      clear gw5 c0 c1 c2 c3 c4 o1 o2 o3
      obtain ⟨c0, c1, c2, c3, c4, o1, o2, o3⟩ := HS.out w5 Gw5.out
      have q3 : (w5.setRow (w.heap.size + 1) #[.string ⟨#[]⟩, .slice none 0 0, .slice none 0 0, .slice none 0 0, .bool false]).heap[w.heap.size + 2]? = some (.cells #[.int .i64 0, .int .i64 0, .string ⟨#[]⟩, .int .i64 0, .int .i64 0, .int .i64 0, .string ⟨#[]⟩, .int .i64 0, .int .i64 0, .int .i64 0, .string ⟨#[]⟩, .int .i64 0, .int .i64 0, .int .i64 0, .string ⟨#[]⟩, .int .i64 0, .int .i64 0, .int .i64 0, .string ⟨#[]⟩] 51 (0, 0)) := (setRow_other _ _ _ _ (by omega)).trans o3
      have p3 : ((w5.setRow (w.heap.size + 1) #[.string ⟨#[]⟩, .slice none 0 0, .slice none 0 0, .slice none 0 0, .bool false]).setRow (w.heap.size + 2) #[.int .i64 e1, .int .i64 (-1), .string s1, .int .i64 0, .int .i64 0, .int .i64 0, .string ⟨#[]⟩, .int .i64 0, .int .i64 0, .int .i64 0, .string ⟨#[]⟩, .int .i64 0, .int .i64 0, .int .i64 0, .string ⟨#[]⟩, .int .i64 0, .int .i64 0, .int .i64 0, .string ⟨#[]⟩]).heap[w.heap.size + 2]? = some (.cells #[.int .i64 e1, .int .i64 (-1), .string s1, .int .i64 0, .int .i64 0, .int .i64 0, .string ⟨#[]⟩, .int .i64 0, .int .i64 0, .int .i64 0, .string ⟨#[]⟩, .int .i64 0, .int .i64 0, .int .i64 0, .string ⟨#[]⟩, .int .i64 0, .int .i64 0, .int .i64 0, .string ⟨#[]⟩] 51 (0, 0)) := setRow_heap _ _ _ _ _ _ q3
      have p2 : ((w5.setRow (w.heap.size + 1) #[.string ⟨#[]⟩, .slice none 0 0, .slice none 0 0, .slice none 0 0, .bool false]).setRow (w.heap.size + 2) #[.int .i64 e1, .int .i64 (-1), .string s1, .int .i64 0, .int .i64 0, .int .i64 0, .string ⟨#[]⟩, .int .i64 0, .int .i64 0, .int .i64 0, .string ⟨#[]⟩, .int .i64 0, .int .i64 0, .int .i64 0, .string ⟨#[]⟩, .int .i64 0, .int .i64 0, .int .i64 0, .string ⟨#[]⟩]).heap[w.heap.size + 1]? = some (.cells #[.string ⟨#[]⟩, .slice none 0 0, .slice none 0 0, .slice none 0 0, .bool false] 26 (0, 0)) := (setRow_other _ _ _ _ (by omega)).trans (setRow_heap _ _ _ _ _ _ o2)
      have hv : R (.returned (.tuple #[.agg #[.string ⟨#[]⟩, .slice none 0 0, .slice none 0 0, .slice none 0 0, .bool false], .agg #[.int .i64 e1, .int .i64 (-1), .string s1, .int .i64 0, .int .i64 0, .int .i64 0, .string ⟨#[]⟩, .int .i64 0, .int .i64 0, .int .i64 0, .string ⟨#[]⟩, .int .i64 0, .int .i64 0, .int .i64 0, .string ⟨#[]⟩, .int .i64 0, .int .i64 0, .int .i64 0, .string ⟨#[]⟩]])) ((w5.setRow (w.heap.size + 1) #[.string ⟨#[]⟩, .slice none 0 0, .slice none 0 0, .slice none 0 0, .bool false]).setRow (w.heap.size + 2) #[.int .i64 e1, .int .i64 (-1), .string s1, .int .i64 0, .int .i64 0, .int .i64 0, .string ⟨#[]⟩, .int .i64 0, .int .i64 0, .int .i64 0, .string ⟨#[]⟩, .int .i64 0, .int .i64 0, .int .i64 0, .string ⟨#[]⟩, .int .i64 0, .int .i64 0, .int .i64 0, .string ⟨#[]⟩]) := by
        have h := HR.out [.string ⟨#[]⟩, .slice none 0 0, .slice none 0 0, .slice none 0 0, .bool false] ((w5.setRow (w.heap.size + 1) #[.string ⟨#[]⟩, .slice none 0 0, .slice none 0 0, .slice none 0 0, .bool false]).setRow (w.heap.size + 2) #[.int .i64 e1, .int .i64 (-1), .string s1, .int .i64 0, .int .i64 0, .int .i64 0, .string ⟨#[]⟩, .int .i64 0, .int .i64 0, .int .i64 0, .string ⟨#[]⟩, .int .i64 0, .int .i64 0, .int .i64 0, .string ⟨#[]⟩, .int .i64 0, .int .i64 0, .int .i64 0, .string ⟨#[]⟩]) (below_setRow (below_setRow (HB1.out.trans ((Gw5.out).mono HB1.out.size)) (by omega) _) (by omega) _) (by rw [HQ.out]; exact ⟨_, _, _, rfl, SlK.nil, SlK.nil, SlK.nil⟩)
        rw [HQ.out] at h
        exact h
      go_wp2_with (first | (refine wpList_store_row rfl 26 _ _ rfl (w.heap.size + 1) #[.string ⟨#[]⟩, .slice none 0 0, .slice none 0 0, .slice none 0 0, .bool false] rfl rfl 26 #[.string ⟨#[]⟩, .slice none 0 0, .slice none 0 0, .slice none 0 0, .bool false] o2 (by kernel_rfl) (by simp) (by simp [Value.oneCell']) ?_) | (refine wpList_store_row rfl 51 _ _ rfl (w.heap.size + 2) #[.int .i64 e1, .int .i64 (-1), .string s1, .int .i64 0, .int .i64 0, .int .i64 0, .string ⟨#[]⟩, .int .i64 0, .int .i64 0, .int .i64 0, .string ⟨#[]⟩, .int .i64 0, .int .i64 0, .int .i64 0, .string ⟨#[]⟩, .int .i64 0, .int .i64 0, .int .i64 0, .string ⟨#[]⟩] rfl rfl 51 #[.int .i64 0, .int .i64 0, .string ⟨#[]⟩, .int .i64 0, .int .i64 0, .int .i64 0, .string ⟨#[]⟩, .int .i64 0, .int .i64 0, .int .i64 0, .string ⟨#[]⟩, .int .i64 0, .int .i64 0, .int .i64 0, .string ⟨#[]⟩, .int .i64 0, .int .i64 0, .int .i64 0, .string ⟨#[]⟩] q3 (by kernel_rfl) (by simp) (by simp [Value.oneCell']) ?_))
      exact bodyPost_ret (results_rows2 Tryz.results16 _ _ (w.heap.size + 1) (w.heap.size + 2) 26 51 #[.string ⟨#[]⟩, .slice none 0 0, .slice none 0 0, .slice none 0 0, .bool false] #[.int .i64 e1, .int .i64 (-1), .string s1, .int .i64 0, .int .i64 0, .int .i64 0, .string ⟨#[]⟩, .int .i64 0, .int .i64 0, .int .i64 0, .string ⟨#[]⟩, .int .i64 0, .int .i64 0, .int .i64 0, .string ⟨#[]⟩, .int .i64 0, .int .i64 0, .int .i64 0, .string ⟨#[]⟩] (0, 0) (0, 0) _ _ rfl p2 Tryz.underlying26 rfl (by kernel_rfl) rfl p3 Tryz.underlying51 rfl (by kernel_rfl)) rfl hv
    · have he := Decidable.not_not.1 he
      subst he
      obtain ⟨m2, s2, e2, hm⟩ : ∃ m s e, tntMake x.taints = (m, s, e) := ⟨_, _, _, rfl⟩
      have HM2 := Lib.hid hm
      have hbw := HB1.out.trans (G4.out.mono HB1.out.size)
      have HBW2 := Lib.hid hbw
      clear hbw
      go_wp2_with fail
      refine rtmake_k _ _ ok _ x.taints (fun k hk => Nat.lt_of_lt_of_le (HOK.out k hk) HBW2.out.size) (HT.out.below tntOk HBW2.out HOK.out) FT.out.1 FT.out.2 ?_
      intro v2 w6 gw6 hv2
      rw [hm] at hv2 ⊢
      dsimp only at hv2
      have G6 := Lib.hid (G4.out.trans (gw6.mono G4.out.size))
      obtain ⟨A2, d2, ev2, _, _⟩ := hv2.form
      subst ev2
      have HV2 := Lib.hid (hv2.bnd tntOk)
      clear hv2
      have GG2 := Lib.hid gw6
      clear gw6 hm c0 c1 c2 c3 c4 o1 o2 o3
      obtain ⟨c0, c1, c2, c3, c4, o1, o2, o3⟩ := HS.out w6 G6.out
      by_cases he : ¬ e2 = 0
      · have HQ := Lib.hid (chkNode_3 HN.out HM1.out HM2.out he)
        have q3 : (w6.setRow (w.heap.size + 1) #[.string ⟨#[]⟩, .slice none 0 0, .slice none 0 0, .slice none 0 0, .bool false]).heap[w.heap.size + 2]? = some (.cells #[.int .i64 0, .int .i64 0, .string ⟨#[]⟩, .int .i64 0, .int .i64 0, .int .i64 0, .string ⟨#[]⟩, .int .i64 0, .int .i64 0, .int .i64 0, .string ⟨#[]⟩, .int .i64 0, .int .i64 0, .int .i64 0, .string ⟨#[]⟩, .int .i64 0, .int .i64 0, .int .i64 0, .string ⟨#[]⟩] 51 (0, 0)) := (setRow_other _ _ _ _ (by omega)).trans o3
        have p3 : ((w6.setRow (w.heap.size + 1) #[.string ⟨#[]⟩, .slice none 0 0, .slice none 0 0, .slice none 0 0, .bool false]).setRow (w.heap.size + 2) #[.int .i64 e2, .int .i64 s2, .string ⟨#[]⟩, .int .i64 0, .int .i64 0, .int .i64 0, .string ⟨#[]⟩, .int .i64 0, .int .i64 0, .int .i64 0, .string ⟨#[]⟩, .int .i64 0, .int .i64 0, .int .i64 0, .string ⟨#[]⟩, .int .i64 0, .int .i64 0, .int .i64 0, .string ⟨#[]⟩]).heap[w.heap.size + 2]? = some (.cells #[.int .i64 e2, .int .i64 s2, .string ⟨#[]⟩, .int .i64 0, .int .i64 0, .int .i64 0, .string ⟨#[]⟩, .int .i64 0, .int .i64 0, .int .i64 0, .string ⟨#[]⟩, .int .i64 0, .int .i64 0, .int .i64 0, .string ⟨#[]⟩, .int .i64 0, .int .i64 0, .int .i64 0, .string ⟨#[]⟩] 51 (0, 0)) := setRow_heap _ _ _ _ _ _ q3
        have p2 : ((w6.setRow (w.heap.size + 1) #[.string ⟨#[]⟩, .slice none 0 0, .slice none 0 0, .slice none 0 0, .bool false]).setRow (w.heap.size + 2) #[.int .i64 e2, .int .i64 s2, .string ⟨#[]⟩, .int .i64 0, .int .i64 0, .int .i64 0, .string ⟨#[]⟩, .int .i64 0, .int .i64 0, .int .i64 0, .string ⟨#[]⟩, .int .i64 0, .int .i64 0, .int .i64 0, .string ⟨#[]⟩, .int .i64 0, .int .i64 0, .int .i64 0, .string ⟨#[]⟩]).heap[w.heap.size + 1]? = some (.cells #[.string ⟨#[]⟩, .slice none 0 0, .slice none 0 0, .slice none 0 0, .bool false] 26 (0, 0)) := (setRow_other _ _ _ _ (by omega)).trans (setRow_heap _ _ _ _ _ _ o2)
        have hv : R (.returned (.tuple #[.agg #[.string ⟨#[]⟩, .slice none 0 0, .slice none 0 0, .slice none 0 0, .bool false], .agg #[.int .i64 e2, .int .i64 s2, .string ⟨#[]⟩, .int .i64 0, .int .i64 0, .int .i64 0, .string ⟨#[]⟩, .int .i64 0, .int .i64 0, .int .i64 0, .string ⟨#[]⟩, .int .i64 0, .int .i64 0, .int .i64 0, .string ⟨#[]⟩, .int .i64 0, .int .i64 0, .int .i64 0, .string ⟨#[]⟩]])) ((w6.setRow (w.heap.size + 1) #[.string ⟨#[]⟩, .slice none 0 0, .slice none 0 0, .slice none 0 0, .bool false]).setRow (w.heap.size + 2) #[.int .i64 e2, .int .i64 s2, .string ⟨#[]⟩, .int .i64 0, .int .i64 0, .int .i64 0, .string ⟨#[]⟩, .int .i64 0, .int .i64 0, .int .i64 0, .string ⟨#[]⟩, .int .i64 0, .int .i64 0, .int .i64 0, .string ⟨#[]⟩, .int .i64 0, .int .i64 0, .int .i64 0, .string ⟨#[]⟩]) := by
          have h := HR.out [.string ⟨#[]⟩, .slice none 0 0, .slice none 0 0, .slice none 0 0, .bool false] ((w6.setRow (w.heap.size + 1) #[.string ⟨#[]⟩, .slice none 0 0, .slice none 0 0, .slice none 0 0, .bool false]).setRow (w.heap.size + 2) #[.int .i64 e2, .int .i64 s2, .string ⟨#[]⟩, .int .i64 0, .int .i64 0, .int .i64 0, .string ⟨#[]⟩, .int .i64 0, .int .i64 0, .int .i64 0, .string ⟨#[]⟩, .int .i64 0, .int .i64 0, .int .i64 0, .string ⟨#[]⟩, .int .i64 0, .int .i64 0, .int .i64 0, .string ⟨#[]⟩]) (below_setRow (below_setRow (HB1.out.trans ((G6.out).mono HB1.out.size)) (by omega) _) (by omega) _) (by rw [HQ.out]; exact ⟨_, _, _, rfl, SlK.nil, SlK.nil, SlK.nil⟩)
          rw [HQ.out] at h
          exact h
        go_wp2_with (first | (refine wpList_store_row rfl 26 _ _ rfl (w.heap.size + 1) #[.string ⟨#[]⟩, .slice none 0 0, .slice none 0 0, .slice none 0 0, .bool false] rfl rfl 26 #[.string ⟨#[]⟩, .slice none 0 0, .slice none 0 0, .slice none 0 0, .bool false] o2 (by kernel_rfl) (by simp) (by simp [Value.oneCell']) ?_) | (refine wpList_store_row rfl 51 _ _ rfl (w.heap.size + 2) #[.int .i64 e2, .int .i64 s2, .string ⟨#[]⟩, .int .i64 0, .int .i64 0, .int .i64 0, .string ⟨#[]⟩, .int .i64 0, .int .i64 0, .int .i64 0, .string ⟨#[]⟩, .int .i64 0, .int .i64 0, .int .i64 0, .string ⟨#[]⟩, .int .i64 0, .int .i64 0, .int .i64 0, .string ⟨#[]⟩] rfl rfl 51 #[.int .i64 0, .int .i64 0, .string ⟨#[]⟩, .int .i64 0, .int .i64 0, .int .i64 0, .string ⟨#[]⟩, .int .i64 0, .int .i64 0, .int .i64 0, .string ⟨#[]⟩, .int .i64 0, .int .i64 0, .int .i64 0, .string ⟨#[]⟩, .int .i64 0, .int .i64 0, .int .i64 0, .string ⟨#[]⟩] q3 (by kernel_rfl) (by simp) (by simp [Value.oneCell']) ?_))
        exact bodyPost_ret (results_rows2 Tryz.results16 _ _ (w.heap.size + 1) (w.heap.size + 2) 26 51 #[.string ⟨#[]⟩, .slice none 0 0, .slice none 0 0, .slice none 0 0, .bool false] #[.int .i64 e2, .int .i64 s2, .string ⟨#[]⟩, .int .i64 0, .int .i64 0, .int .i64 0, .string ⟨#[]⟩, .int .i64 0, .int .i64 0, .int .i64 0, .string ⟨#[]⟩, .int .i64 0, .int .i64 0, .int .i64 0, .string ⟨#[]⟩, .int .i64 0, .int .i64 0, .int .i64 0, .string ⟨#[]⟩] (0, 0) (0, 0) _ _ rfl p2 Tryz.underlying26 rfl (by kernel_rfl) rfl p3 Tryz.underlying51 rfl (by kernel_rfl)) rfl hv
      · have he := Decidable.not_not.1 he
        subst he
        obtain ⟨m3, s3, e3, hm⟩ : ∃ m s e, itmMake x.cap = (m, s, e) := ⟨_, _, _, rfl⟩
        have HM3 := Lib.hid hm
        have hbw := HB1.out.trans (G6.out.mono HB1.out.size)
        have HBW3 := Lib.hid hbw
        clear hbw
        go_wp2_with fail
        refine rqmake_k _ _ ok _ x.cap (fun k hk => Nat.lt_of_lt_of_le (HOK.out k hk) HBW3.out.size) (HC.out.below itmOk HBW3.out HOK.out) (fun s hs => (FC.out.1 s hs).1) FC.out.2 ?_
        intro v3 w8 gw8 hv3
        rw [hm] at hv3 ⊢
        dsimp only at hv3
        have G8 := Lib.hid (G6.out.trans (gw8.mono G6.out.size))
        obtain ⟨A3, d3, ev3, _, _⟩ := hv3.form
        subst ev3
        have HV3 := Lib.hid (hv3.bnd itmOk)
        clear hv3
        have GG3 := Lib.hid gw8
        clear gw8 hm c0 c1 c2 c3 c4 o1 o2 o3
        obtain ⟨c0, c1, c2, c3, c4, o1, o2, o3⟩ := HS.out w8 G8.out
        by_cases he : ¬ e3 = 0
        · have HQ := Lib.hid (chkNode_4 HN.out HM1.out HM2.out HM3.out he)
          go_wp2_with fail
          refine rrefuse_k _ _ _ _ ?_
          intro w9 gw9
          have Gw9 := Lib.hid (G8.out.trans (gw9.mono G8.out.size))
          clear gw9 c0 c1 c2 c3 c4 o1 o2 o3
          obtain ⟨c0, c1, c2, c3, c4, o1, o2, o3⟩ := HS.out w9 Gw9.out
          have q3 : (w9.setRow (w.heap.size + 1) #[.string ⟨#[]⟩, .slice none 0 0, .slice none 0 0, .slice none 0 0, .bool false]).heap[w.heap.size + 2]? = some (.cells #[.int .i64 0, .int .i64 0, .string ⟨#[]⟩, .int .i64 0, .int .i64 0, .int .i64 0, .string ⟨#[]⟩, .int .i64 0, .int .i64 0, .int .i64 0, .string ⟨#[]⟩, .int .i64 0, .int .i64 0, .int .i64 0, .string ⟨#[]⟩, .int .i64 0, .int .i64 0, .int .i64 0, .string ⟨#[]⟩] 51 (0, 0)) := (setRow_other _ _ _ _ (by omega)).trans o3
          have p3 : ((w9.setRow (w.heap.size + 1) #[.string ⟨#[]⟩, .slice none 0 0, .slice none 0 0, .slice none 0 0, .bool false]).setRow (w.heap.size + 2) #[.int .i64 e3, .int .i64 (-1), .string s3, .int .i64 0, .int .i64 0, .int .i64 0, .string ⟨#[]⟩, .int .i64 0, .int .i64 0, .int .i64 0, .string ⟨#[]⟩, .int .i64 0, .int .i64 0, .int .i64 0, .string ⟨#[]⟩, .int .i64 0, .int .i64 0, .int .i64 0, .string ⟨#[]⟩]).heap[w.heap.size + 2]? = some (.cells #[.int .i64 e3, .int .i64 (-1), .string s3, .int .i64 0, .int .i64 0, .int .i64 0, .string ⟨#[]⟩, .int .i64 0, .int .i64 0, .int .i64 0, .string ⟨#[]⟩, .int .i64 0, .int .i64 0, .int .i64 0, .string ⟨#[]⟩, .int .i64 0, .int .i64 0, .int .i64 0, .string ⟨#[]⟩] 51 (0, 0)) := setRow_heap _ _ _ _ _ _ q3
          have p2 : ((w9.setRow (w.heap.size + 1) #[.string ⟨#[]⟩, .slice none 0 0, .slice none 0 0, .slice none 0 0, .bool false]).setRow (w.heap.size + 2) #[.int .i64 e3, .int .i64 (-1), .string s3, .int .i64 0, .int .i64 0, .int .i64 0, .string ⟨#[]⟩, .int .i64 0, .int .i64 0, .int .i64 0, .string ⟨#[]⟩, .int .i64 0, .int .i64 0, .int .i64 0, .string ⟨#[]⟩, .int .i64 0, .int .i64 0, .int .i64 0, .string ⟨#[]⟩]).heap[w.heap.size + 1]? = some (.cells #[.string ⟨#[]⟩, .slice none 0 0, .slice none 0 0, .slice none 0 0, .bool false] 26 (0, 0)) := (setRow_other _ _ _ _ (by omega)).trans (setRow_heap _ _ _ _ _ _ o2)
          have hv : R (.returned (.tuple #[.agg #[.string ⟨#[]⟩, .slice none 0 0, .slice none 0 0, .slice none 0 0, .bool false], .agg #[.int .i64 e3, .int .i64 (-1), .string s3, .int .i64 0, .int .i64 0, .int .i64 0, .string ⟨#[]⟩, .int .i64 0, .int .i64 0, .int .i64 0, .string ⟨#[]⟩, .int .i64 0, .int .i64 0, .int .i64 0, .string ⟨#[]⟩, .int .i64 0, .int .i64 0, .int .i64 0, .string ⟨#[]⟩]])) ((w9.setRow (w.heap.size + 1) #[.string ⟨#[]⟩, .slice none 0 0, .slice none 0 0, .slice none 0 0, .bool false]).setRow (w.heap.size + 2) #[.int .i64 e3, .int .i64 (-1), .string s3, .int .i64 0, .int .i64 0, .int .i64 0, .string ⟨#[]⟩, .int .i64 0, .int .i64 0, .int .i64 0, .string ⟨#[]⟩, .int .i64 0, .int .i64 0, .int .i64 0, .string ⟨#[]⟩, .int .i64 0, .int .i64 0, .int .i64 0, .string ⟨#[]⟩]) := by
            have h := HR.out [.string ⟨#[]⟩, .slice none 0 0, .slice none 0 0, .slice none 0 0, .bool false] ((w9.setRow (w.heap.size + 1) #[.string ⟨#[]⟩, .slice none 0 0, .slice none 0 0, .slice none 0 0, .bool false]).setRow (w.heap.size + 2) #[.int .i64 e3, .int .i64 (-1), .string s3, .int .i64 0, .int .i64 0, .int .i64 0, .string ⟨#[]⟩, .int .i64 0, .int .i64 0, .int .i64 0, .string ⟨#[]⟩, .int .i64 0, .int .i64 0, .int .i64 0, .string ⟨#[]⟩, .int .i64 0, .int .i64 0, .int .i64 0, .string ⟨#[]⟩]) (below_setRow (below_setRow (HB1.out.trans ((Gw9.out).mono HB1.out.size)) (by omega) _) (by omega) _) (by rw [HQ.out]; exact ⟨_, _, _, rfl, SlK.nil, SlK.nil, SlK.nil⟩)
            rw [HQ.out] at h
            exact h
          go_wp2_with (first | (refine wpList_store_row rfl 26 _ _ rfl (w.heap.size + 1) #[.string ⟨#[]⟩, .slice none 0 0, .slice none 0 0, .slice none 0 0, .bool false] rfl rfl 26 #[.string ⟨#[]⟩, .slice none 0 0, .slice none 0 0, .slice none 0 0, .bool false] o2 (by kernel_rfl) (by simp) (by simp [Value.oneCell']) ?_) | (refine wpList_store_row rfl 51 _ _ rfl (w.heap.size + 2) #[.int .i64 e3, .int .i64 (-1), .string s3, .int .i64 0, .int .i64 0, .int .i64 0, .string ⟨#[]⟩, .int .i64 0, .int .i64 0, .int .i64 0, .string ⟨#[]⟩, .int .i64 0, .int .i64 0, .int .i64 0, .string ⟨#[]⟩, .int .i64 0, .int .i64 0, .int .i64 0, .string ⟨#[]⟩] rfl rfl 51 #[.int .i64 0, .int .i64 0, .string ⟨#[]⟩, .int .i64 0, .int .i64 0, .int .i64 0, .string ⟨#[]⟩, .int .i64 0, .int .i64 0, .int .i64 0, .string ⟨#[]⟩, .int .i64 0, .int .i64 0, .int .i64 0, .string ⟨#[]⟩, .int .i64 0, .int .i64 0, .int .i64 0, .string ⟨#[]⟩] q3 (by kernel_rfl) (by simp) (by simp [Value.oneCell']) ?_))
          exact bodyPost_ret (results_rows2 Tryz.results16 _ _ (w.heap.size + 1) (w.heap.size + 2) 26 51 #[.string ⟨#[]⟩, .slice none 0 0, .slice none 0 0, .slice none 0 0, .bool false] #[.int .i64 e3, .int .i64 (-1), .string s3, .int .i64 0, .int .i64 0, .int .i64 0, .string ⟨#[]⟩, .int .i64 0, .int .i64 0, .int .i64 0, .string ⟨#[]⟩, .int .i64 0, .int .i64 0, .int .i64 0, .string ⟨#[]⟩, .int .i64 0, .int .i64 0, .int .i64 0, .string ⟨#[]⟩] (0, 0) (0, 0) _ _ rfl p2 Tryz.underlying26 rfl (by kernel_rfl) rfl p3 Tryz.underlying51 rfl (by kernel_rfl)) rfl hv
        · have he := Decidable.not_not.1 he
          subst he
          have HQ := Lib.hid (chkNode_5 HN.out HM1.out HM2.out HM3.out)
          have STEP1 := Lib.hid (GG2.out.trans (GG3.out.mono GG2.out.size))
          have STEP2 := Lib.hid GG3.out
          have STEP3 := Lib.hid (Below.refl w8.heap.size w8)
          have q3 : (w8.setRow (w.heap.size + 1) #[.string x.name, .slice A1 m1.length d1, .slice A2 m2.length d2, .slice A3 m3.length d3, .bool x.cord]).heap[w.heap.size + 2]? = some (.cells #[.int .i64 0, .int .i64 0, .string ⟨#[]⟩, .int .i64 0, .int .i64 0, .int .i64 0, .string ⟨#[]⟩, .int .i64 0, .int .i64 0, .int .i64 0, .string ⟨#[]⟩, .int .i64 0, .int .i64 0, .int .i64 0, .string ⟨#[]⟩, .int .i64 0, .int .i64 0, .int .i64 0, .string ⟨#[]⟩] 51 (0, 0)) := (setRow_other _ _ _ _ (by omega)).trans o3
          have p3 : ((w8.setRow (w.heap.size + 1) #[.string x.name, .slice A1 m1.length d1, .slice A2 m2.length d2, .slice A3 m3.length d3, .bool x.cord]).setRow (w.heap.size + 2) #[.int .i64 0, .int .i64 0, .string ⟨#[]⟩, .int .i64 0, .int .i64 0, .int .i64 0, .string ⟨#[]⟩, .int .i64 0, .int .i64 0, .int .i64 0, .string ⟨#[]⟩, .int .i64 0, .int .i64 0, .int .i64 0, .string ⟨#[]⟩, .int .i64 0, .int .i64 0, .int .i64 0, .string ⟨#[]⟩]).heap[w.heap.size + 2]? = some (.cells #[.int .i64 0, .int .i64 0, .string ⟨#[]⟩, .int .i64 0, .int .i64 0, .int .i64 0, .string ⟨#[]⟩, .int .i64 0, .int .i64 0, .int .i64 0, .string ⟨#[]⟩, .int .i64 0, .int .i64 0, .int .i64 0, .string ⟨#[]⟩, .int .i64 0, .int .i64 0, .int .i64 0, .string ⟨#[]⟩] 51 (0, 0)) := setRow_heap _ _ _ _ _ _ q3
          have p2 : ((w8.setRow (w.heap.size + 1) #[.string x.name, .slice A1 m1.length d1, .slice A2 m2.length d2, .slice A3 m3.length d3, .bool x.cord]).setRow (w.heap.size + 2) #[.int .i64 0, .int .i64 0, .string ⟨#[]⟩, .int .i64 0, .int .i64 0, .int .i64 0, .string ⟨#[]⟩, .int .i64 0, .int .i64 0, .int .i64 0, .string ⟨#[]⟩, .int .i64 0, .int .i64 0, .int .i64 0, .string ⟨#[]⟩, .int .i64 0, .int .i64 0, .int .i64 0, .string ⟨#[]⟩]).heap[w.heap.size + 1]? = some (.cells #[.string x.name, .slice A1 m1.length d1, .slice A2 m2.length d2, .slice A3 m3.length d3, .bool x.cord] 26 (0, 0)) := (setRow_other _ _ _ _ (by omega)).trans (setRow_heap _ _ _ _ _ _ o2)
          have hv : R (.returned (.tuple #[.agg #[.string x.name, .slice A1 m1.length d1, .slice A2 m2.length d2, .slice A3 m3.length d3, .bool x.cord], .agg #[.int .i64 0, .int .i64 0, .string ⟨#[]⟩, .int .i64 0, .int .i64 0, .int .i64 0, .string ⟨#[]⟩, .int .i64 0, .int .i64 0, .int .i64 0, .string ⟨#[]⟩, .int .i64 0, .int .i64 0, .int .i64 0, .string ⟨#[]⟩, .int .i64 0, .int .i64 0, .int .i64 0, .string ⟨#[]⟩]])) ((w8.setRow (w.heap.size + 1) #[.string x.name, .slice A1 m1.length d1, .slice A2 m2.length d2, .slice A3 m3.length d3, .bool x.cord]).setRow (w.heap.size + 2) #[.int .i64 0, .int .i64 0, .string ⟨#[]⟩, .int .i64 0, .int .i64 0, .int .i64 0, .string ⟨#[]⟩, .int .i64 0, .int .i64 0, .int .i64 0, .string ⟨#[]⟩, .int .i64 0, .int .i64 0, .int .i64 0, .string ⟨#[]⟩, .int .i64 0, .int .i64 0, .int .i64 0, .string ⟨#[]⟩]) := by
            have h := HR.out [.string x.name, .slice A1 m1.length d1, .slice A2 m2.length d2, .slice A3 m3.length d3, .bool x.cord] ((w8.setRow (w.heap.size + 1) #[.string x.name, .slice A1 m1.length d1, .slice A2 m2.length d2, .slice A3 m3.length d3, .bool x.cord]).setRow (w.heap.size + 2) #[.int .i64 0, .int .i64 0, .string ⟨#[]⟩, .int .i64 0, .int .i64 0, .int .i64 0, .string ⟨#[]⟩, .int .i64 0, .int .i64 0, .int .i64 0, .string ⟨#[]⟩, .int .i64 0, .int .i64 0, .int .i64 0, .string ⟨#[]⟩, .int .i64 0, .int .i64 0, .int .i64 0, .string ⟨#[]⟩]) (below_setRow (below_setRow (HB1.out.trans ((G8.out).mono HB1.out.size)) (by omega) _) (by omega) _) (by rw [HQ.out]; exact ⟨_, _, _, rfl, ((HV1.out.move labOk (fun k hk => (setRow_other _ _ _ _ (by have := hk.1; have := (G2.out).size; omega)).trans ((setRow_other _ _ _ _ (by have := hk.1; have := (G2.out).size; omega)).trans ((STEP1.out).block k hk.2)))).mono labOk (fun k hk => Nat.le_trans (HB1.out.trans ((G2.out).mono HB1.out.size)).size hk.1)), ((HV2.out.move tntOk (fun k hk => (setRow_other _ _ _ _ (by have := hk.1; have := (G4.out).size; omega)).trans ((setRow_other _ _ _ _ (by have := hk.1; have := (G4.out).size; omega)).trans ((STEP2.out).block k hk.2)))).mono tntOk (fun k hk => Nat.le_trans (HB1.out.trans ((G4.out).mono HB1.out.size)).size hk.1)), ((HV3.out.move itmOk (fun k hk => (setRow_other _ _ _ _ (by have := hk.1; have := (G6.out).size; omega)).trans ((setRow_other _ _ _ _ (by have := hk.1; have := (G6.out).size; omega)).trans ((STEP3.out).block k hk.2)))).mono itmOk (fun k hk => Nat.le_trans (HB1.out.trans ((G6.out).mono HB1.out.size)).size hk.1))⟩)
            rw [HQ.out] at h
            exact h
          go_wp2_with (first | (refine wpList_store_row rfl 26 _ _ rfl (w.heap.size + 1) #[.string x.name, .slice A1 m1.length d1, .slice A2 m2.length d2, .slice A3 m3.length d3, .bool x.cord] rfl rfl 26 #[.string ⟨#[]⟩, .slice none 0 0, .slice none 0 0, .slice none 0 0, .bool false] o2 (by kernel_rfl) (by simp) (by simp [Value.oneCell']) ?_) | (refine wpList_store_row rfl 51 _ _ rfl (w.heap.size + 2) #[.int .i64 0, .int .i64 0, .string ⟨#[]⟩, .int .i64 0, .int .i64 0, .int .i64 0, .string ⟨#[]⟩, .int .i64 0, .int .i64 0, .int .i64 0, .string ⟨#[]⟩, .int .i64 0, .int .i64 0, .int .i64 0, .string ⟨#[]⟩, .int .i64 0, .int .i64 0, .int .i64 0, .string ⟨#[]⟩] rfl rfl 51 #[.int .i64 0, .int .i64 0, .string ⟨#[]⟩, .int .i64 0, .int .i64 0, .int .i64 0, .string ⟨#[]⟩, .int .i64 0, .int .i64 0, .int .i64 0, .string ⟨#[]⟩, .int .i64 0, .int .i64 0, .int .i64 0, .string ⟨#[]⟩, .int .i64 0, .int .i64 0, .int .i64 0, .string ⟨#[]⟩] q3 (by kernel_rfl) (by simp) (by simp [Value.oneCell']) ?_))
          exact bodyPost_ret (results_rows2 Tryz.results16 _ _ (w.heap.size + 1) (w.heap.size + 2) 26 51 #[.string x.name, .slice A1 m1.length d1, .slice A2 m2.length d2, .slice A3 m3.length d3, .bool x.cord] #[.int .i64 0, .int .i64 0, .string ⟨#[]⟩, .int .i64 0, .int .i64 0, .int .i64 0, .string ⟨#[]⟩, .int .i64 0, .int .i64 0, .int .i64 0, .string ⟨#[]⟩, .int .i64 0, .int .i64 0, .int .i64 0, .string ⟨#[]⟩, .int .i64 0, .int .i64 0, .int .i64 0, .string ⟨#[]⟩] (0, 0) (0, 0) _ _ rfl p2 Tryz.underlying26 rfl (by kernel_rfl) rfl p3 Tryz.underlying51 rfl (by kernel_rfl)) rfl hv
set_option maxRecDepth 100000 in
set_option maxHeartbeats 8000000 in
theorem checkNodeR_k (R : Ending → World → Prop) (w : World) (ok : Nat → Prop) (x : Nod) (cs : List Value) (hG : GOk w) (hok : ∀ k, ok k → k < w.heap.size) (hx : nodK w ok x cs) (fit : NodFit x)
    (hR : ∀ cs' v w', Below w.heap.size w w' → nodR w' (fun k => w.heap.size ≤ k) (chkNode x).1 cs' → ErrIs w' v (chkNode x).2 → R (.returned (.tuple #[.agg cs'.toArray, v])) w') :
    Calls Tryz.prog 11 #[.agg cs.toArray] w R := by
  obtain ⟨vl, vt, vc, rfl, hl, ht, hc⟩ := hx
  obtain ⟨Al, dl, rfl, _, _⟩ := hl.form
  obtain ⟨At, dt, rfl, _, _⟩ := ht.form
  obtain ⟨Ac, dc, rfl, _, _⟩ := hc.form
  obtain ⟨fn, fl, ft, fc⟩ := fit

  have HR := Lib.hid hR
  have FN := Lib.hid fn
  have FL := Lib.hid fl
  have FT := Lib.hid ft
  have FC := Lib.hid fc
  have HL := Lib.hid hl
  have HT := Lib.hid ht
  have HC := Lib.hid hc
  have HOK := Lib.hid hok
  clear hR fn fl ft fc hl ht hc hok
  obtain ⟨w1, hw1⟩ : ∃ w1, w1 = ((w.alloc (.cells #[.string x.name, .slice Al x.labels.length dl, .slice At x.taints.length dt, .slice Ac x.cap.length dc, .bool x.cord] 26)).alloc (.cells #[.string ⟨#[]⟩, .slice none 0 0, .slice none 0 0, .slice none 0 0, .bool false] 26)) := ⟨_, rfl⟩
  have z1 : w.heap.size + 2 ≤ w1.heap.size := by rw [hw1]; simp
  have HB1 := Lib.hid (show Below w.heap.size w w1 by
    rw [hw1]
    exact Below.alloc (Below.alloc (Below.refl _ _) (Nat.le_refl _) _) (by simp) _)
  have HS := Lib.hid (show ∀ W, Below w1.heap.size w1 W → W.cell? ⟨w.heap.size, 0, none⟩ = some (.string x.name) ∧ W.cell? ⟨w.heap.size, 1, none⟩ = some (.slice Al x.labels.length dl) ∧ W.cell? ⟨w.heap.size, 2, none⟩ = some (.slice At x.taints.length dt) ∧ W.cell? ⟨w.heap.size, 3, none⟩ = some (.slice Ac x.cap.length dc) ∧ W.cell? ⟨w.heap.size, 4, none⟩ = some (.bool x.cord) ∧ W.heap[w.heap.size]? = some (.cells #[.string x.name, .slice Al x.labels.length dl, .slice At x.taints.length dt, .slice Ac x.cap.length dc, .bool x.cord] 26 (0, 0)) ∧ W.heap[w.heap.size + 1]? = some (.cells #[.string ⟨#[]⟩, .slice none 0 0, .slice none 0 0, .slice none 0 0, .bool false] 26 (0, 0)) by
    intro W g
    have k1 : w1.heap[w.heap.size]? = some (.cells #[.string x.name, .slice Al x.labels.length dl, .slice At x.taints.length dt, .slice Ac x.cap.length dc, .bool x.cord] 26 (0, 0)) := by
      rw [hw1]
      exact hkeep (heap_alloc_new w _) _
    have k2 : w1.heap[w.heap.size + 1]? = some (.cells #[.string ⟨#[]⟩, .slice none 0 0, .slice none 0 0, .slice none 0 0, .bool false] 26 (0, 0)) := by
      rw [hw1]
      exact by simpa using heap_alloc_new (w.alloc _) _
    have l1 := (g.block w.heap.size (by omega)).trans k1
    have l2 := (g.block (w.heap.size + 1) (by omega)).trans k2
    exact ⟨cell_at l1 rfl, cell_at l1 rfl, cell_at l1 rfl, cell_at l1 rfl, cell_at l1 rfl, l1, l2⟩)
  have HG := Lib.hid (hG.below HB1.out)
  clear hG
  go_enter Tryz.func11, Tryz.ntmps11
  go_upto_region 1 with fail
  rw [← hw1]
  clear hw1
  obtain ⟨c0, c1, c2, c3, c4, o1, o2⟩ := HS.out w1 (Below.refl _ _)
  go_wp2_with fail
  refine name_k _ _ _ HG.out FN.out ?_
  intro w2 g2
  have G2 := Lib.hid g2
  clear g2 c0 c1 c2 c3 c4 o1 o2
  obtain ⟨c0, c1, c2, c3, c4, o1, o2⟩ := HS.out w2 G2.out
  obtain ⟨b, hb⟩ : ∃ b, nameB x.name = b := ⟨_, rfl⟩
  rw [hb]
  have HN := Lib.hid hb
  clear hb
  cases b with
  | false =>
    have HQ := Lib.hid (chkNode_1 HN.out)
    go_wp2_with fail
    refine refuse_k _ _ _ _ (by decide) ?_
    intro ve w3 gw3 hew3
    have Gw3 := Lib.hid (G2.out.trans (gw3.mono G2.out.size))
    have HEw3 := Lib.hid hew3
    clear gw3 hew3 c0 c1 c2 c3 c4 o1 o2
    obtain ⟨c0, c1, c2, c3, c4, o1, o2⟩ := HS.out w3 Gw3.out
    have p2 : (w3.setRow (w.heap.size + 1) #[.string ⟨#[]⟩, .slice none 0 0, .slice none 0 0, .slice none 0 0, .bool false]).heap[w.heap.size + 1]? = some (.cells #[.string ⟨#[]⟩, .slice none 0 0, .slice none 0 0, .slice none 0 0, .bool false] 26 (0, 0)) := setRow_heap _ _ _ _ _ _ o2
    have hv : R (.returned (.tuple #[.agg #[.string ⟨#[]⟩, .slice none 0 0, .slice none 0 0, .slice none 0 0, .bool false], ve])) (w3.setRow (w.heap.size + 1) #[.string ⟨#[]⟩, .slice none 0 0, .slice none 0 0, .slice none 0 0, .bool false]) := HR.out [.string ⟨#[]⟩, .slice none 0 0, .slice none 0 0, .slice none 0 0, .bool false] ve (w3.setRow (w.heap.size + 1) #[.string ⟨#[]⟩, .slice none 0 0, .slice none 0 0, .slice none 0 0, .bool false]) (below_setRow (HB1.out.trans ((Gw3.out).mono HB1.out.size)) (by omega) _) (by rw [HQ.out]; exact ⟨_, _, _, rfl, SlR.nil, SlR.nil, SlR.nil⟩) (by rw [HQ.out]; exact HEw3.out.row o2 (by decide) _)
    go_wp2_with (refine wpList_store_row rfl 26 _ _ rfl (w.heap.size + 1) #[.string ⟨#[]⟩, .slice none 0 0, .slice none 0 0, .slice none 0 0, .bool false] rfl rfl 26 #[.string ⟨#[]⟩, .slice none 0 0, .slice none 0 0, .slice none 0 0, .bool false] o2 (by kernel_rfl) (by simp) (by simp [Value.oneCell']) ?_)
    exact bodyPost_ret (results_row_tmp Tryz.results11 _ _ (w.heap.size + 1) 26 #[.string ⟨#[]⟩, .slice none 0 0, .slice none 0 0, .slice none 0 0, .bool false] (0, 0) _ rfl p2 Tryz.underlying26 rfl (by kernel_rfl)) rfl hv
  | true =>
    obtain ⟨m1, s1, e1, hm⟩ : ∃ m s e, labMake x.labels = (m, s, e) := ⟨_, _, _, rfl⟩
    have HM1 := Lib.hid hm
    have hbw := HB1.out.trans (G2.out.mono HB1.out.size)
    have HBW1 := Lib.hid hbw
    clear hbw
    go_wp2_with fail
    refine lmake_k _ _ ok _ x.labels (HG.out.below G2.out) (fun k hk => Nat.lt_of_lt_of_le (HOK.out k hk) HBW1.out.size) (HL.out.below labOk HBW1.out HOK.out) FL.out.1 FL.out.2 ?_
    intro v1 w4 gw4 hv1
    rw [hm] at hv1 ⊢
    dsimp only at hv1
    have G4 := Lib.hid (G2.out.trans (gw4.mono G2.out.size))
    obtain ⟨A1, d1, ev1, _, _⟩ := hv1.form
    subst ev1
    have HV1 := Lib.hid (hv1.bnd labOk)
    clear hv1
    have GG1 := Lib.hid gw4
    clear gw4 hm c0 c1 c2 c3 c4 o1 o2
    obtain ⟨c0, c1, c2, c3, c4, o1, o2⟩ := HS.out w4 G4.out
    by_cases he : ¬ e1 = 0
    · have HQ := Lib.hid (chkNode_2 HN.out HM1.out he)
      go_wp2_with fail
      refine refuse_k _ _ _ _ (he) ?_
      intro ve w5 gw5 hew5
      have Gw5 := Lib.hid (G4.out.trans (gw5.mono G4.out.size))
      have HEw5 := Lib.hid hew5
      clear gw5 hew5 c0 c1 c2 c3 c4 o1 o2
      obtain ⟨c0, c1, c2, c3, c4, o1, o2⟩ := HS.out w5 Gw5.out
      have p2 : (w5.setRow (w.heap.size + 1) #[.string ⟨#[]⟩, .slice none 0 0, .slice none 0 0, .slice none 0 0, .bool false]).heap[w.heap.size + 1]? = some (.cells #[.string ⟨#[]⟩, .slice none 0 0, .slice none 0 0, .slice none 0 0, .bool false] 26 (0, 0)) := setRow_heap _ _ _ _ _ _ o2
      have hv : R (.returned (.tuple #[.agg #[.string ⟨#[]⟩, .slice none 0 0, .slice none 0 0, .slice none 0 0, .bool false], ve])) (w5.setRow (w.heap.size + 1) #[.string ⟨#[]⟩, .slice none 0 0, .slice none 0 0, .slice none 0 0, .bool false]) := HR.out [.string ⟨#[]⟩, .slice none 0 0, .slice none 0 0, .slice none 0 0, .bool false] ve (w5.setRow (w.heap.size + 1) #[.string ⟨#[]⟩, .slice none 0 0, .slice none 0 0, .slice none 0 0, .bool false]) (below_setRow (HB1.out.trans ((Gw5.out).mono HB1.out.size)) (by omega) _) (by rw [HQ.out]; exact ⟨_, _, _, rfl, SlR.nil, SlR.nil, SlR.nil⟩) (by rw [HQ.out]; exact HEw5.out.row o2 (by decide) _)
      go_wp2_with (refine wpList_store_row rfl 26 _ _ rfl (w.heap.size + 1) #[.string ⟨#[]⟩, .slice none 0 0, .slice none 0 0, .slice none 0 0, .bool false] rfl rfl 26 #[.string ⟨#[]⟩, .slice none 0 0, .slice none 0 0, .slice none 0 0, .bool false] o2 (by kernel_rfl) (by simp) (by simp [Value.oneCell']) ?_)
      exact bodyPost_ret (results_row_tmp Tryz.results11 _ _ (w.heap.size + 1) 26 #[.string ⟨#[]⟩, .slice none 0 0, .slice none 0 0, .slice none 0 0, .bool false] (0, 0) _ rfl p2 Tryz.underlying26 rfl (by kernel_rfl)) rfl hv
    · have he := Decidable.not_not.1 he
      subst he
      obtain ⟨m2, s2, e2, hm⟩ : ∃ m s e, tntMake x.taints = (m, s, e) := ⟨_, _, _, rfl⟩
      have HM2 := Lib.hid hm
      have hbw := HB1.out.trans (G4.out.mono HB1.out.size)
      have HBW2 := Lib.hid hbw
      clear hbw
      go_wp2_with fail
      refine tmake_k _ _ ok _ x.taints (HG.out.below G4.out) (fun k hk => Nat.lt_of_lt_of_le (HOK.out k hk) HBW2.out.size) (HT.out.below tntOk HBW2.out HOK.out) FT.out.1 FT.out.2 ?_
      intro v2 w6 gw6 hv2
      rw [hm] at hv2 ⊢
      dsimp only at hv2
      have G6 := Lib.hid (G4.out.trans (gw6.mono G4.out.size))
      obtain ⟨A2, d2, ev2, _, _⟩ := hv2.form
      subst ev2
      have HV2 := Lib.hid (hv2.bnd tntOk)
      clear hv2
      have GG2 := Lib.hid gw6
      clear gw6 hm c0 c1 c2 c3 c4 o1 o2
      obtain ⟨c0, c1, c2, c3, c4, o1, o2⟩ := HS.out w6 G6.out
      by_cases he : ¬ e2 = 0
      · have HQ := Lib.hid (chkNode_3 HN.out HM1.out HM2.out he)
        have o2 := hkeep o2 (.cells #[.int .i64 e2, .int .i64 s2, .string ⟨#[]⟩, .nilIface] 139)
        have HX := Lib.hid (heap_alloc_new w6 (.cells #[.int .i64 e2, .int .i64 s2, .string ⟨#[]⟩, .nilIface] 139))
        have p2 : ((w6.alloc (.cells #[.int .i64 e2, .int .i64 s2, .string ⟨#[]⟩, .nilIface] 139)).setRow (w.heap.size + 1) #[.string ⟨#[]⟩, .slice none 0 0, .slice none 0 0, .slice none 0 0, .bool false]).heap[w.heap.size + 1]? = some (.cells #[.string ⟨#[]⟩, .slice none 0 0, .slice none 0 0, .slice none 0 0, .bool false] 26 (0, 0)) := setRow_heap _ _ _ _ _ _ o2
        have hv : R (.returned (.tuple #[.agg #[.string ⟨#[]⟩, .slice none 0 0, .slice none 0 0, .slice none 0 0, .bool false], (.iface 137 (.pointer (some ⟨w6.heap.size, 0, none⟩)))])) ((w6.alloc (.cells #[.int .i64 e2, .int .i64 s2, .string ⟨#[]⟩, .nilIface] 139)).setRow (w.heap.size + 1) #[.string ⟨#[]⟩, .slice none 0 0, .slice none 0 0, .slice none 0 0, .bool false]) := HR.out [.string ⟨#[]⟩, .slice none 0 0, .slice none 0 0, .slice none 0 0, .bool false] (.iface 137 (.pointer (some ⟨w6.heap.size, 0, none⟩))) ((w6.alloc (.cells #[.int .i64 e2, .int .i64 s2, .string ⟨#[]⟩, .nilIface] 139)).setRow (w.heap.size + 1) #[.string ⟨#[]⟩, .slice none 0 0, .slice none 0 0, .slice none 0 0, .bool false]) (below_setRow (HB1.out.trans ((G6.out.alloc G6.out.size _).mono HB1.out.size)) (by omega) _) (by rw [HQ.out]; exact ⟨_, _, _, rfl, SlR.nil, SlR.nil, SlR.nil⟩) (by rw [HQ.out]; exact ErrIs.row (.inr ⟨he, w6.heap.size, rfl, HX.out⟩) o2 (by decide) _)
        go_wp2_with (refine wpList_store_row rfl 26 _ _ rfl (w.heap.size + 1) #[.string ⟨#[]⟩, .slice none 0 0, .slice none 0 0, .slice none 0 0, .bool false] rfl rfl 26 #[.string ⟨#[]⟩, .slice none 0 0, .slice none 0 0, .slice none 0 0, .bool false] o2 (by kernel_rfl) (by simp) (by simp [Value.oneCell']) ?_)
        exact bodyPost_ret (results_row_tmp Tryz.results11 _ _ (w.heap.size + 1) 26 #[.string ⟨#[]⟩, .slice none 0 0, .slice none 0 0, .slice none 0 0, .bool false] (0, 0) _ rfl p2 Tryz.underlying26 rfl (by kernel_rfl)) rfl hv
      · have he := Decidable.not_not.1 he
        subst he
        obtain ⟨m3, s3, e3, hm⟩ : ∃ m s e, itmMake x.cap = (m, s, e) := ⟨_, _, _, rfl⟩
        have HM3 := Lib.hid hm
        have hbw := HB1.out.trans (G6.out.mono HB1.out.size)
        have HBW3 := Lib.hid hbw
        clear hbw
        go_wp2_with fail
        refine qmake_k _ _ ok _ x.cap (fun k hk => Nat.lt_of_lt_of_le (HOK.out k hk) HBW3.out.size) (HC.out.below itmOk HBW3.out HOK.out) (fun s hs => (FC.out.1 s hs).1) (fun s hs => (FC.out.1 s hs).2) FC.out.2 ?_
        intro v3 w8 gw8 hv3
        rw [hm] at hv3 ⊢
        dsimp only at hv3
        have G8 := Lib.hid (G6.out.trans (gw8.mono G6.out.size))
        obtain ⟨A3, d3, ev3, _, _⟩ := hv3.form
        subst ev3
        have HV3 := Lib.hid (hv3.bnd itmOk)
        clear hv3
        have GG3 := Lib.hid gw8
        clear gw8 hm c0 c1 c2 c3 c4 o1 o2
        obtain ⟨c0, c1, c2, c3, c4, o1, o2⟩ := HS.out w8 G8.out
        by_cases he : ¬ e3 = 0
        · have HQ := Lib.hid (chkNode_4 HN.out HM1.out HM2.out HM3.out he)
          go_wp2_with fail
          refine refuse_k _ _ _ _ (he) ?_
          intro ve w9 gw9 hew9
          have Gw9 := Lib.hid (G8.out.trans (gw9.mono G8.out.size))
          have HEw9 := Lib.hid hew9
          clear gw9 hew9 c0 c1 c2 c3 c4 o1 o2
          obtain ⟨c0, c1, c2, c3, c4, o1, o2⟩ := HS.out w9 Gw9.out
          have p2 : (w9.setRow (w.heap.size + 1) #[.string ⟨#[]⟩, .slice none 0 0, .slice none 0 0, .slice none 0 0, .bool false]).heap[w.heap.size + 1]? = some (.cells #[.string ⟨#[]⟩, .slice none 0 0, .slice none 0 0, .slice none 0 0, .bool false] 26 (0, 0)) := setRow_heap _ _ _ _ _ _ o2
          have hv : R (.returned (.tuple #[.agg #[.string ⟨#[]⟩, .slice none 0 0, .slice none 0 0, .slice none 0 0, .bool false], ve])) (w9.setRow (w.heap.size + 1) #[.string ⟨#[]⟩, .slice none 0 0, .slice none 0 0, .slice none 0 0, .bool false]) := HR.out [.string ⟨#[]⟩, .slice none 0 0, .slice none 0 0, .slice none 0 0, .bool false] ve (w9.setRow (w.heap.size + 1) #[.string ⟨#[]⟩, .slice none 0 0, .slice none 0 0, .slice none 0 0, .bool false]) (below_setRow (HB1.out.trans ((Gw9.out).mono HB1.out.size)) (by omega) _) (by rw [HQ.out]; exact ⟨_, _, _, rfl, SlR.nil, SlR.nil, SlR.nil⟩) (by rw [HQ.out]; exact HEw9.out.row o2 (by decide) _)
          go_wp2_with (refine wpList_store_row rfl 26 _ _ rfl (w.heap.size + 1) #[.string ⟨#[]⟩, .slice none 0 0, .slice none 0 0, .slice none 0 0, .bool false] rfl rfl 26 #[.string ⟨#[]⟩, .slice none 0 0, .slice none 0 0, .slice none 0 0, .bool false] o2 (by kernel_rfl) (by simp) (by simp [Value.oneCell']) ?_)
          exact bodyPost_ret (results_row_tmp Tryz.results11 _ _ (w.heap.size + 1) 26 #[.string ⟨#[]⟩, .slice none 0 0, .slice none 0 0, .slice none 0 0, .bool false] (0, 0) _ rfl p2 Tryz.underlying26 rfl (by kernel_rfl)) rfl hv
        · have he := Decidable.not_not.1 he
          subst he
          have HQ := Lib.hid (chkNode_5 HN.out HM1.out HM2.out HM3.out)
          have STEP1 := Lib.hid (GG2.out.trans (GG3.out.mono GG2.out.size))
          have STEP2 := Lib.hid GG3.out
          have STEP3 := Lib.hid (Below.refl w8.heap.size w8)
          have p2 : (w8.setRow (w.heap.size + 1) #[.string x.name, .slice A1 m1.length d1, .slice A2 m2.length d2, .slice A3 m3.length d3, .bool x.cord]).heap[w.heap.size + 1]? = some (.cells #[.string x.name, .slice A1 m1.length d1, .slice A2 m2.length d2, .slice A3 m3.length d3, .bool x.cord] 26 (0, 0)) := setRow_heap _ _ _ _ _ _ o2
          have hv : R (.returned (.tuple #[.agg #[.string x.name, .slice A1 m1.length d1, .slice A2 m2.length d2, .slice A3 m3.length d3, .bool x.cord], .nilIface])) (w8.setRow (w.heap.size + 1) #[.string x.name, .slice A1 m1.length d1, .slice A2 m2.length d2, .slice A3 m3.length d3, .bool x.cord]) := HR.out [.string x.name, .slice A1 m1.length d1, .slice A2 m2.length d2, .slice A3 m3.length d3, .bool x.cord] .nilIface (w8.setRow (w.heap.size + 1) #[.string x.name, .slice A1 m1.length d1, .slice A2 m2.length d2, .slice A3 m3.length d3, .bool x.cord]) (below_setRow (HB1.out.trans ((G8.out).mono HB1.out.size)) (by omega) _) (by rw [HQ.out]; exact ⟨_, _, _, rfl, ((HV1.out.move labOk (fun k hk => (setRow_other _ _ _ _ (by have := hk.1; have := (G2.out).size; omega)).trans ((STEP1.out).block k hk.2))).mono labOk (fun k hk => Nat.le_trans (HB1.out.trans ((G2.out).mono HB1.out.size)).size hk.1)), ((HV2.out.move tntOk (fun k hk => (setRow_other _ _ _ _ (by have := hk.1; have := (G4.out).size; omega)).trans ((STEP2.out).block k hk.2))).mono tntOk (fun k hk => Nat.le_trans (HB1.out.trans ((G4.out).mono HB1.out.size)).size hk.1)), ((HV3.out.move itmOk (fun k hk => (setRow_other _ _ _ _ (by have := hk.1; have := (G6.out).size; omega)).trans ((STEP3.out).block k hk.2))).mono itmOk (fun k hk => Nat.le_trans (HB1.out.trans ((G6.out).mono HB1.out.size)).size hk.1))⟩) (by rw [HQ.out]; exact .inl ⟨rfl, rfl⟩)
          go_wp2_with (refine wpList_store_row rfl 26 _ _ rfl (w.heap.size + 1) #[.string x.name, .slice A1 m1.length d1, .slice A2 m2.length d2, .slice A3 m3.length d3, .bool x.cord] rfl rfl 26 #[.string ⟨#[]⟩, .slice none 0 0, .slice none 0 0, .slice none 0 0, .bool false] o2 (by kernel_rfl) (by simp) (by simp [Value.oneCell']) ?_)
          exact bodyPost_ret (results_row_tmp Tryz.results11 _ _ (w.heap.size + 1) 26 #[.string x.name, .slice A1 m1.length d1, .slice A2 m2.length d2, .slice A3 m3.length d3, .bool x.cord] (0, 0) _ rfl p2 Tryz.underlying26 rfl (by kernel_rfl)) rfl hv
theorem checkNode_k (R : Ending → World → Prop) (w : World) (ok : Nat → Prop) (x : Nod) (cs : List Value) (hG : GOk w) (hok : ∀ k, ok k → k < w.heap.size) (hx : nodK w ok x cs) (fit : NodFit x)
    (hR : ∀ cs' v w', Below w.heap.size w w' → nodK w' (fun k => w.heap.size ≤ k) (chkNode x).1 cs' → ErrIs w' v (chkNode x).2 → R (.returned (.tuple #[.agg cs'.toArray, v])) w') :
    Calls Tryz.prog 11 #[.agg cs.toArray] w R := checkNodeR_k R w ok x cs hG hok hx fit (fun cs' v w' g h => hR cs' v w' g h.k)
end Go.Proofs.YtdceflgemhcgcaaGreatDoor
