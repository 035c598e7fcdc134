/-
  berthlaw06.roomyAct: an act whose lists have spare room with marks.
-/
import Derived.Test.YtdceflgemhcgcaaGreatDoorP22
import Derived.Test.YtdceflgemhcgcaaGreatDoorP03
import Derived.Test.YtdceflgemhcgcaaGreatDoorP17
import Derived.Test.YtdceflgemhcgcaaGreatDoorP05
import Derived.Test.YtdceflgemhcgcaaGreatDoorP18
set_option linter.unusedVariables false
set_option linter.unusedSimpArgs false
namespace Go.Proofs.YtdceflgemhcgcaaGreatDoor
open Go.RowKit Go.BigFrame

/-- A list with marks in its spare room, in a block of its own. -/
def Rmy {α : Type} (K : KRel α) (sz : Nat) (e : TypeId) (w : World) (B b : Nat) (xs : List α) (s : α) : Prop :=
  OwnK K sz e w B (fun _ => False) (.slice (some ⟨b, 0, none⟩) (xs.length + 80) (xs.length + 80)) (xs ++ List.replicate 80 s)
def rmyV (b n : Nat) : Value := .slice (some ⟨b, 0, none⟩) n (n + 80)
theorem Rmy.move {α : Type} {K : KRel α} {sz : Nat} {e : TypeId} {w w' : World} {B b : Nat} {xs : List α} {s : α} (H : KOk K sz) (h : Rmy K sz e w B b xs s) (hb : w'.heap[b]? = w.heap[b]?) (hs : w.heap.size ≤ w'.heap.size) : Rmy K sz e w' B b xs s :=
  OwnK.move H h (fun k _ hk => by
    rcases hk with hk | hk
    · exact hk.elim
    · cases hk; exact hb) hs
theorem Rmy.at {α : Type} {K : KRel α} {sz : Nat} {e : TypeId} {w : World} {B b : Nat} {xs : List α} {s : α} (h : Rmy K sz e w B b xs s) : B ≤ b ∧ b < w.heap.size := OwnK.own h b rfl
theorem Rmy.slk {α : Type} {K : KRel α} {sz : Nat} {e : TypeId} {w : World} {B b : Nat} {xs : List α} {s : α} (H : KOk K sz) (h : Rmy K sz e w B b xs s) : SlK K sz w (fun k => k = b) (.slice (some ⟨b, 0, none⟩) (xs.length + 80) (xs.length + 80)) (xs ++ List.replicate 80 s) :=
  (OwnK.slk H h).mono H (fun k hk => by
    rcases hk with hk | hk
    · exact hk.elim
    · cases hk; rfl)
/-- The list that it shows, and its room. -/
theorem Rmy.slr {α : Type} {K : KRel α} {sz : Nat} {e : TypeId} {w : World} {B b : Nat} {xs : List α} {s : α} (H : KOk K sz) (h : Rmy K sz e w B b xs s) : SlR K sz w (fun k => k = b) (rmyV b xs.length) xs := by
  have h1 := Rmy.slk H h
  have h2 := OwnK.room h
  obtain ⟨A, c, e1, h3, h4, h5⟩ := h1
  simp only [Value.slice.injEq, List.length_append, List.length_replicate] at e1
  obtain ⟨rfl, -, rfl⟩ := e1
  refine ⟨⟨_, _, rfl, by omega, h4, ?_⟩, ?_⟩
  · rcases h5 with h5 | ⟨b', off, hA, h6, h7, h8⟩
    · have : (xs ++ List.replicate 80 s).length = 0 := by rw [h5]; rfl
      simp at this
    · exact .inr ⟨b', off, hA, h6, h7, fun j x hj => h8 j x (by rw [List.getElem?_append_left (List.getElem?_eq_some_iff.1 hj).1]; exact hj)⟩
  · obtain ⟨A, c, e1, k3, k4, k5⟩ := h2
    simp only [Value.slice.injEq, List.length_append, List.length_replicate, true_and] at e1
    obtain ⟨rfl, rfl⟩ := e1
    refine ⟨_, _, rfl, by omega, k4, k5.imp id ?_⟩
    rintro ⟨b', off, hA, h6, h7, h8⟩
    cases h6
    exact ⟨_, off, hA, rfl, h7, h8⟩
set_option maxRecDepth 100000 in
set_option maxHeartbeats 16000000 in
theorem roomyAct_k (R : Ending → World → Prop) (w : World) (ok : Nat → Prop) (a : ActD) (cs : List Value) (hok : ∀ k, ok k → k < w.heap.size) (hx : actK w ok a cs) (hsn : NodShort a.node) (sc : a.cap.length ≤ 1073741824) (hsp : PdShort a.pod)
    (hR : ∀ b1 b2 b3 b4 b5 b6 b7 b8 b9 w', Below w.heap.size w w' → Rmy labK 2 118 w' w.heap.size b1 a.node.labels ⟨⟨#[33]⟩, ⟨#[]⟩⟩ → Rmy tntK 3 34 w' w.heap.size b2 a.node.taints ⟨⟨#[33]⟩, ⟨#[]⟩, ⟨#[]⟩⟩ → Rmy itmK 2 110 w' w.heap.size b3 a.node.cap ⟨⟨#[33]⟩, 0⟩ → Rmy itmK 2 110 w' w.heap.size b4 a.cap ⟨⟨#[33]⟩, 0⟩ → Rmy labK 2 118 w' w.heap.size b5 a.pod.labels ⟨⟨#[33]⟩, ⟨#[]⟩⟩ → Rmy itmK 2 110 w' w.heap.size b6 a.pod.needs ⟨⟨#[33]⟩, 0⟩ → Rmy tolK 4 123 w' w.heap.size b7 a.pod.tols ⟨⟨#[33]⟩, ⟨#[]⟩, ⟨#[]⟩, ⟨#[]⟩⟩ → Rmy aptK 2 126 w' w.heap.size b8 a.pod.apart ⟨⟨#[33]⟩, ⟨#[]⟩⟩ → Rmy prfK 2 129 w' w.heap.size b9 a.pod.prefer ⟨0, ⟨#[33]⟩⟩ → R (.returned (.agg #[.int .i64 a.kind, .string a.name, .string a.key, .string a.val, .bool a.on, .string a.node.name, rmyV b1 a.node.labels.length, rmyV b2 a.node.taints.length, rmyV b3 a.node.cap.length, .bool a.node.cord, .string a.taint.key, .string a.taint.val, .string a.taint.eff, rmyV b4 a.cap.length, .string a.pod.name, rmyV b5 a.pod.labels.length, rmyV b6 a.pod.needs.length, rmyV b7 a.pod.tols.length, .string a.pod.req, rmyV b8 a.pod.apart.length, rmyV b9 a.pod.prefer.length, .int .i64 a.pod.prio])) w') :
    Calls Tryz.prog 10 #[.agg cs.toArray] w R := by
  obtain ⟨c1, vq, c2, rfl, ⟨vl, vt, vc, rfl, hl, ht, hc⟩, hq, ⟨ul, un, ut, ua, up, rfl, gl, gn, gt, ga, gp⟩⟩ := hx
  obtain ⟨s0, s1, s2⟩ := hsn
  obtain ⟨p0, p1, p2, p3, p4⟩ := hsp
  obtain ⟨A00, d00, rfl, _, _⟩ := hl.form
  obtain ⟨A01, d01, rfl, _, _⟩ := ht.form
  obtain ⟨A02, d02, rfl, _, _⟩ := hc.form
  obtain ⟨A03, d03, rfl, _, _⟩ := hq.form
  obtain ⟨A04, d04, rfl, _, _⟩ := gl.form
  obtain ⟨A05, d05, rfl, _, _⟩ := gn.form
  obtain ⟨A06, d06, rfl, _, _⟩ := gt.form
  obtain ⟨A07, d07, rfl, _, _⟩ := ga.form
  obtain ⟨A08, d08, rfl, _, _⟩ := gp.form
  show Calls Tryz.prog 10 #[.agg #[.int .i64 a.kind, .string a.name, .string a.key, .string a.val, .bool a.on, .string a.node.name, .slice A00 a.node.labels.length d00, .slice A01 a.node.taints.length d01, .slice A02 a.node.cap.length d02, .bool a.node.cord, .string a.taint.key, .string a.taint.val, .string a.taint.eff, .slice A03 a.cap.length d03, .string a.pod.name, .slice A04 a.pod.labels.length d04, .slice A05 a.pod.needs.length d05, .slice A06 a.pod.tols.length d06, .string a.pod.req, .slice A07 a.pod.apart.length d07, .slice A08 a.pod.prefer.length d08, .int .i64 a.pod.prio]] w R
  have HR := Lib.hid hR
  have HOK := Lib.hid hok
  have Hhl := Lib.hid hl
  have Hht := Lib.hid ht
  have Hhc := Lib.hid hc
  have Hhq := Lib.hid hq
  have Hgl := Lib.hid gl
  have Hgn := Lib.hid gn
  have Hgt := Lib.hid gt
  have Hga := Lib.hid ga
  have Hgp := Lib.hid gp
  clear hR hok hl ht hc hq gl gn gt ga gp
  obtain ⟨w1, hw1⟩ : ∃ w1, w1 = (w.alloc (.cells #[.int .i64 a.kind, .string a.name, .string a.key, .string a.val, .bool a.on, .string a.node.name, .slice A00 a.node.labels.length d00, .slice A01 a.node.taints.length d01, .slice A02 a.node.cap.length d02, .bool a.node.cord, .string a.taint.key, .string a.taint.val, .string a.taint.eff, .slice A03 a.cap.length d03, .string a.pod.name, .slice A04 a.pod.labels.length d04, .slice A05 a.pod.needs.length d05, .slice A06 a.pod.tols.length d06, .string a.pod.req, .slice A07 a.pod.apart.length d07, .slice A08 a.pod.prefer.length d08, .int .i64 a.pod.prio] 36)).alloc (.cells #[.int .i64 0, .string ⟨#[]⟩, .string ⟨#[]⟩, .string ⟨#[]⟩, .bool false, .string ⟨#[]⟩, .slice none 0 0, .slice none 0 0, .slice none 0 0, .bool false, .string ⟨#[]⟩, .string ⟨#[]⟩, .string ⟨#[]⟩, .slice none 0 0, .string ⟨#[]⟩, .slice none 0 0, .slice none 0 0, .slice none 0 0, .string ⟨#[]⟩, .slice none 0 0, .slice none 0 0, .int .i64 0] 36) := ⟨_, rfl⟩
  have z1 : w.heap.size + 2 ≤ w1.heap.size := by rw [hw1]; simp
  have HB1 := Lib.hid (show Below w.heap.size w w1 by
    rw [hw1]
    exact Below.alloc (Below.alloc (Below.refl _ _) (Nat.le_refl _) _) (by simp) _)
  have o1 : w1.heap[w.heap.size]? = some (.cells #[.int .i64 a.kind, .string a.name, .string a.key, .string a.val, .bool a.on, .string a.node.name, .slice A00 a.node.labels.length d00, .slice A01 a.node.taints.length d01, .slice A02 a.node.cap.length d02, .bool a.node.cord, .string a.taint.key, .string a.taint.val, .string a.taint.eff, .slice A03 a.cap.length d03, .string a.pod.name, .slice A04 a.pod.labels.length d04, .slice A05 a.pod.needs.length d05, .slice A06 a.pod.tols.length d06, .string a.pod.req, .slice A07 a.pod.apart.length d07, .slice A08 a.pod.prefer.length d08, .int .i64 a.pod.prio] 36 (0, 0)) := by
    rw [hw1]
    exact hkeep (heap_alloc_new w _) _
  have p1' : w1.heap[w.heap.size + 1]? = some (.cells #[.int .i64 0, .string ⟨#[]⟩, .string ⟨#[]⟩, .string ⟨#[]⟩, .bool false, .string ⟨#[]⟩, .slice none 0 0, .slice none 0 0, .slice none 0 0, .bool false, .string ⟨#[]⟩, .string ⟨#[]⟩, .string ⟨#[]⟩, .slice none 0 0, .string ⟨#[]⟩, .slice none 0 0, .slice none 0 0, .slice none 0 0, .string ⟨#[]⟩, .slice none 0 0, .slice none 0 0, .int .i64 0] 36 (0, 0)) := by
    rw [hw1]
    simpa using heap_alloc_new (w.alloc _) _
  go_enter Tryz.func10, Tryz.ntmps10
  go_upto_region 1 with fail
  rw [← hw1]
  clear hw1
  have c6 : w1.cell? ⟨w.heap.size, 6, none⟩ = some (.slice A00 a.node.labels.length d00) := cell_at o1 rfl
  have g0 : Below w.heap.size w w1 := HB1.out
  go_wp2_with fail
  refine roomyL_k _ _ ok _ a.node.labels (fun k hk => Nat.lt_of_lt_of_le (HOK.out k hk) g0.size) (Hhl.out.below labOk g0 HOK.out) s0 ⟨⟨#[33]⟩, ⟨#[]⟩⟩ ?_
  intro b1 w2 g2 hv
  try simp only [World.size_setCell] at g2 hv
  have HB2 := Lib.hid (g0.trans (g2.mono HB1.out.size))
  have o2 : w2.heap[w.heap.size]? = some (.cells #[.int .i64 a.kind, .string a.name, .string a.key, .string a.val, .bool a.on, .string a.node.name, .slice A00 a.node.labels.length d00, .slice A01 a.node.taints.length d01, .slice A02 a.node.cap.length d02, .bool a.node.cord, .string a.taint.key, .string a.taint.val, .string a.taint.eff, .slice A03 a.cap.length d03, .string a.pod.name, .slice A04 a.pod.labels.length d04, .slice A05 a.pod.needs.length d05, .slice A06 a.pod.tols.length d06, .string a.pod.req, .slice A07 a.pod.apart.length d07, .slice A08 a.pod.prefer.length d08, .int .i64 a.pod.prio] 36 (0, 0)) := (g2.block _ (by omega)).trans (o1)
  have p2' : w2.heap[w.heap.size + 1]? = some (.cells #[.int .i64 0, .string ⟨#[]⟩, .string ⟨#[]⟩, .string ⟨#[]⟩, .bool false, .string ⟨#[]⟩, .slice none 0 0, .slice none 0 0, .slice none 0 0, .bool false, .string ⟨#[]⟩, .string ⟨#[]⟩, .string ⟨#[]⟩, .slice none 0 0, .string ⟨#[]⟩, .slice none 0 0, .slice none 0 0, .slice none 0 0, .string ⟨#[]⟩, .slice none 0 0, .slice none 0 0, .int .i64 0] 36 (0, 0)) := (g2.block _ (by omega)).trans (p1')
  have y2 : w1.heap.size ≤ w2.heap.size := by simpa using g2.size
  have z2 : w.heap.size + 2 ≤ w2.heap.size := by omega
  have hw : w1.heap.size ≤ b1 := (OwnK.own hv b1 rfl).1
  have HV1 := Lib.hid (show Rmy labK 2 118 w2 w1.heap.size b1 a.node.labels ⟨⟨#[33]⟩, ⟨#[]⟩⟩ from hv)
  have f2 : w2.frozen? ⟨w.heap.size, 6, none⟩ = false := frozen_at o2
  have k2 : w2.cell? ⟨w.heap.size, 6, none⟩ = some (.slice A00 a.node.labels.length d00) := cell_at o2 rfl
  clear g2 g0 c6 hv hw o1 p1'
  have c7 : (w2.setCell ⟨w.heap.size, 6, none⟩ (.slice (some ⟨b1, 0, none⟩) a.node.labels.length (a.node.labels.length + 80))).cell? ⟨w.heap.size, 7, none⟩ = some (.slice A01 a.node.taints.length d01) := cell_at (heap_setCell_at o2) rfl
  have g0 : Below w.heap.size w (w2.setCell ⟨w.heap.size, 6, none⟩ (.slice (some ⟨b1, 0, none⟩) a.node.labels.length (a.node.labels.length + 80))) := Below.setCell HB2.out (Nat.le_refl _) _
  go_wp2_with fail
  refine roomyT_k _ _ ok _ a.node.taints (fun k hk => Nat.lt_of_lt_of_le (HOK.out k hk) g0.size) (Hht.out.below tntOk g0 HOK.out) s1 ⟨⟨#[33]⟩, ⟨#[]⟩, ⟨#[]⟩⟩ ?_
  intro b2 w3 g3 hv
  try simp only [World.size_setCell] at g3 hv
  have HB3 := Lib.hid (g0.trans (g3.mono HB2.out.size))
  have o3 : w3.heap[w.heap.size]? = some (.cells #[.int .i64 a.kind, .string a.name, .string a.key, .string a.val, .bool a.on, .string a.node.name, .slice (some ⟨b1, 0, none⟩) a.node.labels.length (a.node.labels.length + 80), .slice A01 a.node.taints.length d01, .slice A02 a.node.cap.length d02, .bool a.node.cord, .string a.taint.key, .string a.taint.val, .string a.taint.eff, .slice A03 a.cap.length d03, .string a.pod.name, .slice A04 a.pod.labels.length d04, .slice A05 a.pod.needs.length d05, .slice A06 a.pod.tols.length d06, .string a.pod.req, .slice A07 a.pod.apart.length d07, .slice A08 a.pod.prefer.length d08, .int .i64 a.pod.prio] 36 (0, 0)) := (g3.block _ (by omega)).trans ((heap_setCell_at o2).trans rfl)
  have p3' : w3.heap[w.heap.size + 1]? = some (.cells #[.int .i64 0, .string ⟨#[]⟩, .string ⟨#[]⟩, .string ⟨#[]⟩, .bool false, .string ⟨#[]⟩, .slice none 0 0, .slice none 0 0, .slice none 0 0, .bool false, .string ⟨#[]⟩, .string ⟨#[]⟩, .string ⟨#[]⟩, .slice none 0 0, .string ⟨#[]⟩, .slice none 0 0, .slice none 0 0, .slice none 0 0, .string ⟨#[]⟩, .slice none 0 0, .slice none 0 0, .int .i64 0] 36 (0, 0)) := (g3.block _ (by omega)).trans ((Below.heap_setCell _ _ _ _ (by simp)).trans p2')
  have y3 : w2.heap.size ≤ w3.heap.size := by simpa using g3.size
  have z3 : w.heap.size + 2 ≤ w3.heap.size := by omega
  have hw : w2.heap.size ≤ b2 := (OwnK.own hv b2 rfl).1
  have HV2 := Lib.hid (show Rmy tntK 3 34 w3 w2.heap.size b2 a.node.taints ⟨⟨#[33]⟩, ⟨#[]⟩, ⟨#[]⟩⟩ from hv)
  have HV1 := Lib.hid (HV1.out.move labOk (w' := w3) ((g3.block _ (by have := HV1.out.at.2; omega)).trans (Below.heap_setCell _ _ _ _ (by have := HV1.out.at.1; simp; omega))) (by omega))
  have f3 : w3.frozen? ⟨w.heap.size, 7, none⟩ = false := frozen_at o3
  have k3 : w3.cell? ⟨w.heap.size, 7, none⟩ = some (.slice A01 a.node.taints.length d01) := cell_at o3 rfl
  clear g3 g0 c7 hv hw f2 k2 o2 p2'
  have c8 : (w3.setCell ⟨w.heap.size, 7, none⟩ (.slice (some ⟨b2, 0, none⟩) a.node.taints.length (a.node.taints.length + 80))).cell? ⟨w.heap.size, 8, none⟩ = some (.slice A02 a.node.cap.length d02) := cell_at (heap_setCell_at o3) rfl
  have g0 : Below w.heap.size w (w3.setCell ⟨w.heap.size, 7, none⟩ (.slice (some ⟨b2, 0, none⟩) a.node.taints.length (a.node.taints.length + 80))) := Below.setCell HB3.out (Nat.le_refl _) _
  go_wp2_with fail
  refine roomyI_k _ _ ok _ a.node.cap (fun k hk => Nat.lt_of_lt_of_le (HOK.out k hk) g0.size) (Hhc.out.below itmOk g0 HOK.out) s2 ⟨⟨#[33]⟩, 0⟩ ?_
  intro b3 w4 g4 hv
  try simp only [World.size_setCell] at g4 hv
  have HB4 := Lib.hid (g0.trans (g4.mono HB3.out.size))
  have o4 : w4.heap[w.heap.size]? = some (.cells #[.int .i64 a.kind, .string a.name, .string a.key, .string a.val, .bool a.on, .string a.node.name, .slice (some ⟨b1, 0, none⟩) a.node.labels.length (a.node.labels.length + 80), .slice (some ⟨b2, 0, none⟩) a.node.taints.length (a.node.taints.length + 80), .slice A02 a.node.cap.length d02, .bool a.node.cord, .string a.taint.key, .string a.taint.val, .string a.taint.eff, .slice A03 a.cap.length d03, .string a.pod.name, .slice A04 a.pod.labels.length d04, .slice A05 a.pod.needs.length d05, .slice A06 a.pod.tols.length d06, .string a.pod.req, .slice A07 a.pod.apart.length d07, .slice A08 a.pod.prefer.length d08, .int .i64 a.pod.prio] 36 (0, 0)) := (g4.block _ (by omega)).trans ((heap_setCell_at o3).trans rfl)
  have p4' : w4.heap[w.heap.size + 1]? = some (.cells #[.int .i64 0, .string ⟨#[]⟩, .string ⟨#[]⟩, .string ⟨#[]⟩, .bool false, .string ⟨#[]⟩, .slice none 0 0, .slice none 0 0, .slice none 0 0, .bool false, .string ⟨#[]⟩, .string ⟨#[]⟩, .string ⟨#[]⟩, .slice none 0 0, .string ⟨#[]⟩, .slice none 0 0, .slice none 0 0, .slice none 0 0, .string ⟨#[]⟩, .slice none 0 0, .slice none 0 0, .int .i64 0] 36 (0, 0)) := (g4.block _ (by omega)).trans ((Below.heap_setCell _ _ _ _ (by simp)).trans p3')
  have y4 : w3.heap.size ≤ w4.heap.size := by simpa using g4.size
  have z4 : w.heap.size + 2 ≤ w4.heap.size := by omega
  have hw : w3.heap.size ≤ b3 := (OwnK.own hv b3 rfl).1
  have HV3 := Lib.hid (show Rmy itmK 2 110 w4 w3.heap.size b3 a.node.cap ⟨⟨#[33]⟩, 0⟩ from hv)
  have HV1 := Lib.hid (HV1.out.move labOk (w' := w4) ((g4.block _ (by have := HV1.out.at.2; omega)).trans (Below.heap_setCell _ _ _ _ (by have := HV1.out.at.1; simp; omega))) (by omega))
  have HV2 := Lib.hid (HV2.out.move tntOk (w' := w4) ((g4.block _ (by have := HV2.out.at.2; omega)).trans (Below.heap_setCell _ _ _ _ (by have := HV2.out.at.1; simp; omega))) (by omega))
  have f4 : w4.frozen? ⟨w.heap.size, 8, none⟩ = false := frozen_at o4
  have k4 : w4.cell? ⟨w.heap.size, 8, none⟩ = some (.slice A02 a.node.cap.length d02) := cell_at o4 rfl
  clear g4 g0 c8 hv hw f3 k3 o3 p3'
  have c13 : (w4.setCell ⟨w.heap.size, 8, none⟩ (.slice (some ⟨b3, 0, none⟩) a.node.cap.length (a.node.cap.length + 80))).cell? ⟨w.heap.size, 13, none⟩ = some (.slice A03 a.cap.length d03) := cell_at (heap_setCell_at o4) rfl
  have g0 : Below w.heap.size w (w4.setCell ⟨w.heap.size, 8, none⟩ (.slice (some ⟨b3, 0, none⟩) a.node.cap.length (a.node.cap.length + 80))) := Below.setCell HB4.out (Nat.le_refl _) _
  go_wp2_with fail
  refine roomyI_k _ _ ok _ a.cap (fun k hk => Nat.lt_of_lt_of_le (HOK.out k hk) g0.size) (Hhq.out.below itmOk g0 HOK.out) sc ⟨⟨#[33]⟩, 0⟩ ?_
  intro b4 w5 g5 hv
  try simp only [World.size_setCell] at g5 hv
  have HB5 := Lib.hid (g0.trans (g5.mono HB4.out.size))
  have o5 : w5.heap[w.heap.size]? = some (.cells #[.int .i64 a.kind, .string a.name, .string a.key, .string a.val, .bool a.on, .string a.node.name, .slice (some ⟨b1, 0, none⟩) a.node.labels.length (a.node.labels.length + 80), .slice (some ⟨b2, 0, none⟩) a.node.taints.length (a.node.taints.length + 80), .slice (some ⟨b3, 0, none⟩) a.node.cap.length (a.node.cap.length + 80), .bool a.node.cord, .string a.taint.key, .string a.taint.val, .string a.taint.eff, .slice A03 a.cap.length d03, .string a.pod.name, .slice A04 a.pod.labels.length d04, .slice A05 a.pod.needs.length d05, .slice A06 a.pod.tols.length d06, .string a.pod.req, .slice A07 a.pod.apart.length d07, .slice A08 a.pod.prefer.length d08, .int .i64 a.pod.prio] 36 (0, 0)) := (g5.block _ (by omega)).trans ((heap_setCell_at o4).trans rfl)
  have p5' : w5.heap[w.heap.size + 1]? = some (.cells #[.int .i64 0, .string ⟨#[]⟩, .string ⟨#[]⟩, .string ⟨#[]⟩, .bool false, .string ⟨#[]⟩, .slice none 0 0, .slice none 0 0, .slice none 0 0, .bool false, .string ⟨#[]⟩, .string ⟨#[]⟩, .string ⟨#[]⟩, .slice none 0 0, .string ⟨#[]⟩, .slice none 0 0, .slice none 0 0, .slice none 0 0, .string ⟨#[]⟩, .slice none 0 0, .slice none 0 0, .int .i64 0] 36 (0, 0)) := (g5.block _ (by omega)).trans ((Below.heap_setCell _ _ _ _ (by simp)).trans p4')
  have y5 : w4.heap.size ≤ w5.heap.size := by simpa using g5.size
  have z5 : w.heap.size + 2 ≤ w5.heap.size := by omega
  have hw : w4.heap.size ≤ b4 := (OwnK.own hv b4 rfl).1
  have HV4 := Lib.hid (show Rmy itmK 2 110 w5 w4.heap.size b4 a.cap ⟨⟨#[33]⟩, 0⟩ from hv)
  have HV1 := Lib.hid (HV1.out.move labOk (w' := w5) ((g5.block _ (by have := HV1.out.at.2; omega)).trans (Below.heap_setCell _ _ _ _ (by have := HV1.out.at.1; simp; omega))) (by omega))
  have HV2 := Lib.hid (HV2.out.move tntOk (w' := w5) ((g5.block _ (by have := HV2.out.at.2; omega)).trans (Below.heap_setCell _ _ _ _ (by have := HV2.out.at.1; simp; omega))) (by omega))
  have HV3 := Lib.hid (HV3.out.move itmOk (w' := w5) ((g5.block _ (by have := HV3.out.at.2; omega)).trans (Below.heap_setCell _ _ _ _ (by have := HV3.out.at.1; simp; omega))) (by omega))
  have f5 : w5.frozen? ⟨w.heap.size, 13, none⟩ = false := frozen_at o5
  have k5 : w5.cell? ⟨w.heap.size, 13, none⟩ = some (.slice A03 a.cap.length d03) := cell_at o5 rfl
  clear g5 g0 c13 hv hw f4 k4 o4 p4'
  have c15 : (w5.setCell ⟨w.heap.size, 13, none⟩ (.slice (some ⟨b4, 0, none⟩) a.cap.length (a.cap.length + 80))).cell? ⟨w.heap.size, 15, none⟩ = some (.slice A04 a.pod.labels.length d04) := cell_at (heap_setCell_at o5) rfl
  have g0 : Below w.heap.size w (w5.setCell ⟨w.heap.size, 13, none⟩ (.slice (some ⟨b4, 0, none⟩) a.cap.length (a.cap.length + 80))) := Below.setCell HB5.out (Nat.le_refl _) _
  go_wp2_with fail
  refine roomyL_k _ _ ok _ a.pod.labels (fun k hk => Nat.lt_of_lt_of_le (HOK.out k hk) g0.size) (Hgl.out.below labOk g0 HOK.out) p0 ⟨⟨#[33]⟩, ⟨#[]⟩⟩ ?_
  intro b5 w6 g6 hv
  try simp only [World.size_setCell] at g6 hv
  have HB6 := Lib.hid (g0.trans (g6.mono HB5.out.size))
  have o6 : w6.heap[w.heap.size]? = some (.cells #[.int .i64 a.kind, .string a.name, .string a.key, .string a.val, .bool a.on, .string a.node.name, .slice (some ⟨b1, 0, none⟩) a.node.labels.length (a.node.labels.length + 80), .slice (some ⟨b2, 0, none⟩) a.node.taints.length (a.node.taints.length + 80), .slice (some ⟨b3, 0, none⟩) a.node.cap.length (a.node.cap.length + 80), .bool a.node.cord, .string a.taint.key, .string a.taint.val, .string a.taint.eff, .slice (some ⟨b4, 0, none⟩) a.cap.length (a.cap.length + 80), .string a.pod.name, .slice A04 a.pod.labels.length d04, .slice A05 a.pod.needs.length d05, .slice A06 a.pod.tols.length d06, .string a.pod.req, .slice A07 a.pod.apart.length d07, .slice A08 a.pod.prefer.length d08, .int .i64 a.pod.prio] 36 (0, 0)) := (g6.block _ (by omega)).trans ((heap_setCell_at o5).trans rfl)
  have p6' : w6.heap[w.heap.size + 1]? = some (.cells #[.int .i64 0, .string ⟨#[]⟩, .string ⟨#[]⟩, .string ⟨#[]⟩, .bool false, .string ⟨#[]⟩, .slice none 0 0, .slice none 0 0, .slice none 0 0, .bool false, .string ⟨#[]⟩, .string ⟨#[]⟩, .string ⟨#[]⟩, .slice none 0 0, .string ⟨#[]⟩, .slice none 0 0, .slice none 0 0, .slice none 0 0, .string ⟨#[]⟩, .slice none 0 0, .slice none 0 0, .int .i64 0] 36 (0, 0)) := (g6.block _ (by omega)).trans ((Below.heap_setCell _ _ _ _ (by simp)).trans p5')
  have y6 : w5.heap.size ≤ w6.heap.size := by simpa using g6.size
  have z6 : w.heap.size + 2 ≤ w6.heap.size := by omega
  have hw : w5.heap.size ≤ b5 := (OwnK.own hv b5 rfl).1
  have HV5 := Lib.hid (show Rmy labK 2 118 w6 w5.heap.size b5 a.pod.labels ⟨⟨#[33]⟩, ⟨#[]⟩⟩ from hv)
  have HV1 := Lib.hid (HV1.out.move labOk (w' := w6) ((g6.block _ (by have := HV1.out.at.2; omega)).trans (Below.heap_setCell _ _ _ _ (by have := HV1.out.at.1; simp; omega))) (by omega))
  have HV2 := Lib.hid (HV2.out.move tntOk (w' := w6) ((g6.block _ (by have := HV2.out.at.2; omega)).trans (Below.heap_setCell _ _ _ _ (by have := HV2.out.at.1; simp; omega))) (by omega))
  have HV3 := Lib.hid (HV3.out.move itmOk (w' := w6) ((g6.block _ (by have := HV3.out.at.2; omega)).trans (Below.heap_setCell _ _ _ _ (by have := HV3.out.at.1; simp; omega))) (by omega))
  have HV4 := Lib.hid (HV4.out.move itmOk (w' := w6) ((g6.block _ (by have := HV4.out.at.2; omega)).trans (Below.heap_setCell _ _ _ _ (by have := HV4.out.at.1; simp; omega))) (by omega))
  have f6 : w6.frozen? ⟨w.heap.size, 15, none⟩ = false := frozen_at o6
  have k6 : w6.cell? ⟨w.heap.size, 15, none⟩ = some (.slice A04 a.pod.labels.length d04) := cell_at o6 rfl
  clear g6 g0 c15 hv hw f5 k5 o5 p5'
  have c16 : (w6.setCell ⟨w.heap.size, 15, none⟩ (.slice (some ⟨b5, 0, none⟩) a.pod.labels.length (a.pod.labels.length + 80))).cell? ⟨w.heap.size, 16, none⟩ = some (.slice A05 a.pod.needs.length d05) := cell_at (heap_setCell_at o6) rfl
  have g0 : Below w.heap.size w (w6.setCell ⟨w.heap.size, 15, none⟩ (.slice (some ⟨b5, 0, none⟩) a.pod.labels.length (a.pod.labels.length + 80))) := Below.setCell HB6.out (Nat.le_refl _) _
  go_wp2_with fail
  refine roomyI_k _ _ ok _ a.pod.needs (fun k hk => Nat.lt_of_lt_of_le (HOK.out k hk) g0.size) (Hgn.out.below itmOk g0 HOK.out) p1 ⟨⟨#[33]⟩, 0⟩ ?_
  intro b6 w7 g7 hv
  try simp only [World.size_setCell] at g7 hv
  have HB7 := Lib.hid (g0.trans (g7.mono HB6.out.size))
  have o7 : w7.heap[w.heap.size]? = some (.cells #[.int .i64 a.kind, .string a.name, .string a.key, .string a.val, .bool a.on, .string a.node.name, .slice (some ⟨b1, 0, none⟩) a.node.labels.length (a.node.labels.length + 80), .slice (some ⟨b2, 0, none⟩) a.node.taints.length (a.node.taints.length + 80), .slice (some ⟨b3, 0, none⟩) a.node.cap.length (a.node.cap.length + 80), .bool a.node.cord, .string a.taint.key, .string a.taint.val, .string a.taint.eff, .slice (some ⟨b4, 0, none⟩) a.cap.length (a.cap.length + 80), .string a.pod.name, .slice (some ⟨b5, 0, none⟩) a.pod.labels.length (a.pod.labels.length + 80), .slice A05 a.pod.needs.length d05, .slice A06 a.pod.tols.length d06, .string a.pod.req, .slice A07 a.pod.apart.length d07, .slice A08 a.pod.prefer.length d08, .int .i64 a.pod.prio] 36 (0, 0)) := (g7.block _ (by omega)).trans ((heap_setCell_at o6).trans rfl)
  have p7' : w7.heap[w.heap.size + 1]? = some (.cells #[.int .i64 0, .string ⟨#[]⟩, .string ⟨#[]⟩, .string ⟨#[]⟩, .bool false, .string ⟨#[]⟩, .slice none 0 0, .slice none 0 0, .slice none 0 0, .bool false, .string ⟨#[]⟩, .string ⟨#[]⟩, .string ⟨#[]⟩, .slice none 0 0, .string ⟨#[]⟩, .slice none 0 0, .slice none 0 0, .slice none 0 0, .string ⟨#[]⟩, .slice none 0 0, .slice none 0 0, .int .i64 0] 36 (0, 0)) := (g7.block _ (by omega)).trans ((Below.heap_setCell _ _ _ _ (by simp)).trans p6')
  have y7 : w6.heap.size ≤ w7.heap.size := by simpa using g7.size
  have z7 : w.heap.size + 2 ≤ w7.heap.size := by omega
  have hw : w6.heap.size ≤ b6 := (OwnK.own hv b6 rfl).1
  have HV6 := Lib.hid (show Rmy itmK 2 110 w7 w6.heap.size b6 a.pod.needs ⟨⟨#[33]⟩, 0⟩ from hv)
  have HV1 := Lib.hid (HV1.out.move labOk (w' := w7) ((g7.block _ (by have := HV1.out.at.2; omega)).trans (Below.heap_setCell _ _ _ _ (by have := HV1.out.at.1; simp; omega))) (by omega))
  have HV2 := Lib.hid (HV2.out.move tntOk (w' := w7) ((g7.block _ (by have := HV2.out.at.2; omega)).trans (Below.heap_setCell _ _ _ _ (by have := HV2.out.at.1; simp; omega))) (by omega))
  have HV3 := Lib.hid (HV3.out.move itmOk (w' := w7) ((g7.block _ (by have := HV3.out.at.2; omega)).trans (Below.heap_setCell _ _ _ _ (by have := HV3.out.at.1; simp; omega))) (by omega))
  have HV4 := Lib.hid (HV4.out.move itmOk (w' := w7) ((g7.block _ (by have := HV4.out.at.2; omega)).trans (Below.heap_setCell _ _ _ _ (by have := HV4.out.at.1; simp; omega))) (by omega))
  have HV5 := Lib.hid (HV5.out.move labOk (w' := w7) ((g7.block _ (by have := HV5.out.at.2; omega)).trans (Below.heap_setCell _ _ _ _ (by have := HV5.out.at.1; simp; omega))) (by omega))
  have f7 : w7.frozen? ⟨w.heap.size, 16, none⟩ = false := frozen_at o7
  have k7 : w7.cell? ⟨w.heap.size, 16, none⟩ = some (.slice A05 a.pod.needs.length d05) := cell_at o7 rfl
  clear g7 g0 c16 hv hw f6 k6 o6 p6'
  have c17 : (w7.setCell ⟨w.heap.size, 16, none⟩ (.slice (some ⟨b6, 0, none⟩) a.pod.needs.length (a.pod.needs.length + 80))).cell? ⟨w.heap.size, 17, none⟩ = some (.slice A06 a.pod.tols.length d06) := cell_at (heap_setCell_at o7) rfl
  have g0 : Below w.heap.size w (w7.setCell ⟨w.heap.size, 16, none⟩ (.slice (some ⟨b6, 0, none⟩) a.pod.needs.length (a.pod.needs.length + 80))) := Below.setCell HB7.out (Nat.le_refl _) _
  go_wp2_with fail
  refine roomyO_k _ _ ok _ a.pod.tols (fun k hk => Nat.lt_of_lt_of_le (HOK.out k hk) g0.size) (Hgt.out.below tolOk g0 HOK.out) p2 ⟨⟨#[33]⟩, ⟨#[]⟩, ⟨#[]⟩, ⟨#[]⟩⟩ ?_
  intro b7 w8 g8 hv
  try simp only [World.size_setCell] at g8 hv
  have HB8 := Lib.hid (g0.trans (g8.mono HB7.out.size))
  have o8 : w8.heap[w.heap.size]? = some (.cells #[.int .i64 a.kind, .string a.name, .string a.key, .string a.val, .bool a.on, .string a.node.name, .slice (some ⟨b1, 0, none⟩) a.node.labels.length (a.node.labels.length + 80), .slice (some ⟨b2, 0, none⟩) a.node.taints.length (a.node.taints.length + 80), .slice (some ⟨b3, 0, none⟩) a.node.cap.length (a.node.cap.length + 80), .bool a.node.cord, .string a.taint.key, .string a.taint.val, .string a.taint.eff, .slice (some ⟨b4, 0, none⟩) a.cap.length (a.cap.length + 80), .string a.pod.name, .slice (some ⟨b5, 0, none⟩) a.pod.labels.length (a.pod.labels.length + 80), .slice (some ⟨b6, 0, none⟩) a.pod.needs.length (a.pod.needs.length + 80), .slice A06 a.pod.tols.length d06, .string a.pod.req, .slice A07 a.pod.apart.length d07, .slice A08 a.pod.prefer.length d08, .int .i64 a.pod.prio] 36 (0, 0)) := (g8.block _ (by omega)).trans ((heap_setCell_at o7).trans rfl)
  have p8' : w8.heap[w.heap.size + 1]? = some (.cells #[.int .i64 0, .string ⟨#[]⟩, .string ⟨#[]⟩, .string ⟨#[]⟩, .bool false, .string ⟨#[]⟩, .slice none 0 0, .slice none 0 0, .slice none 0 0, .bool false, .string ⟨#[]⟩, .string ⟨#[]⟩, .string ⟨#[]⟩, .slice none 0 0, .string ⟨#[]⟩, .slice none 0 0, .slice none 0 0, .slice none 0 0, .string ⟨#[]⟩, .slice none 0 0, .slice none 0 0, .int .i64 0] 36 (0, 0)) := (g8.block _ (by omega)).trans ((Below.heap_setCell _ _ _ _ (by simp)).trans p7')
  have y8 : w7.heap.size ≤ w8.heap.size := by simpa using g8.size
  have z8 : w.heap.size + 2 ≤ w8.heap.size := by omega
  have hw : w7.heap.size ≤ b7 := (OwnK.own hv b7 rfl).1
  have HV7 := Lib.hid (show Rmy tolK 4 123 w8 w7.heap.size b7 a.pod.tols ⟨⟨#[33]⟩, ⟨#[]⟩, ⟨#[]⟩, ⟨#[]⟩⟩ from hv)
  have HV1 := Lib.hid (HV1.out.move labOk (w' := w8) ((g8.block _ (by have := HV1.out.at.2; omega)).trans (Below.heap_setCell _ _ _ _ (by have := HV1.out.at.1; simp; omega))) (by omega))
  have HV2 := Lib.hid (HV2.out.move tntOk (w' := w8) ((g8.block _ (by have := HV2.out.at.2; omega)).trans (Below.heap_setCell _ _ _ _ (by have := HV2.out.at.1; simp; omega))) (by omega))
  have HV3 := Lib.hid (HV3.out.move itmOk (w' := w8) ((g8.block _ (by have := HV3.out.at.2; omega)).trans (Below.heap_setCell _ _ _ _ (by have := HV3.out.at.1; simp; omega))) (by omega))
  have HV4 := Lib.hid (HV4.out.move itmOk (w' := w8) ((g8.block _ (by have := HV4.out.at.2; omega)).trans (Below.heap_setCell _ _ _ _ (by have := HV4.out.at.1; simp; omega))) (by omega))
  have HV5 := Lib.hid (HV5.out.move labOk (w' := w8) ((g8.block _ (by have := HV5.out.at.2; omega)).trans (Below.heap_setCell _ _ _ _ (by have := HV5.out.at.1; simp; omega))) (by omega))
  have HV6 := Lib.hid (HV6.out.move itmOk (w' := w8) ((g8.block _ (by have := HV6.out.at.2; omega)).trans (Below.heap_setCell _ _ _ _ (by have := HV6.out.at.1; simp; omega))) (by omega))
  have f8 : w8.frozen? ⟨w.heap.size, 17, none⟩ = false := frozen_at o8
  have k8 : w8.cell? ⟨w.heap.size, 17, none⟩ = some (.slice A06 a.pod.tols.length d06) := cell_at o8 rfl
  clear g8 g0 c17 hv hw f7 k7 o7 p7'
  have c19 : (w8.setCell ⟨w.heap.size, 17, none⟩ (.slice (some ⟨b7, 0, none⟩) a.pod.tols.length (a.pod.tols.length + 80))).cell? ⟨w.heap.size, 19, none⟩ = some (.slice A07 a.pod.apart.length d07) := cell_at (heap_setCell_at o8) rfl
  have g0 : Below w.heap.size w (w8.setCell ⟨w.heap.size, 17, none⟩ (.slice (some ⟨b7, 0, none⟩) a.pod.tols.length (a.pod.tols.length + 80))) := Below.setCell HB8.out (Nat.le_refl _) _
  go_wp2_with fail
  refine roomyA_k _ _ ok _ a.pod.apart (fun k hk => Nat.lt_of_lt_of_le (HOK.out k hk) g0.size) (Hga.out.below aptOk g0 HOK.out) p3 ⟨⟨#[33]⟩, ⟨#[]⟩⟩ ?_
  intro b8 w9 g9 hv
  try simp only [World.size_setCell] at g9 hv
  have HB9 := Lib.hid (g0.trans (g9.mono HB8.out.size))
  have o9 : w9.heap[w.heap.size]? = some (.cells #[.int .i64 a.kind, .string a.name, .string a.key, .string a.val, .bool a.on, .string a.node.name, .slice (some ⟨b1, 0, none⟩) a.node.labels.length (a.node.labels.length + 80), .slice (some ⟨b2, 0, none⟩) a.node.taints.length (a.node.taints.length + 80), .slice (some ⟨b3, 0, none⟩) a.node.cap.length (a.node.cap.length + 80), .bool a.node.cord, .string a.taint.key, .string a.taint.val, .string a.taint.eff, .slice (some ⟨b4, 0, none⟩) a.cap.length (a.cap.length + 80), .string a.pod.name, .slice (some ⟨b5, 0, none⟩) a.pod.labels.length (a.pod.labels.length + 80), .slice (some ⟨b6, 0, none⟩) a.pod.needs.length (a.pod.needs.length + 80), .slice (some ⟨b7, 0, none⟩) a.pod.tols.length (a.pod.tols.length + 80), .string a.pod.req, .slice A07 a.pod.apart.length d07, .slice A08 a.pod.prefer.length d08, .int .i64 a.pod.prio] 36 (0, 0)) := (g9.block _ (by omega)).trans ((heap_setCell_at o8).trans rfl)
  have p9' : w9.heap[w.heap.size + 1]? = some (.cells #[.int .i64 0, .string ⟨#[]⟩, .string ⟨#[]⟩, .string ⟨#[]⟩, .bool false, .string ⟨#[]⟩, .slice none 0 0, .slice none 0 0, .slice none 0 0, .bool false, .string ⟨#[]⟩, .string ⟨#[]⟩, .string ⟨#[]⟩, .slice none 0 0, .string ⟨#[]⟩, .slice none 0 0, .slice none 0 0, .slice none 0 0, .string ⟨#[]⟩, .slice none 0 0, .slice none 0 0, .int .i64 0] 36 (0, 0)) := (g9.block _ (by omega)).trans ((Below.heap_setCell _ _ _ _ (by simp)).trans p8')
  have y9 : w8.heap.size ≤ w9.heap.size := by simpa using g9.size
  have z9 : w.heap.size + 2 ≤ w9.heap.size := by omega
  have hw : w8.heap.size ≤ b8 := (OwnK.own hv b8 rfl).1
  have HV8 := Lib.hid (show Rmy aptK 2 126 w9 w8.heap.size b8 a.pod.apart ⟨⟨#[33]⟩, ⟨#[]⟩⟩ from hv)
  have HV1 := Lib.hid (HV1.out.move labOk (w' := w9) ((g9.block _ (by have := HV1.out.at.2; omega)).trans (Below.heap_setCell _ _ _ _ (by have := HV1.out.at.1; simp; omega))) (by omega))
  have HV2 := Lib.hid (HV2.out.move tntOk (w' := w9) ((g9.block _ (by have := HV2.out.at.2; omega)).trans (Below.heap_setCell _ _ _ _ (by have := HV2.out.at.1; simp; omega))) (by omega))
  have HV3 := Lib.hid (HV3.out.move itmOk (w' := w9) ((g9.block _ (by have := HV3.out.at.2; omega)).trans (Below.heap_setCell _ _ _ _ (by have := HV3.out.at.1; simp; omega))) (by omega))
  have HV4 := Lib.hid (HV4.out.move itmOk (w' := w9) ((g9.block _ (by have := HV4.out.at.2; omega)).trans (Below.heap_setCell _ _ _ _ (by have := HV4.out.at.1; simp; omega))) (by omega))
  have HV5 := Lib.hid (HV5.out.move labOk (w' := w9) ((g9.block _ (by have := HV5.out.at.2; omega)).trans (Below.heap_setCell _ _ _ _ (by have := HV5.out.at.1; simp; omega))) (by omega))
  have HV6 := Lib.hid (HV6.out.move itmOk (w' := w9) ((g9.block _ (by have := HV6.out.at.2; omega)).trans (Below.heap_setCell _ _ _ _ (by have := HV6.out.at.1; simp; omega))) (by omega))
  have HV7 := Lib.hid (HV7.out.move tolOk (w' := w9) ((g9.block _ (by have := HV7.out.at.2; omega)).trans (Below.heap_setCell _ _ _ _ (by have := HV7.out.at.1; simp; omega))) (by omega))
  have f9 : w9.frozen? ⟨w.heap.size, 19, none⟩ = false := frozen_at o9
  have k9 : w9.cell? ⟨w.heap.size, 19, none⟩ = some (.slice A07 a.pod.apart.length d07) := cell_at o9 rfl
  clear g9 g0 c19 hv hw f8 k8 o8 p8'
  have c20 : (w9.setCell ⟨w.heap.size, 19, none⟩ (.slice (some ⟨b8, 0, none⟩) a.pod.apart.length (a.pod.apart.length + 80))).cell? ⟨w.heap.size, 20, none⟩ = some (.slice A08 a.pod.prefer.length d08) := cell_at (heap_setCell_at o9) rfl
  have g0 : Below w.heap.size w (w9.setCell ⟨w.heap.size, 19, none⟩ (.slice (some ⟨b8, 0, none⟩) a.pod.apart.length (a.pod.apart.length + 80))) := Below.setCell HB9.out (Nat.le_refl _) _
  go_wp2_with fail
  refine roomyP_k _ _ ok _ a.pod.prefer (fun k hk => Nat.lt_of_lt_of_le (HOK.out k hk) g0.size) (Hgp.out.below prfOk g0 HOK.out) p4 ⟨0, ⟨#[33]⟩⟩ ?_
  intro b9 w10 g10 hv
  try simp only [World.size_setCell] at g10 hv
  have HB10 := Lib.hid (g0.trans (g10.mono HB9.out.size))
  have o10 : w10.heap[w.heap.size]? = some (.cells #[.int .i64 a.kind, .string a.name, .string a.key, .string a.val, .bool a.on, .string a.node.name, .slice (some ⟨b1, 0, none⟩) a.node.labels.length (a.node.labels.length + 80), .slice (some ⟨b2, 0, none⟩) a.node.taints.length (a.node.taints.length + 80), .slice (some ⟨b3, 0, none⟩) a.node.cap.length (a.node.cap.length + 80), .bool a.node.cord, .string a.taint.key, .string a.taint.val, .string a.taint.eff, .slice (some ⟨b4, 0, none⟩) a.cap.length (a.cap.length + 80), .string a.pod.name, .slice (some ⟨b5, 0, none⟩) a.pod.labels.length (a.pod.labels.length + 80), .slice (some ⟨b6, 0, none⟩) a.pod.needs.length (a.pod.needs.length + 80), .slice (some ⟨b7, 0, none⟩) a.pod.tols.length (a.pod.tols.length + 80), .string a.pod.req, .slice (some ⟨b8, 0, none⟩) a.pod.apart.length (a.pod.apart.length + 80), .slice A08 a.pod.prefer.length d08, .int .i64 a.pod.prio] 36 (0, 0)) := (g10.block _ (by omega)).trans ((heap_setCell_at o9).trans rfl)
  have p10' : w10.heap[w.heap.size + 1]? = some (.cells #[.int .i64 0, .string ⟨#[]⟩, .string ⟨#[]⟩, .string ⟨#[]⟩, .bool false, .string ⟨#[]⟩, .slice none 0 0, .slice none 0 0, .slice none 0 0, .bool false, .string ⟨#[]⟩, .string ⟨#[]⟩, .string ⟨#[]⟩, .slice none 0 0, .string ⟨#[]⟩, .slice none 0 0, .slice none 0 0, .slice none 0 0, .string ⟨#[]⟩, .slice none 0 0, .slice none 0 0, .int .i64 0] 36 (0, 0)) := (g10.block _ (by omega)).trans ((Below.heap_setCell _ _ _ _ (by simp)).trans p9')
  have y10 : w9.heap.size ≤ w10.heap.size := by simpa using g10.size
  have z10 : w.heap.size + 2 ≤ w10.heap.size := by omega
  have hw : w9.heap.size ≤ b9 := (OwnK.own hv b9 rfl).1
  have HV9 := Lib.hid (show Rmy prfK 2 129 w10 w9.heap.size b9 a.pod.prefer ⟨0, ⟨#[33]⟩⟩ from hv)
  have HV1 := Lib.hid (HV1.out.move labOk (w' := w10) ((g10.block _ (by have := HV1.out.at.2; omega)).trans (Below.heap_setCell _ _ _ _ (by have := HV1.out.at.1; simp; omega))) (by omega))
  have HV2 := Lib.hid (HV2.out.move tntOk (w' := w10) ((g10.block _ (by have := HV2.out.at.2; omega)).trans (Below.heap_setCell _ _ _ _ (by have := HV2.out.at.1; simp; omega))) (by omega))
  have HV3 := Lib.hid (HV3.out.move itmOk (w' := w10) ((g10.block _ (by have := HV3.out.at.2; omega)).trans (Below.heap_setCell _ _ _ _ (by have := HV3.out.at.1; simp; omega))) (by omega))
  have HV4 := Lib.hid (HV4.out.move itmOk (w' := w10) ((g10.block _ (by have := HV4.out.at.2; omega)).trans (Below.heap_setCell _ _ _ _ (by have := HV4.out.at.1; simp; omega))) (by omega))
  have HV5 := Lib.hid (HV5.out.move labOk (w' := w10) ((g10.block _ (by have := HV5.out.at.2; omega)).trans (Below.heap_setCell _ _ _ _ (by have := HV5.out.at.1; simp; omega))) (by omega))
  have HV6 := Lib.hid (HV6.out.move itmOk (w' := w10) ((g10.block _ (by have := HV6.out.at.2; omega)).trans (Below.heap_setCell _ _ _ _ (by have := HV6.out.at.1; simp; omega))) (by omega))
  have HV7 := Lib.hid (HV7.out.move tolOk (w' := w10) ((g10.block _ (by have := HV7.out.at.2; omega)).trans (Below.heap_setCell _ _ _ _ (by have := HV7.out.at.1; simp; omega))) (by omega))
  have HV8 := Lib.hid (HV8.out.move aptOk (w' := w10) ((g10.block _ (by have := HV8.out.at.2; omega)).trans (Below.heap_setCell _ _ _ _ (by have := HV8.out.at.1; simp; omega))) (by omega))
  have f10 : w10.frozen? ⟨w.heap.size, 20, none⟩ = false := frozen_at o10
  have k10 : w10.cell? ⟨w.heap.size, 20, none⟩ = some (.slice A08 a.pod.prefer.length d08) := cell_at o10 rfl
  clear g10 g0 c20 hv hw f9 k9 o9 p9'
  have ob : (w10.setCell ⟨w.heap.size, 20, none⟩ (.slice (some ⟨b9, 0, none⟩) a.pod.prefer.length (a.pod.prefer.length + 80))).heap[w.heap.size]? = some (.cells #[.int .i64 a.kind, .string a.name, .string a.key, .string a.val, .bool a.on, .string a.node.name, .slice (some ⟨b1, 0, none⟩) a.node.labels.length (a.node.labels.length + 80), .slice (some ⟨b2, 0, none⟩) a.node.taints.length (a.node.taints.length + 80), .slice (some ⟨b3, 0, none⟩) a.node.cap.length (a.node.cap.length + 80), .bool a.node.cord, .string a.taint.key, .string a.taint.val, .string a.taint.eff, .slice (some ⟨b4, 0, none⟩) a.cap.length (a.cap.length + 80), .string a.pod.name, .slice (some ⟨b5, 0, none⟩) a.pod.labels.length (a.pod.labels.length + 80), .slice (some ⟨b6, 0, none⟩) a.pod.needs.length (a.pod.needs.length + 80), .slice (some ⟨b7, 0, none⟩) a.pod.tols.length (a.pod.tols.length + 80), .string a.pod.req, .slice (some ⟨b8, 0, none⟩) a.pod.apart.length (a.pod.apart.length + 80), .slice (some ⟨b9, 0, none⟩) a.pod.prefer.length (a.pod.prefer.length + 80), .int .i64 a.pod.prio] 36 (0, 0)) := (heap_setCell_at o10).trans rfl
  have pb : (w10.setCell ⟨w.heap.size, 20, none⟩ (.slice (some ⟨b9, 0, none⟩) a.pod.prefer.length (a.pod.prefer.length + 80))).heap[w.heap.size + 1]? = some (.cells #[.int .i64 0, .string ⟨#[]⟩, .string ⟨#[]⟩, .string ⟨#[]⟩, .bool false, .string ⟨#[]⟩, .slice none 0 0, .slice none 0 0, .slice none 0 0, .bool false, .string ⟨#[]⟩, .string ⟨#[]⟩, .string ⟨#[]⟩, .slice none 0 0, .string ⟨#[]⟩, .slice none 0 0, .slice none 0 0, .slice none 0 0, .string ⟨#[]⟩, .slice none 0 0, .slice none 0 0, .int .i64 0] 36 (0, 0)) := (Below.heap_setCell _ _ _ _ (by simp)).trans p10'
  have yy : ((w10.setCell ⟨w.heap.size, 20, none⟩ (.slice (some ⟨b9, 0, none⟩) a.pod.prefer.length (a.pod.prefer.length + 80))).setRow (w.heap.size + 1) #[.int .i64 a.kind, .string a.name, .string a.key, .string a.val, .bool a.on, .string a.node.name, .slice (some ⟨b1, 0, none⟩) a.node.labels.length (a.node.labels.length + 80), .slice (some ⟨b2, 0, none⟩) a.node.taints.length (a.node.taints.length + 80), .slice (some ⟨b3, 0, none⟩) a.node.cap.length (a.node.cap.length + 80), .bool a.node.cord, .string a.taint.key, .string a.taint.val, .string a.taint.eff, .slice (some ⟨b4, 0, none⟩) a.cap.length (a.cap.length + 80), .string a.pod.name, .slice (some ⟨b5, 0, none⟩) a.pod.labels.length (a.pod.labels.length + 80), .slice (some ⟨b6, 0, none⟩) a.pod.needs.length (a.pod.needs.length + 80), .slice (some ⟨b7, 0, none⟩) a.pod.tols.length (a.pod.tols.length + 80), .string a.pod.req, .slice (some ⟨b8, 0, none⟩) a.pod.apart.length (a.pod.apart.length + 80), .slice (some ⟨b9, 0, none⟩) a.pod.prefer.length (a.pod.prefer.length + 80), .int .i64 a.pod.prio]).heap[w.heap.size + 1]? = some (.cells #[.int .i64 a.kind, .string a.name, .string a.key, .string a.val, .bool a.on, .string a.node.name, .slice (some ⟨b1, 0, none⟩) a.node.labels.length (a.node.labels.length + 80), .slice (some ⟨b2, 0, none⟩) a.node.taints.length (a.node.taints.length + 80), .slice (some ⟨b3, 0, none⟩) a.node.cap.length (a.node.cap.length + 80), .bool a.node.cord, .string a.taint.key, .string a.taint.val, .string a.taint.eff, .slice (some ⟨b4, 0, none⟩) a.cap.length (a.cap.length + 80), .string a.pod.name, .slice (some ⟨b5, 0, none⟩) a.pod.labels.length (a.pod.labels.length + 80), .slice (some ⟨b6, 0, none⟩) a.pod.needs.length (a.pod.needs.length + 80), .slice (some ⟨b7, 0, none⟩) a.pod.tols.length (a.pod.tols.length + 80), .string a.pod.req, .slice (some ⟨b8, 0, none⟩) a.pod.apart.length (a.pod.apart.length + 80), .slice (some ⟨b9, 0, none⟩) a.pod.prefer.length (a.pod.prefer.length + 80), .int .i64 a.pod.prio] 36 (0, 0)) := setRow_heap _ _ _ _ _ _ pb
  have mv : ∀ b : Nat, w.heap.size + 2 ≤ b → ((w10.setCell ⟨w.heap.size, 20, none⟩ (.slice (some ⟨b9, 0, none⟩) a.pod.prefer.length (a.pod.prefer.length + 80))).setRow (w.heap.size + 1) #[.int .i64 a.kind, .string a.name, .string a.key, .string a.val, .bool a.on, .string a.node.name, .slice (some ⟨b1, 0, none⟩) a.node.labels.length (a.node.labels.length + 80), .slice (some ⟨b2, 0, none⟩) a.node.taints.length (a.node.taints.length + 80), .slice (some ⟨b3, 0, none⟩) a.node.cap.length (a.node.cap.length + 80), .bool a.node.cord, .string a.taint.key, .string a.taint.val, .string a.taint.eff, .slice (some ⟨b4, 0, none⟩) a.cap.length (a.cap.length + 80), .string a.pod.name, .slice (some ⟨b5, 0, none⟩) a.pod.labels.length (a.pod.labels.length + 80), .slice (some ⟨b6, 0, none⟩) a.pod.needs.length (a.pod.needs.length + 80), .slice (some ⟨b7, 0, none⟩) a.pod.tols.length (a.pod.tols.length + 80), .string a.pod.req, .slice (some ⟨b8, 0, none⟩) a.pod.apart.length (a.pod.apart.length + 80), .slice (some ⟨b9, 0, none⟩) a.pod.prefer.length (a.pod.prefer.length + 80), .int .i64 a.pod.prio]).heap[b]? = w10.heap[b]? := fun b hb => (setRow_other _ _ _ _ (by omega)).trans (Below.heap_setCell _ _ _ _ (by simp; omega))
  have sz : w10.heap.size ≤ ((w10.setCell ⟨w.heap.size, 20, none⟩ (.slice (some ⟨b9, 0, none⟩) a.pod.prefer.length (a.pod.prefer.length + 80))).setRow (w.heap.size + 1) #[.int .i64 a.kind, .string a.name, .string a.key, .string a.val, .bool a.on, .string a.node.name, .slice (some ⟨b1, 0, none⟩) a.node.labels.length (a.node.labels.length + 80), .slice (some ⟨b2, 0, none⟩) a.node.taints.length (a.node.taints.length + 80), .slice (some ⟨b3, 0, none⟩) a.node.cap.length (a.node.cap.length + 80), .bool a.node.cord, .string a.taint.key, .string a.taint.val, .string a.taint.eff, .slice (some ⟨b4, 0, none⟩) a.cap.length (a.cap.length + 80), .string a.pod.name, .slice (some ⟨b5, 0, none⟩) a.pod.labels.length (a.pod.labels.length + 80), .slice (some ⟨b6, 0, none⟩) a.pod.needs.length (a.pod.needs.length + 80), .slice (some ⟨b7, 0, none⟩) a.pod.tols.length (a.pod.tols.length + 80), .string a.pod.req, .slice (some ⟨b8, 0, none⟩) a.pod.apart.length (a.pod.apart.length + 80), .slice (some ⟨b9, 0, none⟩) a.pod.prefer.length (a.pod.prefer.length + 80), .int .i64 a.pod.prio]).heap.size := by simp
  have lo : ∀ {α : Type} {K : KRel α} {sz : Nat} {e : TypeId} {b V : Nat} {xs : List α} {s : α}, KOk K sz → w.heap.size + 2 ≤ V → Rmy K sz e w10 V b xs s → Rmy K sz e ((w10.setCell ⟨w.heap.size, 20, none⟩ (.slice (some ⟨b9, 0, none⟩) a.pod.prefer.length (a.pod.prefer.length + 80))).setRow (w.heap.size + 1) #[.int .i64 a.kind, .string a.name, .string a.key, .string a.val, .bool a.on, .string a.node.name, .slice (some ⟨b1, 0, none⟩) a.node.labels.length (a.node.labels.length + 80), .slice (some ⟨b2, 0, none⟩) a.node.taints.length (a.node.taints.length + 80), .slice (some ⟨b3, 0, none⟩) a.node.cap.length (a.node.cap.length + 80), .bool a.node.cord, .string a.taint.key, .string a.taint.val, .string a.taint.eff, .slice (some ⟨b4, 0, none⟩) a.cap.length (a.cap.length + 80), .string a.pod.name, .slice (some ⟨b5, 0, none⟩) a.pod.labels.length (a.pod.labels.length + 80), .slice (some ⟨b6, 0, none⟩) a.pod.needs.length (a.pod.needs.length + 80), .slice (some ⟨b7, 0, none⟩) a.pod.tols.length (a.pod.tols.length + 80), .string a.pod.req, .slice (some ⟨b8, 0, none⟩) a.pod.apart.length (a.pod.apart.length + 80), .slice (some ⟨b9, 0, none⟩) a.pod.prefer.length (a.pod.prefer.length + 80), .int .i64 a.pod.prio]) w.heap.size b xs s := fun H hV h => by
    obtain ⟨h0, css, hr, hl, hk⟩ := Rmy.move H h (mv _ (by have := h.at.1; omega)) sz
    refine ⟨fun _ h => h.elim, css, ?_, hl, hk⟩
    refine ⟨hr.1, ?_⟩
    rcases hr.2 with h2 | ⟨g, cap, c3, e1, e2, e3⟩
    · exact .inl h2
    · exact .inr ⟨g, cap, c3, e1, by omega, e3⟩
  have hv := HR.out b1 b2 b3 b4 b5 b6 b7 b8 b9 ((w10.setCell ⟨w.heap.size, 20, none⟩ (.slice (some ⟨b9, 0, none⟩) a.pod.prefer.length (a.pod.prefer.length + 80))).setRow (w.heap.size + 1) #[.int .i64 a.kind, .string a.name, .string a.key, .string a.val, .bool a.on, .string a.node.name, .slice (some ⟨b1, 0, none⟩) a.node.labels.length (a.node.labels.length + 80), .slice (some ⟨b2, 0, none⟩) a.node.taints.length (a.node.taints.length + 80), .slice (some ⟨b3, 0, none⟩) a.node.cap.length (a.node.cap.length + 80), .bool a.node.cord, .string a.taint.key, .string a.taint.val, .string a.taint.eff, .slice (some ⟨b4, 0, none⟩) a.cap.length (a.cap.length + 80), .string a.pod.name, .slice (some ⟨b5, 0, none⟩) a.pod.labels.length (a.pod.labels.length + 80), .slice (some ⟨b6, 0, none⟩) a.pod.needs.length (a.pod.needs.length + 80), .slice (some ⟨b7, 0, none⟩) a.pod.tols.length (a.pod.tols.length + 80), .string a.pod.req, .slice (some ⟨b8, 0, none⟩) a.pod.apart.length (a.pod.apart.length + 80), .slice (some ⟨b9, 0, none⟩) a.pod.prefer.length (a.pod.prefer.length + 80), .int .i64 a.pod.prio]) (below_setRow (Below.setCell HB10.out (Nat.le_refl _) _) (by omega) _) (lo labOk (by omega) HV1.out) (lo tntOk (by omega) HV2.out) (lo itmOk (by omega) HV3.out) (lo itmOk (by omega) HV4.out) (lo labOk (by omega) HV5.out) (lo itmOk (by omega) HV6.out) (lo tolOk (by omega) HV7.out) (lo aptOk (by omega) HV8.out) (lo prfOk (by omega) HV9.out)
  go_wp2_with (first | (refine wpList_load_row rfl 36 _ rfl w.heap.size rfl 36 #[.int .i64 a.kind, .string a.name, .string a.key, .string a.val, .bool a.on, .string a.node.name, .slice (some ⟨b1, 0, none⟩) a.node.labels.length (a.node.labels.length + 80), .slice (some ⟨b2, 0, none⟩) a.node.taints.length (a.node.taints.length + 80), .slice (some ⟨b3, 0, none⟩) a.node.cap.length (a.node.cap.length + 80), .bool a.node.cord, .string a.taint.key, .string a.taint.val, .string a.taint.eff, .slice (some ⟨b4, 0, none⟩) a.cap.length (a.cap.length + 80), .string a.pod.name, .slice (some ⟨b5, 0, none⟩) a.pod.labels.length (a.pod.labels.length + 80), .slice (some ⟨b6, 0, none⟩) a.pod.needs.length (a.pod.needs.length + 80), .slice (some ⟨b7, 0, none⟩) a.pod.tols.length (a.pod.tols.length + 80), .string a.pod.req, .slice (some ⟨b8, 0, none⟩) a.pod.apart.length (a.pod.apart.length + 80), .slice (some ⟨b9, 0, none⟩) a.pod.prefer.length (a.pod.prefer.length + 80), .int .i64 a.pod.prio] (0, 0) _ ob Tryz.underlying36 rfl (by kernel_rfl) ?_) | (refine wpList_store_row rfl 36 _ _ rfl (w.heap.size + 1) #[.int .i64 a.kind, .string a.name, .string a.key, .string a.val, .bool a.on, .string a.node.name, .slice (some ⟨b1, 0, none⟩) a.node.labels.length (a.node.labels.length + 80), .slice (some ⟨b2, 0, none⟩) a.node.taints.length (a.node.taints.length + 80), .slice (some ⟨b3, 0, none⟩) a.node.cap.length (a.node.cap.length + 80), .bool a.node.cord, .string a.taint.key, .string a.taint.val, .string a.taint.eff, .slice (some ⟨b4, 0, none⟩) a.cap.length (a.cap.length + 80), .string a.pod.name, .slice (some ⟨b5, 0, none⟩) a.pod.labels.length (a.pod.labels.length + 80), .slice (some ⟨b6, 0, none⟩) a.pod.needs.length (a.pod.needs.length + 80), .slice (some ⟨b7, 0, none⟩) a.pod.tols.length (a.pod.tols.length + 80), .string a.pod.req, .slice (some ⟨b8, 0, none⟩) a.pod.apart.length (a.pod.apart.length + 80), .slice (some ⟨b9, 0, none⟩) a.pod.prefer.length (a.pod.prefer.length + 80), .int .i64 a.pod.prio] rfl rfl 36 #[.int .i64 0, .string ⟨#[]⟩, .string ⟨#[]⟩, .string ⟨#[]⟩, .bool false, .string ⟨#[]⟩, .slice none 0 0, .slice none 0 0, .slice none 0 0, .bool false, .string ⟨#[]⟩, .string ⟨#[]⟩, .string ⟨#[]⟩, .slice none 0 0, .string ⟨#[]⟩, .slice none 0 0, .slice none 0 0, .slice none 0 0, .string ⟨#[]⟩, .slice none 0 0, .slice none 0 0, .int .i64 0] pb (by kernel_rfl) (by simp) (by simp [Value.oneCell']) ?_))
  exact bodyPost_ret (results_cell_row Tryz.results10 _ _ (w.heap.size + 1) 36 #[.int .i64 a.kind, .string a.name, .string a.key, .string a.val, .bool a.on, .string a.node.name, .slice (some ⟨b1, 0, none⟩) a.node.labels.length (a.node.labels.length + 80), .slice (some ⟨b2, 0, none⟩) a.node.taints.length (a.node.taints.length + 80), .slice (some ⟨b3, 0, none⟩) a.node.cap.length (a.node.cap.length + 80), .bool a.node.cord, .string a.taint.key, .string a.taint.val, .string a.taint.eff, .slice (some ⟨b4, 0, none⟩) a.cap.length (a.cap.length + 80), .string a.pod.name, .slice (some ⟨b5, 0, none⟩) a.pod.labels.length (a.pod.labels.length + 80), .slice (some ⟨b6, 0, none⟩) a.pod.needs.length (a.pod.needs.length + 80), .slice (some ⟨b7, 0, none⟩) a.pod.tols.length (a.pod.tols.length + 80), .string a.pod.req, .slice (some ⟨b8, 0, none⟩) a.pod.apart.length (a.pod.apart.length + 80), .slice (some ⟨b9, 0, none⟩) a.pod.prefer.length (a.pod.prefer.length + 80), .int .i64 a.pod.prio] (0, 0) _ rfl yy Tryz.underlying36 rfl (by kernel_rfl)) rfl hv
end Go.Proofs.YtdceflgemhcgcaaGreatDoor
