/-
  berthlaw06.keptAct: the lists of a roomy act hold what they held.
-/
import Derived.Test.YtdceflgemhcgcaaGreatDoorP24
import Derived.Test.YtdceflgemhcgcaaGreatDoorP23
set_option linter.unusedVariables false
set_option linter.unusedSimpArgs false
namespace Go.Proofs.YtdceflgemhcgcaaGreatDoor
open Go.RowKit Go.BigFrame

set_option maxRecDepth 100000 in
set_option maxHeartbeats 16000000 in
theorem keptAct_k (R : Ending → World → Prop) (w : World) (ok : Nat → Prop) (a : ActD) (cs : List Value) (hok : ∀ k, ok k → k < w.heap.size) (hx : actK w ok a cs) (hsn : NodShort a.node) (sc : a.cap.length ≤ 1073741824) (hsp : PdShort a.pod)
    (B1 B2 B3 B4 B5 B6 B7 B8 B9 b1 b2 b3 b4 b5 b6 b7 b8 b9 : Nat) (r1 : Rmy labK 2 118 w B1 b1 a.node.labels ⟨⟨#[33]⟩, ⟨#[]⟩⟩) (r2 : Rmy tntK 3 34 w B2 b2 a.node.taints ⟨⟨#[33]⟩, ⟨#[]⟩, ⟨#[]⟩⟩) (r3 : Rmy itmK 2 110 w B3 b3 a.node.cap ⟨⟨#[33]⟩, 0⟩) (r4 : Rmy itmK 2 110 w B4 b4 a.cap ⟨⟨#[33]⟩, 0⟩) (r5 : Rmy labK 2 118 w B5 b5 a.pod.labels ⟨⟨#[33]⟩, ⟨#[]⟩⟩) (r6 : Rmy itmK 2 110 w B6 b6 a.pod.needs ⟨⟨#[33]⟩, 0⟩) (r7 : Rmy tolK 4 123 w B7 b7 a.pod.tols ⟨⟨#[33]⟩, ⟨#[]⟩, ⟨#[]⟩, ⟨#[]⟩⟩) (r8 : Rmy aptK 2 126 w B8 b8 a.pod.apart ⟨⟨#[33]⟩, ⟨#[]⟩⟩) (r9 : Rmy prfK 2 129 w B9 b9 a.pod.prefer ⟨0, ⟨#[33]⟩⟩)
    (hR : ∀ w', Below w.heap.size w w' → R (.returned (.bool true)) w') :
    Calls Tryz.prog 15 #[.agg #[.int .i64 a.kind, .string a.name, .string a.key, .string a.val, .bool a.on, .string a.node.name, rmyV b1 a.node.labels.length, rmyV b2 a.node.taints.length, rmyV b3 a.node.cap.length, .bool a.node.cord, .string a.taint.key, .string a.taint.val, .string a.taint.eff, rmyV b4 a.cap.length, .string a.pod.name, rmyV b5 a.pod.labels.length, rmyV b6 a.pod.needs.length, rmyV b7 a.pod.tols.length, .string a.pod.req, rmyV b8 a.pod.apart.length, rmyV b9 a.pod.prefer.length, .int .i64 a.pod.prio], .agg cs.toArray] w R := by
  obtain ⟨c1, vq, c2, rfl, ⟨vl, vt, vc, rfl, hl, ht, hc⟩, hq, ⟨ul, un, ut, ua, up, rfl, gl, gn, gt, ga, gp⟩⟩ := hx
  obtain ⟨s0, s1, s2⟩ := hsn
  obtain ⟨p0, p1, p2, p3, p4⟩ := hsp
  obtain ⟨A00, d00, rfl, _, _⟩ := hl.form
  obtain ⟨A01, d01, rfl, _, _⟩ := ht.form
  obtain ⟨A02, d02, rfl, _, _⟩ := hc.form
  obtain ⟨A03, d03, rfl, _, _⟩ := hq.form
  obtain ⟨A04, d04, rfl, _, _⟩ := gl.form
  obtain ⟨A05, d05, rfl, _, _⟩ := gn.form
  obtain ⟨A06, d06, rfl, _, _⟩ := gt.form
  obtain ⟨A07, d07, rfl, _, _⟩ := ga.form
  obtain ⟨A08, d08, rfl, _, _⟩ := gp.form
  show Calls Tryz.prog 15 #[.agg #[.int .i64 a.kind, .string a.name, .string a.key, .string a.val, .bool a.on, .string a.node.name, .slice (some ⟨b1, 0, none⟩) a.node.labels.length (a.node.labels.length + 80), .slice (some ⟨b2, 0, none⟩) a.node.taints.length (a.node.taints.length + 80), .slice (some ⟨b3, 0, none⟩) a.node.cap.length (a.node.cap.length + 80), .bool a.node.cord, .string a.taint.key, .string a.taint.val, .string a.taint.eff, .slice (some ⟨b4, 0, none⟩) a.cap.length (a.cap.length + 80), .string a.pod.name, .slice (some ⟨b5, 0, none⟩) a.pod.labels.length (a.pod.labels.length + 80), .slice (some ⟨b6, 0, none⟩) a.pod.needs.length (a.pod.needs.length + 80), .slice (some ⟨b7, 0, none⟩) a.pod.tols.length (a.pod.tols.length + 80), .string a.pod.req, .slice (some ⟨b8, 0, none⟩) a.pod.apart.length (a.pod.apart.length + 80), .slice (some ⟨b9, 0, none⟩) a.pod.prefer.length (a.pod.prefer.length + 80), .int .i64 a.pod.prio], .agg #[.int .i64 a.kind, .string a.name, .string a.key, .string a.val, .bool a.on, .string a.node.name, .slice A00 a.node.labels.length d00, .slice A01 a.node.taints.length d01, .slice A02 a.node.cap.length d02, .bool a.node.cord, .string a.taint.key, .string a.taint.val, .string a.taint.eff, .slice A03 a.cap.length d03, .string a.pod.name, .slice A04 a.pod.labels.length d04, .slice A05 a.pod.needs.length d05, .slice A06 a.pod.tols.length d06, .string a.pod.req, .slice A07 a.pod.apart.length d07, .slice A08 a.pod.prefer.length d08, .int .i64 a.pod.prio]] w R
  have HR := Lib.hid hR
  have HOK := Lib.hid hok
  have Hhl := Lib.hid hl
  have HK1 := Lib.hid (r1.slk labOk)
  have HL1 := Lib.hid r1.at.2
  have Hht := Lib.hid ht
  have HK2 := Lib.hid (r2.slk tntOk)
  have HL2 := Lib.hid r2.at.2
  have Hhc := Lib.hid hc
  have HK3 := Lib.hid (r3.slk itmOk)
  have HL3 := Lib.hid r3.at.2
  have Hhq := Lib.hid hq
  have HK4 := Lib.hid (r4.slk itmOk)
  have HL4 := Lib.hid r4.at.2
  have Hgl := Lib.hid gl
  have HK5 := Lib.hid (r5.slk labOk)
  have HL5 := Lib.hid r5.at.2
  have Hgn := Lib.hid gn
  have HK6 := Lib.hid (r6.slk itmOk)
  have HL6 := Lib.hid r6.at.2
  have Hgt := Lib.hid gt
  have HK7 := Lib.hid (r7.slk tolOk)
  have HL7 := Lib.hid r7.at.2
  have Hga := Lib.hid ga
  have HK8 := Lib.hid (r8.slk aptOk)
  have HL8 := Lib.hid r8.at.2
  have Hgp := Lib.hid gp
  have HK9 := Lib.hid (r9.slk prfOk)
  have HL9 := Lib.hid r9.at.2
  clear hR hok hl ht hc hq gl gn gt ga gp r1 r2 r3 r4 r5 r6 r7 r8 r9
  obtain ⟨w1, hw1⟩ : ∃ w1, w1 = (w.alloc (.cells #[.int .i64 a.kind, .string a.name, .string a.key, .string a.val, .bool a.on, .string a.node.name, .slice (some ⟨b1, 0, none⟩) a.node.labels.length (a.node.labels.length + 80), .slice (some ⟨b2, 0, none⟩) a.node.taints.length (a.node.taints.length + 80), .slice (some ⟨b3, 0, none⟩) a.node.cap.length (a.node.cap.length + 80), .bool a.node.cord, .string a.taint.key, .string a.taint.val, .string a.taint.eff, .slice (some ⟨b4, 0, none⟩) a.cap.length (a.cap.length + 80), .string a.pod.name, .slice (some ⟨b5, 0, none⟩) a.pod.labels.length (a.pod.labels.length + 80), .slice (some ⟨b6, 0, none⟩) a.pod.needs.length (a.pod.needs.length + 80), .slice (some ⟨b7, 0, none⟩) a.pod.tols.length (a.pod.tols.length + 80), .string a.pod.req, .slice (some ⟨b8, 0, none⟩) a.pod.apart.length (a.pod.apart.length + 80), .slice (some ⟨b9, 0, none⟩) a.pod.prefer.length (a.pod.prefer.length + 80), .int .i64 a.pod.prio] 36)).alloc (.cells #[.int .i64 a.kind, .string a.name, .string a.key, .string a.val, .bool a.on, .string a.node.name, .slice A00 a.node.labels.length d00, .slice A01 a.node.taints.length d01, .slice A02 a.node.cap.length d02, .bool a.node.cord, .string a.taint.key, .string a.taint.val, .string a.taint.eff, .slice A03 a.cap.length d03, .string a.pod.name, .slice A04 a.pod.labels.length d04, .slice A05 a.pod.needs.length d05, .slice A06 a.pod.tols.length d06, .string a.pod.req, .slice A07 a.pod.apart.length d07, .slice A08 a.pod.prefer.length d08, .int .i64 a.pod.prio] 36) := ⟨_, rfl⟩
  have z1 : w.heap.size + 2 ≤ w1.heap.size := by rw [hw1]; simp
  have HB1 := Lib.hid (show Below w.heap.size w w1 by
    rw [hw1]
    exact Below.alloc (Below.alloc (Below.refl _ _) (Nat.le_refl _) _) (by simp) _)
  have HO := Lib.hid (show w1.heap[w.heap.size]? = some (.cells #[.int .i64 a.kind, .string a.name, .string a.key, .string a.val, .bool a.on, .string a.node.name, .slice (some ⟨b1, 0, none⟩) a.node.labels.length (a.node.labels.length + 80), .slice (some ⟨b2, 0, none⟩) a.node.taints.length (a.node.taints.length + 80), .slice (some ⟨b3, 0, none⟩) a.node.cap.length (a.node.cap.length + 80), .bool a.node.cord, .string a.taint.key, .string a.taint.val, .string a.taint.eff, .slice (some ⟨b4, 0, none⟩) a.cap.length (a.cap.length + 80), .string a.pod.name, .slice (some ⟨b5, 0, none⟩) a.pod.labels.length (a.pod.labels.length + 80), .slice (some ⟨b6, 0, none⟩) a.pod.needs.length (a.pod.needs.length + 80), .slice (some ⟨b7, 0, none⟩) a.pod.tols.length (a.pod.tols.length + 80), .string a.pod.req, .slice (some ⟨b8, 0, none⟩) a.pod.apart.length (a.pod.apart.length + 80), .slice (some ⟨b9, 0, none⟩) a.pod.prefer.length (a.pod.prefer.length + 80), .int .i64 a.pod.prio] 36 (0, 0)) by
    rw [hw1]
    exact hkeep (heap_alloc_new w _) _)
  have HP := Lib.hid (show w1.heap[w.heap.size + 1]? = some (.cells #[.int .i64 a.kind, .string a.name, .string a.key, .string a.val, .bool a.on, .string a.node.name, .slice A00 a.node.labels.length d00, .slice A01 a.node.taints.length d01, .slice A02 a.node.cap.length d02, .bool a.node.cord, .string a.taint.key, .string a.taint.val, .string a.taint.eff, .slice A03 a.cap.length d03, .string a.pod.name, .slice A04 a.pod.labels.length d04, .slice A05 a.pod.needs.length d05, .slice A06 a.pod.tols.length d06, .string a.pod.req, .slice A07 a.pod.apart.length d07, .slice A08 a.pod.prefer.length d08, .int .i64 a.pod.prio] 36 (0, 0)) by
    rw [hw1]
    simpa using heap_alloc_new (w.alloc _) _)
  have G1 := Lib.hid (Below.refl w1.heap.size w1)
  go_enter Tryz.func15, Tryz.ntmps15
  go_upto_region 1 with fail
  rw [← hw1]
  clear hw1
  have ob : w1.cell? ⟨w.heap.size, 6, none⟩ = some (.slice (some ⟨b1, 0, none⟩) a.node.labels.length (a.node.labels.length + 80)) := cell_at ((G1.out.block _ (by omega)).trans HO.out) rfl
  have oa : w1.cell? ⟨w.heap.size + 1, 6, none⟩ = some (.slice A00 a.node.labels.length d00) := cell_at ((G1.out.block _ (by omega)).trans HP.out) rfl
  have g0 := HB1.out.trans (G1.out.mono HB1.out.size)
  go_wp2_with fail
  refine keepsL_k _ _ (fun k => k = b1) ok _ _ _ a.node.labels _ ⟨⟨#[33]⟩, ⟨#[]⟩⟩ (fun k hk => by rw [hk]; exact Nat.lt_of_lt_of_le HL1.out g0.size) (fun k hk => Nat.lt_of_lt_of_le (HOK.out k hk) g0.size) rfl (HK1.out.below labOk g0 (fun k hk => by rw [hk]; exact HL1.out)) (Hhl.out.below labOk g0 HOK.out) s0 ?_
  intro w2 g2
  have G2 := Lib.hid (G1.out.trans (g2.mono G1.out.size))
  have y2 : w1.heap.size ≤ w2.heap.size := g2.size
  clear g2 g0 ob oa
  have ob : w2.cell? ⟨w.heap.size, 7, none⟩ = some (.slice (some ⟨b2, 0, none⟩) a.node.taints.length (a.node.taints.length + 80)) := cell_at ((G2.out.block _ (by omega)).trans HO.out) rfl
  have oa : w2.cell? ⟨w.heap.size + 1, 7, none⟩ = some (.slice A01 a.node.taints.length d01) := cell_at ((G2.out.block _ (by omega)).trans HP.out) rfl
  have g0 := HB1.out.trans (G2.out.mono HB1.out.size)
  go_wp2_with fail
  refine keepsT_k _ _ (fun k => k = b2) ok _ _ _ a.node.taints _ ⟨⟨#[33]⟩, ⟨#[]⟩, ⟨#[]⟩⟩ (fun k hk => by rw [hk]; exact Nat.lt_of_lt_of_le HL2.out g0.size) (fun k hk => Nat.lt_of_lt_of_le (HOK.out k hk) g0.size) rfl (HK2.out.below tntOk g0 (fun k hk => by rw [hk]; exact HL2.out)) (Hht.out.below tntOk g0 HOK.out) s1 ?_
  intro w3 g3
  have G3 := Lib.hid (G2.out.trans (g3.mono G2.out.size))
  have y3 : w2.heap.size ≤ w3.heap.size := g3.size
  clear g3 g0 ob oa
  have ob : w3.cell? ⟨w.heap.size, 8, none⟩ = some (.slice (some ⟨b3, 0, none⟩) a.node.cap.length (a.node.cap.length + 80)) := cell_at ((G3.out.block _ (by omega)).trans HO.out) rfl
  have oa : w3.cell? ⟨w.heap.size + 1, 8, none⟩ = some (.slice A02 a.node.cap.length d02) := cell_at ((G3.out.block _ (by omega)).trans HP.out) rfl
  have g0 := HB1.out.trans (G3.out.mono HB1.out.size)
  go_wp2_with fail
  refine keepsI_k _ _ (fun k => k = b3) ok _ _ _ a.node.cap _ ⟨⟨#[33]⟩, 0⟩ (fun k hk => by rw [hk]; exact Nat.lt_of_lt_of_le HL3.out g0.size) (fun k hk => Nat.lt_of_lt_of_le (HOK.out k hk) g0.size) rfl (HK3.out.below itmOk g0 (fun k hk => by rw [hk]; exact HL3.out)) (Hhc.out.below itmOk g0 HOK.out) s2 ?_
  intro w4 g4
  have G4 := Lib.hid (G3.out.trans (g4.mono G3.out.size))
  have y4 : w3.heap.size ≤ w4.heap.size := g4.size
  clear g4 g0 ob oa
  have ob : w4.cell? ⟨w.heap.size, 15, none⟩ = some (.slice (some ⟨b5, 0, none⟩) a.pod.labels.length (a.pod.labels.length + 80)) := cell_at ((G4.out.block _ (by omega)).trans HO.out) rfl
  have oa : w4.cell? ⟨w.heap.size + 1, 15, none⟩ = some (.slice A04 a.pod.labels.length d04) := cell_at ((G4.out.block _ (by omega)).trans HP.out) rfl
  have g0 := HB1.out.trans (G4.out.mono HB1.out.size)
  go_wp2_with fail
  refine keepsL_k _ _ (fun k => k = b5) ok _ _ _ a.pod.labels _ ⟨⟨#[33]⟩, ⟨#[]⟩⟩ (fun k hk => by rw [hk]; exact Nat.lt_of_lt_of_le HL5.out g0.size) (fun k hk => Nat.lt_of_lt_of_le (HOK.out k hk) g0.size) rfl (HK5.out.below labOk g0 (fun k hk => by rw [hk]; exact HL5.out)) (Hgl.out.below labOk g0 HOK.out) p0 ?_
  intro w5 g5
  have G5 := Lib.hid (G4.out.trans (g5.mono G4.out.size))
  have y5 : w4.heap.size ≤ w5.heap.size := g5.size
  clear g5 g0 ob oa
  have ob : w5.cell? ⟨w.heap.size, 16, none⟩ = some (.slice (some ⟨b6, 0, none⟩) a.pod.needs.length (a.pod.needs.length + 80)) := cell_at ((G5.out.block _ (by omega)).trans HO.out) rfl
  have oa : w5.cell? ⟨w.heap.size + 1, 16, none⟩ = some (.slice A05 a.pod.needs.length d05) := cell_at ((G5.out.block _ (by omega)).trans HP.out) rfl
  have g0 := HB1.out.trans (G5.out.mono HB1.out.size)
  go_wp2_with fail
  refine keepsI_k _ _ (fun k => k = b6) ok _ _ _ a.pod.needs _ ⟨⟨#[33]⟩, 0⟩ (fun k hk => by rw [hk]; exact Nat.lt_of_lt_of_le HL6.out g0.size) (fun k hk => Nat.lt_of_lt_of_le (HOK.out k hk) g0.size) rfl (HK6.out.below itmOk g0 (fun k hk => by rw [hk]; exact HL6.out)) (Hgn.out.below itmOk g0 HOK.out) p1 ?_
  intro w6 g6
  have G6 := Lib.hid (G5.out.trans (g6.mono G5.out.size))
  have y6 : w5.heap.size ≤ w6.heap.size := g6.size
  clear g6 g0 ob oa
  have ob : w6.cell? ⟨w.heap.size, 17, none⟩ = some (.slice (some ⟨b7, 0, none⟩) a.pod.tols.length (a.pod.tols.length + 80)) := cell_at ((G6.out.block _ (by omega)).trans HO.out) rfl
  have oa : w6.cell? ⟨w.heap.size + 1, 17, none⟩ = some (.slice A06 a.pod.tols.length d06) := cell_at ((G6.out.block _ (by omega)).trans HP.out) rfl
  have g0 := HB1.out.trans (G6.out.mono HB1.out.size)
  go_wp2_with fail
  refine keepsO_k _ _ (fun k => k = b7) ok _ _ _ a.pod.tols _ ⟨⟨#[33]⟩, ⟨#[]⟩, ⟨#[]⟩, ⟨#[]⟩⟩ (fun k hk => by rw [hk]; exact Nat.lt_of_lt_of_le HL7.out g0.size) (fun k hk => Nat.lt_of_lt_of_le (HOK.out k hk) g0.size) rfl (HK7.out.below tolOk g0 (fun k hk => by rw [hk]; exact HL7.out)) (Hgt.out.below tolOk g0 HOK.out) p2 ?_
  intro w7 g7
  have G7 := Lib.hid (G6.out.trans (g7.mono G6.out.size))
  have y7 : w6.heap.size ≤ w7.heap.size := g7.size
  clear g7 g0 ob oa
  have ob : w7.cell? ⟨w.heap.size, 13, none⟩ = some (.slice (some ⟨b4, 0, none⟩) a.cap.length (a.cap.length + 80)) := cell_at ((G7.out.block _ (by omega)).trans HO.out) rfl
  have oa : w7.cell? ⟨w.heap.size + 1, 13, none⟩ = some (.slice A03 a.cap.length d03) := cell_at ((G7.out.block _ (by omega)).trans HP.out) rfl
  have g0 := HB1.out.trans (G7.out.mono HB1.out.size)
  go_wp2_with fail
  refine keepsI_k _ _ (fun k => k = b4) ok _ _ _ a.cap _ ⟨⟨#[33]⟩, 0⟩ (fun k hk => by rw [hk]; exact Nat.lt_of_lt_of_le HL4.out g0.size) (fun k hk => Nat.lt_of_lt_of_le (HOK.out k hk) g0.size) rfl (HK4.out.below itmOk g0 (fun k hk => by rw [hk]; exact HL4.out)) (Hhq.out.below itmOk g0 HOK.out) sc ?_
  intro w8 g8
  have G8 := Lib.hid (G7.out.trans (g8.mono G7.out.size))
  have y8 : w7.heap.size ≤ w8.heap.size := g8.size
  clear g8 g0 ob oa
  have ob : w8.cell? ⟨w.heap.size, 19, none⟩ = some (.slice (some ⟨b8, 0, none⟩) a.pod.apart.length (a.pod.apart.length + 80)) := cell_at ((G8.out.block _ (by omega)).trans HO.out) rfl
  have oa : w8.cell? ⟨w.heap.size + 1, 19, none⟩ = some (.slice A07 a.pod.apart.length d07) := cell_at ((G8.out.block _ (by omega)).trans HP.out) rfl
  have g0 := HB1.out.trans (G8.out.mono HB1.out.size)
  go_wp2_with fail
  refine keepsA_k _ _ (fun k => k = b8) ok _ _ _ a.pod.apart _ ⟨⟨#[33]⟩, ⟨#[]⟩⟩ (fun k hk => by rw [hk]; exact Nat.lt_of_lt_of_le HL8.out g0.size) (fun k hk => Nat.lt_of_lt_of_le (HOK.out k hk) g0.size) rfl (HK8.out.below aptOk g0 (fun k hk => by rw [hk]; exact HL8.out)) (Hga.out.below aptOk g0 HOK.out) p3 ?_
  intro w9 g9
  have G9 := Lib.hid (G8.out.trans (g9.mono G8.out.size))
  have y9 : w8.heap.size ≤ w9.heap.size := g9.size
  clear g9 g0 ob oa
  have ob : w9.cell? ⟨w.heap.size, 20, none⟩ = some (.slice (some ⟨b9, 0, none⟩) a.pod.prefer.length (a.pod.prefer.length + 80)) := cell_at ((G9.out.block _ (by omega)).trans HO.out) rfl
  have oa : w9.cell? ⟨w.heap.size + 1, 20, none⟩ = some (.slice A08 a.pod.prefer.length d08) := cell_at ((G9.out.block _ (by omega)).trans HP.out) rfl
  have g0 := HB1.out.trans (G9.out.mono HB1.out.size)
  go_wp2_with fail
  refine keepsP_k _ _ (fun k => k = b9) ok _ _ _ a.pod.prefer _ ⟨0, ⟨#[33]⟩⟩ (fun k hk => by rw [hk]; exact Nat.lt_of_lt_of_le HL9.out g0.size) (fun k hk => Nat.lt_of_lt_of_le (HOK.out k hk) g0.size) rfl (HK9.out.below prfOk g0 (fun k hk => by rw [hk]; exact HL9.out)) (Hgp.out.below prfOk g0 HOK.out) p4 ?_
  intro w10 g10
  have G10 := Lib.hid (G9.out.trans (g10.mono G9.out.size))
  have y10 : w9.heap.size ≤ w10.heap.size := g10.size
  clear g10 g0 ob oa
  have hv := HR.out w10 (HB1.out.trans (G10.out.mono HB1.out.size))
  go_wp2_with fail
  exact hv
end Go.Proofs.YtdceflgemhcgcaaGreatDoor
