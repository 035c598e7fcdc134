/-
berthref06.SameNode, SamePod: what reads as the same node, the same pod is the same.
Appending to a slice of which nothing is known but that its cells, the spare ones too, are there. Plain lemmas; no program is walked.
Appending within a row's room: the slice stays where it is. Plain lemmas; no program is walked.
-/
import Derived.Test.YtdceflgemhcgcaaGreatDoorP12
import Derived.Test.YtdceflgemhcgcaaGreatDoorP16
import Derived.Test.YtdceflgemhcgcaaGreatDoorP05
import Derived.Test.YtdceflgemhcgcaaGreatDoorP17
import Derived.Deep.AppendSrc
import Derived.Maps.AppendAt
set_option linter.unusedVariables false
set_option linter.unusedSimpArgs false
namespace Go.Proofs.YtdceflgemhcgcaaGreatDoor
open Go.RowKit Go.BigFrame

theorem apt_cells {w : World} {ok : Nat → Prop} {b off : Nat} {l : List Apt} (h : ∀ j (hj : j < l.length), ∃ cs, aptK w ok (l[j]'hj) cs ∧ cs.length = 2 ∧ ∀ i u, cs[i]? = some u → w.cell? ⟨b, off + (j * 2 + i), none⟩ = some u) (k : Nat) (hk : k < l.length) :
    w.cell? ⟨b, off + k * 2, none⟩ = some (.string (l[k]'hk).topo) ∧ w.cell? ⟨b, off + k * 2 + 1, none⟩ = some (.string (l[k]'hk).sel) := by
  obtain ⟨cs, h1, _, hc⟩ := h k hk
  cases h1
  exact ⟨hc 0 _ rfl, hc 1 _ rfl⟩
theorem prf_cells {w : World} {ok : Nat → Prop} {b off : Nat} {l : List Prf} (h : ∀ j (hj : j < l.length), ∃ cs, prfK w ok (l[j]'hj) cs ∧ cs.length = 2 ∧ ∀ i u, cs[i]? = some u → w.cell? ⟨b, off + (j * 2 + i), none⟩ = some u) (k : Nat) (hk : k < l.length) :
    w.cell? ⟨b, off + k * 2, none⟩ = some (.int .i64 (l[k]'hk).weight) ∧ w.cell? ⟨b, off + k * 2 + 1, none⟩ = some (.string (l[k]'hk).text) := by
  obtain ⟨cs, h1, _, hc⟩ := h k hk
  cases h1
  exact ⟨hc 0 _ rfl, hc 1 _ rfl⟩
set_option maxRecDepth 100000 in
set_option maxHeartbeats 8000000 in
theorem sameNode_k (R : Ending → World → Prop) (w : World) (ok : Nat → Prop) (x : Nod) (cs cs' : List Value) (hok : ∀ k, ok k → k < w.heap.size) (hx : nodK w ok x cs) (hy : nodK w ok x cs') (hs : NodShort x)
    (hR : ∀ w', Below w.heap.size w w' → R (.returned (.bool true)) w') :
    Calls Tryz.prog 18 #[.agg cs.toArray, .agg cs'.toArray] w R := by
  obtain ⟨vl1, vt1, vc1, rfl, hl1, ht1, hc1⟩ := hx
  obtain ⟨Al1, dl1, rfl, lcl1, _⟩ := hl1.form
  obtain ⟨At1, dt1, rfl, lct1, _⟩ := ht1.form
  obtain ⟨Ac1, dc1, rfl, lcc1, _⟩ := hc1.form
  obtain ⟨vl2, vt2, vc2, rfl, hl2, ht2, hc2⟩ := hy
  obtain ⟨Al2, dl2, rfl, lcl2, _⟩ := hl2.form
  obtain ⟨At2, dt2, rfl, lct2, _⟩ := ht2.form
  obtain ⟨Ac2, dc2, rfl, lcc2, _⟩ := hc2.form
  obtain ⟨s1, s2, s3⟩ := hs
  have HR := Lib.hid hR
  have HOK := Lib.hid hok
  clear hR hok
  have HL1 := Lib.hid hl1
  clear hl1
  have HT1 := Lib.hid ht1
  clear ht1
  have HC1 := Lib.hid hc1
  clear hc1
  have HL2 := Lib.hid hl2
  clear hl2
  have HT2 := Lib.hid ht2
  clear ht2
  have HC2 := Lib.hid hc2
  clear hc2
  obtain ⟨w1, hw1⟩ : ∃ w1, w1 = ((w.alloc (.cells #[.string x.name, .slice Al1 x.labels.length dl1, .slice At1 x.taints.length dt1, .slice Ac1 x.cap.length dc1, .bool x.cord] 26)).alloc (.cells #[.string x.name, .slice Al2 x.labels.length dl2, .slice At2 x.taints.length dt2, .slice Ac2 x.cap.length dc2, .bool x.cord] 26)) := ⟨_, rfl⟩
  have HB1 := Lib.hid (show Below w.heap.size w w1 by
    rw [hw1]
    exact Below.alloc (Below.alloc (Below.refl _ _) (Nat.le_refl _) _) (by simp) _)
  have HS := Lib.hid (show ∀ W, Below w1.heap.size w1 W → W.cell? ⟨w.heap.size, 0, none⟩ = some (.string x.name) ∧ W.cell? ⟨w.heap.size, 1, none⟩ = some (.slice Al1 x.labels.length dl1) ∧ W.cell? ⟨w.heap.size, 2, none⟩ = some (.slice At1 x.taints.length dt1) ∧ W.cell? ⟨w.heap.size, 3, none⟩ = some (.slice Ac1 x.cap.length dc1) ∧ W.cell? ⟨w.heap.size, 4, none⟩ = some (.bool x.cord) ∧ W.cell? ⟨w.heap.size + 1, 0, none⟩ = some (.string x.name) ∧ W.cell? ⟨w.heap.size + 1, 1, none⟩ = some (.slice Al2 x.labels.length dl2) ∧ W.cell? ⟨w.heap.size + 1, 2, none⟩ = some (.slice At2 x.taints.length dt2) ∧ W.cell? ⟨w.heap.size + 1, 3, none⟩ = some (.slice Ac2 x.cap.length dc2) ∧ W.cell? ⟨w.heap.size + 1, 4, none⟩ = some (.bool x.cord) by
    intro W g
    have z1 : w.heap.size + 2 ≤ w1.heap.size := by rw [hw1]; simp
    have k1 : w1.heap[w.heap.size]? = some (.cells #[.string x.name, .slice Al1 x.labels.length dl1, .slice At1 x.taints.length dt1, .slice Ac1 x.cap.length dc1, .bool x.cord] 26 (0, 0)) := by
      rw [hw1]
      exact hkeep (heap_alloc_new w _) _
    have k2 : w1.heap[w.heap.size + 1]? = some (.cells #[.string x.name, .slice Al2 x.labels.length dl2, .slice At2 x.taints.length dt2, .slice Ac2 x.cap.length dc2, .bool x.cord] 26 (0, 0)) := by
      rw [hw1]
      simpa using heap_alloc_new (w.alloc _) _
    have l1 := (g.block w.heap.size (by omega)).trans k1
    have l2 := (g.block (w.heap.size + 1) (by omega)).trans k2
    exact ⟨cell_at l1 rfl, cell_at l1 rfl, cell_at l1 rfl, cell_at l1 rfl, cell_at l1 rfl, cell_at l2 rfl, cell_at l2 rfl, cell_at l2 rfl, cell_at l2 rfl, cell_at l2 rfl⟩)
  have q1 : (x.name.toList == x.name.toList) = true := by simp
  go_enter Tryz.func18, Tryz.ntmps18
  go_upto_region 1 with fail
  rw [← hw1]
  clear hw1
  obtain ⟨c0, c1, c2, c3, c4, e0, e1, e2, e3, e4⟩ := HS.out w1 (Below.refl _ _)
  have G1 := Lib.hid (Below.refl w1.heap.size w1)
  have bw := HB1.out.trans (G1.out.mono HB1.out.size)
  have HBW := Lib.hid bw
  clear bw
  go_wp2_with fail
  refine rsame_k _ _ ok _ _ x.labels x.labels (fun k hk => Nat.lt_of_lt_of_le (HOK.out k hk) HBW.out.size) (HL1.out.below labOk HBW.out HOK.out) (HL2.out.below labOk HBW.out HOK.out) s1 s1 ?_
  intro w4 g4
  rw [show decide (x.labels = x.labels) = true by simp]
  have G4 := Lib.hid (G1.out.trans (g4.mono G1.out.size))
  clear g4 HBW c0 c1 c2 c3 c4 e0 e1 e2 e3 e4
  obtain ⟨c0, c1, c2, c3, c4, e0, e1, e2, e3, e4⟩ := HS.out w4 G4.out
  have bw := HB1.out.trans (G4.out.mono HB1.out.size)
  have HBW := Lib.hid bw
  clear bw
  go_wp2_with fail
  refine rtaints_k _ _ ok _ _ x.taints x.taints (fun k hk => Nat.lt_of_lt_of_le (HOK.out k hk) HBW.out.size) (HT1.out.below tntOk HBW.out HOK.out) (HT2.out.below tntOk HBW.out HOK.out) s2 s2 ?_
  intro w5 g5
  rw [show decide (x.taints = x.taints) = true by simp]
  have G5 := Lib.hid (G4.out.trans (g5.mono G4.out.size))
  clear g5 HBW c0 c1 c2 c3 c4 e0 e1 e2 e3 e4
  obtain ⟨c0, c1, c2, c3, c4, e0, e1, e2, e3, e4⟩ := HS.out w5 G5.out
  have bw := HB1.out.trans (G5.out.mono HB1.out.size)
  have HBW := Lib.hid bw
  clear bw
  go_wp2_with fail
  refine ritems_k _ _ ok _ _ x.cap x.cap (fun k hk => Nat.lt_of_lt_of_le (HOK.out k hk) HBW.out.size) (HC1.out.below itmOk HBW.out HOK.out) (HC2.out.below itmOk HBW.out HOK.out) s3 s3 ?_
  intro w6 g6
  rw [show decide (x.cap = x.cap) = true by simp]
  have G6 := Lib.hid (G5.out.trans (g6.mono G5.out.size))
  clear g6 HBW c0 c1 c2 c3 c4 e0 e1 e2 e3 e4
  obtain ⟨c0, c1, c2, c3, c4, e0, e1, e2, e3, e4⟩ := HS.out w6 G6.out
  have hv := HR.out w6 (HB1.out.trans (G6.out.mono HB1.out.size))
  have q5 : (x.cord == x.cord) = true := by simp
  go_wp2_with fail
  exact hv
set_option maxRecDepth 100000 in
set_option maxHeartbeats 8000000 in
theorem samePod_k (R : Ending → World → Prop) (w : World) (ok : Nat → Prop) (x : Pd) (cs cs' : List Value) (hok : ∀ k, ok k → k < w.heap.size) (hx : pdK w ok x cs) (hy : pdK w ok x cs') (hs : PdShort x)
    (hR : ∀ w', Below w.heap.size w w' → R (.returned (.bool true)) w') :
    Calls Tryz.prog 19 #[.agg cs.toArray, .agg cs'.toArray] w R := by
  obtain ⟨vl1, vn1, vt1, va1, vp1, rfl, hl1, hn1, ht1, ha1, hp1⟩ := hx
  obtain ⟨Al1, dl1, rfl, lcl1, _⟩ := hl1.form
  obtain ⟨An1, dn1, rfl, lcn1, _⟩ := hn1.form
  obtain ⟨At1, dt1, rfl, lct1, _⟩ := ht1.form
  obtain ⟨Aa1, da1, rfl, lca1, _⟩ := ha1.form
  obtain ⟨Ap1, dp1, rfl, lcp1, _⟩ := hp1.form
  obtain ⟨vl2, vn2, vt2, va2, vp2, rfl, hl2, hn2, ht2, ha2, hp2⟩ := hy
  obtain ⟨Al2, dl2, rfl, lcl2, _⟩ := hl2.form
  obtain ⟨An2, dn2, rfl, lcn2, _⟩ := hn2.form
  obtain ⟨At2, dt2, rfl, lct2, _⟩ := ht2.form
  obtain ⟨Aa2, da2, rfl, lca2, _⟩ := ha2.form
  obtain ⟨Ap2, dp2, rfl, lcp2, _⟩ := hp2.form
  obtain ⟨s1, s2, s3, s4, s5⟩ := hs
  have HR := Lib.hid hR
  have HOK := Lib.hid hok
  clear hR hok
  have HL1 := Lib.hid hl1
  clear hl1
  have HN1 := Lib.hid hn1
  clear hn1
  have HT1 := Lib.hid ht1
  clear ht1
  have HA1 := Lib.hid ha1
  clear ha1
  have HP1 := Lib.hid hp1
  clear hp1
  have HL2 := Lib.hid hl2
  clear hl2
  have HN2 := Lib.hid hn2
  clear hn2
  have HT2 := Lib.hid ht2
  clear ht2
  have HA2 := Lib.hid ha2
  clear ha2
  have HP2 := Lib.hid hp2
  clear hp2
  obtain ⟨w1, hw1⟩ : ∃ w1, w1 = ((w.alloc (.cells #[.string x.name, .slice Al1 x.labels.length dl1, .slice An1 x.needs.length dn1, .slice At1 x.tols.length dt1, .string x.req, .slice Aa1 x.apart.length da1, .slice Ap1 x.prefer.length dp1, .int .i64 x.prio] 31)).alloc (.cells #[.string x.name, .slice Al2 x.labels.length dl2, .slice An2 x.needs.length dn2, .slice At2 x.tols.length dt2, .string x.req, .slice Aa2 x.apart.length da2, .slice Ap2 x.prefer.length dp2, .int .i64 x.prio] 31)) := ⟨_, rfl⟩
  have HB1 := Lib.hid (show Below w.heap.size w w1 by
    rw [hw1]
    exact Below.alloc (Below.alloc (Below.refl _ _) (Nat.le_refl _) _) (by simp) _)
  have HS := Lib.hid (show ∀ W, Below w1.heap.size w1 W → W.cell? ⟨w.heap.size, 0, none⟩ = some (.string x.name) ∧ W.cell? ⟨w.heap.size, 1, none⟩ = some (.slice Al1 x.labels.length dl1) ∧ W.cell? ⟨w.heap.size, 2, none⟩ = some (.slice An1 x.needs.length dn1) ∧ W.cell? ⟨w.heap.size, 3, none⟩ = some (.slice At1 x.tols.length dt1) ∧ W.cell? ⟨w.heap.size, 4, none⟩ = some (.string x.req) ∧ W.cell? ⟨w.heap.size, 5, none⟩ = some (.slice Aa1 x.apart.length da1) ∧ W.cell? ⟨w.heap.size, 6, none⟩ = some (.slice Ap1 x.prefer.length dp1) ∧ W.cell? ⟨w.heap.size, 7, none⟩ = some (.int .i64 x.prio) ∧ W.cell? ⟨w.heap.size + 1, 0, none⟩ = some (.string x.name) ∧ W.cell? ⟨w.heap.size + 1, 1, none⟩ = some (.slice Al2 x.labels.length dl2) ∧ W.cell? ⟨w.heap.size + 1, 2, none⟩ = some (.slice An2 x.needs.length dn2) ∧ W.cell? ⟨w.heap.size + 1, 3, none⟩ = some (.slice At2 x.tols.length dt2) ∧ W.cell? ⟨w.heap.size + 1, 4, none⟩ = some (.string x.req) ∧ W.cell? ⟨w.heap.size + 1, 5, none⟩ = some (.slice Aa2 x.apart.length da2) ∧ W.cell? ⟨w.heap.size + 1, 6, none⟩ = some (.slice Ap2 x.prefer.length dp2) ∧ W.cell? ⟨w.heap.size + 1, 7, none⟩ = some (.int .i64 x.prio) by
    intro W g
    have z1 : w.heap.size + 2 ≤ w1.heap.size := by rw [hw1]; simp
    have k1 : w1.heap[w.heap.size]? = some (.cells #[.string x.name, .slice Al1 x.labels.length dl1, .slice An1 x.needs.length dn1, .slice At1 x.tols.length dt1, .string x.req, .slice Aa1 x.apart.length da1, .slice Ap1 x.prefer.length dp1, .int .i64 x.prio] 31 (0, 0)) := by
      rw [hw1]
      exact hkeep (heap_alloc_new w _) _
    have k2 : w1.heap[w.heap.size + 1]? = some (.cells #[.string x.name, .slice Al2 x.labels.length dl2, .slice An2 x.needs.length dn2, .slice At2 x.tols.length dt2, .string x.req, .slice Aa2 x.apart.length da2, .slice Ap2 x.prefer.length dp2, .int .i64 x.prio] 31 (0, 0)) := by
      rw [hw1]
      simpa using heap_alloc_new (w.alloc _) _
    have l1 := (g.block w.heap.size (by omega)).trans k1
    have l2 := (g.block (w.heap.size + 1) (by omega)).trans k2
    exact ⟨cell_at l1 rfl, cell_at l1 rfl, cell_at l1 rfl, cell_at l1 rfl, cell_at l1 rfl, cell_at l1 rfl, cell_at l1 rfl, cell_at l1 rfl, cell_at l2 rfl, cell_at l2 rfl, cell_at l2 rfl, cell_at l2 rfl, cell_at l2 rfl, cell_at l2 rfl, cell_at l2 rfl, cell_at l2 rfl⟩)
  have q1 : (x.name.toList == x.name.toList) = true := by simp
  go_enter Tryz.func19, Tryz.ntmps19
  go_upto_region 1 with fail
  rw [← hw1]
  clear hw1
  obtain ⟨c0, c1, c2, c3, c4, c5, c6, c7, e0, e1, e2, e3, e4, e5, e6, e7⟩ := HS.out w1 (Below.refl _ _)
  have G1 := Lib.hid (Below.refl w1.heap.size w1)
  have q2 : (x.req.toList == x.req.toList) = true := by simp
  go_wp2_with fail
  go_loopw [5] (fun i wr => ∃ k : Nat, k ≤ x.apart.length ∧ i = .int .i64 k ∧ Below w1.heap.size w1 wr) (fun i _ => x.apart.length - (intOf i).toNat)
  case atStart => exact ⟨0, Nat.zero_le _, rfl, Below.refl _ _⟩
  case round =>
    obtain ⟨k, hk, rfl, hB⟩ := hrel
    have HB := Lib.hid hB
    clear hB c0 c1 c2 c3 c4 c5 c6 c7 e0 e1 e2 e3 e4 e5 e6 e7
    obtain ⟨c0, c1, c2, c3, c4, c5, c6, c7, e0, e1, e2, e3, e4, e5, e6, e7⟩ := HS.out wr HB.out
    by_cases hlt : k < x.apart.length
    · have bw := HB1.out.trans (HB.out.mono HB1.out.size)
      obtain ⟨b, off, f1, he, _, _, hbk, hbl, hce⟩ := (HA1.out.below aptOk bw HOK.out).addr (by omega)
      simp only [Value.slice.injEq] at he
      obtain ⟨he, -, hec⟩ := he
      cases he
      cases hec
      obtain ⟨y0, y1⟩ := apt_cells hce k hlt
      obtain ⟨b2, off2, f2, he, _, _, hbk2, hbl2, hce2⟩ := (HA2.out.below aptOk bw HOK.out).addr (by omega)
      simp only [Value.slice.injEq] at he
      obtain ⟨he, -, hec⟩ := he
      cases he
      cases hec
      obtain ⟨u0, u1⟩ := apt_cells hce2 k hlt
      clear hce hce2 bw
      obtain ⟨s, hs⟩ : ∃ s, x.apart[k]'hlt = s := ⟨_, rfl⟩
      rw [hs] at y0 y1 u0 u1
      clear hs
      have q3 : (s.topo.toList == s.topo.toList) = true := by simp
      have q4 : (s.sel.toList == s.sel.toList) = true := by simp
      go_wp2_with fail
      go_region
      go_wp2_with fail
      go_roundw
      case rel => exact ⟨k + 1, by omega, by go_num, HB.out.drew⟩
      case measure => simp [intOf]; omega
    · obtain rfl : k = x.apart.length := by omega
      have G3 := Lib.hid HB.out
      clear hlt hk
      go_wp2_with fail
      go_loopw [6] (fun i wr => ∃ k : Nat, k ≤ x.prefer.length ∧ i = .int .i64 k ∧ Below w1.heap.size w1 wr) (fun i _ => x.prefer.length - (intOf i).toNat)
      case atStart => exact ⟨0, Nat.zero_le _, rfl, G3.out⟩
      case round =>
        obtain ⟨k, hk, rfl, hB⟩ := hrel
        have HB := Lib.hid hB
        clear hB c0 c1 c2 c3 c4 c5 c6 c7 e0 e1 e2 e3 e4 e5 e6 e7
        obtain ⟨c0, c1, c2, c3, c4, c5, c6, c7, e0, e1, e2, e3, e4, e5, e6, e7⟩ := HS.out wr HB.out
        by_cases hlt : k < x.prefer.length
        · have bw := HB1.out.trans (HB.out.mono HB1.out.size)
          obtain ⟨b, off, f1, he, _, _, hbk, hbl, hce⟩ := (HP1.out.below prfOk bw HOK.out).addr (by omega)
          simp only [Value.slice.injEq] at he
          obtain ⟨he, -, hec⟩ := he
          cases he
          cases hec
          obtain ⟨y0, y1⟩ := prf_cells hce k hlt
          obtain ⟨b2, off2, f2, he, _, _, hbk2, hbl2, hce2⟩ := (HP2.out.below prfOk bw HOK.out).addr (by omega)
          simp only [Value.slice.injEq] at he
          obtain ⟨he, -, hec⟩ := he
          cases he
          cases hec
          obtain ⟨u0, u1⟩ := prf_cells hce2 k hlt
          clear hce hce2 bw
          obtain ⟨s, hs⟩ : ∃ s, x.prefer[k]'hlt = s := ⟨_, rfl⟩
          rw [hs] at y0 y1 u0 u1
          clear hs
          skip
          have q4 : (s.text.toList == s.text.toList) = true := by simp
          go_wp2_with fail
          go_region
          go_wp2_with fail
          go_roundw
          case rel => exact ⟨k + 1, by omega, by go_num, HB.out.drew⟩
          case measure => simp [intOf]; omega
        · obtain rfl : k = x.prefer.length := by omega
          have G3 := Lib.hid HB.out
          clear hlt hk
          go_wp2_with fail
          have bw := HB1.out.trans (G3.out.mono HB1.out.size)
          have HBW := Lib.hid bw
          clear bw
          skip
          refine rsame_k _ _ ok _ _ x.labels x.labels (fun k hk => Nat.lt_of_lt_of_le (HOK.out k hk) HBW.out.size) (HL1.out.below labOk HBW.out HOK.out) (HL2.out.below labOk HBW.out HOK.out) s1 s1 ?_
          intro w4 g4
          rw [show decide (x.labels = x.labels) = true by simp]
          have G4 := Lib.hid (G3.out.trans (g4.mono G3.out.size))
          clear g4 HBW c0 c1 c2 c3 c4 c5 c6 c7 e0 e1 e2 e3 e4 e5 e6 e7
          obtain ⟨c0, c1, c2, c3, c4, c5, c6, c7, e0, e1, e2, e3, e4, e5, e6, e7⟩ := HS.out w4 G4.out
          have bw := HB1.out.trans (G4.out.mono HB1.out.size)
          have HBW := Lib.hid bw
          clear bw
          go_wp2_with fail
          refine ritems_k _ _ ok _ _ x.needs x.needs (fun k hk => Nat.lt_of_lt_of_le (HOK.out k hk) HBW.out.size) (HN1.out.below itmOk HBW.out HOK.out) (HN2.out.below itmOk HBW.out HOK.out) s2 s2 ?_
          intro w5 g5
          rw [show decide (x.needs = x.needs) = true by simp]
          have G5 := Lib.hid (G4.out.trans (g5.mono G4.out.size))
          clear g5 HBW c0 c1 c2 c3 c4 c5 c6 c7 e0 e1 e2 e3 e4 e5 e6 e7
          obtain ⟨c0, c1, c2, c3, c4, c5, c6, c7, e0, e1, e2, e3, e4, e5, e6, e7⟩ := HS.out w5 G5.out
          have bw := HB1.out.trans (G5.out.mono HB1.out.size)
          have HBW := Lib.hid bw
          clear bw
          go_wp2_with fail
          refine rtols_k _ _ ok _ _ x.tols x.tols (fun k hk => Nat.lt_of_lt_of_le (HOK.out k hk) HBW.out.size) (HT1.out.below tolOk HBW.out HOK.out) (HT2.out.below tolOk HBW.out HOK.out) s3 s3 ?_
          intro w6 g6
          rw [show decide (x.tols = x.tols) = true by simp]
          have G6 := Lib.hid (G5.out.trans (g6.mono G5.out.size))
          clear g6 HBW c0 c1 c2 c3 c4 c5 c6 c7 e0 e1 e2 e3 e4 e5 e6 e7
          obtain ⟨c0, c1, c2, c3, c4, c5, c6, c7, e0, e1, e2, e3, e4, e5, e6, e7⟩ := HS.out w6 G6.out
          have hv := HR.out w6 (HB1.out.trans (G6.out.mono HB1.out.size))
          skip
          go_wp2_with fail
          exact hv
end Go.Proofs.YtdceflgemhcgcaaGreatDoor

namespace Go.Proofs.YtdceflgemhcgcaaGreatDoor
open Go.RowKit

/-- What was there is there. -/
def Th (w w' : World) : Prop := ∀ b off n, w.there b off n → w'.there b off n
theorem Th.refl (w : World) : Th w w := fun _ _ _ h => h
theorem Th.trans {a b c : World} (h : Th a b) (k : Th b c) : Th a c := fun _ _ _ q => k _ _ _ (h _ _ _ q)
theorem Th.alloc {a b : World} (h : Th a b) (o : Obj) : Th a (b.alloc o) := fun x off n q j hj => by
  have h1 := h _ _ _ q
  have hb : x < b.heap.size := by
    have := (h1 j hj).1
    rcases Nat.lt_or_ge x b.heap.size with hl | hl
    · exact hl
    · rw [World.cell?, Array.getElem?_eq_none hl] at this; cases this
  exact there_move h1 (Below.heap_alloc _ _ _ hb) j hj
theorem Th.drew {a b : World} (h : Th a b) : Th a b.drew := fun x off n q => there_move (h _ _ _ q) rfl
theorem Th.setCells {a b : World} (h : Th a b) (x off : Nat) (vs : List Value) : Th a (b.setCells x off vs) := fun _ _ _ q => World.there_setCells (h _ _ _ q) _ _ _
theorem RoomV.th {sz : Nat} {X : Nat → Prop} {w w' : World} {v : Value} {n : Nat} (h : RoomV sz X w v n) (ht : Th w w') (hs : w.heap.size ≤ w'.heap.size) : RoomV sz X w' v n := by
  obtain ⟨A, c, h1, h2, h3, h4⟩ := h
  refine ⟨A, c, h1, h2, h3, h4.imp id ?_⟩
  rintro ⟨b, off, hA, hX, hb, hth⟩
  exact ⟨b, off, hA, hX, by omega, ht _ _ _ hth⟩

theorem append_wild {P : Program} {W : World} {sz : Nat} (t ty e : TypeId) (z : Value) (bytes : Nat) (ht : P.underlying t = some (.slice e)) (hinfo : (P.info? e).map (fun i => (i.zero, i.size, i.bytes)) = some (some z, sz, bytes)) (hz : z.cells.size = sz)
    (X : Nat → Prop) (v : Value) (n : Nat) (h : RoomV sz X W v n) (cs : Array Value) (hcl : cs.size = sz) (h1 : ∀ u ∈ cs.toList, u.oneCell' = true) (hl : (n + 1) * bytes ≤ 140737488355328) (hb0 : 0 < bytes) :
    ∃ v1 w1, (Builtin.append_ #[t, t] ty #[v, .slice (some ⟨W.heap.size, 0, none⟩) 1 1]).run P (W.alloc (.cells cs e)) = .ok v1 w1 ∧ RoomV sz (fun k => X k ∨ W.heap.size ≤ k) w1 v1 (n + 1) ∧ Mod X W w1 ∧ Th W w1 := by
  obtain ⟨i0, hi, hzz⟩ := Option.map_eq_some_iff.1 hinfo
  simp only [Prod.mk.injEq] at hzz
  obtain ⟨hz0, hz1, hz2⟩ := hzz
  subst hz1
  subst hz2
  obtain ⟨A, c, rfl, hnc, hcm, hA⟩ := h
  have hs : Src P i0.size t (.slice (some ⟨W.heap.size, 0, none⟩) 1 1) 1 cs.toList (W.alloc (.cells cs e)) := Src.ofSlice _ ht _ 1 1 _ (by simpa using hcl) (fun j u hu => by
    rw [show (⟨W.heap.size, 0, none⟩ : Addr).add j = ⟨W.heap.size, j, none⟩ by unfold Addr.add; split <;> simp_all]
    exact cell_at (heap_alloc_new W _) (by simpa using hu)) h1
  have hM : Mod X W (W.alloc (.cells cs e)) := (Mod.refl X W).alloc _
  by_cases hroom : n + 1 ≤ c
  · rcases hA with hA | ⟨b, off, rfl, hX, hb, hth⟩
    · omega
    · have hsz : n * i0.size + i0.size ≤ c * i0.size := by
        have := Nat.mul_le_mul_right i0.size hroom
        rwa [Nat.add_mul, Nat.one_mul] at this
      have hth2 : (W.alloc (.cells cs e)).there b off (c * i0.size) := there_move hth (Below.heap_alloc _ _ _ hb)
      have hrun := run_append_room_src (P := P) (W.alloc (.cells cs e)) t t ty e i0 ht hi b off n c _ 1 cs.toList hs hroom
        (fun j hj => by
          have := (hth2 (n * i0.size + j) (by simp at hj; omega)).1
          rwa [← Nat.add_assoc] at this)
        (fun j hj => by
          have := (hth2 (n * i0.size + j) (by simp at hj; omega)).2
          rwa [← Nat.add_assoc] at this)
      refine ⟨_, _, hrun, ⟨_, c, rfl, hroom, hcm, .inr ⟨b, off, rfl, .inl hX, by rw [size_setCells_]; simp; omega, World.there_setCells hth2 _ _ _⟩⟩, hM.trans (mod_setCells _ b _ _) (fun k _ e => by rw [e]; exact hX), ((Th.refl W).alloc _).setCells _ _ _⟩
  · have hold : ∃ olds : List Value, olds.length = n * i0.size ∧ (Builtin.firstCells i0.size n (.slice A n c)).run P (W.alloc (.cells cs e)).drew = .ok olds.toArray (W.alloc (.cells cs e)).drew := by
      rcases hA with hA | ⟨b, off, rfl, hX, hb, hth⟩
      · obtain rfl : n = 0 := by omega
        cases A with
        | none => exact ⟨[], by simp, run_firstCells_none _ i0.size 0 0 c⟩
        | some a => exact ⟨[], by simp, run_firstCells_some _ i0.size 0 a 0 c [] (by simp) (fun j u hu => by simp at hu)⟩
      · have hth2 : (W.alloc (.cells cs e)).there b off (c * i0.size) := there_move hth (Below.heap_alloc _ _ _ hb)
        refine ⟨(List.range (n * i0.size)).map (fun j => ((W.alloc (.cells cs e)).cell? ⟨b, off + j, none⟩).getD undef), by simp, run_firstCells_some _ i0.size n _ n c _ (by simp) (fun j u hu => ?_)⟩
        rw [List.getElem?_map] at hu
        obtain ⟨q, hq, rfl⟩ := Option.map_eq_some_iff.1 hu
        have hj := (List.getElem?_eq_some_iff.1 hq).1
        have hqj : q = j := by
          have := (List.getElem?_eq_some_iff.1 hq).2
          simpa using this.symm
        subst hqj
        have hle : n * i0.size ≤ c * i0.size := Nat.mul_le_mul_right _ hnc
        obtain ⟨x, hx⟩ := Option.isSome_iff_exists.1 (hth2 q (by simp at hj; omega)).1
        rw [show (⟨b, off, none⟩ : Addr).add q = ⟨b, off + q, none⟩ by unfold Addr.add; split <;> simp_all]
        show (W.alloc (.cells cs e)).cell? ⟨b, off + q, none⟩ = _
        rw [hx]
        rfl
    obtain ⟨olds, hol, hold⟩ := hold
    have hnm : n + 1 ≤ 140737488355328 := Nat.le_trans (Nat.le_mul_of_pos_right _ hb0) hl
    have hrun := run_append_grow_src (P := P) (W.alloc (.cells cs e)) t t ty e i0 z ht hi hz0 A n c olds hold _ 1 cs.toList hs (by omega) (by omega) (growslice_fits (by omega) hl)
    have hge := grownCap_ge (W.alloc (.cells cs e)) (n + 1) c e
    have hle := grownCap_le_maxLen (W.alloc (.cells cs e)) (n + 1) c e (by simp only [maxLen]; omega)
    refine ⟨_, _, hrun, ⟨_, _, rfl, hge, hle, .inr ⟨_, 0, rfl, .inr (by simp), by simp, ?_⟩⟩, ?_, (((Th.refl W).alloc _).drew).alloc _⟩
    · refine there_of_block (heap_alloc_new (W.alloc (.cells cs e)).drew _) ?_
      rw [Array.size_append, size_zeroCells, hz]
      simp only [List.size_toArray, List.length_append, hol, Array.length_toList, hcl, Nat.zero_add]
      have : n * i0.size + i0.size + (grownCap (W.alloc (.cells cs e)) (n + 1) c e - (n + 1)) * i0.size = ((n + 1) + (grownCap (W.alloc (.cells cs e)) (n + 1) c e - (n + 1))) * i0.size := by
        rw [Nat.add_mul, Nat.add_mul, Nat.one_mul]
      rw [this, show (n + 1) + (grownCap (W.alloc (.cells cs e)) (n + 1) c e - (n + 1)) = grownCap (W.alloc (.cells cs e)) (n + 1) c e by omega]
      exact Nat.le_refl _
    · exact hM.drew.alloc _
end Go.Proofs.YtdceflgemhcgcaaGreatDoor

namespace Go.Proofs.YtdceflgemhcgcaaGreatDoor
open Go.RowKit

theorem flat_len {α : Type} {enc : α → List Value} {k : Nat} (hk : ∀ x, (enc x).length = k) : ∀ ys : List α, ((ys.map enc).flatten).length = ys.length * k := by
  intro ys
  induction ys with
  | nil => simp
  | cons y r ih => simp only [List.map_cons, List.flatten_cons, List.length_append, List.length_cons, hk, ih, Nat.add_mul, Nat.one_mul]; omega
theorem app_room {α : Type} {enc : α → List Value} {k : Nat} {P : Program} {W : World} (hk : ∀ x, (enc x).length = k) (hk0 : 0 < k) (t ty e : TypeId) (z : Value) (bytes : Nat) (ht : P.underlying t = some (.slice e))
    (hinfo : (P.info? e).map (fun i => (i.zero, i.size, i.bytes)) = some (some z, k, bytes)) (hz : z.cells.size = k) (hb0 : 0 < bytes) (h1 : ∀ y, ∀ u ∈ enc y, u.oneCell' = true)
    (B b c : Nat) (ok2 : Nat → Prop) (vx : Value) (xs ys : List α) (HO : OwnK (Flat enc) k e W B (fun _ => False) (.slice (some ⟨b, 0, none⟩) xs.length c) xs) (HR : SlK (Flat enc) k W ok2 vx ys)
    (hroom : xs.length + ys.length ≤ c) (hB : B ≤ W.heap.size) (hl : (xs.length + ys.length) * bytes ≤ 140737488355328) :
    ∃ w1, (Builtin.append_ #[t, t] ty #[.slice (some ⟨b, 0, none⟩) xs.length c, vx]).run P W = .ok (.slice (some ⟨b, 0, none⟩) (xs.length + ys.length) c) w1 ∧
      OwnK (Flat enc) k e w1 B (fun _ => False) (.slice (some ⟨b, 0, none⟩) (xs ++ ys).length c) (xs ++ ys) ∧ W.grownBy w1 (some b) := by
  obtain ⟨i0, hi, hzz⟩ := Option.map_eq_some_iff.1 hinfo
  simp only [Prod.mk.injEq] at hzz
  obtain ⟨hz0, hz1, hz2⟩ := hzz
  have HO' := HO
  obtain ⟨h0, css, hr, hcl, hkk⟩ := HO
  obtain ⟨A, c', rfl, hnc, hcm, hrd⟩ := HR
  have hlen : xs.length + ys.length ≤ 140737488355328 := Nat.le_trans (Nat.le_mul_of_pos_right _ hb0) hl
  obtain ⟨cur, hgb, hcur⟩ : ∃ cur, W.heap[b]? = some (.cells cur e (0, 0)) ∧ cur.size = c * k := by
    rcases hr.2 with ⟨hn, _⟩ | ⟨g, cap, cur, he, _, hg, _, _, hcur, _⟩
    · cases hn
    · simp only [Value.slice.injEq, Option.some.injEq, Addr.mk.injEq, true_and, and_true] at he
      obtain ⟨rfl, rfl⟩ := he
      exact ⟨cur, hg, hcur⟩
  rcases hrd with rfl | ⟨b', off, rfl, hb, hbl, hce⟩
  · have hrun : (Builtin.append_ #[t, t] ty #[.slice (some ⟨b, 0, none⟩) xs.length c, .slice A 0 c']).run P W = .ok (.slice (some ⟨b, 0, none⟩) xs.length c) W := by
      have hn : xs.length ≤ c := by simpa using hroom
      cases A <;> simp [Builtin.append_, run_underlying ht, sizeOf, typeInfo, hi, Builtin.lenOf, Builtin.firstCells, loadCells, loadCellsFrom, hn, storeCells]
    exact ⟨W, hrun, by simpa using HO', World.grownBy.refl W _⟩
  · have hall : ∀ q ∈ ys.map enc, q.length = k := by
      intro q hq
      obtain ⟨y, _, rfl⟩ := List.mem_map.1 hq
      exact hk y
    have hfl := flat_len hk ys
    have hnews : ∀ j u, (ys.map enc).flatten[j]? = some u → W.cell? ((⟨b', off, none⟩ : Addr).add j) = some u := by
      intro j u hu
      have hjl : j < (ys.map enc).flatten.length := (List.getElem?_eq_some_iff.1 hu).1
      rw [hfl] at hjl
      have hq : j / k < ys.length := Nat.div_lt_of_lt_mul (by rw [Nat.mul_comm]; exact hjl)
      have hr2 := Nat.mod_lt j hk0
      have hd : j / k * k + j % k = j := by rw [Nat.mul_comm]; exact Nat.div_add_mod j k
      have hin : j % k < (enc (ys[j / k]'hq)).length := by rw [hk]; exact hr2
      have hf := flatten_get (ys.map enc) hall (j / k) _ (by rw [List.getElem?_map, List.getElem?_eq_getElem hq]; rfl) (j % k) _ (List.getElem?_eq_getElem hin)
      rw [hd, hu] at hf
      cases hf
      obtain ⟨cs, hcs, _, hcell⟩ := hce _ _ (List.getElem?_eq_getElem hq)
      cases hcs
      have := hcell (j % k) _ (List.getElem?_eq_getElem hin)
      rw [hd] at this
      rw [show (⟨b', off, none⟩ : Addr).add j = ⟨b', off + j, none⟩ by unfold Addr.add; split <;> simp_all]
      exact this
    have hone : ∀ u ∈ (ys.map enc).flatten, u.oneCell' = true := by
      intro u hu
      obtain ⟨q, hq, huq⟩ := List.mem_flatten.1 hu
      obtain ⟨y, _, rfl⟩ := List.mem_map.1 hq
      exact h1 y u huq
    obtain ⟨v1, w1, hrun, hown, hg, _, _⟩ := run_append_own_at (P := P) W B t ty e i0 z k bytes ht hi hz0 hz1 hz2 hz hk0 _ xs.length css.flatten hr ⟨b', off, none⟩ ys.length c' (ys.map enc).flatten hfl hnews hone (by simp only [maxLen]; omega) hl hB
    have hs : Src P i0.size t (.slice (some ⟨b', off, none⟩) ys.length c') ys.length (ys.map enc).flatten W := Src.ofSlice _ ht _ _ _ _ (by rw [hz1]; exact hfl) hnews hone
    have hth := there_of_block hgb (off := 0) (n := c * k) (by omega)
    have hsz : xs.length * i0.size + (ys.map enc).flatten.length ≤ c * k := by
      rw [hfl, hz1, ← Nat.add_mul]
      exact Nat.mul_le_mul_right k hroom
    have hrun2 := run_append_room_src (P := P) W t t ty e i0 ht hi b 0 xs.length c _ ys.length _ hs hroom (fun j hj => by
      have := (hth (xs.length * i0.size + j) (by omega)).1
      rwa [← Nat.add_assoc] at this) (fun j hj => by
      have := (hth (xs.length * i0.size + j) (by omega)).2
      rwa [← Nat.add_assoc] at this)
    have heq := hrun.symm.trans hrun2
    simp only [Result.ok.injEq] at heq
    obtain ⟨rfl, rfl⟩ := heq
    refine ⟨_, hrun2, ⟨fun _ h => h.elim, css ++ ys.map enc, ?_, by simp [hcl], fun j p q hp hq => ?_⟩, hg⟩
    · rw [List.length_append, List.flatten_append]; exact hown
    · rcases Nat.lt_or_ge j xs.length with hj | hj
      · rw [List.getElem?_append_left hj] at hp
        rw [List.getElem?_append_left (by omega)] at hq
        exact hkk j p q hp hq
      · rw [List.getElem?_append_right hj] at hp
        rw [List.getElem?_append_right (by omega), hcl, List.getElem?_map, hp] at hq
        cases hq
        rfl
end Go.Proofs.YtdceflgemhcgcaaGreatDoor
