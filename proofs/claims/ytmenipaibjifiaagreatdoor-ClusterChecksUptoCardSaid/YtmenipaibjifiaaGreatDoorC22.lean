/-
  berthref06.SameNode, SamePod: what reads as the same node, the same pod is the same.
-/
import Derived.Test.YtmenipaibjifiaaGreatDoorC13
import Derived.Test.YtmenipaibjifiaaGreatDoorC17
import Derived.Test.YtmenipaibjifiaaGreatDoorC05
set_option linter.unusedVariables false
set_option linter.unusedSimpArgs false
namespace Go.Proofs.YtmenipaibjifiaaGreatDoor
open Go.RowKit Go.BigFrame

theorem apt_cells {w : World} {ok : Nat → Prop} {b off : Nat} {l : List Apt} (h : ∀ j (hj : j < l.length), ∃ cs, aptK w ok (l[j]'hj) cs ∧ cs.length = 2 ∧ ∀ i u, cs[i]? = some u → w.cell? ⟨b, off + (j * 2 + i), none⟩ = some u) (k : Nat) (hk : k < l.length) :
    w.cell? ⟨b, off + k * 2, none⟩ = some (.string (l[k]'hk).topo) ∧ w.cell? ⟨b, off + k * 2 + 1, none⟩ = some (.string (l[k]'hk).sel) := by
  obtain ⟨cs, h1, _, hc⟩ := h k hk
  cases h1
  exact ⟨hc 0 _ rfl, hc 1 _ rfl⟩
theorem prf_cells {w : World} {ok : Nat → Prop} {b off : Nat} {l : List Prf} (h : ∀ j (hj : j < l.length), ∃ cs, prfK w ok (l[j]'hj) cs ∧ cs.length = 2 ∧ ∀ i u, cs[i]? = some u → w.cell? ⟨b, off + (j * 2 + i), none⟩ = some u) (k : Nat) (hk : k < l.length) :
    w.cell? ⟨b, off + k * 2, none⟩ = some (.int .i64 (l[k]'hk).weight) ∧ w.cell? ⟨b, off + k * 2 + 1, none⟩ = some (.string (l[k]'hk).text) := by
  obtain ⟨cs, h1, _, hc⟩ := h k hk
  cases h1
  exact ⟨hc 0 _ rfl, hc 1 _ rfl⟩
set_option maxRecDepth 100000 in
set_option maxHeartbeats 8000000 in
theorem sameNode_k (R : Ending → World → Prop) (w : World) (ok : Nat → Prop) (x : Nod) (cs cs' : List Value) (hok : ∀ k, ok k → k < w.heap.size) (hx : nodK w ok x cs) (hy : nodK w ok x cs') (hs : NodShort x)
    (hR : ∀ w', Below w.heap.size w w' → R (.returned (.bool true)) w') :
    Calls Tryz.prog 34 #[.agg cs.toArray, .agg cs'.toArray] w R := by
  obtain ⟨vl1, vt1, vc1, rfl, hl1, ht1, hc1⟩ := hx
  obtain ⟨Al1, dl1, rfl, lcl1, _⟩ := hl1.form
  obtain ⟨At1, dt1, rfl, lct1, _⟩ := ht1.form
  obtain ⟨Ac1, dc1, rfl, lcc1, _⟩ := hc1.form
  obtain ⟨vl2, vt2, vc2, rfl, hl2, ht2, hc2⟩ := hy
  obtain ⟨Al2, dl2, rfl, lcl2, _⟩ := hl2.form
  obtain ⟨At2, dt2, rfl, lct2, _⟩ := ht2.form
  obtain ⟨Ac2, dc2, rfl, lcc2, _⟩ := hc2.form
  obtain ⟨s1, s2, s3⟩ := hs
  have HR := Lib.hid hR
  have HOK := Lib.hid hok
  clear hR hok
  have HL1 := Lib.hid hl1
  clear hl1
  have HT1 := Lib.hid ht1
  clear ht1
  have HC1 := Lib.hid hc1
  clear hc1
  have HL2 := Lib.hid hl2
  clear hl2
  have HT2 := Lib.hid ht2
  clear ht2
  have HC2 := Lib.hid hc2
  clear hc2
  obtain ⟨w1, hw1⟩ : ∃ w1, w1 = ((w.alloc (.cells #[.string x.name, .slice Al1 x.labels.length dl1, .slice At1 x.taints.length dt1, .slice Ac1 x.cap.length dc1, .bool x.cord] 35)).alloc (.cells #[.string x.name, .slice Al2 x.labels.length dl2, .slice At2 x.taints.length dt2, .slice Ac2 x.cap.length dc2, .bool x.cord] 35)) := ⟨_, rfl⟩
  have HB1 := Lib.hid (show Below w.heap.size w w1 by
    rw [hw1]
    exact Below.alloc (Below.alloc (Below.refl _ _) (Nat.le_refl _) _) (by simp) _)
  have HS := Lib.hid (show ∀ W, Below w1.heap.size w1 W → W.cell? ⟨w.heap.size, 0, none⟩ = some (.string x.name) ∧ W.cell? ⟨w.heap.size, 1, none⟩ = some (.slice Al1 x.labels.length dl1) ∧ W.cell? ⟨w.heap.size, 2, none⟩ = some (.slice At1 x.taints.length dt1) ∧ W.cell? ⟨w.heap.size, 3, none⟩ = some (.slice Ac1 x.cap.length dc1) ∧ W.cell? ⟨w.heap.size, 4, none⟩ = some (.bool x.cord) ∧ W.cell? ⟨w.heap.size + 1, 0, none⟩ = some (.string x.name) ∧ W.cell? ⟨w.heap.size + 1, 1, none⟩ = some (.slice Al2 x.labels.length dl2) ∧ W.cell? ⟨w.heap.size + 1, 2, none⟩ = some (.slice At2 x.taints.length dt2) ∧ W.cell? ⟨w.heap.size + 1, 3, none⟩ = some (.slice Ac2 x.cap.length dc2) ∧ W.cell? ⟨w.heap.size + 1, 4, none⟩ = some (.bool x.cord) by
    intro W g
    have z1 : w.heap.size + 2 ≤ w1.heap.size := by rw [hw1]; simp
    have k1 : w1.heap[w.heap.size]? = some (.cells #[.string x.name, .slice Al1 x.labels.length dl1, .slice At1 x.taints.length dt1, .slice Ac1 x.cap.length dc1, .bool x.cord] 35 (0, 0)) := by
      rw [hw1]
      exact hkeep (heap_alloc_new w _) _
    have k2 : w1.heap[w.heap.size + 1]? = some (.cells #[.string x.name, .slice Al2 x.labels.length dl2, .slice At2 x.taints.length dt2, .slice Ac2 x.cap.length dc2, .bool x.cord] 35 (0, 0)) := by
      rw [hw1]
      simpa using heap_alloc_new (w.alloc _) _
    have l1 := (g.block w.heap.size (by omega)).trans k1
    have l2 := (g.block (w.heap.size + 1) (by omega)).trans k2
    exact ⟨cell_at l1 rfl, cell_at l1 rfl, cell_at l1 rfl, cell_at l1 rfl, cell_at l1 rfl, cell_at l2 rfl, cell_at l2 rfl, cell_at l2 rfl, cell_at l2 rfl, cell_at l2 rfl⟩)
  have q1 : (x.name.toList == x.name.toList) = true := by simp
  go_enter Tryz.func34, Tryz.ntmps34
  go_upto_region 1 with fail
  rw [← hw1]
  clear hw1
  obtain ⟨c0, c1, c2, c3, c4, e0, e1, e2, e3, e4⟩ := HS.out w1 (Below.refl _ _)
  have G1 := Lib.hid (Below.refl w1.heap.size w1)
  have bw := HB1.out.trans (G1.out.mono HB1.out.size)
  have HBW := Lib.hid bw
  clear bw
  go_wp2_with fail
  refine rsame_k _ _ ok _ _ x.labels x.labels (fun k hk => Nat.lt_of_lt_of_le (HOK.out k hk) HBW.out.size) (HL1.out.below labOk HBW.out HOK.out) (HL2.out.below labOk HBW.out HOK.out) s1 s1 ?_
  intro w4 g4
  rw [show decide (x.labels = x.labels) = true by simp]
  have G4 := Lib.hid (G1.out.trans (g4.mono G1.out.size))
  clear g4 HBW c0 c1 c2 c3 c4 e0 e1 e2 e3 e4
  obtain ⟨c0, c1, c2, c3, c4, e0, e1, e2, e3, e4⟩ := HS.out w4 G4.out
  have bw := HB1.out.trans (G4.out.mono HB1.out.size)
  have HBW := Lib.hid bw
  clear bw
  go_wp2_with fail
  refine rtaints_k _ _ ok _ _ x.taints x.taints (fun k hk => Nat.lt_of_lt_of_le (HOK.out k hk) HBW.out.size) (HT1.out.below tntOk HBW.out HOK.out) (HT2.out.below tntOk HBW.out HOK.out) s2 s2 ?_
  intro w5 g5
  rw [show decide (x.taints = x.taints) = true by simp]
  have G5 := Lib.hid (G4.out.trans (g5.mono G4.out.size))
  clear g5 HBW c0 c1 c2 c3 c4 e0 e1 e2 e3 e4
  obtain ⟨c0, c1, c2, c3, c4, e0, e1, e2, e3, e4⟩ := HS.out w5 G5.out
  have bw := HB1.out.trans (G5.out.mono HB1.out.size)
  have HBW := Lib.hid bw
  clear bw
  go_wp2_with fail
  refine ritems_k _ _ ok _ _ x.cap x.cap (fun k hk => Nat.lt_of_lt_of_le (HOK.out k hk) HBW.out.size) (HC1.out.below itmOk HBW.out HOK.out) (HC2.out.below itmOk HBW.out HOK.out) s3 s3 ?_
  intro w6 g6
  rw [show decide (x.cap = x.cap) = true by simp]
  have G6 := Lib.hid (G5.out.trans (g6.mono G5.out.size))
  clear g6 HBW c0 c1 c2 c3 c4 e0 e1 e2 e3 e4
  obtain ⟨c0, c1, c2, c3, c4, e0, e1, e2, e3, e4⟩ := HS.out w6 G6.out
  have hv := HR.out w6 (HB1.out.trans (G6.out.mono HB1.out.size))
  have q5 : (x.cord == x.cord) = true := by simp
  go_wp2_with fail
  exact hv
set_option maxRecDepth 100000 in
set_option maxHeartbeats 8000000 in
theorem samePod_k (R : Ending → World → Prop) (w : World) (ok : Nat → Prop) (x : Pd) (cs cs' : List Value) (hok : ∀ k, ok k → k < w.heap.size) (hx : pdK w ok x cs) (hy : pdK w ok x cs') (hs : PdShort x)
    (hR : ∀ w', Below w.heap.size w w' → R (.returned (.bool true)) w') :
    Calls Tryz.prog 38 #[.agg cs.toArray, .agg cs'.toArray] w R := by
  obtain ⟨vl1, vn1, vt1, va1, vp1, rfl, hl1, hn1, ht1, ha1, hp1⟩ := hx
  obtain ⟨Al1, dl1, rfl, lcl1, _⟩ := hl1.form
  obtain ⟨An1, dn1, rfl, lcn1, _⟩ := hn1.form
  obtain ⟨At1, dt1, rfl, lct1, _⟩ := ht1.form
  obtain ⟨Aa1, da1, rfl, lca1, _⟩ := ha1.form
  obtain ⟨Ap1, dp1, rfl, lcp1, _⟩ := hp1.form
  obtain ⟨vl2, vn2, vt2, va2, vp2, rfl, hl2, hn2, ht2, ha2, hp2⟩ := hy
  obtain ⟨Al2, dl2, rfl, lcl2, _⟩ := hl2.form
  obtain ⟨An2, dn2, rfl, lcn2, _⟩ := hn2.form
  obtain ⟨At2, dt2, rfl, lct2, _⟩ := ht2.form
  obtain ⟨Aa2, da2, rfl, lca2, _⟩ := ha2.form
  obtain ⟨Ap2, dp2, rfl, lcp2, _⟩ := hp2.form
  obtain ⟨s1, s2, s3, s4, s5⟩ := hs
  have HR := Lib.hid hR
  have HOK := Lib.hid hok
  clear hR hok
  have HL1 := Lib.hid hl1
  clear hl1
  have HN1 := Lib.hid hn1
  clear hn1
  have HT1 := Lib.hid ht1
  clear ht1
  have HA1 := Lib.hid ha1
  clear ha1
  have HP1 := Lib.hid hp1
  clear hp1
  have HL2 := Lib.hid hl2
  clear hl2
  have HN2 := Lib.hid hn2
  clear hn2
  have HT2 := Lib.hid ht2
  clear ht2
  have HA2 := Lib.hid ha2
  clear ha2
  have HP2 := Lib.hid hp2
  clear hp2
  obtain ⟨w1, hw1⟩ : ∃ w1, w1 = ((w.alloc (.cells #[.string x.name, .slice Al1 x.labels.length dl1, .slice An1 x.needs.length dn1, .slice At1 x.tols.length dt1, .string x.req, .slice Aa1 x.apart.length da1, .slice Ap1 x.prefer.length dp1, .int .i64 x.prio] 40)).alloc (.cells #[.string x.name, .slice Al2 x.labels.length dl2, .slice An2 x.needs.length dn2, .slice At2 x.tols.length dt2, .string x.req, .slice Aa2 x.apart.length da2, .slice Ap2 x.prefer.length dp2, .int .i64 x.prio] 40)) := ⟨_, rfl⟩
  have HB1 := Lib.hid (show Below w.heap.size w w1 by
    rw [hw1]
    exact Below.alloc (Below.alloc (Below.refl _ _) (Nat.le_refl _) _) (by simp) _)
  have HS := Lib.hid (show ∀ W, Below w1.heap.size w1 W → W.cell? ⟨w.heap.size, 0, none⟩ = some (.string x.name) ∧ W.cell? ⟨w.heap.size, 1, none⟩ = some (.slice Al1 x.labels.length dl1) ∧ W.cell? ⟨w.heap.size, 2, none⟩ = some (.slice An1 x.needs.length dn1) ∧ W.cell? ⟨w.heap.size, 3, none⟩ = some (.slice At1 x.tols.length dt1) ∧ W.cell? ⟨w.heap.size, 4, none⟩ = some (.string x.req) ∧ W.cell? ⟨w.heap.size, 5, none⟩ = some (.slice Aa1 x.apart.length da1) ∧ W.cell? ⟨w.heap.size, 6, none⟩ = some (.slice Ap1 x.prefer.length dp1) ∧ W.cell? ⟨w.heap.size, 7, none⟩ = some (.int .i64 x.prio) ∧ W.cell? ⟨w.heap.size + 1, 0, none⟩ = some (.string x.name) ∧ W.cell? ⟨w.heap.size + 1, 1, none⟩ = some (.slice Al2 x.labels.length dl2) ∧ W.cell? ⟨w.heap.size + 1, 2, none⟩ = some (.slice An2 x.needs.length dn2) ∧ W.cell? ⟨w.heap.size + 1, 3, none⟩ = some (.slice At2 x.tols.length dt2) ∧ W.cell? ⟨w.heap.size + 1, 4, none⟩ = some (.string x.req) ∧ W.cell? ⟨w.heap.size + 1, 5, none⟩ = some (.slice Aa2 x.apart.length da2) ∧ W.cell? ⟨w.heap.size + 1, 6, none⟩ = some (.slice Ap2 x.prefer.length dp2) ∧ W.cell? ⟨w.heap.size + 1, 7, none⟩ = some (.int .i64 x.prio) by
    intro W g
    have z1 : w.heap.size + 2 ≤ w1.heap.size := by rw [hw1]; simp
    have k1 : w1.heap[w.heap.size]? = some (.cells #[.string x.name, .slice Al1 x.labels.length dl1, .slice An1 x.needs.length dn1, .slice At1 x.tols.length dt1, .string x.req, .slice Aa1 x.apart.length da1, .slice Ap1 x.prefer.length dp1, .int .i64 x.prio] 40 (0, 0)) := by
      rw [hw1]
      exact hkeep (heap_alloc_new w _) _
    have k2 : w1.heap[w.heap.size + 1]? = some (.cells #[.string x.name, .slice Al2 x.labels.length dl2, .slice An2 x.needs.length dn2, .slice At2 x.tols.length dt2, .string x.req, .slice Aa2 x.apart.length da2, .slice Ap2 x.prefer.length dp2, .int .i64 x.prio] 40 (0, 0)) := by
      rw [hw1]
      simpa using heap_alloc_new (w.alloc _) _
    have l1 := (g.block w.heap.size (by omega)).trans k1
    have l2 := (g.block (w.heap.size + 1) (by omega)).trans k2
    exact ⟨cell_at l1 rfl, cell_at l1 rfl, cell_at l1 rfl, cell_at l1 rfl, cell_at l1 rfl, cell_at l1 rfl, cell_at l1 rfl, cell_at l1 rfl, cell_at l2 rfl, cell_at l2 rfl, cell_at l2 rfl, cell_at l2 rfl, cell_at l2 rfl, cell_at l2 rfl, cell_at l2 rfl, cell_at l2 rfl⟩)
  have q1 : (x.name.toList == x.name.toList) = true := by simp
  go_enter Tryz.func38, Tryz.ntmps38
  go_upto_region 1 with fail
  rw [← hw1]
  clear hw1
  obtain ⟨c0, c1, c2, c3, c4, c5, c6, c7, e0, e1, e2, e3, e4, e5, e6, e7⟩ := HS.out w1 (Below.refl _ _)
  have G1 := Lib.hid (Below.refl w1.heap.size w1)
  have q2 : (x.req.toList == x.req.toList) = true := by simp
  go_wp2_with fail
  go_loopw [5] (fun i wr => ∃ k : Nat, k ≤ x.apart.length ∧ i = .int .i64 k ∧ Below w1.heap.size w1 wr) (fun i _ => x.apart.length - (intOf i).toNat)
  case atStart => exact ⟨0, Nat.zero_le _, rfl, Below.refl _ _⟩
  case round =>
    obtain ⟨k, hk, rfl, hB⟩ := hrel
    have HB := Lib.hid hB
    clear hB c0 c1 c2 c3 c4 c5 c6 c7 e0 e1 e2 e3 e4 e5 e6 e7
    obtain ⟨c0, c1, c2, c3, c4, c5, c6, c7, e0, e1, e2, e3, e4, e5, e6, e7⟩ := HS.out wr HB.out
    by_cases hlt : k < x.apart.length
    · have bw := HB1.out.trans (HB.out.mono HB1.out.size)
      obtain ⟨b, off, f1, he, _, _, hbk, hbl, hce⟩ := (HA1.out.below aptOk bw HOK.out).addr (by omega)
      simp only [Value.slice.injEq] at he
      obtain ⟨he, -, hec⟩ := he
      cases he
      cases hec
      obtain ⟨y0, y1⟩ := apt_cells hce k hlt
      obtain ⟨b2, off2, f2, he, _, _, hbk2, hbl2, hce2⟩ := (HA2.out.below aptOk bw HOK.out).addr (by omega)
      simp only [Value.slice.injEq] at he
      obtain ⟨he, -, hec⟩ := he
      cases he
      cases hec
      obtain ⟨u0, u1⟩ := apt_cells hce2 k hlt
      clear hce hce2 bw
      obtain ⟨s, hs⟩ : ∃ s, x.apart[k]'hlt = s := ⟨_, rfl⟩
      rw [hs] at y0 y1 u0 u1
      clear hs
      have q3 : (s.topo.toList == s.topo.toList) = true := by simp
      have q4 : (s.sel.toList == s.sel.toList) = true := by simp
      go_wp2_with fail
      go_region
      go_wp2_with fail
      go_roundw
      case rel => exact ⟨k + 1, by omega, by go_num, HB.out.drew⟩
      case measure => simp [intOf]; omega
    · obtain rfl : k = x.apart.length := by omega
      have G3 := Lib.hid HB.out
      clear hlt hk
      go_wp2_with fail
      go_loopw [6] (fun i wr => ∃ k : Nat, k ≤ x.prefer.length ∧ i = .int .i64 k ∧ Below w1.heap.size w1 wr) (fun i _ => x.prefer.length - (intOf i).toNat)
      case atStart => exact ⟨0, Nat.zero_le _, rfl, G3.out⟩
      case round =>
        obtain ⟨k, hk, rfl, hB⟩ := hrel
        have HB := Lib.hid hB
        clear hB c0 c1 c2 c3 c4 c5 c6 c7 e0 e1 e2 e3 e4 e5 e6 e7
        obtain ⟨c0, c1, c2, c3, c4, c5, c6, c7, e0, e1, e2, e3, e4, e5, e6, e7⟩ := HS.out wr HB.out
        by_cases hlt : k < x.prefer.length
        · have bw := HB1.out.trans (HB.out.mono HB1.out.size)
          obtain ⟨b, off, f1, he, _, _, hbk, hbl, hce⟩ := (HP1.out.below prfOk bw HOK.out).addr (by omega)
          simp only [Value.slice.injEq] at he
          obtain ⟨he, -, hec⟩ := he
          cases he
          cases hec
          obtain ⟨y0, y1⟩ := prf_cells hce k hlt
          obtain ⟨b2, off2, f2, he, _, _, hbk2, hbl2, hce2⟩ := (HP2.out.below prfOk bw HOK.out).addr (by omega)
          simp only [Value.slice.injEq] at he
          obtain ⟨he, -, hec⟩ := he
          cases he
          cases hec
          obtain ⟨u0, u1⟩ := prf_cells hce2 k hlt
          clear hce hce2 bw
          obtain ⟨s, hs⟩ : ∃ s, x.prefer[k]'hlt = s := ⟨_, rfl⟩
          rw [hs] at y0 y1 u0 u1
          clear hs
          skip
          have q4 : (s.text.toList == s.text.toList) = true := by simp
          go_wp2_with fail
          go_region
          go_wp2_with fail
          go_roundw
          case rel => exact ⟨k + 1, by omega, by go_num, HB.out.drew⟩
          case measure => simp [intOf]; omega
        · obtain rfl : k = x.prefer.length := by omega
          have G3 := Lib.hid HB.out
          clear hlt hk
          go_wp2_with fail
          have bw := HB1.out.trans (G3.out.mono HB1.out.size)
          have HBW := Lib.hid bw
          clear bw
          skip
          refine rsame_k _ _ ok _ _ x.labels x.labels (fun k hk => Nat.lt_of_lt_of_le (HOK.out k hk) HBW.out.size) (HL1.out.below labOk HBW.out HOK.out) (HL2.out.below labOk HBW.out HOK.out) s1 s1 ?_
          intro w4 g4
          rw [show decide (x.labels = x.labels) = true by simp]
          have G4 := Lib.hid (G3.out.trans (g4.mono G3.out.size))
          clear g4 HBW c0 c1 c2 c3 c4 c5 c6 c7 e0 e1 e2 e3 e4 e5 e6 e7
          obtain ⟨c0, c1, c2, c3, c4, c5, c6, c7, e0, e1, e2, e3, e4, e5, e6, e7⟩ := HS.out w4 G4.out
          have bw := HB1.out.trans (G4.out.mono HB1.out.size)
          have HBW := Lib.hid bw
          clear bw
          go_wp2_with fail
          refine ritems_k _ _ ok _ _ x.needs x.needs (fun k hk => Nat.lt_of_lt_of_le (HOK.out k hk) HBW.out.size) (HN1.out.below itmOk HBW.out HOK.out) (HN2.out.below itmOk HBW.out HOK.out) s2 s2 ?_
          intro w5 g5
          rw [show decide (x.needs = x.needs) = true by simp]
          have G5 := Lib.hid (G4.out.trans (g5.mono G4.out.size))
          clear g5 HBW c0 c1 c2 c3 c4 c5 c6 c7 e0 e1 e2 e3 e4 e5 e6 e7
          obtain ⟨c0, c1, c2, c3, c4, c5, c6, c7, e0, e1, e2, e3, e4, e5, e6, e7⟩ := HS.out w5 G5.out
          have bw := HB1.out.trans (G5.out.mono HB1.out.size)
          have HBW := Lib.hid bw
          clear bw
          go_wp2_with fail
          refine rtols_k _ _ ok _ _ x.tols x.tols (fun k hk => Nat.lt_of_lt_of_le (HOK.out k hk) HBW.out.size) (HT1.out.below tolOk HBW.out HOK.out) (HT2.out.below tolOk HBW.out HOK.out) s3 s3 ?_
          intro w6 g6
          rw [show decide (x.tols = x.tols) = true by simp]
          have G6 := Lib.hid (G5.out.trans (g6.mono G5.out.size))
          clear g6 HBW c0 c1 c2 c3 c4 c5 c6 c7 e0 e1 e2 e3 e4 e5 e6 e7
          obtain ⟨c0, c1, c2, c3, c4, c5, c6, c7, e0, e1, e2, e3, e4, e5, e6, e7⟩ := HS.out w6 G6.out
          have hv := HR.out w6 (HB1.out.trans (G6.out.mono HB1.out.size))
          skip
          go_wp2_with fail
          exact hv
end Go.Proofs.YtmenipaibjifiaaGreatDoor
