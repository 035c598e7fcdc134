/-
  CheckPod: the reference's and the program's answer the same.
-/
import Derived.Test.YtdceflgemhcgcaaGreatDoorP31
import Derived.Test.YtdceflgemhcgcaaGreatDoorP30
set_option linter.unusedVariables false
set_option linter.unusedSimpArgs false
namespace Go.Proofs.YtdceflgemhcgcaaGreatDoor
open Go.RowKit Go.BigFrame

set_option maxRecDepth 100000 in
set_option maxHeartbeats 8000000 in
theorem rcheckPod_k (R : Ending → World → Prop) (w : World) (ok : Nat → Prop) (x : Pd) (cs : List Value) (hok : ∀ k, ok k → k < w.heap.size) (hx : pdK w ok x cs) (fit : PdFit x)
    (hR : ∀ cs' w', Below w.heap.size w w' → pdK w' (fun k => ok k ∨ w.heap.size ≤ k) (chkPod x).1 cs' → R (.returned (.tuple #[.agg cs'.toArray, .agg (fltC (chkPod x).2).toArray])) w') :
    Calls Tryz.prog 17 #[.agg cs.toArray] w R := by
  obtain ⟨vl, vc, vt, va, vp, rfl, hl, hc, ht, ha, hp⟩ := hx
  obtain ⟨Al, dl, rfl, _, _⟩ := hl.form
  obtain ⟨At, dt, rfl, _, _⟩ := ht.form
  obtain ⟨Ac, dc, rfl, _, _⟩ := hc.form
  obtain ⟨Aa, da, rfl, _, _⟩ := ha.form
  obtain ⟨Ap, dp, rfl, _, _⟩ := hp.form
  have HA := Lib.hid ha
  have HP := Lib.hid hp
  clear ha hp
  obtain ⟨fn, fl, ft, fc, fa, fp⟩ := fit

  have HR := Lib.hid hR
  have FN := Lib.hid fn
  have FL := Lib.hid fl
  have FT := Lib.hid ft
  have FC := Lib.hid fc
  have HL := Lib.hid hl
  have HT := Lib.hid ht
  have HC := Lib.hid hc
  have HOK := Lib.hid hok
  clear hR fn fl ft fc hl ht hc hok
  obtain ⟨w1, hw1⟩ : ∃ w1, w1 = (((w.alloc (.cells #[.string x.name, .slice Al x.labels.length dl, .slice Ac x.needs.length dc, .slice At x.tols.length dt, .string x.req, .slice Aa x.apart.length da, .slice Ap x.prefer.length dp, .int .i64 x.prio] 31)).alloc (.cells #[.string ⟨#[]⟩, .slice none 0 0, .slice none 0 0, .slice none 0 0, .string ⟨#[]⟩, .slice none 0 0, .slice none 0 0, .int .i64 0] 31)).alloc (.cells #[.int .i64 0, .int .i64 0, .string ⟨#[]⟩, .int .i64 0, .int .i64 0, .int .i64 0, .string ⟨#[]⟩, .int .i64 0, .int .i64 0, .int .i64 0, .string ⟨#[]⟩, .int .i64 0, .int .i64 0, .int .i64 0, .string ⟨#[]⟩, .int .i64 0, .int .i64 0, .int .i64 0, .string ⟨#[]⟩] 51)) := ⟨_, rfl⟩
  have z1 : w.heap.size + 3 ≤ w1.heap.size := by rw [hw1]; simp
  have HB1 := Lib.hid (show Below w.heap.size w w1 by
    rw [hw1]
    exact Below.alloc (Below.alloc (Below.alloc (Below.refl _ _) (Nat.le_refl _) _) (by simp) _) (by simp; omega) _)
  have HS := Lib.hid (show ∀ W, Below w1.heap.size w1 W → W.cell? ⟨w.heap.size, 0, none⟩ = some (.string x.name) ∧ W.cell? ⟨w.heap.size, 1, none⟩ = some (.slice Al x.labels.length dl) ∧ W.cell? ⟨w.heap.size, 2, none⟩ = some (.slice Ac x.needs.length dc) ∧ W.cell? ⟨w.heap.size, 3, none⟩ = some (.slice At x.tols.length dt) ∧ W.cell? ⟨w.heap.size, 4, none⟩ = some (.string x.req) ∧ W.cell? ⟨w.heap.size, 5, none⟩ = some (.slice Aa x.apart.length da) ∧ W.cell? ⟨w.heap.size, 6, none⟩ = some (.slice Ap x.prefer.length dp) ∧ W.cell? ⟨w.heap.size, 7, none⟩ = some (.int .i64 x.prio) ∧ W.heap[w.heap.size]? = some (.cells #[.string x.name, .slice Al x.labels.length dl, .slice Ac x.needs.length dc, .slice At x.tols.length dt, .string x.req, .slice Aa x.apart.length da, .slice Ap x.prefer.length dp, .int .i64 x.prio] 31 (0, 0)) ∧ W.heap[w.heap.size + 1]? = some (.cells #[.string ⟨#[]⟩, .slice none 0 0, .slice none 0 0, .slice none 0 0, .string ⟨#[]⟩, .slice none 0 0, .slice none 0 0, .int .i64 0] 31 (0, 0)) ∧ W.heap[w.heap.size + 2]? = some (.cells #[.int .i64 0, .int .i64 0, .string ⟨#[]⟩, .int .i64 0, .int .i64 0, .int .i64 0, .string ⟨#[]⟩, .int .i64 0, .int .i64 0, .int .i64 0, .string ⟨#[]⟩, .int .i64 0, .int .i64 0, .int .i64 0, .string ⟨#[]⟩, .int .i64 0, .int .i64 0, .int .i64 0, .string ⟨#[]⟩] 51 (0, 0)) by
    intro W g
    have k1 : w1.heap[w.heap.size]? = some (.cells #[.string x.name, .slice Al x.labels.length dl, .slice Ac x.needs.length dc, .slice At x.tols.length dt, .string x.req, .slice Aa x.apart.length da, .slice Ap x.prefer.length dp, .int .i64 x.prio] 31 (0, 0)) := by
      rw [hw1]
      exact hkeep (hkeep (heap_alloc_new w _) _) _
    have k2 : w1.heap[w.heap.size + 1]? = some (.cells #[.string ⟨#[]⟩, .slice none 0 0, .slice none 0 0, .slice none 0 0, .string ⟨#[]⟩, .slice none 0 0, .slice none 0 0, .int .i64 0] 31 (0, 0)) := by
      rw [hw1]
      exact hkeep (by simpa using heap_alloc_new (w.alloc _) _) _
    have k3 : w1.heap[w.heap.size + 2]? = some (.cells #[.int .i64 0, .int .i64 0, .string ⟨#[]⟩, .int .i64 0, .int .i64 0, .int .i64 0, .string ⟨#[]⟩, .int .i64 0, .int .i64 0, .int .i64 0, .string ⟨#[]⟩, .int .i64 0, .int .i64 0, .int .i64 0, .string ⟨#[]⟩, .int .i64 0, .int .i64 0, .int .i64 0, .string ⟨#[]⟩] 51 (0, 0)) := by
      rw [hw1]
      simpa using heap_alloc_new ((w.alloc _).alloc _) _
    have l1 := (g.block w.heap.size (by omega)).trans k1
    have l2 := (g.block (w.heap.size + 1) (by omega)).trans k2
    have l3 := (g.block (w.heap.size + 2) (by omega)).trans k3
    exact ⟨cell_at l1 rfl, cell_at l1 rfl, cell_at l1 rfl, cell_at l1 rfl, cell_at l1 rfl, cell_at l1 rfl, cell_at l1 rfl, cell_at l1 rfl, l1, l2, l3⟩)
  go_enter Tryz.func17, Tryz.ntmps17
  go_upto_region 1 with fail
  rw [← hw1]
  clear hw1
  obtain ⟨c0, c1, c2, c3, c4, c5, c6, c7, o1, o2, o3⟩ := HS.out w1 (Below.refl _ _)
  go_wp2_with fail
  refine rname_k _ _ _ FN.out ?_
  intro w2 g2
  have G2 := Lib.hid g2
  clear g2 c0 c1 c2 c3 c4 c5 c6 c7 o1 o2 o3
  obtain ⟨c0, c1, c2, c3, c4, c5, c6, c7, o1, o2, o3⟩ := HS.out w2 G2.out
  obtain ⟨b, hb⟩ : ∃ b, nameB x.name = b := ⟨_, rfl⟩
  rw [hb]
  have HN := Lib.hid hb
  clear hb
  cases b with
  | false =>
    have HQ := Lib.hid (chkPod_1 HN.out)
    go_wp2_with fail
    refine rrefuse_k _ _ _ _ ?_
    intro w3 gw3
    have Gw3 := Lib.hid (G2.out.trans (gw3.mono G2.out.size))
    clear gw3 c0 c1 c2 c3 c4 c5 c6 c7 o1 o2 o3
    obtain ⟨c0, c1, c2, c3, c4, c5, c6, c7, o1, o2, o3⟩ := HS.out w3 Gw3.out
    have q3 : (w3.setRow (w.heap.size + 1) #[.string ⟨#[]⟩, .slice none 0 0, .slice none 0 0, .slice none 0 0, .string ⟨#[]⟩, .slice none 0 0, .slice none 0 0, .int .i64 0]).heap[w.heap.size + 2]? = some (.cells #[.int .i64 0, .int .i64 0, .string ⟨#[]⟩, .int .i64 0, .int .i64 0, .int .i64 0, .string ⟨#[]⟩, .int .i64 0, .int .i64 0, .int .i64 0, .string ⟨#[]⟩, .int .i64 0, .int .i64 0, .int .i64 0, .string ⟨#[]⟩, .int .i64 0, .int .i64 0, .int .i64 0, .string ⟨#[]⟩] 51 (0, 0)) := (setRow_other _ _ _ _ (by omega)).trans o3
    have p3 : ((w3.setRow (w.heap.size + 1) #[.string ⟨#[]⟩, .slice none 0 0, .slice none 0 0, .slice none 0 0, .string ⟨#[]⟩, .slice none 0 0, .slice none 0 0, .int .i64 0]).setRow (w.heap.size + 2) #[.int .i64 30, .int .i64 (-1), .string x.name, .int .i64 0, .int .i64 0, .int .i64 0, .string ⟨#[]⟩, .int .i64 0, .int .i64 0, .int .i64 0, .string ⟨#[]⟩, .int .i64 0, .int .i64 0, .int .i64 0, .string ⟨#[]⟩, .int .i64 0, .int .i64 0, .int .i64 0, .string ⟨#[]⟩]).heap[w.heap.size + 2]? = some (.cells #[.int .i64 30, .int .i64 (-1), .string x.name, .int .i64 0, .int .i64 0, .int .i64 0, .string ⟨#[]⟩, .int .i64 0, .int .i64 0, .int .i64 0, .string ⟨#[]⟩, .int .i64 0, .int .i64 0, .int .i64 0, .string ⟨#[]⟩, .int .i64 0, .int .i64 0, .int .i64 0, .string ⟨#[]⟩] 51 (0, 0)) := setRow_heap _ _ _ _ _ _ q3
    have p2 : ((w3.setRow (w.heap.size + 1) #[.string ⟨#[]⟩, .slice none 0 0, .slice none 0 0, .slice none 0 0, .string ⟨#[]⟩, .slice none 0 0, .slice none 0 0, .int .i64 0]).setRow (w.heap.size + 2) #[.int .i64 30, .int .i64 (-1), .string x.name, .int .i64 0, .int .i64 0, .int .i64 0, .string ⟨#[]⟩, .int .i64 0, .int .i64 0, .int .i64 0, .string ⟨#[]⟩, .int .i64 0, .int .i64 0, .int .i64 0, .string ⟨#[]⟩, .int .i64 0, .int .i64 0, .int .i64 0, .string ⟨#[]⟩]).heap[w.heap.size + 1]? = some (.cells #[.string ⟨#[]⟩, .slice none 0 0, .slice none 0 0, .slice none 0 0, .string ⟨#[]⟩, .slice none 0 0, .slice none 0 0, .int .i64 0] 31 (0, 0)) := (setRow_other _ _ _ _ (by omega)).trans (setRow_heap _ _ _ _ _ _ o2)
    have hv : R (.returned (.tuple #[.agg #[.string ⟨#[]⟩, .slice none 0 0, .slice none 0 0, .slice none 0 0, .string ⟨#[]⟩, .slice none 0 0, .slice none 0 0, .int .i64 0], .agg #[.int .i64 30, .int .i64 (-1), .string x.name, .int .i64 0, .int .i64 0, .int .i64 0, .string ⟨#[]⟩, .int .i64 0, .int .i64 0, .int .i64 0, .string ⟨#[]⟩, .int .i64 0, .int .i64 0, .int .i64 0, .string ⟨#[]⟩, .int .i64 0, .int .i64 0, .int .i64 0, .string ⟨#[]⟩]])) ((w3.setRow (w.heap.size + 1) #[.string ⟨#[]⟩, .slice none 0 0, .slice none 0 0, .slice none 0 0, .string ⟨#[]⟩, .slice none 0 0, .slice none 0 0, .int .i64 0]).setRow (w.heap.size + 2) #[.int .i64 30, .int .i64 (-1), .string x.name, .int .i64 0, .int .i64 0, .int .i64 0, .string ⟨#[]⟩, .int .i64 0, .int .i64 0, .int .i64 0, .string ⟨#[]⟩, .int .i64 0, .int .i64 0, .int .i64 0, .string ⟨#[]⟩, .int .i64 0, .int .i64 0, .int .i64 0, .string ⟨#[]⟩]) := by
      have h := HR.out [.string ⟨#[]⟩, .slice none 0 0, .slice none 0 0, .slice none 0 0, .string ⟨#[]⟩, .slice none 0 0, .slice none 0 0, .int .i64 0] ((w3.setRow (w.heap.size + 1) #[.string ⟨#[]⟩, .slice none 0 0, .slice none 0 0, .slice none 0 0, .string ⟨#[]⟩, .slice none 0 0, .slice none 0 0, .int .i64 0]).setRow (w.heap.size + 2) #[.int .i64 30, .int .i64 (-1), .string x.name, .int .i64 0, .int .i64 0, .int .i64 0, .string ⟨#[]⟩, .int .i64 0, .int .i64 0, .int .i64 0, .string ⟨#[]⟩, .int .i64 0, .int .i64 0, .int .i64 0, .string ⟨#[]⟩, .int .i64 0, .int .i64 0, .int .i64 0, .string ⟨#[]⟩]) (below_setRow (below_setRow (HB1.out.trans ((Gw3.out).mono HB1.out.size)) (by omega) _) (by omega) _) (by rw [HQ.out]; exact ⟨_, _, _, _, _, rfl, SlK.nil, SlK.nil, SlK.nil, SlK.nil, SlK.nil⟩)
      rw [HQ.out] at h
      exact h
    go_wp2_with (first | (refine wpList_store_row rfl 31 _ _ rfl (w.heap.size + 1) #[.string ⟨#[]⟩, .slice none 0 0, .slice none 0 0, .slice none 0 0, .string ⟨#[]⟩, .slice none 0 0, .slice none 0 0, .int .i64 0] rfl rfl 31 #[.string ⟨#[]⟩, .slice none 0 0, .slice none 0 0, .slice none 0 0, .string ⟨#[]⟩, .slice none 0 0, .slice none 0 0, .int .i64 0] o2 (by kernel_rfl) (by simp) (by simp [Value.oneCell']) ?_) | (refine wpList_store_row rfl 51 _ _ rfl (w.heap.size + 2) #[.int .i64 30, .int .i64 (-1), .string x.name, .int .i64 0, .int .i64 0, .int .i64 0, .string ⟨#[]⟩, .int .i64 0, .int .i64 0, .int .i64 0, .string ⟨#[]⟩, .int .i64 0, .int .i64 0, .int .i64 0, .string ⟨#[]⟩, .int .i64 0, .int .i64 0, .int .i64 0, .string ⟨#[]⟩] rfl rfl 51 #[.int .i64 0, .int .i64 0, .string ⟨#[]⟩, .int .i64 0, .int .i64 0, .int .i64 0, .string ⟨#[]⟩, .int .i64 0, .int .i64 0, .int .i64 0, .string ⟨#[]⟩, .int .i64 0, .int .i64 0, .int .i64 0, .string ⟨#[]⟩, .int .i64 0, .int .i64 0, .int .i64 0, .string ⟨#[]⟩] q3 (by kernel_rfl) (by simp) (by simp [Value.oneCell']) ?_))
    exact bodyPost_ret (results_rows2 Tryz.results17 _ _ (w.heap.size + 1) (w.heap.size + 2) 31 51 #[.string ⟨#[]⟩, .slice none 0 0, .slice none 0 0, .slice none 0 0, .string ⟨#[]⟩, .slice none 0 0, .slice none 0 0, .int .i64 0] #[.int .i64 30, .int .i64 (-1), .string x.name, .int .i64 0, .int .i64 0, .int .i64 0, .string ⟨#[]⟩, .int .i64 0, .int .i64 0, .int .i64 0, .string ⟨#[]⟩, .int .i64 0, .int .i64 0, .int .i64 0, .string ⟨#[]⟩, .int .i64 0, .int .i64 0, .int .i64 0, .string ⟨#[]⟩] (0, 0) (0, 0) _ _ rfl p2 Tryz.underlying31 rfl (by kernel_rfl) rfl p3 Tryz.underlying51 rfl (by kernel_rfl)) rfl hv
  | true =>
    obtain ⟨m1, s1, e1, hm⟩ : ∃ m s e, labMake x.labels = (m, s, e) := ⟨_, _, _, rfl⟩
    have HM1 := Lib.hid hm
    have hbw := HB1.out.trans (G2.out.mono HB1.out.size)
    have HBW1 := Lib.hid hbw
    clear hbw
    go_wp2_with fail
    refine rlmake_k _ _ ok _ x.labels (fun k hk => Nat.lt_of_lt_of_le (HOK.out k hk) HBW1.out.size) (HL.out.below labOk HBW1.out HOK.out) FL.out.1 FL.out.2 ?_
    intro v1 w4 gw4 hv1
    rw [hm] at hv1 ⊢
    dsimp only at hv1
    have G4 := Lib.hid (G2.out.trans (gw4.mono G2.out.size))
    obtain ⟨A1, d1, ev1, _, _⟩ := hv1.form
    subst ev1
    have HV1 := Lib.hid (hv1.bnd labOk)
    clear hv1
    have GG1 := Lib.hid gw4
    clear gw4 hm c0 c1 c2 c3 c4 c5 c6 c7 o1 o2 o3
    obtain ⟨c0, c1, c2, c3, c4, c5, c6, c7, o1, o2, o3⟩ := HS.out w4 G4.out
    by_cases he : ¬ e1 = 0
    · have HQ := Lib.hid (chkPod_2 HN.out HM1.out he)
      go_wp2_with fail
      refine rrefuse_k _ _ _ _ ?_
      intro w5 gw5
      have Gw5 := Lib.hid (G4.out.trans (gw5.mono G4.out.size))
      clear gw5 c0 c1 c2 c3 c4 c5 c6 c7 o1 o2 o3
      obtain ⟨c0, c1, c2, c3, c4, c5, c6, c7, o1, o2, o3⟩ := HS.out w5 Gw5.out
      have q3 : (w5.setRow (w.heap.size + 1) #[.string ⟨#[]⟩, .slice none 0 0, .slice none 0 0, .slice none 0 0, .string ⟨#[]⟩, .slice none 0 0, .slice none 0 0, .int .i64 0]).heap[w.heap.size + 2]? = some (.cells #[.int .i64 0, .int .i64 0, .string ⟨#[]⟩, .int .i64 0, .int .i64 0, .int .i64 0, .string ⟨#[]⟩, .int .i64 0, .int .i64 0, .int .i64 0, .string ⟨#[]⟩, .int .i64 0, .int .i64 0, .int .i64 0, .string ⟨#[]⟩, .int .i64 0, .int .i64 0, .int .i64 0, .string ⟨#[]⟩] 51 (0, 0)) := (setRow_other _ _ _ _ (by omega)).trans o3
      have p3 : ((w5.setRow (w.heap.size + 1) #[.string ⟨#[]⟩, .slice none 0 0, .slice none 0 0, .slice none 0 0, .string ⟨#[]⟩, .slice none 0 0, .slice none 0 0, .int .i64 0]).setRow (w.heap.size + 2) #[.int .i64 e1, .int .i64 (-1), .string s1, .int .i64 0, .int .i64 0, .int .i64 0, .string ⟨#[]⟩, .int .i64 0, .int .i64 0, .int .i64 0, .string ⟨#[]⟩, .int .i64 0, .int .i64 0, .int .i64 0, .string ⟨#[]⟩, .int .i64 0, .int .i64 0, .int .i64 0, .string ⟨#[]⟩]).heap[w.heap.size + 2]? = some (.cells #[.int .i64 e1, .int .i64 (-1), .string s1, .int .i64 0, .int .i64 0, .int .i64 0, .string ⟨#[]⟩, .int .i64 0, .int .i64 0, .int .i64 0, .string ⟨#[]⟩, .int .i64 0, .int .i64 0, .int .i64 0, .string ⟨#[]⟩, .int .i64 0, .int .i64 0, .int .i64 0, .string ⟨#[]⟩] 51 (0, 0)) := setRow_heap _ _ _ _ _ _ q3
      have p2 : ((w5.setRow (w.heap.size + 1) #[.string ⟨#[]⟩, .slice none 0 0, .slice none 0 0, .slice none 0 0, .string ⟨#[]⟩, .slice none 0 0, .slice none 0 0, .int .i64 0]).setRow (w.heap.size + 2) #[.int .i64 e1, .int .i64 (-1), .string s1, .int .i64 0, .int .i64 0, .int .i64 0, .string ⟨#[]⟩, .int .i64 0, .int .i64 0, .int .i64 0, .string ⟨#[]⟩, .int .i64 0, .int .i64 0, .int .i64 0, .string ⟨#[]⟩, .int .i64 0, .int .i64 0, .int .i64 0, .string ⟨#[]⟩]).heap[w.heap.size + 1]? = some (.cells #[.string ⟨#[]⟩, .slice none 0 0, .slice none 0 0, .slice none 0 0, .string ⟨#[]⟩, .slice none 0 0, .slice none 0 0, .int .i64 0] 31 (0, 0)) := (setRow_other _ _ _ _ (by omega)).trans (setRow_heap _ _ _ _ _ _ o2)
      have hv : R (.returned (.tuple #[.agg #[.string ⟨#[]⟩, .slice none 0 0, .slice none 0 0, .slice none 0 0, .string ⟨#[]⟩, .slice none 0 0, .slice none 0 0, .int .i64 0], .agg #[.int .i64 e1, .int .i64 (-1), .string s1, .int .i64 0, .int .i64 0, .int .i64 0, .string ⟨#[]⟩, .int .i64 0, .int .i64 0, .int .i64 0, .string ⟨#[]⟩, .int .i64 0, .int .i64 0, .int .i64 0, .string ⟨#[]⟩, .int .i64 0, .int .i64 0, .int .i64 0, .string ⟨#[]⟩]])) ((w5.setRow (w.heap.size + 1) #[.string ⟨#[]⟩, .slice none 0 0, .slice none 0 0, .slice none 0 0, .string ⟨#[]⟩, .slice none 0 0, .slice none 0 0, .int .i64 0]).setRow (w.heap.size + 2) #[.int .i64 e1, .int .i64 (-1), .string s1, .int .i64 0, .int .i64 0, .int .i64 0, .string ⟨#[]⟩, .int .i64 0, .int .i64 0, .int .i64 0, .string ⟨#[]⟩, .int .i64 0, .int .i64 0, .int .i64 0, .string ⟨#[]⟩, .int .i64 0, .int .i64 0, .int .i64 0, .string ⟨#[]⟩]) := by
        have h := HR.out [.string ⟨#[]⟩, .slice none 0 0, .slice none 0 0, .slice none 0 0, .string ⟨#[]⟩, .slice none 0 0, .slice none 0 0, .int .i64 0] ((w5.setRow (w.heap.size + 1) #[.string ⟨#[]⟩, .slice none 0 0, .slice none 0 0, .slice none 0 0, .string ⟨#[]⟩, .slice none 0 0, .slice none 0 0, .int .i64 0]).setRow (w.heap.size + 2) #[.int .i64 e1, .int .i64 (-1), .string s1, .int .i64 0, .int .i64 0, .int .i64 0, .string ⟨#[]⟩, .int .i64 0, .int .i64 0, .int .i64 0, .string ⟨#[]⟩, .int .i64 0, .int .i64 0, .int .i64 0, .string ⟨#[]⟩, .int .i64 0, .int .i64 0, .int .i64 0, .string ⟨#[]⟩]) (below_setRow (below_setRow (HB1.out.trans ((Gw5.out).mono HB1.out.size)) (by omega) _) (by omega) _) (by rw [HQ.out]; exact ⟨_, _, _, _, _, rfl, SlK.nil, SlK.nil, SlK.nil, SlK.nil, SlK.nil⟩)
        rw [HQ.out] at h
        exact h
      go_wp2_with (first | (refine wpList_store_row rfl 31 _ _ rfl (w.heap.size + 1) #[.string ⟨#[]⟩, .slice none 0 0, .slice none 0 0, .slice none 0 0, .string ⟨#[]⟩, .slice none 0 0, .slice none 0 0, .int .i64 0] rfl rfl 31 #[.string ⟨#[]⟩, .slice none 0 0, .slice none 0 0, .slice none 0 0, .string ⟨#[]⟩, .slice none 0 0, .slice none 0 0, .int .i64 0] o2 (by kernel_rfl) (by simp) (by simp [Value.oneCell']) ?_) | (refine wpList_store_row rfl 51 _ _ rfl (w.heap.size + 2) #[.int .i64 e1, .int .i64 (-1), .string s1, .int .i64 0, .int .i64 0, .int .i64 0, .string ⟨#[]⟩, .int .i64 0, .int .i64 0, .int .i64 0, .string ⟨#[]⟩, .int .i64 0, .int .i64 0, .int .i64 0, .string ⟨#[]⟩, .int .i64 0, .int .i64 0, .int .i64 0, .string ⟨#[]⟩] rfl rfl 51 #[.int .i64 0, .int .i64 0, .string ⟨#[]⟩, .int .i64 0, .int .i64 0, .int .i64 0, .string ⟨#[]⟩, .int .i64 0, .int .i64 0, .int .i64 0, .string ⟨#[]⟩, .int .i64 0, .int .i64 0, .int .i64 0, .string ⟨#[]⟩, .int .i64 0, .int .i64 0, .int .i64 0, .string ⟨#[]⟩] q3 (by kernel_rfl) (by simp) (by simp [Value.oneCell']) ?_))
      exact bodyPost_ret (results_rows2 Tryz.results17 _ _ (w.heap.size + 1) (w.heap.size + 2) 31 51 #[.string ⟨#[]⟩, .slice none 0 0, .slice none 0 0, .slice none 0 0, .string ⟨#[]⟩, .slice none 0 0, .slice none 0 0, .int .i64 0] #[.int .i64 e1, .int .i64 (-1), .string s1, .int .i64 0, .int .i64 0, .int .i64 0, .string ⟨#[]⟩, .int .i64 0, .int .i64 0, .int .i64 0, .string ⟨#[]⟩, .int .i64 0, .int .i64 0, .int .i64 0, .string ⟨#[]⟩, .int .i64 0, .int .i64 0, .int .i64 0, .string ⟨#[]⟩] (0, 0) (0, 0) _ _ rfl p2 Tryz.underlying31 rfl (by kernel_rfl) rfl p3 Tryz.underlying51 rfl (by kernel_rfl)) rfl hv
    · have he := Decidable.not_not.1 he
      subst he
      obtain ⟨m2, s2, e2, hm⟩ : ∃ m s e, itmMake x.needs = (m, s, e) := ⟨_, _, _, rfl⟩
      have HM2 := Lib.hid hm
      have hbw := HB1.out.trans (G4.out.mono HB1.out.size)
      have HBW2 := Lib.hid hbw
      clear hbw
      go_wp2_with fail
      refine rqmake_k _ _ ok _ x.needs (fun k hk => Nat.lt_of_lt_of_le (HOK.out k hk) HBW2.out.size) (HC.out.below itmOk HBW2.out HOK.out) (fun s hs => (FC.out.1 s hs).1) FC.out.2 ?_
      intro v2 w6 gw6 hv2
      rw [hm] at hv2 ⊢
      dsimp only at hv2
      have G6 := Lib.hid (G4.out.trans (gw6.mono G4.out.size))
      obtain ⟨A2, d2, ev2, _, _⟩ := hv2.form
      subst ev2
      have HV2 := Lib.hid (hv2.bnd itmOk)
      clear hv2
      have GG2 := Lib.hid gw6
      clear gw6 hm c0 c1 c2 c3 c4 c5 c6 c7 o1 o2 o3
      obtain ⟨c0, c1, c2, c3, c4, c5, c6, c7, o1, o2, o3⟩ := HS.out w6 G6.out
      by_cases he : ¬ e2 = 0
      · have HQ := Lib.hid (chkPod_3 HN.out HM1.out HM2.out he)
        go_wp2_with fail
        refine rrefuse_k _ _ _ _ ?_
        intro w7 gw7
        have Gw7 := Lib.hid (G6.out.trans (gw7.mono G6.out.size))
        clear gw7 c0 c1 c2 c3 c4 c5 c6 c7 o1 o2 o3
        obtain ⟨c0, c1, c2, c3, c4, c5, c6, c7, o1, o2, o3⟩ := HS.out w7 Gw7.out
        have q3 : (w7.setRow (w.heap.size + 1) #[.string ⟨#[]⟩, .slice none 0 0, .slice none 0 0, .slice none 0 0, .string ⟨#[]⟩, .slice none 0 0, .slice none 0 0, .int .i64 0]).heap[w.heap.size + 2]? = some (.cells #[.int .i64 0, .int .i64 0, .string ⟨#[]⟩, .int .i64 0, .int .i64 0, .int .i64 0, .string ⟨#[]⟩, .int .i64 0, .int .i64 0, .int .i64 0, .string ⟨#[]⟩, .int .i64 0, .int .i64 0, .int .i64 0, .string ⟨#[]⟩, .int .i64 0, .int .i64 0, .int .i64 0, .string ⟨#[]⟩] 51 (0, 0)) := (setRow_other _ _ _ _ (by omega)).trans o3
        have p3 : ((w7.setRow (w.heap.size + 1) #[.string ⟨#[]⟩, .slice none 0 0, .slice none 0 0, .slice none 0 0, .string ⟨#[]⟩, .slice none 0 0, .slice none 0 0, .int .i64 0]).setRow (w.heap.size + 2) #[.int .i64 e2, .int .i64 (-1), .string s2, .int .i64 0, .int .i64 0, .int .i64 0, .string ⟨#[]⟩, .int .i64 0, .int .i64 0, .int .i64 0, .string ⟨#[]⟩, .int .i64 0, .int .i64 0, .int .i64 0, .string ⟨#[]⟩, .int .i64 0, .int .i64 0, .int .i64 0, .string ⟨#[]⟩]).heap[w.heap.size + 2]? = some (.cells #[.int .i64 e2, .int .i64 (-1), .string s2, .int .i64 0, .int .i64 0, .int .i64 0, .string ⟨#[]⟩, .int .i64 0, .int .i64 0, .int .i64 0, .string ⟨#[]⟩, .int .i64 0, .int .i64 0, .int .i64 0, .string ⟨#[]⟩, .int .i64 0, .int .i64 0, .int .i64 0, .string ⟨#[]⟩] 51 (0, 0)) := setRow_heap _ _ _ _ _ _ q3
        have p2 : ((w7.setRow (w.heap.size + 1) #[.string ⟨#[]⟩, .slice none 0 0, .slice none 0 0, .slice none 0 0, .string ⟨#[]⟩, .slice none 0 0, .slice none 0 0, .int .i64 0]).setRow (w.heap.size + 2) #[.int .i64 e2, .int .i64 (-1), .string s2, .int .i64 0, .int .i64 0, .int .i64 0, .string ⟨#[]⟩, .int .i64 0, .int .i64 0, .int .i64 0, .string ⟨#[]⟩, .int .i64 0, .int .i64 0, .int .i64 0, .string ⟨#[]⟩, .int .i64 0, .int .i64 0, .int .i64 0, .string ⟨#[]⟩]).heap[w.heap.size + 1]? = some (.cells #[.string ⟨#[]⟩, .slice none 0 0, .slice none 0 0, .slice none 0 0, .string ⟨#[]⟩, .slice none 0 0, .slice none 0 0, .int .i64 0] 31 (0, 0)) := (setRow_other _ _ _ _ (by omega)).trans (setRow_heap _ _ _ _ _ _ o2)
        have hv : R (.returned (.tuple #[.agg #[.string ⟨#[]⟩, .slice none 0 0, .slice none 0 0, .slice none 0 0, .string ⟨#[]⟩, .slice none 0 0, .slice none 0 0, .int .i64 0], .agg #[.int .i64 e2, .int .i64 (-1), .string s2, .int .i64 0, .int .i64 0, .int .i64 0, .string ⟨#[]⟩, .int .i64 0, .int .i64 0, .int .i64 0, .string ⟨#[]⟩, .int .i64 0, .int .i64 0, .int .i64 0, .string ⟨#[]⟩, .int .i64 0, .int .i64 0, .int .i64 0, .string ⟨#[]⟩]])) ((w7.setRow (w.heap.size + 1) #[.string ⟨#[]⟩, .slice none 0 0, .slice none 0 0, .slice none 0 0, .string ⟨#[]⟩, .slice none 0 0, .slice none 0 0, .int .i64 0]).setRow (w.heap.size + 2) #[.int .i64 e2, .int .i64 (-1), .string s2, .int .i64 0, .int .i64 0, .int .i64 0, .string ⟨#[]⟩, .int .i64 0, .int .i64 0, .int .i64 0, .string ⟨#[]⟩, .int .i64 0, .int .i64 0, .int .i64 0, .string ⟨#[]⟩, .int .i64 0, .int .i64 0, .int .i64 0, .string ⟨#[]⟩]) := by
          have h := HR.out [.string ⟨#[]⟩, .slice none 0 0, .slice none 0 0, .slice none 0 0, .string ⟨#[]⟩, .slice none 0 0, .slice none 0 0, .int .i64 0] ((w7.setRow (w.heap.size + 1) #[.string ⟨#[]⟩, .slice none 0 0, .slice none 0 0, .slice none 0 0, .string ⟨#[]⟩, .slice none 0 0, .slice none 0 0, .int .i64 0]).setRow (w.heap.size + 2) #[.int .i64 e2, .int .i64 (-1), .string s2, .int .i64 0, .int .i64 0, .int .i64 0, .string ⟨#[]⟩, .int .i64 0, .int .i64 0, .int .i64 0, .string ⟨#[]⟩, .int .i64 0, .int .i64 0, .int .i64 0, .string ⟨#[]⟩, .int .i64 0, .int .i64 0, .int .i64 0, .string ⟨#[]⟩]) (below_setRow (below_setRow (HB1.out.trans ((Gw7.out).mono HB1.out.size)) (by omega) _) (by omega) _) (by rw [HQ.out]; exact ⟨_, _, _, _, _, rfl, SlK.nil, SlK.nil, SlK.nil, SlK.nil, SlK.nil⟩)
          rw [HQ.out] at h
          exact h
        go_wp2_with (first | (refine wpList_store_row rfl 31 _ _ rfl (w.heap.size + 1) #[.string ⟨#[]⟩, .slice none 0 0, .slice none 0 0, .slice none 0 0, .string ⟨#[]⟩, .slice none 0 0, .slice none 0 0, .int .i64 0] rfl rfl 31 #[.string ⟨#[]⟩, .slice none 0 0, .slice none 0 0, .slice none 0 0, .string ⟨#[]⟩, .slice none 0 0, .slice none 0 0, .int .i64 0] o2 (by kernel_rfl) (by simp) (by simp [Value.oneCell']) ?_) | (refine wpList_store_row rfl 51 _ _ rfl (w.heap.size + 2) #[.int .i64 e2, .int .i64 (-1), .string s2, .int .i64 0, .int .i64 0, .int .i64 0, .string ⟨#[]⟩, .int .i64 0, .int .i64 0, .int .i64 0, .string ⟨#[]⟩, .int .i64 0, .int .i64 0, .int .i64 0, .string ⟨#[]⟩, .int .i64 0, .int .i64 0, .int .i64 0, .string ⟨#[]⟩] rfl rfl 51 #[.int .i64 0, .int .i64 0, .string ⟨#[]⟩, .int .i64 0, .int .i64 0, .int .i64 0, .string ⟨#[]⟩, .int .i64 0, .int .i64 0, .int .i64 0, .string ⟨#[]⟩, .int .i64 0, .int .i64 0, .int .i64 0, .string ⟨#[]⟩, .int .i64 0, .int .i64 0, .int .i64 0, .string ⟨#[]⟩] q3 (by kernel_rfl) (by simp) (by simp [Value.oneCell']) ?_))
        exact bodyPost_ret (results_rows2 Tryz.results17 _ _ (w.heap.size + 1) (w.heap.size + 2) 31 51 #[.string ⟨#[]⟩, .slice none 0 0, .slice none 0 0, .slice none 0 0, .string ⟨#[]⟩, .slice none 0 0, .slice none 0 0, .int .i64 0] #[.int .i64 e2, .int .i64 (-1), .string s2, .int .i64 0, .int .i64 0, .int .i64 0, .string ⟨#[]⟩, .int .i64 0, .int .i64 0, .int .i64 0, .string ⟨#[]⟩, .int .i64 0, .int .i64 0, .int .i64 0, .string ⟨#[]⟩, .int .i64 0, .int .i64 0, .int .i64 0, .string ⟨#[]⟩] (0, 0) (0, 0) _ _ rfl p2 Tryz.underlying31 rfl (by kernel_rfl) rfl p3 Tryz.underlying51 rfl (by kernel_rfl)) rfl hv
      · have he := Decidable.not_not.1 he
        subst he
        obtain ⟨s3, e3, hm⟩ : ∃ s e, tolsChk x.tols = (s, e) := ⟨_, _, rfl⟩
        have HM3 := Lib.hid hm
        have hbw := HB1.out.trans (G6.out.mono HB1.out.size)
        have HBW3 := Lib.hid hbw
        clear hbw
        go_wp2_with fail
        refine rctols_k _ _ ok _ x.tols (fun k hk => Nat.lt_of_lt_of_le (HOK.out k hk) HBW3.out.size) (HT.out.below tolOk HBW3.out HOK.out) FT.out.1 FT.out.2 ?_
        intro w8 gw8
        rw [hm]
        have G8 := Lib.hid (G6.out.trans (gw8.mono G6.out.size))
        have GG3 := Lib.hid gw8
        clear gw8 hm c0 c1 c2 c3 c4 c5 c6 c7 o1 o2 o3
        obtain ⟨c0, c1, c2, c3, c4, c5, c6, c7, o1, o2, o3⟩ := HS.out w8 G8.out
        by_cases he : ¬ e3 = 0
        · have HQ := Lib.hid (chkPod_4 HN.out HM1.out HM2.out HM3.out he)
          have q3 : (w8.setRow (w.heap.size + 1) #[.string ⟨#[]⟩, .slice none 0 0, .slice none 0 0, .slice none 0 0, .string ⟨#[]⟩, .slice none 0 0, .slice none 0 0, .int .i64 0]).heap[w.heap.size + 2]? = some (.cells #[.int .i64 0, .int .i64 0, .string ⟨#[]⟩, .int .i64 0, .int .i64 0, .int .i64 0, .string ⟨#[]⟩, .int .i64 0, .int .i64 0, .int .i64 0, .string ⟨#[]⟩, .int .i64 0, .int .i64 0, .int .i64 0, .string ⟨#[]⟩, .int .i64 0, .int .i64 0, .int .i64 0, .string ⟨#[]⟩] 51 (0, 0)) := (setRow_other _ _ _ _ (by omega)).trans o3
          have p3 : ((w8.setRow (w.heap.size + 1) #[.string ⟨#[]⟩, .slice none 0 0, .slice none 0 0, .slice none 0 0, .string ⟨#[]⟩, .slice none 0 0, .slice none 0 0, .int .i64 0]).setRow (w.heap.size + 2) #[.int .i64 e3, .int .i64 s3, .string ⟨#[]⟩, .int .i64 0, .int .i64 0, .int .i64 0, .string ⟨#[]⟩, .int .i64 0, .int .i64 0, .int .i64 0, .string ⟨#[]⟩, .int .i64 0, .int .i64 0, .int .i64 0, .string ⟨#[]⟩, .int .i64 0, .int .i64 0, .int .i64 0, .string ⟨#[]⟩]).heap[w.heap.size + 2]? = some (.cells #[.int .i64 e3, .int .i64 s3, .string ⟨#[]⟩, .int .i64 0, .int .i64 0, .int .i64 0, .string ⟨#[]⟩, .int .i64 0, .int .i64 0, .int .i64 0, .string ⟨#[]⟩, .int .i64 0, .int .i64 0, .int .i64 0, .string ⟨#[]⟩, .int .i64 0, .int .i64 0, .int .i64 0, .string ⟨#[]⟩] 51 (0, 0)) := setRow_heap _ _ _ _ _ _ q3
          have p2 : ((w8.setRow (w.heap.size + 1) #[.string ⟨#[]⟩, .slice none 0 0, .slice none 0 0, .slice none 0 0, .string ⟨#[]⟩, .slice none 0 0, .slice none 0 0, .int .i64 0]).setRow (w.heap.size + 2) #[.int .i64 e3, .int .i64 s3, .string ⟨#[]⟩, .int .i64 0, .int .i64 0, .int .i64 0, .string ⟨#[]⟩, .int .i64 0, .int .i64 0, .int .i64 0, .string ⟨#[]⟩, .int .i64 0, .int .i64 0, .int .i64 0, .string ⟨#[]⟩, .int .i64 0, .int .i64 0, .int .i64 0, .string ⟨#[]⟩]).heap[w.heap.size + 1]? = some (.cells #[.string ⟨#[]⟩, .slice none 0 0, .slice none 0 0, .slice none 0 0, .string ⟨#[]⟩, .slice none 0 0, .slice none 0 0, .int .i64 0] 31 (0, 0)) := (setRow_other _ _ _ _ (by omega)).trans (setRow_heap _ _ _ _ _ _ o2)
          have hv : R (.returned (.tuple #[.agg #[.string ⟨#[]⟩, .slice none 0 0, .slice none 0 0, .slice none 0 0, .string ⟨#[]⟩, .slice none 0 0, .slice none 0 0, .int .i64 0], .agg #[.int .i64 e3, .int .i64 s3, .string ⟨#[]⟩, .int .i64 0, .int .i64 0, .int .i64 0, .string ⟨#[]⟩, .int .i64 0, .int .i64 0, .int .i64 0, .string ⟨#[]⟩, .int .i64 0, .int .i64 0, .int .i64 0, .string ⟨#[]⟩, .int .i64 0, .int .i64 0, .int .i64 0, .string ⟨#[]⟩]])) ((w8.setRow (w.heap.size + 1) #[.string ⟨#[]⟩, .slice none 0 0, .slice none 0 0, .slice none 0 0, .string ⟨#[]⟩, .slice none 0 0, .slice none 0 0, .int .i64 0]).setRow (w.heap.size + 2) #[.int .i64 e3, .int .i64 s3, .string ⟨#[]⟩, .int .i64 0, .int .i64 0, .int .i64 0, .string ⟨#[]⟩, .int .i64 0, .int .i64 0, .int .i64 0, .string ⟨#[]⟩, .int .i64 0, .int .i64 0, .int .i64 0, .string ⟨#[]⟩, .int .i64 0, .int .i64 0, .int .i64 0, .string ⟨#[]⟩]) := by
            have h := HR.out [.string ⟨#[]⟩, .slice none 0 0, .slice none 0 0, .slice none 0 0, .string ⟨#[]⟩, .slice none 0 0, .slice none 0 0, .int .i64 0] ((w8.setRow (w.heap.size + 1) #[.string ⟨#[]⟩, .slice none 0 0, .slice none 0 0, .slice none 0 0, .string ⟨#[]⟩, .slice none 0 0, .slice none 0 0, .int .i64 0]).setRow (w.heap.size + 2) #[.int .i64 e3, .int .i64 s3, .string ⟨#[]⟩, .int .i64 0, .int .i64 0, .int .i64 0, .string ⟨#[]⟩, .int .i64 0, .int .i64 0, .int .i64 0, .string ⟨#[]⟩, .int .i64 0, .int .i64 0, .int .i64 0, .string ⟨#[]⟩, .int .i64 0, .int .i64 0, .int .i64 0, .string ⟨#[]⟩]) (below_setRow (below_setRow (HB1.out.trans ((G8.out).mono HB1.out.size)) (by omega) _) (by omega) _) (by rw [HQ.out]; exact ⟨_, _, _, _, _, rfl, SlK.nil, SlK.nil, SlK.nil, SlK.nil, SlK.nil⟩)
            rw [HQ.out] at h
            exact h
          go_wp2_with (first | (refine wpList_store_row rfl 31 _ _ rfl (w.heap.size + 1) #[.string ⟨#[]⟩, .slice none 0 0, .slice none 0 0, .slice none 0 0, .string ⟨#[]⟩, .slice none 0 0, .slice none 0 0, .int .i64 0] rfl rfl 31 #[.string ⟨#[]⟩, .slice none 0 0, .slice none 0 0, .slice none 0 0, .string ⟨#[]⟩, .slice none 0 0, .slice none 0 0, .int .i64 0] o2 (by kernel_rfl) (by simp) (by simp [Value.oneCell']) ?_) | (refine wpList_store_row rfl 51 _ _ rfl (w.heap.size + 2) #[.int .i64 e3, .int .i64 s3, .string ⟨#[]⟩, .int .i64 0, .int .i64 0, .int .i64 0, .string ⟨#[]⟩, .int .i64 0, .int .i64 0, .int .i64 0, .string ⟨#[]⟩, .int .i64 0, .int .i64 0, .int .i64 0, .string ⟨#[]⟩, .int .i64 0, .int .i64 0, .int .i64 0, .string ⟨#[]⟩] rfl rfl 51 #[.int .i64 0, .int .i64 0, .string ⟨#[]⟩, .int .i64 0, .int .i64 0, .int .i64 0, .string ⟨#[]⟩, .int .i64 0, .int .i64 0, .int .i64 0, .string ⟨#[]⟩, .int .i64 0, .int .i64 0, .int .i64 0, .string ⟨#[]⟩, .int .i64 0, .int .i64 0, .int .i64 0, .string ⟨#[]⟩] q3 (by kernel_rfl) (by simp) (by simp [Value.oneCell']) ?_))
          exact bodyPost_ret (results_rows2 Tryz.results17 _ _ (w.heap.size + 1) (w.heap.size + 2) 31 51 #[.string ⟨#[]⟩, .slice none 0 0, .slice none 0 0, .slice none 0 0, .string ⟨#[]⟩, .slice none 0 0, .slice none 0 0, .int .i64 0] #[.int .i64 e3, .int .i64 s3, .string ⟨#[]⟩, .int .i64 0, .int .i64 0, .int .i64 0, .string ⟨#[]⟩, .int .i64 0, .int .i64 0, .int .i64 0, .string ⟨#[]⟩, .int .i64 0, .int .i64 0, .int .i64 0, .string ⟨#[]⟩, .int .i64 0, .int .i64 0, .int .i64 0, .string ⟨#[]⟩] (0, 0) (0, 0) _ _ rfl p2 Tryz.underlying31 rfl (by kernel_rfl) rfl p3 Tryz.underlying51 rfl (by kernel_rfl)) rfl hv
        · have he := Decidable.not_not.1 he
          subst he
          have HQ := Lib.hid (chkPod_5 HN.out HM1.out HM2.out HM3.out)
          have STEP1 := Lib.hid (GG2.out.trans (GG3.out.mono GG2.out.size))
          have STEP2 := Lib.hid GG3.out
          have HBW := Lib.hid (HB1.out.trans (G8.out.mono HB1.out.size))
          have zW : w.heap.size + 3 ≤ w8.heap.size := Nat.le_trans z1 G8.out.size
          obtain ⟨wb, hwb⟩ : ∃ wb, wb = ((w8.alloc (.cells #[.string ⟨#[]⟩, .slice none 0 0, .slice none 0 0, .slice none 0 0, .string ⟨#[]⟩, .slice none 0 0, .slice none 0 0, .int .i64 0] 31)).setRow w8.heap.size #[.string x.name, .slice Al x.labels.length dl, .slice Ac x.needs.length dc, .slice At x.tols.length dt, .string x.req, .slice Aa x.apart.length da, .slice Ap x.prefer.length dp, .int .i64 x.prio]) := ⟨_, rfl⟩
          have oa : (w8.alloc (.cells #[.string ⟨#[]⟩, .slice none 0 0, .slice none 0 0, .slice none 0 0, .string ⟨#[]⟩, .slice none 0 0, .slice none 0 0, .int .i64 0] 31)).heap[w8.heap.size]? = some (.cells #[.string ⟨#[]⟩, .slice none 0 0, .slice none 0 0, .slice none 0 0, .string ⟨#[]⟩, .slice none 0 0, .slice none 0 0, .int .i64 0] 31 (0, 0)) := heap_alloc_new _ _
          have ob : wb.heap[w8.heap.size]? = some (.cells #[.string x.name, .slice Al x.labels.length dl, .slice Ac x.needs.length dc, .slice At x.tols.length dt, .string x.req, .slice Aa x.apart.length da, .slice Ap x.prefer.length dp, .int .i64 x.prio] 31 (0, 0)) := by rw [hwb]; exact setRow_heap _ _ _ _ _ _ oa
          have GW := Lib.hid (show Below w8.heap.size w8 wb by rw [hwb]; exact below_setRow (Below.alloc (Below.refl _ _) (Nat.le_refl _) _) (Nat.le_refl _) _)
          go_upto_region 14 with (first | (refine wpList_load_row rfl 31 _ rfl w.heap.size rfl 31 #[.string x.name, .slice Al x.labels.length dl, .slice Ac x.needs.length dc, .slice At x.tols.length dt, .string x.req, .slice Aa x.apart.length da, .slice Ap x.prefer.length dp, .int .i64 x.prio] (0, 0) _ o1 Tryz.underlying31 rfl (by kernel_rfl) ?_) | (refine wpList_store_row rfl 31 _ _ rfl w8.heap.size #[.string x.name, .slice Al x.labels.length dl, .slice Ac x.needs.length dc, .slice At x.tols.length dt, .string x.req, .slice Aa x.apart.length da, .slice Ap x.prefer.length dp, .int .i64 x.prio] rfl rfl 31 #[.string ⟨#[]⟩, .slice none 0 0, .slice none 0 0, .slice none 0 0, .string ⟨#[]⟩, .slice none 0 0, .slice none 0 0, .int .i64 0] oa (by kernel_rfl) (by simp) (by simp [Value.oneCell']) ?_))
          rw [← hwb]
          clear hwb oa c0 c1 c2 c3 c4 c5 c6 c7
          have k1 : wb.cell? ⟨w8.heap.size, 1, none⟩ = some (.slice Al x.labels.length dl) := cell_at ob rfl
          have f1 : wb.frozen? ⟨w8.heap.size, 1, none⟩ = false := frozen_at ob
          obtain ⟨wd, hwd⟩ : ∃ wd, wd = wb.setCell ⟨w8.heap.size, 1, none⟩ (.slice A1 m1.length d1) := ⟨_, rfl⟩
          have od : wd.heap[w8.heap.size]? = some (.cells #[.string x.name, .slice A1 m1.length d1, .slice Ac x.needs.length dc, .slice At x.tols.length dt, .string x.req, .slice Aa x.apart.length da, .slice Ap x.prefer.length dp, .int .i64 x.prio] 31 (0, 0)) := by rw [hwd]; exact (heap_setCell_at ob).trans rfl
          have GD := Lib.hid (show Below w8.heap.size w8 wd by rw [hwd]; exact Below.setCell GW.out (Nat.le_refl _) _)
          go_upto_region 15 with fail
          rw [← hwd]
          clear hwd k1 f1 ob
          have k2 : wd.cell? ⟨w8.heap.size, 2, none⟩ = some (.slice Ac x.needs.length dc) := cell_at od rfl
          have f2 : wd.frozen? ⟨w8.heap.size, 2, none⟩ = false := frozen_at od
          obtain ⟨we, hwe⟩ : ∃ we, we = wd.setCell ⟨w8.heap.size, 2, none⟩ (.slice A2 m2.length d2) := ⟨_, rfl⟩
          have oe : we.heap[w8.heap.size]? = some (.cells #[.string x.name, .slice A1 m1.length d1, .slice A2 m2.length d2, .slice At x.tols.length dt, .string x.req, .slice Aa x.apart.length da, .slice Ap x.prefer.length dp, .int .i64 x.prio] 31 (0, 0)) := by rw [hwe]; exact (heap_setCell_at od).trans rfl
          have GE := Lib.hid (show Below w8.heap.size w8 we by rw [hwe]; exact Below.setCell GD.out (Nat.le_refl _) _)
          go_upto_region 16 with fail
          rw [← hwe]
          clear hwe k2 f2 od
          have e2 := (GE.out.block (w.heap.size + 1) (by omega)).trans o2
          have e3 := (GE.out.block (w.heap.size + 2) (by omega)).trans o3
          have q3 : (we.setRow (w.heap.size + 1) #[.string x.name, .slice A1 m1.length d1, .slice A2 m2.length d2, .slice At x.tols.length dt, .string x.req, .slice Aa x.apart.length da, .slice Ap x.prefer.length dp, .int .i64 x.prio]).heap[w.heap.size + 2]? = some (.cells #[.int .i64 0, .int .i64 0, .string ⟨#[]⟩, .int .i64 0, .int .i64 0, .int .i64 0, .string ⟨#[]⟩, .int .i64 0, .int .i64 0, .int .i64 0, .string ⟨#[]⟩, .int .i64 0, .int .i64 0, .int .i64 0, .string ⟨#[]⟩, .int .i64 0, .int .i64 0, .int .i64 0, .string ⟨#[]⟩] 51 (0, 0)) := (setRow_other _ _ _ _ (by omega)).trans e3
          have p3 : ((we.setRow (w.heap.size + 1) #[.string x.name, .slice A1 m1.length d1, .slice A2 m2.length d2, .slice At x.tols.length dt, .string x.req, .slice Aa x.apart.length da, .slice Ap x.prefer.length dp, .int .i64 x.prio]).setRow (w.heap.size + 2) #[.int .i64 0, .int .i64 0, .string ⟨#[]⟩, .int .i64 0, .int .i64 0, .int .i64 0, .string ⟨#[]⟩, .int .i64 0, .int .i64 0, .int .i64 0, .string ⟨#[]⟩, .int .i64 0, .int .i64 0, .int .i64 0, .string ⟨#[]⟩, .int .i64 0, .int .i64 0, .int .i64 0, .string ⟨#[]⟩]).heap[w.heap.size + 2]? = some (.cells #[.int .i64 0, .int .i64 0, .string ⟨#[]⟩, .int .i64 0, .int .i64 0, .int .i64 0, .string ⟨#[]⟩, .int .i64 0, .int .i64 0, .int .i64 0, .string ⟨#[]⟩, .int .i64 0, .int .i64 0, .int .i64 0, .string ⟨#[]⟩, .int .i64 0, .int .i64 0, .int .i64 0, .string ⟨#[]⟩] 51 (0, 0)) := setRow_heap _ _ _ _ _ _ q3
          have p2 : ((we.setRow (w.heap.size + 1) #[.string x.name, .slice A1 m1.length d1, .slice A2 m2.length d2, .slice At x.tols.length dt, .string x.req, .slice Aa x.apart.length da, .slice Ap x.prefer.length dp, .int .i64 x.prio]).setRow (w.heap.size + 2) #[.int .i64 0, .int .i64 0, .string ⟨#[]⟩, .int .i64 0, .int .i64 0, .int .i64 0, .string ⟨#[]⟩, .int .i64 0, .int .i64 0, .int .i64 0, .string ⟨#[]⟩, .int .i64 0, .int .i64 0, .int .i64 0, .string ⟨#[]⟩, .int .i64 0, .int .i64 0, .int .i64 0, .string ⟨#[]⟩]).heap[w.heap.size + 1]? = some (.cells #[.string x.name, .slice A1 m1.length d1, .slice A2 m2.length d2, .slice At x.tols.length dt, .string x.req, .slice Aa x.apart.length da, .slice Ap x.prefer.length dp, .int .i64 x.prio] 31 (0, 0)) := (setRow_other _ _ _ _ (by omega)).trans (setRow_heap _ _ _ _ _ _ e2)
          have hv : R (.returned (.tuple #[.agg #[.string x.name, .slice A1 m1.length d1, .slice A2 m2.length d2, .slice At x.tols.length dt, .string x.req, .slice Aa x.apart.length da, .slice Ap x.prefer.length dp, .int .i64 x.prio], .agg #[.int .i64 0, .int .i64 0, .string ⟨#[]⟩, .int .i64 0, .int .i64 0, .int .i64 0, .string ⟨#[]⟩, .int .i64 0, .int .i64 0, .int .i64 0, .string ⟨#[]⟩, .int .i64 0, .int .i64 0, .int .i64 0, .string ⟨#[]⟩, .int .i64 0, .int .i64 0, .int .i64 0, .string ⟨#[]⟩]])) ((we.setRow (w.heap.size + 1) #[.string x.name, .slice A1 m1.length d1, .slice A2 m2.length d2, .slice At x.tols.length dt, .string x.req, .slice Aa x.apart.length da, .slice Ap x.prefer.length dp, .int .i64 x.prio]).setRow (w.heap.size + 2) #[.int .i64 0, .int .i64 0, .string ⟨#[]⟩, .int .i64 0, .int .i64 0, .int .i64 0, .string ⟨#[]⟩, .int .i64 0, .int .i64 0, .int .i64 0, .string ⟨#[]⟩, .int .i64 0, .int .i64 0, .int .i64 0, .string ⟨#[]⟩, .int .i64 0, .int .i64 0, .int .i64 0, .string ⟨#[]⟩]) := by
            have h := HR.out [.string x.name, .slice A1 m1.length d1, .slice A2 m2.length d2, .slice At x.tols.length dt, .string x.req, .slice Aa x.apart.length da, .slice Ap x.prefer.length dp, .int .i64 x.prio] ((we.setRow (w.heap.size + 1) #[.string x.name, .slice A1 m1.length d1, .slice A2 m2.length d2, .slice At x.tols.length dt, .string x.req, .slice Aa x.apart.length da, .slice Ap x.prefer.length dp, .int .i64 x.prio]).setRow (w.heap.size + 2) #[.int .i64 0, .int .i64 0, .string ⟨#[]⟩, .int .i64 0, .int .i64 0, .int .i64 0, .string ⟨#[]⟩, .int .i64 0, .int .i64 0, .int .i64 0, .string ⟨#[]⟩, .int .i64 0, .int .i64 0, .int .i64 0, .string ⟨#[]⟩, .int .i64 0, .int .i64 0, .int .i64 0, .string ⟨#[]⟩]) (below_setRow (below_setRow (HBW.out.trans (GE.out.mono HBW.out.size)) (by omega) _) (by omega) _) (by rw [HQ.out]; exact ⟨_, _, _, _, _, rfl, ((HV1.out.move labOk (fun k hk => (setRow_other _ _ _ _ (by have := hk.1; have := (G2.out).size; omega)).trans ((setRow_other _ _ _ _ (by have := hk.1; have := (G2.out).size; omega)).trans (((STEP1.out).trans (GE.out.mono (STEP1.out).size)).block k hk.2)))).mono labOk (fun k hk => .inr (Nat.le_trans (HB1.out.trans ((G2.out).mono HB1.out.size)).size hk.1))), ((HV2.out.move itmOk (fun k hk => (setRow_other _ _ _ _ (by have := hk.1; have := (G4.out).size; omega)).trans ((setRow_other _ _ _ _ (by have := hk.1; have := (G4.out).size; omega)).trans (((STEP2.out).trans (GE.out.mono (STEP2.out).size)).block k hk.2)))).mono itmOk (fun k hk => .inr (Nat.le_trans (HB1.out.trans ((G4.out).mono HB1.out.size)).size hk.1))), ((HT.out.move tolOk (fun k hk => (setRow_other _ _ _ _ (by have := HOK.out k hk; omega)).trans ((setRow_other _ _ _ _ (by have := HOK.out k hk; omega)).trans ((HBW.out.trans (GE.out.mono HBW.out.size)).block k (HOK.out k hk))))).mono tolOk (fun k hk => .inl hk)), ((HA.out.move aptOk (fun k hk => (setRow_other _ _ _ _ (by have := HOK.out k hk; omega)).trans ((setRow_other _ _ _ _ (by have := HOK.out k hk; omega)).trans ((HBW.out.trans (GE.out.mono HBW.out.size)).block k (HOK.out k hk))))).mono aptOk (fun k hk => .inl hk)), ((HP.out.move prfOk (fun k hk => (setRow_other _ _ _ _ (by have := HOK.out k hk; omega)).trans ((setRow_other _ _ _ _ (by have := HOK.out k hk; omega)).trans ((HBW.out.trans (GE.out.mono HBW.out.size)).block k (HOK.out k hk))))).mono prfOk (fun k hk => .inl hk))⟩)
            rw [HQ.out] at h
            exact h
          go_wp2_with (first | (refine wpList_load_row rfl 31 _ rfl w8.heap.size rfl 31 #[.string x.name, .slice A1 m1.length d1, .slice A2 m2.length d2, .slice At x.tols.length dt, .string x.req, .slice Aa x.apart.length da, .slice Ap x.prefer.length dp, .int .i64 x.prio] (0, 0) _ oe Tryz.underlying31 rfl (by kernel_rfl) ?_) | (refine wpList_store_row rfl 31 _ _ rfl (w.heap.size + 1) #[.string x.name, .slice A1 m1.length d1, .slice A2 m2.length d2, .slice At x.tols.length dt, .string x.req, .slice Aa x.apart.length da, .slice Ap x.prefer.length dp, .int .i64 x.prio] rfl rfl 31 #[.string ⟨#[]⟩, .slice none 0 0, .slice none 0 0, .slice none 0 0, .string ⟨#[]⟩, .slice none 0 0, .slice none 0 0, .int .i64 0] e2 (by kernel_rfl) (by simp) (by simp [Value.oneCell']) ?_) | (refine wpList_store_row rfl 51 _ _ rfl (w.heap.size + 2) #[.int .i64 0, .int .i64 0, .string ⟨#[]⟩, .int .i64 0, .int .i64 0, .int .i64 0, .string ⟨#[]⟩, .int .i64 0, .int .i64 0, .int .i64 0, .string ⟨#[]⟩, .int .i64 0, .int .i64 0, .int .i64 0, .string ⟨#[]⟩, .int .i64 0, .int .i64 0, .int .i64 0, .string ⟨#[]⟩] rfl rfl 51 #[.int .i64 0, .int .i64 0, .string ⟨#[]⟩, .int .i64 0, .int .i64 0, .int .i64 0, .string ⟨#[]⟩, .int .i64 0, .int .i64 0, .int .i64 0, .string ⟨#[]⟩, .int .i64 0, .int .i64 0, .int .i64 0, .string ⟨#[]⟩, .int .i64 0, .int .i64 0, .int .i64 0, .string ⟨#[]⟩] q3 (by kernel_rfl) (by simp) (by simp [Value.oneCell']) ?_))
          exact bodyPost_ret (results_rows2 Tryz.results17 _ _ (w.heap.size + 1) (w.heap.size + 2) 31 51 #[.string x.name, .slice A1 m1.length d1, .slice A2 m2.length d2, .slice At x.tols.length dt, .string x.req, .slice Aa x.apart.length da, .slice Ap x.prefer.length dp, .int .i64 x.prio] #[.int .i64 0, .int .i64 0, .string ⟨#[]⟩, .int .i64 0, .int .i64 0, .int .i64 0, .string ⟨#[]⟩, .int .i64 0, .int .i64 0, .int .i64 0, .string ⟨#[]⟩, .int .i64 0, .int .i64 0, .int .i64 0, .string ⟨#[]⟩, .int .i64 0, .int .i64 0, .int .i64 0, .string ⟨#[]⟩] (0, 0) (0, 0) _ _ rfl p2 Tryz.underlying31 rfl (by kernel_rfl) rfl p3 Tryz.underlying51 rfl (by kernel_rfl)) rfl hv
set_option maxRecDepth 100000 in
set_option maxHeartbeats 8000000 in
theorem checkPodR_k (R : Ending → World → Prop) (w : World) (ok : Nat → Prop) (x : Pd) (cs : List Value) (hG : GOk w) (hok : ∀ k, ok k → k < w.heap.size) (hx : pdK w ok x cs) (fit : PdFit x)
    (hR : ∀ cs' v w', Below w.heap.size w w' → pdR w' (fun k => w.heap.size ≤ k) (chkPod x).1 cs' → ErrIs w' v (chkPod x).2 → R (.returned (.tuple #[.agg cs'.toArray, v])) w') :
    Calls Tryz.prog 12 #[.agg cs.toArray] w R := by
  obtain ⟨vl, vc, vt, va, vp, rfl, hl, hc, ht, ha, hp⟩ := hx
  obtain ⟨Al, dl, rfl, _, _⟩ := hl.form
  obtain ⟨At, dt, rfl, _, _⟩ := ht.form
  obtain ⟨Ac, dc, rfl, _, _⟩ := hc.form
  obtain ⟨Aa, da, rfl, _, _⟩ := ha.form
  obtain ⟨Ap, dp, rfl, _, _⟩ := hp.form
  have HA := Lib.hid ha
  have HP := Lib.hid hp
  clear ha hp
  obtain ⟨fn, fl, ft, fc, fa, fp⟩ := fit

  have HR := Lib.hid hR
  have FN := Lib.hid fn
  have FL := Lib.hid fl
  have FT := Lib.hid ft
  have FC := Lib.hid fc
  have HL := Lib.hid hl
  have HT := Lib.hid ht
  have HC := Lib.hid hc
  have HOK := Lib.hid hok
  have FA := Lib.hid fa
  have FP := Lib.hid fp
  clear hR fn fl ft fc hl ht hc hok
  obtain ⟨w1, hw1⟩ : ∃ w1, w1 = ((w.alloc (.cells #[.string x.name, .slice Al x.labels.length dl, .slice Ac x.needs.length dc, .slice At x.tols.length dt, .string x.req, .slice Aa x.apart.length da, .slice Ap x.prefer.length dp, .int .i64 x.prio] 31)).alloc (.cells #[.string ⟨#[]⟩, .slice none 0 0, .slice none 0 0, .slice none 0 0, .string ⟨#[]⟩, .slice none 0 0, .slice none 0 0, .int .i64 0] 31)) := ⟨_, rfl⟩
  have z1 : w.heap.size + 2 ≤ w1.heap.size := by rw [hw1]; simp
  have HB1 := Lib.hid (show Below w.heap.size w w1 by
    rw [hw1]
    exact Below.alloc (Below.alloc (Below.refl _ _) (Nat.le_refl _) _) (by simp) _)
  have HS := Lib.hid (show ∀ W, Below w1.heap.size w1 W → W.cell? ⟨w.heap.size, 0, none⟩ = some (.string x.name) ∧ W.cell? ⟨w.heap.size, 1, none⟩ = some (.slice Al x.labels.length dl) ∧ W.cell? ⟨w.heap.size, 2, none⟩ = some (.slice Ac x.needs.length dc) ∧ W.cell? ⟨w.heap.size, 3, none⟩ = some (.slice At x.tols.length dt) ∧ W.cell? ⟨w.heap.size, 4, none⟩ = some (.string x.req) ∧ W.cell? ⟨w.heap.size, 5, none⟩ = some (.slice Aa x.apart.length da) ∧ W.cell? ⟨w.heap.size, 6, none⟩ = some (.slice Ap x.prefer.length dp) ∧ W.cell? ⟨w.heap.size, 7, none⟩ = some (.int .i64 x.prio) ∧ W.heap[w.heap.size]? = some (.cells #[.string x.name, .slice Al x.labels.length dl, .slice Ac x.needs.length dc, .slice At x.tols.length dt, .string x.req, .slice Aa x.apart.length da, .slice Ap x.prefer.length dp, .int .i64 x.prio] 31 (0, 0)) ∧ W.heap[w.heap.size + 1]? = some (.cells #[.string ⟨#[]⟩, .slice none 0 0, .slice none 0 0, .slice none 0 0, .string ⟨#[]⟩, .slice none 0 0, .slice none 0 0, .int .i64 0] 31 (0, 0)) by
    intro W g
    have k1 : w1.heap[w.heap.size]? = some (.cells #[.string x.name, .slice Al x.labels.length dl, .slice Ac x.needs.length dc, .slice At x.tols.length dt, .string x.req, .slice Aa x.apart.length da, .slice Ap x.prefer.length dp, .int .i64 x.prio] 31 (0, 0)) := by
      rw [hw1]
      exact hkeep (heap_alloc_new w _) _
    have k2 : w1.heap[w.heap.size + 1]? = some (.cells #[.string ⟨#[]⟩, .slice none 0 0, .slice none 0 0, .slice none 0 0, .string ⟨#[]⟩, .slice none 0 0, .slice none 0 0, .int .i64 0] 31 (0, 0)) := by
      rw [hw1]
      exact by simpa using heap_alloc_new (w.alloc _) _
    have l1 := (g.block w.heap.size (by omega)).trans k1
    have l2 := (g.block (w.heap.size + 1) (by omega)).trans k2
    exact ⟨cell_at l1 rfl, cell_at l1 rfl, cell_at l1 rfl, cell_at l1 rfl, cell_at l1 rfl, cell_at l1 rfl, cell_at l1 rfl, cell_at l1 rfl, l1, l2⟩)
  have HG := Lib.hid (hG.below HB1.out)
  clear hG
  go_enter Tryz.func12, Tryz.ntmps12
  go_upto_region 1 with fail
  rw [← hw1]
  clear hw1
  obtain ⟨c0, c1, c2, c3, c4, c5, c6, c7, o1, o2⟩ := HS.out w1 (Below.refl _ _)
  go_wp2_with fail
  refine name_k _ _ _ HG.out FN.out ?_
  intro w2 g2
  have G2 := Lib.hid g2
  clear g2 c0 c1 c2 c3 c4 c5 c6 c7 o1 o2
  obtain ⟨c0, c1, c2, c3, c4, c5, c6, c7, o1, o2⟩ := HS.out w2 G2.out
  obtain ⟨b, hb⟩ : ∃ b, nameB x.name = b := ⟨_, rfl⟩
  rw [hb]
  have HN := Lib.hid hb
  clear hb
  cases b with
  | false =>
    have HQ := Lib.hid (chkPod_1 HN.out)
    go_wp2_with fail
    refine refuse_k _ _ _ _ (by decide) ?_
    intro ve w3 gw3 hew3
    have Gw3 := Lib.hid (G2.out.trans (gw3.mono G2.out.size))
    have HEw3 := Lib.hid hew3
    clear gw3 hew3 c0 c1 c2 c3 c4 c5 c6 c7 o1 o2
    obtain ⟨c0, c1, c2, c3, c4, c5, c6, c7, o1, o2⟩ := HS.out w3 Gw3.out
    have p2 : (w3.setRow (w.heap.size + 1) #[.string ⟨#[]⟩, .slice none 0 0, .slice none 0 0, .slice none 0 0, .string ⟨#[]⟩, .slice none 0 0, .slice none 0 0, .int .i64 0]).heap[w.heap.size + 1]? = some (.cells #[.string ⟨#[]⟩, .slice none 0 0, .slice none 0 0, .slice none 0 0, .string ⟨#[]⟩, .slice none 0 0, .slice none 0 0, .int .i64 0] 31 (0, 0)) := setRow_heap _ _ _ _ _ _ o2
    have hv : R (.returned (.tuple #[.agg #[.string ⟨#[]⟩, .slice none 0 0, .slice none 0 0, .slice none 0 0, .string ⟨#[]⟩, .slice none 0 0, .slice none 0 0, .int .i64 0], ve])) (w3.setRow (w.heap.size + 1) #[.string ⟨#[]⟩, .slice none 0 0, .slice none 0 0, .slice none 0 0, .string ⟨#[]⟩, .slice none 0 0, .slice none 0 0, .int .i64 0]) := HR.out [.string ⟨#[]⟩, .slice none 0 0, .slice none 0 0, .slice none 0 0, .string ⟨#[]⟩, .slice none 0 0, .slice none 0 0, .int .i64 0] ve (w3.setRow (w.heap.size + 1) #[.string ⟨#[]⟩, .slice none 0 0, .slice none 0 0, .slice none 0 0, .string ⟨#[]⟩, .slice none 0 0, .slice none 0 0, .int .i64 0]) (below_setRow (HB1.out.trans ((Gw3.out).mono HB1.out.size)) (by omega) _) (by rw [HQ.out]; exact ⟨_, _, _, _, _, rfl, SlR.nil, SlR.nil, SlR.nil, SlR.nil, SlR.nil⟩) (by rw [HQ.out]; exact HEw3.out.row o2 (by decide) _)
    go_wp2_with (refine wpList_store_row rfl 31 _ _ rfl (w.heap.size + 1) #[.string ⟨#[]⟩, .slice none 0 0, .slice none 0 0, .slice none 0 0, .string ⟨#[]⟩, .slice none 0 0, .slice none 0 0, .int .i64 0] rfl rfl 31 #[.string ⟨#[]⟩, .slice none 0 0, .slice none 0 0, .slice none 0 0, .string ⟨#[]⟩, .slice none 0 0, .slice none 0 0, .int .i64 0] o2 (by kernel_rfl) (by simp) (by simp [Value.oneCell']) ?_)
    exact bodyPost_ret (results_row_tmp Tryz.results12 _ _ (w.heap.size + 1) 31 #[.string ⟨#[]⟩, .slice none 0 0, .slice none 0 0, .slice none 0 0, .string ⟨#[]⟩, .slice none 0 0, .slice none 0 0, .int .i64 0] (0, 0) _ rfl p2 Tryz.underlying31 rfl (by kernel_rfl)) rfl hv
  | true =>
    obtain ⟨m1, s1, e1, hm⟩ : ∃ m s e, labMake x.labels = (m, s, e) := ⟨_, _, _, rfl⟩
    have HM1 := Lib.hid hm
    have hbw := HB1.out.trans (G2.out.mono HB1.out.size)
    have HBW1 := Lib.hid hbw
    clear hbw
    go_wp2_with fail
    refine lmake_k _ _ ok _ x.labels (HG.out.below G2.out) (fun k hk => Nat.lt_of_lt_of_le (HOK.out k hk) HBW1.out.size) (HL.out.below labOk HBW1.out HOK.out) FL.out.1 FL.out.2 ?_
    intro v1 w4 gw4 hv1
    rw [hm] at hv1 ⊢
    dsimp only at hv1
    have G4 := Lib.hid (G2.out.trans (gw4.mono G2.out.size))
    obtain ⟨A1, d1, ev1, _, _⟩ := hv1.form
    subst ev1
    have HV1 := Lib.hid (hv1.bnd labOk)
    clear hv1
    have GG1 := Lib.hid gw4
    clear gw4 hm c0 c1 c2 c3 c4 c5 c6 c7 o1 o2
    obtain ⟨c0, c1, c2, c3, c4, c5, c6, c7, o1, o2⟩ := HS.out w4 G4.out
    by_cases he : ¬ e1 = 0
    · have HQ := Lib.hid (chkPod_2 HN.out HM1.out he)
      go_wp2_with fail
      refine refuse_k _ _ _ _ (he) ?_
      intro ve w5 gw5 hew5
      have Gw5 := Lib.hid (G4.out.trans (gw5.mono G4.out.size))
      have HEw5 := Lib.hid hew5
      clear gw5 hew5 c0 c1 c2 c3 c4 c5 c6 c7 o1 o2
      obtain ⟨c0, c1, c2, c3, c4, c5, c6, c7, o1, o2⟩ := HS.out w5 Gw5.out
      have p2 : (w5.setRow (w.heap.size + 1) #[.string ⟨#[]⟩, .slice none 0 0, .slice none 0 0, .slice none 0 0, .string ⟨#[]⟩, .slice none 0 0, .slice none 0 0, .int .i64 0]).heap[w.heap.size + 1]? = some (.cells #[.string ⟨#[]⟩, .slice none 0 0, .slice none 0 0, .slice none 0 0, .string ⟨#[]⟩, .slice none 0 0, .slice none 0 0, .int .i64 0] 31 (0, 0)) := setRow_heap _ _ _ _ _ _ o2
      have hv : R (.returned (.tuple #[.agg #[.string ⟨#[]⟩, .slice none 0 0, .slice none 0 0, .slice none 0 0, .string ⟨#[]⟩, .slice none 0 0, .slice none 0 0, .int .i64 0], ve])) (w5.setRow (w.heap.size + 1) #[.string ⟨#[]⟩, .slice none 0 0, .slice none 0 0, .slice none 0 0, .string ⟨#[]⟩, .slice none 0 0, .slice none 0 0, .int .i64 0]) := HR.out [.string ⟨#[]⟩, .slice none 0 0, .slice none 0 0, .slice none 0 0, .string ⟨#[]⟩, .slice none 0 0, .slice none 0 0, .int .i64 0] ve (w5.setRow (w.heap.size + 1) #[.string ⟨#[]⟩, .slice none 0 0, .slice none 0 0, .slice none 0 0, .string ⟨#[]⟩, .slice none 0 0, .slice none 0 0, .int .i64 0]) (below_setRow (HB1.out.trans ((Gw5.out).mono HB1.out.size)) (by omega) _) (by rw [HQ.out]; exact ⟨_, _, _, _, _, rfl, SlR.nil, SlR.nil, SlR.nil, SlR.nil, SlR.nil⟩) (by rw [HQ.out]; exact HEw5.out.row o2 (by decide) _)
      go_wp2_with (refine wpList_store_row rfl 31 _ _ rfl (w.heap.size + 1) #[.string ⟨#[]⟩, .slice none 0 0, .slice none 0 0, .slice none 0 0, .string ⟨#[]⟩, .slice none 0 0, .slice none 0 0, .int .i64 0] rfl rfl 31 #[.string ⟨#[]⟩, .slice none 0 0, .slice none 0 0, .slice none 0 0, .string ⟨#[]⟩, .slice none 0 0, .slice none 0 0, .int .i64 0] o2 (by kernel_rfl) (by simp) (by simp [Value.oneCell']) ?_)
      exact bodyPost_ret (results_row_tmp Tryz.results12 _ _ (w.heap.size + 1) 31 #[.string ⟨#[]⟩, .slice none 0 0, .slice none 0 0, .slice none 0 0, .string ⟨#[]⟩, .slice none 0 0, .slice none 0 0, .int .i64 0] (0, 0) _ rfl p2 Tryz.underlying31 rfl (by kernel_rfl)) rfl hv
    · have he := Decidable.not_not.1 he
      subst he
      obtain ⟨m2, s2, e2, hm⟩ : ∃ m s e, itmMake x.needs = (m, s, e) := ⟨_, _, _, rfl⟩
      have HM2 := Lib.hid hm
      have hbw := HB1.out.trans (G4.out.mono HB1.out.size)
      have HBW2 := Lib.hid hbw
      clear hbw
      go_wp2_with fail
      refine qmake_k _ _ ok _ x.needs (fun k hk => Nat.lt_of_lt_of_le (HOK.out k hk) HBW2.out.size) (HC.out.below itmOk HBW2.out HOK.out) (fun s hs => (FC.out.1 s hs).1) (fun s hs => (FC.out.1 s hs).2) FC.out.2 ?_
      intro v2 w6 gw6 hv2
      rw [hm] at hv2 ⊢
      dsimp only at hv2
      have G6 := Lib.hid (G4.out.trans (gw6.mono G4.out.size))
      obtain ⟨A2, d2, ev2, _, _⟩ := hv2.form
      subst ev2
      have HV2 := Lib.hid (hv2.bnd itmOk)
      clear hv2
      have GG2 := Lib.hid gw6
      clear gw6 hm c0 c1 c2 c3 c4 c5 c6 c7 o1 o2
      obtain ⟨c0, c1, c2, c3, c4, c5, c6, c7, o1, o2⟩ := HS.out w6 G6.out
      by_cases he : ¬ e2 = 0
      · have HQ := Lib.hid (chkPod_3 HN.out HM1.out HM2.out he)
        go_wp2_with fail
        refine refuse_k _ _ _ _ (he) ?_
        intro ve w7 gw7 hew7
        have Gw7 := Lib.hid (G6.out.trans (gw7.mono G6.out.size))
        have HEw7 := Lib.hid hew7
        clear gw7 hew7 c0 c1 c2 c3 c4 c5 c6 c7 o1 o2
        obtain ⟨c0, c1, c2, c3, c4, c5, c6, c7, o1, o2⟩ := HS.out w7 Gw7.out
        have p2 : (w7.setRow (w.heap.size + 1) #[.string ⟨#[]⟩, .slice none 0 0, .slice none 0 0, .slice none 0 0, .string ⟨#[]⟩, .slice none 0 0, .slice none 0 0, .int .i64 0]).heap[w.heap.size + 1]? = some (.cells #[.string ⟨#[]⟩, .slice none 0 0, .slice none 0 0, .slice none 0 0, .string ⟨#[]⟩, .slice none 0 0, .slice none 0 0, .int .i64 0] 31 (0, 0)) := setRow_heap _ _ _ _ _ _ o2
        have hv : R (.returned (.tuple #[.agg #[.string ⟨#[]⟩, .slice none 0 0, .slice none 0 0, .slice none 0 0, .string ⟨#[]⟩, .slice none 0 0, .slice none 0 0, .int .i64 0], ve])) (w7.setRow (w.heap.size + 1) #[.string ⟨#[]⟩, .slice none 0 0, .slice none 0 0, .slice none 0 0, .string ⟨#[]⟩, .slice none 0 0, .slice none 0 0, .int .i64 0]) := HR.out [.string ⟨#[]⟩, .slice none 0 0, .slice none 0 0, .slice none 0 0, .string ⟨#[]⟩, .slice none 0 0, .slice none 0 0, .int .i64 0] ve (w7.setRow (w.heap.size + 1) #[.string ⟨#[]⟩, .slice none 0 0, .slice none 0 0, .slice none 0 0, .string ⟨#[]⟩, .slice none 0 0, .slice none 0 0, .int .i64 0]) (below_setRow (HB1.out.trans ((Gw7.out).mono HB1.out.size)) (by omega) _) (by rw [HQ.out]; exact ⟨_, _, _, _, _, rfl, SlR.nil, SlR.nil, SlR.nil, SlR.nil, SlR.nil⟩) (by rw [HQ.out]; exact HEw7.out.row o2 (by decide) _)
        go_wp2_with (refine wpList_store_row rfl 31 _ _ rfl (w.heap.size + 1) #[.string ⟨#[]⟩, .slice none 0 0, .slice none 0 0, .slice none 0 0, .string ⟨#[]⟩, .slice none 0 0, .slice none 0 0, .int .i64 0] rfl rfl 31 #[.string ⟨#[]⟩, .slice none 0 0, .slice none 0 0, .slice none 0 0, .string ⟨#[]⟩, .slice none 0 0, .slice none 0 0, .int .i64 0] o2 (by kernel_rfl) (by simp) (by simp [Value.oneCell']) ?_)
        exact bodyPost_ret (results_row_tmp Tryz.results12 _ _ (w.heap.size + 1) 31 #[.string ⟨#[]⟩, .slice none 0 0, .slice none 0 0, .slice none 0 0, .string ⟨#[]⟩, .slice none 0 0, .slice none 0 0, .int .i64 0] (0, 0) _ rfl p2 Tryz.underlying31 rfl (by kernel_rfl)) rfl hv
      · have he := Decidable.not_not.1 he
        subst he
        obtain ⟨s3, e3, hm⟩ : ∃ s e, tolsChk x.tols = (s, e) := ⟨_, _, rfl⟩
        have HM3 := Lib.hid hm
        have hbw := HB1.out.trans (G6.out.mono HB1.out.size)
        have HBW3 := Lib.hid hbw
        clear hbw
        go_wp2_with fail
        refine ctols_k _ _ ok _ x.tols (HG.out.below G6.out) (fun k hk => Nat.lt_of_lt_of_le (HOK.out k hk) HBW3.out.size) (HT.out.below tolOk HBW3.out HOK.out) FT.out.1 FT.out.2 ?_
        intro w8 gw8
        rw [hm]
        have G8 := Lib.hid (G6.out.trans (gw8.mono G6.out.size))
        have GG3 := Lib.hid gw8
        clear gw8 hm c0 c1 c2 c3 c4 c5 c6 c7 o1 o2
        obtain ⟨c0, c1, c2, c3, c4, c5, c6, c7, o1, o2⟩ := HS.out w8 G8.out
        by_cases he : ¬ e3 = 0
        · have HQ := Lib.hid (chkPod_4 HN.out HM1.out HM2.out HM3.out he)
          have o2 := hkeep o2 (.cells #[.int .i64 e3, .int .i64 s3, .string ⟨#[]⟩, .nilIface] 139)
          have HX := Lib.hid (heap_alloc_new w8 (.cells #[.int .i64 e3, .int .i64 s3, .string ⟨#[]⟩, .nilIface] 139))
          have p2 : ((w8.alloc (.cells #[.int .i64 e3, .int .i64 s3, .string ⟨#[]⟩, .nilIface] 139)).setRow (w.heap.size + 1) #[.string ⟨#[]⟩, .slice none 0 0, .slice none 0 0, .slice none 0 0, .string ⟨#[]⟩, .slice none 0 0, .slice none 0 0, .int .i64 0]).heap[w.heap.size + 1]? = some (.cells #[.string ⟨#[]⟩, .slice none 0 0, .slice none 0 0, .slice none 0 0, .string ⟨#[]⟩, .slice none 0 0, .slice none 0 0, .int .i64 0] 31 (0, 0)) := setRow_heap _ _ _ _ _ _ o2
          have hv : R (.returned (.tuple #[.agg #[.string ⟨#[]⟩, .slice none 0 0, .slice none 0 0, .slice none 0 0, .string ⟨#[]⟩, .slice none 0 0, .slice none 0 0, .int .i64 0], (.iface 137 (.pointer (some ⟨w8.heap.size, 0, none⟩)))])) ((w8.alloc (.cells #[.int .i64 e3, .int .i64 s3, .string ⟨#[]⟩, .nilIface] 139)).setRow (w.heap.size + 1) #[.string ⟨#[]⟩, .slice none 0 0, .slice none 0 0, .slice none 0 0, .string ⟨#[]⟩, .slice none 0 0, .slice none 0 0, .int .i64 0]) := HR.out [.string ⟨#[]⟩, .slice none 0 0, .slice none 0 0, .slice none 0 0, .string ⟨#[]⟩, .slice none 0 0, .slice none 0 0, .int .i64 0] (.iface 137 (.pointer (some ⟨w8.heap.size, 0, none⟩))) ((w8.alloc (.cells #[.int .i64 e3, .int .i64 s3, .string ⟨#[]⟩, .nilIface] 139)).setRow (w.heap.size + 1) #[.string ⟨#[]⟩, .slice none 0 0, .slice none 0 0, .slice none 0 0, .string ⟨#[]⟩, .slice none 0 0, .slice none 0 0, .int .i64 0]) (below_setRow (HB1.out.trans ((G8.out.alloc G8.out.size _).mono HB1.out.size)) (by omega) _) (by rw [HQ.out]; exact ⟨_, _, _, _, _, rfl, SlR.nil, SlR.nil, SlR.nil, SlR.nil, SlR.nil⟩) (by rw [HQ.out]; exact ErrIs.row (.inr ⟨he, w8.heap.size, rfl, HX.out⟩) o2 (by decide) _)
          go_wp2_with (refine wpList_store_row rfl 31 _ _ rfl (w.heap.size + 1) #[.string ⟨#[]⟩, .slice none 0 0, .slice none 0 0, .slice none 0 0, .string ⟨#[]⟩, .slice none 0 0, .slice none 0 0, .int .i64 0] rfl rfl 31 #[.string ⟨#[]⟩, .slice none 0 0, .slice none 0 0, .slice none 0 0, .string ⟨#[]⟩, .slice none 0 0, .slice none 0 0, .int .i64 0] o2 (by kernel_rfl) (by simp) (by simp [Value.oneCell']) ?_)
          exact bodyPost_ret (results_row_tmp Tryz.results12 _ _ (w.heap.size + 1) 31 #[.string ⟨#[]⟩, .slice none 0 0, .slice none 0 0, .slice none 0 0, .string ⟨#[]⟩, .slice none 0 0, .slice none 0 0, .int .i64 0] (0, 0) _ rfl p2 Tryz.underlying31 rfl (by kernel_rfl)) rfl hv
        · have he := Decidable.not_not.1 he
          subst he
          have HQ := Lib.hid (chkPod_5 HN.out HM1.out HM2.out HM3.out)
          have STEP1 := Lib.hid (GG2.out.trans (GG3.out.mono GG2.out.size))
          have STEP2 := Lib.hid GG3.out
          have HBW := Lib.hid (HB1.out.trans (G8.out.mono HB1.out.size))
          have zW : w.heap.size + 2 ≤ w8.heap.size := Nat.le_trans z1 G8.out.size
          go_wp2_with (refine wpList_load_row rfl 31 _ rfl w.heap.size rfl 31 #[.string x.name, .slice Al x.labels.length dl, .slice Ac x.needs.length dc, .slice At x.tols.length dt, .string x.req, .slice Aa x.apart.length da, .slice Ap x.prefer.length dp, .int .i64 x.prio] (0, 0) _ o1 Tryz.underlying31 rfl (by kernel_rfl) ?_)
          refine ownPodR_k _ _ ok x [.string x.name, .slice Al x.labels.length dl, .slice Ac x.needs.length dc, .slice At x.tols.length dt, .string x.req, .slice Aa x.apart.length da, .slice Ap x.prefer.length dp, .int .i64 x.prio] (fun k hk => Nat.lt_of_lt_of_le (HOK.out k hk) HBW.out.size) ⟨_, _, _, _, _, rfl, HL.out.below labOk HBW.out HOK.out, HC.out.below itmOk HBW.out HOK.out, HT.out.below tolOk HBW.out HOK.out, HA.out.below aptOk HBW.out HOK.out, HP.out.below prfOk HBW.out HOK.out⟩ ⟨FL.out.2, FC.out.2, FT.out.2, FA.out, FP.out⟩ ?_
          intro cs' wp gp hk'
          obtain ⟨vl, vn, vt, va, vp, rfl, ul, un, ut, ua, up⟩ := hk'
          obtain ⟨U1, e1, rfl, _, _⟩ := ul.form
          obtain ⟨U2, e2, rfl, _, _⟩ := un.form
          obtain ⟨U3, e3, rfl, _, _⟩ := ut.form
          obtain ⟨U4, e4, rfl, _, _⟩ := ua.form
          obtain ⟨U5, e5, rfl, _, _⟩ := up.form
          have GP := Lib.hid gp
          have UT := Lib.hid (ut.bnd tolOk)
          have UA := Lib.hid (ua.bnd aptOk)
          have UP := Lib.hid (up.bnd prfOk)
          have o1 := (gp.block w.heap.size (by omega)).trans o1
          have o2 := (gp.block (w.heap.size + 1) (by omega)).trans o2
          clear gp ul un ut ua up c0 c1 c2 c3 c4 c5 c6 c7
          obtain ⟨wb, hwb⟩ : ∃ wb, wb = wp.setRow w.heap.size #[.string x.name, .slice U1 x.labels.length e1, .slice U2 x.needs.length e2, .slice U3 x.tols.length e3, .string x.req, .slice U4 x.apart.length e4, .slice U5 x.prefer.length e5, .int .i64 x.prio] := ⟨_, rfl⟩
          have ob : wb.heap[w.heap.size]? = some (.cells #[.string x.name, .slice U1 x.labels.length e1, .slice U2 x.needs.length e2, .slice U3 x.tols.length e3, .string x.req, .slice U4 x.apart.length e4, .slice U5 x.prefer.length e5, .int .i64 x.prio] 31 (0, 0)) := by rw [hwb]; exact setRow_heap _ _ _ _ _ _ o1
          have M1 := Lib.hid (show wb.heap.size = wp.heap.size ∧ Below w.heap.size wp wb by rw [hwb]; exact ⟨by simp, below_setRow (Below.refl _ _) (Nat.le_refl _) _⟩)
          have HOB := Lib.hid (show ∀ k, k ≠ w.heap.size → wb.heap[k]? = wp.heap[k]? from fun k hk => by rw [hwb]; exact setRow_other _ _ _ _ hk)
          go_upto_region 13 with (refine wpList_store_row rfl 31 _ _ rfl w.heap.size #[.string x.name, .slice U1 x.labels.length e1, .slice U2 x.needs.length e2, .slice U3 x.tols.length e3, .string x.req, .slice U4 x.apart.length e4, .slice U5 x.prefer.length e5, .int .i64 x.prio] rfl rfl 31 #[.string x.name, .slice Al x.labels.length dl, .slice Ac x.needs.length dc, .slice At x.tols.length dt, .string x.req, .slice Aa x.apart.length da, .slice Ap x.prefer.length dp, .int .i64 x.prio] o1 (by kernel_rfl) (by simp) (by simp [Value.oneCell']) ?_)
          rw [← hwb]
          clear hwb
          have k1 : wb.cell? ⟨w.heap.size, 1, none⟩ = some (.slice U1 x.labels.length e1) := cell_at ob rfl
          have f1 : wb.frozen? ⟨w.heap.size, 1, none⟩ = false := frozen_at ob
          obtain ⟨wd, hwd⟩ : ∃ wd, wd = wb.setCell ⟨w.heap.size, 1, none⟩ (.slice A1 m1.length d1) := ⟨_, rfl⟩
          have od : wd.heap[w.heap.size]? = some (.cells #[.string x.name, .slice A1 m1.length d1, .slice U2 x.needs.length e2, .slice U3 x.tols.length e3, .string x.req, .slice U4 x.apart.length e4, .slice U5 x.prefer.length e5, .int .i64 x.prio] 31 (0, 0)) := by rw [hwd]; exact (heap_setCell_at ob).trans rfl
          have k2 : (wb.setCell ⟨w.heap.size, 1, none⟩ (.slice A1 m1.length d1)).cell? ⟨w.heap.size, 2, none⟩ = some (.slice U2 x.needs.length e2) := by rw [← hwd]; exact cell_at od rfl
          have f2 : (wb.setCell ⟨w.heap.size, 1, none⟩ (.slice A1 m1.length d1)).frozen? ⟨w.heap.size, 2, none⟩ = false := by rw [← hwd]; exact frozen_at od
          obtain ⟨we, hwe⟩ : ∃ we, we = wd.setCell ⟨w.heap.size, 2, none⟩ (.slice A2 m2.length d2) := ⟨_, rfl⟩
          have oe : we.heap[w.heap.size]? = some (.cells #[.string x.name, .slice A1 m1.length d1, .slice A2 m2.length d2, .slice U3 x.tols.length e3, .string x.req, .slice U4 x.apart.length e4, .slice U5 x.prefer.length e5, .int .i64 x.prio] 31 (0, 0)) := by rw [hwe]; exact (heap_setCell_at od).trans rfl
          have HOE := Lib.hid (show (∀ k, k ≠ w.heap.size → we.heap[k]? = wp.heap[k]?) ∧ Below w.heap.size wp we by
            rw [hwe, hwd]
            exact ⟨fun k hk => (Below.heap_setCell _ _ _ _ hk).trans ((Below.heap_setCell _ _ _ _ hk).trans (HOB.out k hk)), Below.setCell (Below.setCell M1.out.2 (Nat.le_refl _) _) (Nat.le_refl _) _⟩)
          have o2' := (HOE.out.1 (w.heap.size + 1) (by omega)).trans o2
          go_upto_region 14 with fail
          rw [← hwd, ← hwe]
          clear hwd hwe k1 f1 k2 f2 ob od o1 o2
          have p2 : (we.setRow (w.heap.size + 1) #[.string x.name, .slice A1 m1.length d1, .slice A2 m2.length d2, .slice U3 x.tols.length e3, .string x.req, .slice U4 x.apart.length e4, .slice U5 x.prefer.length e5, .int .i64 x.prio]).heap[w.heap.size + 1]? = some (.cells #[.string x.name, .slice A1 m1.length d1, .slice A2 m2.length d2, .slice U3 x.tols.length e3, .string x.req, .slice U4 x.apart.length e4, .slice U5 x.prefer.length e5, .int .i64 x.prio] 31 (0, 0)) := setRow_heap _ _ _ _ _ _ o2'
          have hb : Below w.heap.size w we := (HBW.out.trans (GP.out.mono HBW.out.size)).trans HOE.out.2
          have hv : R (.returned (.tuple #[.agg #[.string x.name, .slice A1 m1.length d1, .slice A2 m2.length d2, .slice U3 x.tols.length e3, .string x.req, .slice U4 x.apart.length e4, .slice U5 x.prefer.length e5, .int .i64 x.prio], .nilIface])) (we.setRow (w.heap.size + 1) #[.string x.name, .slice A1 m1.length d1, .slice A2 m2.length d2, .slice U3 x.tols.length e3, .string x.req, .slice U4 x.apart.length e4, .slice U5 x.prefer.length e5, .int .i64 x.prio]) := HR.out [.string x.name, .slice A1 m1.length d1, .slice A2 m2.length d2, .slice U3 x.tols.length e3, .string x.req, .slice U4 x.apart.length e4, .slice U5 x.prefer.length e5, .int .i64 x.prio] .nilIface (we.setRow (w.heap.size + 1) #[.string x.name, .slice A1 m1.length d1, .slice A2 m2.length d2, .slice U3 x.tols.length e3, .string x.req, .slice U4 x.apart.length e4, .slice U5 x.prefer.length e5, .int .i64 x.prio]) (below_setRow hb (by omega) _) (by rw [HQ.out]; exact ⟨_, _, _, _, _, rfl, ((HV1.out.move labOk (fun k hk => (setRow_other _ _ _ _ (by have := hk.1; have := (G2.out).size; omega)).trans ((HOE.out.1 k (by have := hk.1; have := (G2.out).size; omega)).trans (((STEP1.out).trans (GP.out.mono (STEP1.out).size)).block k hk.2)))).mono labOk (fun k hk => Nat.le_trans (HB1.out.trans ((G2.out).mono HB1.out.size)).size hk.1)), ((HV2.out.move itmOk (fun k hk => (setRow_other _ _ _ _ (by have := hk.1; have := (G4.out).size; omega)).trans ((HOE.out.1 k (by have := hk.1; have := (G4.out).size; omega)).trans (((STEP2.out).trans (GP.out.mono (STEP2.out).size)).block k hk.2)))).mono itmOk (fun k hk => Nat.le_trans (HB1.out.trans ((G4.out).mono HB1.out.size)).size hk.1)), ((UT.out.move tolOk (fun k hk => (setRow_other _ _ _ _ (by have := hk.1; omega)).trans ((HOE.out.1 k (by have := hk.1; omega)).trans rfl))).mono tolOk (fun k hk => Nat.le_trans HBW.out.size hk.1)), ((UA.out.move aptOk (fun k hk => (setRow_other _ _ _ _ (by have := hk.1; omega)).trans ((HOE.out.1 k (by have := hk.1; omega)).trans rfl))).mono aptOk (fun k hk => Nat.le_trans HBW.out.size hk.1)), ((UP.out.move prfOk (fun k hk => (setRow_other _ _ _ _ (by have := hk.1; omega)).trans ((HOE.out.1 k (by have := hk.1; omega)).trans rfl))).mono prfOk (fun k hk => Nat.le_trans HBW.out.size hk.1))⟩) (by rw [HQ.out]; exact .inl ⟨rfl, rfl⟩)
          clear hb
          go_wp2_with (first | (refine wpList_load_row rfl 31 _ rfl w.heap.size rfl 31 #[.string x.name, .slice A1 m1.length d1, .slice A2 m2.length d2, .slice U3 x.tols.length e3, .string x.req, .slice U4 x.apart.length e4, .slice U5 x.prefer.length e5, .int .i64 x.prio] (0, 0) _ oe Tryz.underlying31 rfl (by kernel_rfl) ?_) | (refine wpList_store_row rfl 31 _ _ rfl (w.heap.size + 1) #[.string x.name, .slice A1 m1.length d1, .slice A2 m2.length d2, .slice U3 x.tols.length e3, .string x.req, .slice U4 x.apart.length e4, .slice U5 x.prefer.length e5, .int .i64 x.prio] rfl rfl 31 #[.string ⟨#[]⟩, .slice none 0 0, .slice none 0 0, .slice none 0 0, .string ⟨#[]⟩, .slice none 0 0, .slice none 0 0, .int .i64 0] o2' (by kernel_rfl) (by simp) (by simp [Value.oneCell']) ?_))
          exact bodyPost_ret (results_row_tmp Tryz.results12 _ _ (w.heap.size + 1) 31 #[.string x.name, .slice A1 m1.length d1, .slice A2 m2.length d2, .slice U3 x.tols.length e3, .string x.req, .slice U4 x.apart.length e4, .slice U5 x.prefer.length e5, .int .i64 x.prio] (0, 0) _ rfl p2 Tryz.underlying31 rfl (by kernel_rfl)) rfl hv
theorem checkPod_k (R : Ending → World → Prop) (w : World) (ok : Nat → Prop) (x : Pd) (cs : List Value) (hG : GOk w) (hok : ∀ k, ok k → k < w.heap.size) (hx : pdK w ok x cs) (fit : PdFit x)
    (hR : ∀ cs' v w', Below w.heap.size w w' → pdK w' (fun k => w.heap.size ≤ k) (chkPod x).1 cs' → ErrIs w' v (chkPod x).2 → R (.returned (.tuple #[.agg cs'.toArray, v])) w') :
    Calls Tryz.prog 12 #[.agg cs.toArray] w R := checkPodR_k R w ok x cs hG hok hx fit (fun cs' v w' g h => hR cs' v w' g h.k)
end Go.Proofs.YtdceflgemhcgcaaGreatDoor
