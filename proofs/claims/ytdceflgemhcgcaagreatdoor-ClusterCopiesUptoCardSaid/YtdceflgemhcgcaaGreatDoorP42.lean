/-
  berthlaw06.ClusterCopies, walked: whatever node and pod are handed in, it returns true; it writes nothing that lay there.
-/
import Derived.Test.YtdceflgemhcgcaaGreatDoorP41
import Derived.Test.YtdceflgemhcgcaaGreatDoorP25
import Derived.Test.YtdceflgemhcgcaaGreatDoorP23
set_option linter.unusedVariables false
set_option linter.unusedSimpArgs false
namespace Go.Proofs.YtdceflgemhcgcaaGreatDoor
open Go.RowKit Go.BigFrame

theorem rng_parts {W : World} {b : Nat} {pre l post : List Value} {T : TypeId} {fr : Nat × Nat} (h : W.heap[b]? = some (.cells (pre ++ (l ++ post)).toArray T fr)) : W.rangeAt b pre.length l := fun j u hu => cell_at h (by
  rw [List.getElem?_toArray, List.getElem?_append_right (by omega), Nat.add_sub_cancel_left, List.getElem?_append_left (List.getElem?_eq_some_iff.1 hu).1]
  exact hu)
/-- The blocks from a on, below b. -/
def Rg (a b : Nat) : Nat → Prop := fun k => a ≤ k ∧ k < b
theorem Mod.sub {S T : Nat → Prop} {a b c : World} (h : Mod S a b) (k : Mod T b c) : Mod (fun j => S j ∨ T j) a c := (h.mono (T := fun j => S j ∨ T j) (fun _ _ h => .inl h)).trans (k.mono (T := fun j => S j ∨ T j) (fun _ _ h => .inr h)) (fun _ _ h => h)
set_option maxRecDepth 100000 in
set_option maxHeartbeats 16000000 in
theorem clusterCopies_k (R : Ending → World → Prop) (w : World) (ok : Nat → Prop) (x : Nod) (csn : List Value) (p : Pd) (csp : List Value) (hG : GOk w) (hok : ∀ k, ok k → k < w.heap.size) (hx : nodK w ok x csn) (hp : pdK w ok p csp) (fx : NodFit x) (fp : PdFit p)
    (hR : ∀ w', Below w.heap.size w w' → R (.returned (.bool true)) w') :
    Calls Tryz.prog 3 #[.agg csn.toArray, .agg csp.toArray] w R := by
  have HX := Lib.hid hx
  have HP := Lib.hid hp
  obtain ⟨vl, vt, vc, rfl, hl, ht, hc⟩ := hx
  obtain ⟨ul, un, ut, ua, up, rfl, gl, gn, gt, ga, gp⟩ := hp
  obtain ⟨A0, d0, rfl, _, _⟩ := hl.form
  obtain ⟨A1, d1, rfl, _, _⟩ := ht.form
  obtain ⟨A2, d2, rfl, _, _⟩ := hc.form
  obtain ⟨A4, d4, rfl, _, _⟩ := gl.form
  obtain ⟨A5, d5, rfl, _, _⟩ := gn.form
  obtain ⟨A6, d6, rfl, _, _⟩ := gt.form
  obtain ⟨A7, d7, rfl, _, _⟩ := ga.form
  obtain ⟨A8, d8, rfl, _, _⟩ := gp.form
  have HR := Lib.hid hR
  have HOK := Lib.hid hok
  have FX := Lib.hid fx
  have FP := Lib.hid fp
  obtain ⟨w1, hw1⟩ : ∃ w1, w1 = (w.alloc (.cells #[.string x.name, .slice A0 x.labels.length d0, .slice A1 x.taints.length d1, .slice A2 x.cap.length d2, .bool x.cord] 26)).alloc (.cells #[.string p.name, .slice A4 p.labels.length d4, .slice A5 p.needs.length d5, .slice A6 p.tols.length d6, .string p.req, .slice A7 p.apart.length d7, .slice A8 p.prefer.length d8, .int .i64 p.prio] 31) := ⟨_, rfl⟩
  have HB1 := Lib.hid (show Below w.heap.size w w1 by
    rw [hw1]
    exact Below.alloc (Below.alloc (Below.refl _ _) (Nat.le_refl _) _) (by simp) _)
  have z1 : w.heap.size + 2 ≤ w1.heap.size := by rw [hw1]; simp
  have Hno := Lib.hid (show w1.heap[w.heap.size]? = some (.cells #[.string x.name, .slice A0 x.labels.length d0, .slice A1 x.taints.length d1, .slice A2 x.cap.length d2, .bool x.cord] 26 (0, 0)) by rw [hw1]; exact hkeep (heap_alloc_new w _) _)
  have Hpo := Lib.hid (show w1.heap[w.heap.size + 1]? = some (.cells #[.string p.name, .slice A4 p.labels.length d4, .slice A5 p.needs.length d5, .slice A6 p.tols.length d6, .string p.req, .slice A7 p.apart.length d7, .slice A8 p.prefer.length d8, .int .i64 p.prio] 31 (0, 0)) by rw [hw1]; simpa using heap_alloc_new (w.alloc _) _)
  have HG1 := Lib.hid (hG.below HB1.out)
  clear hR hok fx fp hG hl ht hc gl gn gt ga gp
  go_enter Tryz.func3, Tryz.ntmps3
  go_upto_region 1 with fail
  rw [← hw1]
  clear hw1
  go_wp2_with fail
  refine wakes6_k _ _ HG1.out ?_
  intro w2 g2
  have G2 := Lib.hid g2
  have y2 : w1.heap.size ≤ w2.heap.size := g2.size
  clear g2
  obtain ⟨mn, fn, hmn⟩ : ∃ m f, chkNode x = (m, f) := ⟨_, _, rfl⟩
  have HMmn := Lib.hid hmn
  obtain ⟨mp, fpp, hmp⟩ : ∃ m f, chkPod p = (m, f) := ⟨_, _, rfl⟩
  have HMmp := Lib.hid hmp
  clear hmn hmp
  have bn := (G2.out.block w.heap.size (by omega)).trans Hno.out
  have bp := (G2.out.block (w.heap.size + 1) (by omega)).trans Hpo.out
  have HB2 := Lib.hid (HB1.out.trans (G2.out.mono HB1.out.size))
  go_wp2_with (first | (refine wpList_load_row rfl 26 _ rfl w.heap.size rfl 26 #[.string x.name, .slice A0 x.labels.length d0, .slice A1 x.taints.length d1, .slice A2 x.cap.length d2, .bool x.cord] (0, 0) _ bn Tryz.underlying26 rfl (by kernel_rfl) ?_) | (refine wpList_load_row rfl 31 _ rfl (w.heap.size + 1) rfl 31 #[.string p.name, .slice A4 p.labels.length d4, .slice A5 p.needs.length d5, .slice A6 p.tols.length d6, .string p.req, .slice A7 p.apart.length d7, .slice A8 p.prefer.length d8, .int .i64 p.prio] (0, 0) _ bp Tryz.underlying31 rfl (by kernel_rfl) ?_))
  refine roomyAct_k _ _ ok ⟨0, ⟨#[]⟩, ⟨#[]⟩, ⟨#[]⟩, false, x, ⟨⟨#[]⟩, ⟨#[]⟩, ⟨#[]⟩⟩, [], p⟩ [.int .i64 0, .string ⟨#[]⟩, .string ⟨#[]⟩, .string ⟨#[]⟩, .bool false, .string x.name, .slice A0 x.labels.length d0, .slice A1 x.taints.length d1, .slice A2 x.cap.length d2, .bool x.cord, .string ⟨#[]⟩, .string ⟨#[]⟩, .string ⟨#[]⟩, .slice none 0 0, .string p.name, .slice A4 p.labels.length d4, .slice A5 p.needs.length d5, .slice A6 p.tols.length d6, .string p.req, .slice A7 p.apart.length d7, .slice A8 p.prefer.length d8, .int .i64 p.prio] (fun k hk => Nat.lt_of_lt_of_le (HOK.out k hk) HB2.out.size) ⟨[.string x.name, .slice A0 x.labels.length d0, .slice A1 x.taints.length d1, .slice A2 x.cap.length d2, .bool x.cord], .slice none 0 0, [.string p.name, .slice A4 p.labels.length d4, .slice A5 p.needs.length d5, .slice A6 p.tols.length d6, .string p.req, .slice A7 p.apart.length d7, .slice A8 p.prefer.length d8, .int .i64 p.prio], rfl, nodOk.move HX.out (fun k hk => HB2.out.block k (HOK.out k hk)), SlK.nil, pdOk.move HP.out (fun k hk => HB2.out.block k (HOK.out k hk))⟩ (chkNode_in FX.out) (by simp) (chkPod_in FP.out) ?_
  intro b1 b2 b3 b4 b5 b6 b7 b8 b9 w3 g3 r1 r2 r3 r4 r5 r6 r7 r8 r9
  have y3 : w2.heap.size ≤ w3.heap.size := g3.size
  have G3 := Lib.hid (G2.out.trans (g3.mono G2.out.size))
  have hb1 := r1.at
  have HU1 := Lib.hid r1
  have hb2 := r2.at
  have HU2 := Lib.hid r2
  have hb3 := r3.at
  have HU3 := Lib.hid r3
  have hb4 := r4.at
  have HU4 := Lib.hid r4
  have hb5 := r5.at
  have HU5 := Lib.hid r5
  have hb6 := r6.at
  have HU6 := Lib.hid r6
  have hb7 := r7.at
  have HU7 := Lib.hid r7
  have hb8 := r8.at
  have HU8 := Lib.hid r8
  have hb9 := r9.at
  have HU9 := Lib.hid r9
  clear g3 bn bp r1 r2 r3 r4 r5 r6 r7 r8 r9
  obtain ⟨wa, hwa⟩ : ∃ W, W = (w3.alloc (.cells #[.int .i64 0, .string ⟨#[]⟩, .string ⟨#[]⟩, .string ⟨#[]⟩, .bool false, .string ⟨#[]⟩, .slice none 0 0, .slice none 0 0, .slice none 0 0, .bool false, .string ⟨#[]⟩, .string ⟨#[]⟩, .string ⟨#[]⟩, .slice none 0 0, .string ⟨#[]⟩, .slice none 0 0, .slice none 0 0, .slice none 0 0, .string ⟨#[]⟩, .slice none 0 0, .slice none 0 0, .int .i64 0] 36)).setRow w3.heap.size #[.int .i64 0, .string ⟨#[]⟩, .string ⟨#[]⟩, .string ⟨#[]⟩, .bool false, .string x.name, rmyV b1 x.labels.length, rmyV b2 x.taints.length, rmyV b3 x.cap.length, .bool x.cord, .string ⟨#[]⟩, .string ⟨#[]⟩, .string ⟨#[]⟩, rmyV b4 0, .string p.name, rmyV b5 p.labels.length, rmyV b6 p.needs.length, rmyV b7 p.tols.length, .string p.req, rmyV b8 p.apart.length, rmyV b9 p.prefer.length, .int .i64 p.prio] := ⟨_, rfl⟩
  have oa : (w3.alloc (.cells #[.int .i64 0, .string ⟨#[]⟩, .string ⟨#[]⟩, .string ⟨#[]⟩, .bool false, .string ⟨#[]⟩, .slice none 0 0, .slice none 0 0, .slice none 0 0, .bool false, .string ⟨#[]⟩, .string ⟨#[]⟩, .string ⟨#[]⟩, .slice none 0 0, .string ⟨#[]⟩, .slice none 0 0, .slice none 0 0, .slice none 0 0, .string ⟨#[]⟩, .slice none 0 0, .slice none 0 0, .int .i64 0] 36)).heap[w3.heap.size]? = some (.cells #[.int .i64 0, .string ⟨#[]⟩, .string ⟨#[]⟩, .string ⟨#[]⟩, .bool false, .string ⟨#[]⟩, .slice none 0 0, .slice none 0 0, .slice none 0 0, .bool false, .string ⟨#[]⟩, .string ⟨#[]⟩, .string ⟨#[]⟩, .slice none 0 0, .string ⟨#[]⟩, .slice none 0 0, .slice none 0 0, .slice none 0 0, .string ⟨#[]⟩, .slice none 0 0, .slice none 0 0, .int .i64 0] 36 (0, 0)) := heap_alloc_new _ _
  have OAwa := Lib.hid (show wa.heap[w3.heap.size]? = some (.cells #[.int .i64 0, .string ⟨#[]⟩, .string ⟨#[]⟩, .string ⟨#[]⟩, .bool false, .string x.name, rmyV b1 x.labels.length, rmyV b2 x.taints.length, rmyV b3 x.cap.length, .bool x.cord, .string ⟨#[]⟩, .string ⟨#[]⟩, .string ⟨#[]⟩, rmyV b4 0, .string p.name, rmyV b5 p.labels.length, rmyV b6 p.needs.length, rmyV b7 p.tols.length, .string p.req, rmyV b8 p.apart.length, rmyV b9 p.prefer.length, .int .i64 p.prio] 36 (0, 0)) by rw [hwa]; exact setRow_heap _ _ _ _ _ _ oa)
  have G3A := Lib.hid (show Below w3.heap.size w3 wa by rw [hwa]; exact below_setRow (Below.alloc (Below.refl _ _) (Nat.le_refl _) _) (Nat.le_refl _) _)
  have z3a : w3.heap.size < wa.heap.size := (Array.getElem?_eq_some_iff.1 OAwa.out).1
  have HBwa := Lib.hid (show Below w1.heap.size w1 wa from G3.out.trans (G3A.out.mono G3.out.size))
  have HAwa := Lib.hid (Below.refl wa.heap.size wa)
  go_upto_region 4 with (refine wpList_store_row rfl 36 _ _ rfl w3.heap.size #[.int .i64 0, .string ⟨#[]⟩, .string ⟨#[]⟩, .string ⟨#[]⟩, .bool false, .string x.name, rmyV b1 x.labels.length, rmyV b2 x.taints.length, rmyV b3 x.cap.length, .bool x.cord, .string ⟨#[]⟩, .string ⟨#[]⟩, .string ⟨#[]⟩, rmyV b4 0, .string p.name, rmyV b5 p.labels.length, rmyV b6 p.needs.length, rmyV b7 p.tols.length, .string p.req, rmyV b8 p.apart.length, rmyV b9 p.prefer.length, .int .i64 p.prio] rfl rfl 36 #[.int .i64 0, .string ⟨#[]⟩, .string ⟨#[]⟩, .string ⟨#[]⟩, .bool false, .string ⟨#[]⟩, .slice none 0 0, .slice none 0 0, .slice none 0 0, .bool false, .string ⟨#[]⟩, .string ⟨#[]⟩, .string ⟨#[]⟩, .slice none 0 0, .string ⟨#[]⟩, .slice none 0 0, .slice none 0 0, .slice none 0 0, .string ⟨#[]⟩, .slice none 0 0, .slice none 0 0, .int .i64 0] oa (by kernel_rfl) (by simp) (by simp [Value.oneCell', rmyV]) ?_)
  rw [← hwa]
  clear hwa oa
  have HQ1 := Lib.hid (HU1.out.move labOk (w' := wa) (G3A.out.block _ hb1.2) G3A.out.size)
  have HS1 := Lib.hid (SlK.mono labOk (ok' := fun k => k < w3.heap.size) (HQ1.out.slr labOk).1 (fun k hk => by rw [hk]; exact hb1.2))
  have HQ2 := Lib.hid (HU2.out.move tntOk (w' := wa) (G3A.out.block _ hb2.2) G3A.out.size)
  have HS2 := Lib.hid (SlK.mono tntOk (ok' := fun k => k < w3.heap.size) (HQ2.out.slr tntOk).1 (fun k hk => by rw [hk]; exact hb2.2))
  have HQ3 := Lib.hid (HU3.out.move itmOk (w' := wa) (G3A.out.block _ hb3.2) G3A.out.size)
  have HS3 := Lib.hid (SlK.mono itmOk (ok' := fun k => k < w3.heap.size) (HQ3.out.slr itmOk).1 (fun k hk => by rw [hk]; exact hb3.2))
  have HQ4 := Lib.hid (HU4.out.move itmOk (w' := wa) (G3A.out.block _ hb4.2) G3A.out.size)
  have HS4 := Lib.hid (SlK.mono itmOk (ok' := fun k => k < w3.heap.size) (HQ4.out.slr itmOk).1 (fun k hk => by rw [hk]; exact hb4.2))
  have HQ5 := Lib.hid (HU5.out.move labOk (w' := wa) (G3A.out.block _ hb5.2) G3A.out.size)
  have HS5 := Lib.hid (SlK.mono labOk (ok' := fun k => k < w3.heap.size) (HQ5.out.slr labOk).1 (fun k hk => by rw [hk]; exact hb5.2))
  have HQ6 := Lib.hid (HU6.out.move itmOk (w' := wa) (G3A.out.block _ hb6.2) G3A.out.size)
  have HS6 := Lib.hid (SlK.mono itmOk (ok' := fun k => k < w3.heap.size) (HQ6.out.slr itmOk).1 (fun k hk => by rw [hk]; exact hb6.2))
  have HQ7 := Lib.hid (HU7.out.move tolOk (w' := wa) (G3A.out.block _ hb7.2) G3A.out.size)
  have HS7 := Lib.hid (SlK.mono tolOk (ok' := fun k => k < w3.heap.size) (HQ7.out.slr tolOk).1 (fun k hk => by rw [hk]; exact hb7.2))
  have HQ8 := Lib.hid (HU8.out.move aptOk (w' := wa) (G3A.out.block _ hb8.2) G3A.out.size)
  have HS8 := Lib.hid (SlK.mono aptOk (ok' := fun k => k < w3.heap.size) (HQ8.out.slr aptOk).1 (fun k hk => by rw [hk]; exact hb8.2))
  have HQ9 := Lib.hid (HU9.out.move prfOk (w' := wa) (G3A.out.block _ hb9.2) G3A.out.size)
  have HS9 := Lib.hid (SlK.mono prfOk (ok' := fun k => k < w3.heap.size) (HQ9.out.slr prfOk).1 (fun k hk => by rw [hk]; exact hb9.2))
  have rn : wa.rangeAt w3.heap.size 5 [.string x.name, rmyV b1 x.labels.length, rmyV b2 x.taints.length, rmyV b3 x.cap.length, .bool x.cord] := rng_parts (pre := [.int .i64 0, .string ⟨#[]⟩, .string ⟨#[]⟩, .string ⟨#[]⟩, .bool false]) (l := [.string x.name, rmyV b1 x.labels.length, rmyV b2 x.taints.length, rmyV b3 x.cap.length, .bool x.cord]) (post := [.string ⟨#[]⟩, .string ⟨#[]⟩, .string ⟨#[]⟩, rmyV b4 0, .string p.name, rmyV b5 p.labels.length, rmyV b6 p.needs.length, rmyV b7 p.tols.length, .string p.req, rmyV b8 p.apart.length, rmyV b9 p.prefer.length, .int .i64 p.prio]) (OAwa.out)
  go_wp2_with (refine wpList_load_mid rfl 26 _ rfl w3.heap.size 5 rfl [.string x.name, rmyV b1 x.labels.length, rmyV b2 x.taints.length, rmyV b3 x.cap.length, .bool x.cord] _ rn Tryz.underlying26 rfl (by kernel_rfl) ?_)
  refine checkNodeR_k _ _ (fun k => k < w3.heap.size) x [.string x.name, rmyV b1 x.labels.length, rmyV b2 x.taints.length, rmyV b3 x.cap.length, .bool x.cord] (HG1.out.below HBwa.out) (fun k hk => Nat.lt_of_lt_of_le hk (Nat.le_trans (Nat.le_of_lt z3a) HAwa.out.size)) (nodOk.move (show nodK wa (fun k => k < w3.heap.size) x [.string x.name, rmyV b1 x.labels.length, rmyV b2 x.taints.length, rmyV b3 x.cap.length, .bool x.cord] from ⟨_, _, _, rfl, HS1.out, HS2.out, HS3.out⟩) (fun k hk => HAwa.out.block k (Nat.lt_trans hk z3a))) FX.out ?_
  rw [HMmn.out]
  intro cx ecx w4 gw4 hkcx _
  have hlcx : cx.length = 5 := nodOk.len hkcx.k
  have yw4 : wa.heap.size ≤ w4.heap.size := gw4.size
  obtain ⟨wx, hwx⟩ : ∃ W, W = (w4.alloc (.cells #[.string ⟨#[]⟩, .slice none 0 0, .slice none 0 0, .slice none 0 0, .bool false] 26)).setRow w4.heap.size cx.toArray := ⟨_, rfl⟩
  have oa : (w4.alloc (.cells #[.string ⟨#[]⟩, .slice none 0 0, .slice none 0 0, .slice none 0 0, .bool false] 26)).heap[w4.heap.size]? = some (.cells #[.string ⟨#[]⟩, .slice none 0 0, .slice none 0 0, .slice none 0 0, .bool false] 26 (0, 0)) := heap_alloc_new _ _
  have HOwx := Lib.hid (show wx.heap[w4.heap.size]? = some (.cells cx.toArray 26 (0, 0)) by rw [hwx]; exact setRow_heap _ _ _ _ _ _ oa)
  have GBX := Lib.hid (show Below w4.heap.size w4 wx by rw [hwx]; exact below_setRow (Below.alloc (Below.refl _ _) (Nat.le_refl _) _) (Nat.le_refl _) _)
  have zwx : w4.heap.size < wx.heap.size := (Array.getElem?_eq_some_iff.1 HOwx.out).1
  have GSwx := Lib.hid (show Below wa.heap.size wa wx from gw4.trans (GBX.out.mono gw4.size))
  have HAwx := Lib.hid (HAwa.out.trans (GSwx.out.mono HAwa.out.size))
  have HBwx := Lib.hid (HBwa.out.trans (GSwx.out.mono HBwa.out.size))
  have OAwx := Lib.hid ((GSwx.out.block _ (by have := HAwa.out.size; omega)).trans OAwa.out)
  have HVcx := Lib.hid (nodV.move (w' := wx) (Y := Rg wa.heap.size w4.heap.size) (fun k hk _ => GBX.out.block k hk.2) (fun k hk => hk) GBX.out.size (nodV.bnd hkcx.v))
  have HKcx := Lib.hid (nodOk.move (w' := wx) (nodOk.bnd hkcx.k) (fun k hk => GBX.out.block k hk.2))
  have one := one_nod hkcx.k
  clear gw4 hkcx rn
  go_upto_region 5 with (refine wpList_store_row rfl 26 _ _ rfl w4.heap.size cx.toArray rfl rfl 26 #[.string ⟨#[]⟩, .slice none 0 0, .slice none 0 0, .slice none 0 0, .bool false] oa (by simp only [List.size_toArray, hlcx]; kernel_rfl) (by simp [hlcx]) (all_oneCell_toArray one) ?_)
  rw [← hwx]
  clear hwx oa one
  have rn : wx.rangeAt w3.heap.size 5 [.string x.name, rmyV b1 x.labels.length, rmyV b2 x.taints.length, rmyV b3 x.cap.length, .bool x.cord] := rng_parts (pre := [.int .i64 0, .string ⟨#[]⟩, .string ⟨#[]⟩, .string ⟨#[]⟩, .bool false]) (l := [.string x.name, rmyV b1 x.labels.length, rmyV b2 x.taints.length, rmyV b3 x.cap.length, .bool x.cord]) (post := [.string ⟨#[]⟩, .string ⟨#[]⟩, .string ⟨#[]⟩, rmyV b4 0, .string p.name, rmyV b5 p.labels.length, rmyV b6 p.needs.length, rmyV b7 p.tols.length, .string p.req, rmyV b8 p.apart.length, rmyV b9 p.prefer.length, .int .i64 p.prio]) (OAwx.out)
  go_wp2_with (refine wpList_load_mid rfl 26 _ rfl w3.heap.size 5 rfl [.string x.name, rmyV b1 x.labels.length, rmyV b2 x.taints.length, rmyV b3 x.cap.length, .bool x.cord] _ rn Tryz.underlying26 rfl (by kernel_rfl) ?_)
  refine checkNodeR_k _ _ (fun k => k < w3.heap.size) x [.string x.name, rmyV b1 x.labels.length, rmyV b2 x.taints.length, rmyV b3 x.cap.length, .bool x.cord] (HG1.out.below HBwx.out) (fun k hk => Nat.lt_of_lt_of_le hk (Nat.le_trans (Nat.le_of_lt z3a) HAwx.out.size)) (nodOk.move (show nodK wa (fun k => k < w3.heap.size) x [.string x.name, rmyV b1 x.labels.length, rmyV b2 x.taints.length, rmyV b3 x.cap.length, .bool x.cord] from ⟨_, _, _, rfl, HS1.out, HS2.out, HS3.out⟩) (fun k hk => HAwx.out.block k (Nat.lt_trans hk z3a))) FX.out ?_
  rw [HMmn.out]
  intro cy ecy w5 gw5 hkcy _
  have hlcy : cy.length = 5 := nodOk.len hkcy.k
  have yw5 : wx.heap.size ≤ w5.heap.size := gw5.size
  obtain ⟨wy, hwy⟩ : ∃ W, W = (w5.alloc (.cells #[.string ⟨#[]⟩, .slice none 0 0, .slice none 0 0, .slice none 0 0, .bool false] 26)).setRow w5.heap.size cy.toArray := ⟨_, rfl⟩
  have oa : (w5.alloc (.cells #[.string ⟨#[]⟩, .slice none 0 0, .slice none 0 0, .slice none 0 0, .bool false] 26)).heap[w5.heap.size]? = some (.cells #[.string ⟨#[]⟩, .slice none 0 0, .slice none 0 0, .slice none 0 0, .bool false] 26 (0, 0)) := heap_alloc_new _ _
  have HOwy := Lib.hid (show wy.heap[w5.heap.size]? = some (.cells cy.toArray 26 (0, 0)) by rw [hwy]; exact setRow_heap _ _ _ _ _ _ oa)
  have GBX := Lib.hid (show Below w5.heap.size w5 wy by rw [hwy]; exact below_setRow (Below.alloc (Below.refl _ _) (Nat.le_refl _) _) (Nat.le_refl _) _)
  have zwy : w5.heap.size < wy.heap.size := (Array.getElem?_eq_some_iff.1 HOwy.out).1
  have GSwy := Lib.hid (show Below wx.heap.size wx wy from gw5.trans (GBX.out.mono gw5.size))
  have HAwy := Lib.hid (HAwx.out.trans (GSwy.out.mono HAwx.out.size))
  have HBwy := Lib.hid (HBwx.out.trans (GSwy.out.mono HBwx.out.size))
  have OAwy := Lib.hid ((GSwy.out.block _ (by have := HAwx.out.size; omega)).trans OAwx.out)
  have HVcy := Lib.hid (nodV.move (w' := wy) (Y := Rg wx.heap.size w5.heap.size) (fun k hk _ => GBX.out.block k hk.2) (fun k hk => hk) GBX.out.size (nodV.bnd hkcy.v))
  have HKcy := Lib.hid (nodOk.move (w' := wy) (nodOk.bnd hkcy.k) (fun k hk => GBX.out.block k hk.2))
  have one := one_nod hkcy.k
  clear gw5 hkcy rn
  go_upto_region 6 with (refine wpList_store_row rfl 26 _ _ rfl w5.heap.size cy.toArray rfl rfl 26 #[.string ⟨#[]⟩, .slice none 0 0, .slice none 0 0, .slice none 0 0, .bool false] oa (by simp only [List.size_toArray, hlcy]; kernel_rfl) (by simp [hlcy]) (all_oneCell_toArray one) ?_)
  rw [← hwy]
  clear hwy oa one
  have rn : wy.rangeAt w3.heap.size 14 [.string p.name, rmyV b5 p.labels.length, rmyV b6 p.needs.length, rmyV b7 p.tols.length, .string p.req, rmyV b8 p.apart.length, rmyV b9 p.prefer.length, .int .i64 p.prio] := rng_parts (pre := [.int .i64 0, .string ⟨#[]⟩, .string ⟨#[]⟩, .string ⟨#[]⟩, .bool false, .string x.name, rmyV b1 x.labels.length, rmyV b2 x.taints.length, rmyV b3 x.cap.length, .bool x.cord, .string ⟨#[]⟩, .string ⟨#[]⟩, .string ⟨#[]⟩, rmyV b4 0]) (l := [.string p.name, rmyV b5 p.labels.length, rmyV b6 p.needs.length, rmyV b7 p.tols.length, .string p.req, rmyV b8 p.apart.length, rmyV b9 p.prefer.length, .int .i64 p.prio]) (post := []) (OAwy.out)
  go_wp2_with (refine wpList_load_mid rfl 31 _ rfl w3.heap.size 14 rfl [.string p.name, rmyV b5 p.labels.length, rmyV b6 p.needs.length, rmyV b7 p.tols.length, .string p.req, rmyV b8 p.apart.length, rmyV b9 p.prefer.length, .int .i64 p.prio] _ rn Tryz.underlying31 rfl (by kernel_rfl) ?_)
  refine checkPodR_k _ _ (fun k => k < w3.heap.size) p [.string p.name, rmyV b5 p.labels.length, rmyV b6 p.needs.length, rmyV b7 p.tols.length, .string p.req, rmyV b8 p.apart.length, rmyV b9 p.prefer.length, .int .i64 p.prio] (HG1.out.below HBwy.out) (fun k hk => Nat.lt_of_lt_of_le hk (Nat.le_trans (Nat.le_of_lt z3a) HAwy.out.size)) (pdOk.move (show pdK wa (fun k => k < w3.heap.size) p [.string p.name, rmyV b5 p.labels.length, rmyV b6 p.needs.length, rmyV b7 p.tols.length, .string p.req, rmyV b8 p.apart.length, rmyV b9 p.prefer.length, .int .i64 p.prio] from ⟨_, _, _, _, _, rfl, HS5.out, HS6.out, HS7.out, HS8.out, HS9.out⟩) (fun k hk => HAwy.out.block k (Nat.lt_trans hk z3a))) FP.out ?_
  rw [HMmp.out]
  intro cq ecq w6 gw6 hkcq _
  have hlcq : cq.length = 8 := pdOk.len hkcq.k
  have yw6 : wy.heap.size ≤ w6.heap.size := gw6.size
  obtain ⟨wq, hwq⟩ : ∃ W, W = (w6.alloc (.cells #[.string ⟨#[]⟩, .slice none 0 0, .slice none 0 0, .slice none 0 0, .string ⟨#[]⟩, .slice none 0 0, .slice none 0 0, .int .i64 0] 31)).setRow w6.heap.size cq.toArray := ⟨_, rfl⟩
  have oa : (w6.alloc (.cells #[.string ⟨#[]⟩, .slice none 0 0, .slice none 0 0, .slice none 0 0, .string ⟨#[]⟩, .slice none 0 0, .slice none 0 0, .int .i64 0] 31)).heap[w6.heap.size]? = some (.cells #[.string ⟨#[]⟩, .slice none 0 0, .slice none 0 0, .slice none 0 0, .string ⟨#[]⟩, .slice none 0 0, .slice none 0 0, .int .i64 0] 31 (0, 0)) := heap_alloc_new _ _
  have HOwq := Lib.hid (show wq.heap[w6.heap.size]? = some (.cells cq.toArray 31 (0, 0)) by rw [hwq]; exact setRow_heap _ _ _ _ _ _ oa)
  have GBX := Lib.hid (show Below w6.heap.size w6 wq by rw [hwq]; exact below_setRow (Below.alloc (Below.refl _ _) (Nat.le_refl _) _) (Nat.le_refl _) _)
  have zwq : w6.heap.size < wq.heap.size := (Array.getElem?_eq_some_iff.1 HOwq.out).1
  have GSwq := Lib.hid (show Below wy.heap.size wy wq from gw6.trans (GBX.out.mono gw6.size))
  have HAwq := Lib.hid (HAwy.out.trans (GSwq.out.mono HAwy.out.size))
  have HBwq := Lib.hid (HBwy.out.trans (GSwq.out.mono HBwy.out.size))
  have OAwq := Lib.hid ((GSwq.out.block _ (by have := HAwy.out.size; omega)).trans OAwy.out)
  have HVcq := Lib.hid (pdV.move (w' := wq) (Y := Rg wy.heap.size w6.heap.size) (fun k hk _ => GBX.out.block k hk.2) (fun k hk => hk) GBX.out.size (pdV.bnd hkcq.v))
  have HKcq := Lib.hid (pdOk.move (w' := wq) (pdOk.bnd hkcq.k) (fun k hk => GBX.out.block k hk.2))
  have one := one_pd hkcq.k
  clear gw6 hkcq rn
  go_upto_region 7 with (refine wpList_store_row rfl 31 _ _ rfl w6.heap.size cq.toArray rfl rfl 31 #[.string ⟨#[]⟩, .slice none 0 0, .slice none 0 0, .slice none 0 0, .string ⟨#[]⟩, .slice none 0 0, .slice none 0 0, .int .i64 0] oa (by simp only [List.size_toArray, hlcq]; kernel_rfl) (by simp [hlcq]) (all_oneCell_toArray one) ?_)
  rw [← hwq]
  clear hwq oa one
  have rn : wq.rangeAt w3.heap.size 14 [.string p.name, rmyV b5 p.labels.length, rmyV b6 p.needs.length, rmyV b7 p.tols.length, .string p.req, rmyV b8 p.apart.length, rmyV b9 p.prefer.length, .int .i64 p.prio] := rng_parts (pre := [.int .i64 0, .string ⟨#[]⟩, .string ⟨#[]⟩, .string ⟨#[]⟩, .bool false, .string x.name, rmyV b1 x.labels.length, rmyV b2 x.taints.length, rmyV b3 x.cap.length, .bool x.cord, .string ⟨#[]⟩, .string ⟨#[]⟩, .string ⟨#[]⟩, rmyV b4 0]) (l := [.string p.name, rmyV b5 p.labels.length, rmyV b6 p.needs.length, rmyV b7 p.tols.length, .string p.req, rmyV b8 p.apart.length, rmyV b9 p.prefer.length, .int .i64 p.prio]) (post := []) (OAwq.out)
  go_wp2_with (refine wpList_load_mid rfl 31 _ rfl w3.heap.size 14 rfl [.string p.name, rmyV b5 p.labels.length, rmyV b6 p.needs.length, rmyV b7 p.tols.length, .string p.req, rmyV b8 p.apart.length, rmyV b9 p.prefer.length, .int .i64 p.prio] _ rn Tryz.underlying31 rfl (by kernel_rfl) ?_)
  refine checkPodR_k _ _ (fun k => k < w3.heap.size) p [.string p.name, rmyV b5 p.labels.length, rmyV b6 p.needs.length, rmyV b7 p.tols.length, .string p.req, rmyV b8 p.apart.length, rmyV b9 p.prefer.length, .int .i64 p.prio] (HG1.out.below HBwq.out) (fun k hk => Nat.lt_of_lt_of_le hk (Nat.le_trans (Nat.le_of_lt z3a) HAwq.out.size)) (pdOk.move (show pdK wa (fun k => k < w3.heap.size) p [.string p.name, rmyV b5 p.labels.length, rmyV b6 p.needs.length, rmyV b7 p.tols.length, .string p.req, rmyV b8 p.apart.length, rmyV b9 p.prefer.length, .int .i64 p.prio] from ⟨_, _, _, _, _, rfl, HS5.out, HS6.out, HS7.out, HS8.out, HS9.out⟩) (fun k hk => HAwq.out.block k (Nat.lt_trans hk z3a))) FP.out ?_
  rw [HMmp.out]
  intro cr ecr w7 gw7 hkcr _
  have hlcr : cr.length = 8 := pdOk.len hkcr.k
  have yw7 : wq.heap.size ≤ w7.heap.size := gw7.size
  obtain ⟨wz, hwz⟩ : ∃ W, W = (w7.alloc (.cells #[.string ⟨#[]⟩, .slice none 0 0, .slice none 0 0, .slice none 0 0, .string ⟨#[]⟩, .slice none 0 0, .slice none 0 0, .int .i64 0] 31)).setRow w7.heap.size cr.toArray := ⟨_, rfl⟩
  have oa : (w7.alloc (.cells #[.string ⟨#[]⟩, .slice none 0 0, .slice none 0 0, .slice none 0 0, .string ⟨#[]⟩, .slice none 0 0, .slice none 0 0, .int .i64 0] 31)).heap[w7.heap.size]? = some (.cells #[.string ⟨#[]⟩, .slice none 0 0, .slice none 0 0, .slice none 0 0, .string ⟨#[]⟩, .slice none 0 0, .slice none 0 0, .int .i64 0] 31 (0, 0)) := heap_alloc_new _ _
  have HOwz := Lib.hid (show wz.heap[w7.heap.size]? = some (.cells cr.toArray 31 (0, 0)) by rw [hwz]; exact setRow_heap _ _ _ _ _ _ oa)
  have GBX := Lib.hid (show Below w7.heap.size w7 wz by rw [hwz]; exact below_setRow (Below.alloc (Below.refl _ _) (Nat.le_refl _) _) (Nat.le_refl _) _)
  have zwz : w7.heap.size < wz.heap.size := (Array.getElem?_eq_some_iff.1 HOwz.out).1
  have GSwz := Lib.hid (show Below wq.heap.size wq wz from gw7.trans (GBX.out.mono gw7.size))
  have HAwz := Lib.hid (HAwq.out.trans (GSwz.out.mono HAwq.out.size))
  have HBwz := Lib.hid (HBwq.out.trans (GSwz.out.mono HBwq.out.size))
  have OAwz := Lib.hid ((GSwz.out.block _ (by have := HAwq.out.size; omega)).trans OAwq.out)
  have HVcr := Lib.hid (pdV.move (w' := wz) (Y := Rg wq.heap.size w7.heap.size) (fun k hk _ => GBX.out.block k hk.2) (fun k hk => hk) GBX.out.size (pdV.bnd hkcr.v))
  have HKcr := Lib.hid (pdOk.move (w' := wz) (pdOk.bnd hkcr.k) (fun k hk => GBX.out.block k hk.2))
  have one := one_pd hkcr.k
  clear gw7 hkcr rn
  go_upto_region 8 with (refine wpList_store_row rfl 31 _ _ rfl w7.heap.size cr.toArray rfl rfl 31 #[.string ⟨#[]⟩, .slice none 0 0, .slice none 0 0, .slice none 0 0, .string ⟨#[]⟩, .slice none 0 0, .slice none 0 0, .int .i64 0] oa (by simp only [List.size_toArray, hlcr]; kernel_rfl) (by simp [hlcr]) (all_oneCell_toArray one) ?_)
  rw [← hwz]
  clear hwz oa one
  have bx := (GSwz.out.block w4.heap.size (by omega)).trans ((GSwq.out.block w4.heap.size (by omega)).trans ((GSwy.out.block w4.heap.size (by omega)).trans HOwx.out))
  go_wp2_with (refine wpList_load_row rfl 26 _ rfl w4.heap.size rfl 26 cx.toArray (0, 0) _ bx Tryz.underlying26 rfl (by simp only [List.size_toArray, hlcx]; kernel_rfl) ?_)
  refine wipeNode_k _ _ (Rg wa.heap.size w4.heap.size) mn cx (fun k hk => by have h1 := hk.1; have h2 := hk.2; omega) (nodV.move (Y := Rg wa.heap.size w4.heap.size) (fun k hk _ => by have h2 := hk.2; exact (GSwz.out.block k (by omega)).trans ((GSwq.out.block k (by omega)).trans (GSwy.out.block k (by omega)))) (fun _ h => h) (by omega) HVcx.out) (chkNode_out FX.out HMmn.out) ?_
  intro w8 m8 t8
  have M8 := Lib.hid m8
  have y8 : wz.heap.size ≤ w8.heap.size := m8.size
  clear m8 t8 bx
  have bq := (M8.out.block w6.heap.size (by omega) (fun h => by have h1 := h.1; have h2 := h.2; omega)).trans ((GSwz.out.block w6.heap.size (by omega)).trans HOwq.out)
  go_wp2_with (refine wpList_load_row rfl 31 _ rfl w6.heap.size rfl 31 cq.toArray (0, 0) _ bq Tryz.underlying31 rfl (by simp only [List.size_toArray, hlcq]; kernel_rfl) ?_)
  refine wipePod_k _ _ (Rg wy.heap.size w6.heap.size) mp cq (fun k hk => by have h1 := hk.1; have h2 := hk.2; omega) (pdV.move (Y := Rg wy.heap.size w6.heap.size) (fun k hk _ => by have h1 := hk.1; have h2 := hk.2; exact (M8.out.block k (by omega) (fun h => by have h3 := h.1; have h4 := h.2; omega)).trans (GSwz.out.block k (by omega))) (fun _ h => h) (by omega) HVcq.out) (chkPod_out FP.out HMmp.out) ?_
  intro w9 m9 t9
  have M9 := Lib.hid (M8.out.sub m9)
  have y9 : w8.heap.size ≤ w9.heap.size := m9.size
  clear m9 t9 bq
  have HA9 := Lib.hid (HAwz.out.trans (M9.out.below (by omega) (fun k hk => by rcases hk with hk | hk <;> (have h1 := hk.1; omega))))
  have HB9 := Lib.hid (HBwa.out.trans (HA9.out.mono (by omega)))
  have hoa := (HA9.out.block w3.heap.size (by omega)).trans OAwa.out
  have bn := (HB9.out.block w.heap.size (by omega)).trans Hno.out
  have bp := (HB9.out.block (w.heap.size + 1) (by omega)).trans Hpo.out
  have W9 := Lib.hid (HB1.out.trans (HB9.out.mono HB1.out.size))
  have HT1 := Lib.hid (HQ1.out.move labOk (w' := w9) (HA9.out.block _ (by omega)) (by omega))
  have HT2 := Lib.hid (HQ2.out.move tntOk (w' := w9) (HA9.out.block _ (by omega)) (by omega))
  have HT3 := Lib.hid (HQ3.out.move itmOk (w' := w9) (HA9.out.block _ (by omega)) (by omega))
  have HT4 := Lib.hid (HQ4.out.move itmOk (w' := w9) (HA9.out.block _ (by omega)) (by omega))
  have HT5 := Lib.hid (HQ5.out.move labOk (w' := w9) (HA9.out.block _ (by omega)) (by omega))
  have HT6 := Lib.hid (HQ6.out.move itmOk (w' := w9) (HA9.out.block _ (by omega)) (by omega))
  have HT7 := Lib.hid (HQ7.out.move tolOk (w' := w9) (HA9.out.block _ (by omega)) (by omega))
  have HT8 := Lib.hid (HQ8.out.move aptOk (w' := w9) (HA9.out.block _ (by omega)) (by omega))
  have HT9 := Lib.hid (HQ9.out.move prfOk (w' := w9) (HA9.out.block _ (by omega)) (by omega))
  go_wp2_with (first | (refine wpList_load_row rfl 36 _ rfl w3.heap.size rfl 36 #[.int .i64 0, .string ⟨#[]⟩, .string ⟨#[]⟩, .string ⟨#[]⟩, .bool false, .string x.name, rmyV b1 x.labels.length, rmyV b2 x.taints.length, rmyV b3 x.cap.length, .bool x.cord, .string ⟨#[]⟩, .string ⟨#[]⟩, .string ⟨#[]⟩, rmyV b4 0, .string p.name, rmyV b5 p.labels.length, rmyV b6 p.needs.length, rmyV b7 p.tols.length, .string p.req, rmyV b8 p.apart.length, rmyV b9 p.prefer.length, .int .i64 p.prio] (0, 0) _ hoa Tryz.underlying36 rfl (by kernel_rfl) ?_) | (refine wpList_load_row rfl 26 _ rfl w.heap.size rfl 26 #[.string x.name, .slice A0 x.labels.length d0, .slice A1 x.taints.length d1, .slice A2 x.cap.length d2, .bool x.cord] (0, 0) _ bn Tryz.underlying26 rfl (by kernel_rfl) ?_) | (refine wpList_load_row rfl 31 _ rfl (w.heap.size + 1) rfl 31 #[.string p.name, .slice A4 p.labels.length d4, .slice A5 p.needs.length d5, .slice A6 p.tols.length d6, .string p.req, .slice A7 p.apart.length d7, .slice A8 p.prefer.length d8, .int .i64 p.prio] (0, 0) _ bp Tryz.underlying31 rfl (by kernel_rfl) ?_))
  refine keptAct_k _ _ ok ⟨0, ⟨#[]⟩, ⟨#[]⟩, ⟨#[]⟩, false, x, ⟨⟨#[]⟩, ⟨#[]⟩, ⟨#[]⟩⟩, [], p⟩ [.int .i64 0, .string ⟨#[]⟩, .string ⟨#[]⟩, .string ⟨#[]⟩, .bool false, .string x.name, .slice A0 x.labels.length d0, .slice A1 x.taints.length d1, .slice A2 x.cap.length d2, .bool x.cord, .string ⟨#[]⟩, .string ⟨#[]⟩, .string ⟨#[]⟩, .slice none 0 0, .string p.name, .slice A4 p.labels.length d4, .slice A5 p.needs.length d5, .slice A6 p.tols.length d6, .string p.req, .slice A7 p.apart.length d7, .slice A8 p.prefer.length d8, .int .i64 p.prio] (fun k hk => Nat.lt_of_lt_of_le (HOK.out k hk) W9.out.size) ⟨[.string x.name, .slice A0 x.labels.length d0, .slice A1 x.taints.length d1, .slice A2 x.cap.length d2, .bool x.cord], .slice none 0 0, [.string p.name, .slice A4 p.labels.length d4, .slice A5 p.needs.length d5, .slice A6 p.tols.length d6, .string p.req, .slice A7 p.apart.length d7, .slice A8 p.prefer.length d8, .int .i64 p.prio], rfl, nodOk.move HX.out (fun k hk => W9.out.block k (HOK.out k hk)), SlK.nil, pdOk.move HP.out (fun k hk => W9.out.block k (HOK.out k hk))⟩ (chkNode_in FX.out) (by simp) (chkPod_in FP.out) w2.heap.size w2.heap.size w2.heap.size w2.heap.size w2.heap.size w2.heap.size w2.heap.size w2.heap.size w2.heap.size b1 b2 b3 b4 b5 b6 b7 b8 b9 HT1.out HT2.out HT3.out HT4.out HT5.out HT6.out HT7.out HT8.out HT9.out ?_
  intro w10 g10
  have y10 : w9.heap.size ≤ w10.heap.size := g10.size
  have G10 := Lib.hid g10
  have HA10 := Lib.hid (HA9.out.trans (g10.mono HA9.out.size))
  clear g10 hoa bn bp
  have OA10 := Lib.hid ((HA10.out.block w3.heap.size (by omega)).trans OAwa.out)
  have HS1 := Lib.hid (SlR.mono labOk (ok' := Rg w2.heap.size w3.heap.size) ((HT1.out.move labOk (w' := w10) (G10.out.block _ (by omega)) (by omega)).slr labOk) (fun k hk => by rw [hk]; exact hb1))
  have HS2 := Lib.hid (SlR.mono tntOk (ok' := Rg w2.heap.size w3.heap.size) ((HT2.out.move tntOk (w' := w10) (G10.out.block _ (by omega)) (by omega)).slr tntOk) (fun k hk => by rw [hk]; exact hb2))
  have HS3 := Lib.hid (SlR.mono itmOk (ok' := Rg w2.heap.size w3.heap.size) ((HT3.out.move itmOk (w' := w10) (G10.out.block _ (by omega)) (by omega)).slr itmOk) (fun k hk => by rw [hk]; exact hb3))
  have HS5 := Lib.hid (SlR.mono labOk (ok' := Rg w2.heap.size w3.heap.size) ((HT5.out.move labOk (w' := w10) (G10.out.block _ (by omega)) (by omega)).slr labOk) (fun k hk => by rw [hk]; exact hb5))
  have HS6 := Lib.hid (SlR.mono itmOk (ok' := Rg w2.heap.size w3.heap.size) ((HT6.out.move itmOk (w' := w10) (G10.out.block _ (by omega)) (by omega)).slr itmOk) (fun k hk => by rw [hk]; exact hb6))
  have HS7 := Lib.hid (SlR.mono tolOk (ok' := Rg w2.heap.size w3.heap.size) ((HT7.out.move tolOk (w' := w10) (G10.out.block _ (by omega)) (by omega)).slr tolOk) (fun k hk => by rw [hk]; exact hb7))
  have HS8 := Lib.hid (SlR.mono aptOk (ok' := Rg w2.heap.size w3.heap.size) ((HT8.out.move aptOk (w' := w10) (G10.out.block _ (by omega)) (by omega)).slr aptOk) (fun k hk => by rw [hk]; exact hb8))
  have HS9 := Lib.hid (SlR.mono prfOk (ok' := Rg w2.heap.size w3.heap.size) ((HT9.out.move prfOk (w' := w10) (G10.out.block _ (by omega)) (by omega)).slr prfOk) (fun k hk => by rw [hk]; exact hb9))
  have rn : w10.rangeAt w3.heap.size 5 [.string x.name, rmyV b1 x.labels.length, rmyV b2 x.taints.length, rmyV b3 x.cap.length, .bool x.cord] := rng_parts (pre := [.int .i64 0, .string ⟨#[]⟩, .string ⟨#[]⟩, .string ⟨#[]⟩, .bool false]) (l := [.string x.name, rmyV b1 x.labels.length, rmyV b2 x.taints.length, rmyV b3 x.cap.length, .bool x.cord]) (post := [.string ⟨#[]⟩, .string ⟨#[]⟩, .string ⟨#[]⟩, rmyV b4 0, .string p.name, rmyV b5 p.labels.length, rmyV b6 p.needs.length, rmyV b7 p.tols.length, .string p.req, rmyV b8 p.apart.length, rmyV b9 p.prefer.length, .int .i64 p.prio]) OA10.out
  go_wp2_with (refine wpList_load_mid rfl 26 _ rfl w3.heap.size 5 rfl [.string x.name, rmyV b1 x.labels.length, rmyV b2 x.taints.length, rmyV b3 x.cap.length, .bool x.cord] _ rn Tryz.underlying26 rfl (by kernel_rfl) ?_)
  refine wipeNode_k _ _ (Rg w2.heap.size w3.heap.size) x [.string x.name, rmyV b1 x.labels.length, rmyV b2 x.taints.length, rmyV b3 x.cap.length, .bool x.cord] (fun k hk => by have h1 := hk.1; have h2 := hk.2; omega) (nodR.v ⟨_, _, _, rfl, HS1.out, HS2.out, HS3.out⟩) (chkNode_in FX.out) ?_
  intro w12 m12 t12
  have M12 := Lib.hid m12
  have T12 := Lib.hid t12
  have y12 : w10.heap.size ≤ w12.heap.size := m12.size
  clear m12 t12 rn
  have rn : w12.rangeAt w3.heap.size 14 [.string p.name, rmyV b5 p.labels.length, rmyV b6 p.needs.length, rmyV b7 p.tols.length, .string p.req, rmyV b8 p.apart.length, rmyV b9 p.prefer.length, .int .i64 p.prio] := rng_parts (pre := [.int .i64 0, .string ⟨#[]⟩, .string ⟨#[]⟩, .string ⟨#[]⟩, .bool false, .string x.name, rmyV b1 x.labels.length, rmyV b2 x.taints.length, rmyV b3 x.cap.length, .bool x.cord, .string ⟨#[]⟩, .string ⟨#[]⟩, .string ⟨#[]⟩, rmyV b4 0]) (l := [.string p.name, rmyV b5 p.labels.length, rmyV b6 p.needs.length, rmyV b7 p.tols.length, .string p.req, rmyV b8 p.apart.length, rmyV b9 p.prefer.length, .int .i64 p.prio]) (post := []) ((M12.out.block w3.heap.size (by omega) (fun h => by have h1 := h.1; have h2 := h.2; omega)).trans OA10.out)
  go_wp2_with (refine wpList_load_mid rfl 31 _ rfl w3.heap.size 14 rfl [.string p.name, rmyV b5 p.labels.length, rmyV b6 p.needs.length, rmyV b7 p.tols.length, .string p.req, rmyV b8 p.apart.length, rmyV b9 p.prefer.length, .int .i64 p.prio] _ rn Tryz.underlying31 rfl (by kernel_rfl) ?_)
  refine wipePod_k _ _ (Rg w2.heap.size w3.heap.size) p [.string p.name, rmyV b5 p.labels.length, rmyV b6 p.needs.length, rmyV b7 p.tols.length, .string p.req, rmyV b8 p.apart.length, rmyV b9 p.prefer.length, .int .i64 p.prio] (fun k hk => by have h1 := hk.1; have h2 := hk.2; omega) (pdV.th T12.out (by omega) (pdR.v ⟨_, _, _, _, _, rfl, HS5.out, HS6.out, HS7.out, HS8.out, HS9.out⟩)) (chkPod_in FP.out) ?_
  intro w13 m13 t13
  have M13 := Lib.hid (M12.out.trans m13 (fun _ _ h => h))
  have y13 : w12.heap.size ≤ w13.heap.size := m13.size
  clear m13 t13 rn
  have HZ := Lib.hid (show ∀ k, k < wz.heap.size → ¬ (Rg wa.heap.size w4.heap.size) k → ¬ (Rg wy.heap.size w6.heap.size) k → ¬ (Rg w2.heap.size w3.heap.size) k → w13.heap[k]? = wz.heap[k]? from fun k hk h1 h2 h3 => (M13.out.block k (by omega) h3).trans ((G10.out.block k (by omega)).trans (M9.out.block k hk (fun h => h.elim h1 h2))))
  have HB13 := Lib.hid ((HB9.out.trans (G10.out.mono (by omega))).trans (M13.out.below (by omega) (fun k hk => by have h1 := hk.1; omega)))
  have W13 := Lib.hid (HB1.out.trans (HB13.out.mono HB1.out.size))
  have bo := (HB13.out.block w.heap.size (by omega)).trans Hno.out
  go_wp2_with (refine wpList_load_row rfl 26 _ rfl w.heap.size rfl 26 #[.string x.name, .slice A0 x.labels.length d0, .slice A1 x.taints.length d1, .slice A2 x.cap.length d2, .bool x.cord] (0, 0) _ bo Tryz.underlying26 rfl (by kernel_rfl) ?_)
  refine rcheckNode_k _ _ ok x [.string x.name, .slice A0 x.labels.length d0, .slice A1 x.taints.length d1, .slice A2 x.cap.length d2, .bool x.cord] (fun k hk => Nat.lt_of_lt_of_le (HOK.out k hk) W13.out.size) (nodOk.move HX.out (fun k hk => W13.out.block k (HOK.out k hk))) FX.out ?_
  rw [HMmn.out]
  intro cd w14 gw14 hkcd
  have hlcd : cd.length = 5 := nodOk.len hkcd
  have yw14 : w13.heap.size ≤ w14.heap.size := gw14.size
  have Gw14 := Lib.hid gw14
  have HKcd := Lib.hid (nodOk.bnd (nodOk.mono (ok' := fun k => k < w14.heap.size) (nodOk.bnd hkcd) (fun k hk => hk.2)))
  clear gw14 hkcd bo
  obtain ⟨we, hwe⟩ : ∃ we, we = (((w14.alloc (.cells #[.string ⟨#[]⟩, .slice none 0 0, .slice none 0 0, .slice none 0 0, .bool false] 26)).alloc (.cells #[.int .i64 0, .int .i64 0, .string ⟨#[]⟩, .int .i64 0, .int .i64 0, .int .i64 0, .string ⟨#[]⟩, .int .i64 0, .int .i64 0, .int .i64 0, .string ⟨#[]⟩, .int .i64 0, .int .i64 0, .int .i64 0, .string ⟨#[]⟩, .int .i64 0, .int .i64 0, .int .i64 0, .string ⟨#[]⟩] 51)).setRow w14.heap.size cd.toArray).setRow (w14.heap.size + 1) #[.int .i64 fn.code, .int .i64 fn.place, .string fn.name, .int .i64 0, .int .i64 0, .int .i64 0, .string ⟨#[]⟩, .int .i64 0, .int .i64 0, .int .i64 0, .string ⟨#[]⟩, .int .i64 0, .int .i64 0, .int .i64 0, .string ⟨#[]⟩, .int .i64 0, .int .i64 0, .int .i64 0, .string ⟨#[]⟩] := ⟨_, rfl⟩
  have oa : ((w14.alloc (.cells #[.string ⟨#[]⟩, .slice none 0 0, .slice none 0 0, .slice none 0 0, .bool false] 26)).alloc (.cells #[.int .i64 0, .int .i64 0, .string ⟨#[]⟩, .int .i64 0, .int .i64 0, .int .i64 0, .string ⟨#[]⟩, .int .i64 0, .int .i64 0, .int .i64 0, .string ⟨#[]⟩, .int .i64 0, .int .i64 0, .int .i64 0, .string ⟨#[]⟩, .int .i64 0, .int .i64 0, .int .i64 0, .string ⟨#[]⟩] 51)).heap[w14.heap.size]? = some (.cells #[.string ⟨#[]⟩, .slice none 0 0, .slice none 0 0, .slice none 0 0, .bool false] 26 (0, 0)) := hkeep (heap_alloc_new _ _) _
  have ob : ((w14.alloc (.cells #[.string ⟨#[]⟩, .slice none 0 0, .slice none 0 0, .slice none 0 0, .bool false] 26)).alloc (.cells #[.int .i64 0, .int .i64 0, .string ⟨#[]⟩, .int .i64 0, .int .i64 0, .int .i64 0, .string ⟨#[]⟩, .int .i64 0, .int .i64 0, .int .i64 0, .string ⟨#[]⟩, .int .i64 0, .int .i64 0, .int .i64 0, .string ⟨#[]⟩, .int .i64 0, .int .i64 0, .int .i64 0, .string ⟨#[]⟩] 51)).heap[w14.heap.size + 1]? = some (.cells #[.int .i64 0, .int .i64 0, .string ⟨#[]⟩, .int .i64 0, .int .i64 0, .int .i64 0, .string ⟨#[]⟩, .int .i64 0, .int .i64 0, .int .i64 0, .string ⟨#[]⟩, .int .i64 0, .int .i64 0, .int .i64 0, .string ⟨#[]⟩, .int .i64 0, .int .i64 0, .int .i64 0, .string ⟨#[]⟩] 51 (0, 0)) := by simpa using heap_alloc_new (w14.alloc (.cells #[.string ⟨#[]⟩, .slice none 0 0, .slice none 0 0, .slice none 0 0, .bool false] 26)) (.cells #[.int .i64 0, .int .i64 0, .string ⟨#[]⟩, .int .i64 0, .int .i64 0, .int .i64 0, .string ⟨#[]⟩, .int .i64 0, .int .i64 0, .int .i64 0, .string ⟨#[]⟩, .int .i64 0, .int .i64 0, .int .i64 0, .string ⟨#[]⟩, .int .i64 0, .int .i64 0, .int .i64 0, .string ⟨#[]⟩] 51)
  have ob2 : (((w14.alloc (.cells #[.string ⟨#[]⟩, .slice none 0 0, .slice none 0 0, .slice none 0 0, .bool false] 26)).alloc (.cells #[.int .i64 0, .int .i64 0, .string ⟨#[]⟩, .int .i64 0, .int .i64 0, .int .i64 0, .string ⟨#[]⟩, .int .i64 0, .int .i64 0, .int .i64 0, .string ⟨#[]⟩, .int .i64 0, .int .i64 0, .int .i64 0, .string ⟨#[]⟩, .int .i64 0, .int .i64 0, .int .i64 0, .string ⟨#[]⟩] 51)).setRow w14.heap.size cd.toArray).heap[w14.heap.size + 1]? = some (.cells #[.int .i64 0, .int .i64 0, .string ⟨#[]⟩, .int .i64 0, .int .i64 0, .int .i64 0, .string ⟨#[]⟩, .int .i64 0, .int .i64 0, .int .i64 0, .string ⟨#[]⟩, .int .i64 0, .int .i64 0, .int .i64 0, .string ⟨#[]⟩, .int .i64 0, .int .i64 0, .int .i64 0, .string ⟨#[]⟩] 51 (0, 0)) := (setRow_other _ _ _ _ (by omega)).trans ob
  have HOwe := Lib.hid (show we.heap[w14.heap.size]? = some (.cells cd.toArray 26 (0, 0)) by rw [hwe]; exact (setRow_other _ _ _ _ (by omega)).trans (setRow_heap _ _ _ _ _ _ oa))
  have GDwe := Lib.hid (show Below w14.heap.size w14 we by
    rw [hwe]
    exact below_setRow (below_setRow (Below.alloc (Below.alloc (Below.refl _ _) (Nat.le_refl _) _) (by simp) _) (Nat.le_refl _) _) (by omega) _)
  have zwe : w14.heap.size < we.heap.size := (Array.getElem?_eq_some_iff.1 HOwe.out).1
  have GSwe := Lib.hid (show Below w13.heap.size w13 we from Gw14.out.trans (GDwe.out.mono Gw14.out.size))
  have HBe := Lib.hid (HB13.out.trans (GSwe.out.mono HB13.out.size))
  have We := Lib.hid (HB1.out.trans (HBe.out.mono HB1.out.size))
  have HKcd := Lib.hid (nodOk.move (w' := we) HKcd.out (fun k hk => GDwe.out.block k hk.2))
  go_upto_region 15 with (first | (refine wpList_store_row rfl 26 _ _ rfl w14.heap.size cd.toArray rfl rfl 26 #[.string ⟨#[]⟩, .slice none 0 0, .slice none 0 0, .slice none 0 0, .bool false] oa (by simp only [List.size_toArray, hlcd]; kernel_rfl) (by simp [hlcd]) (all_oneCell_toArray (one_nod HKcd.out)) ?_) | (refine wpList_store_row rfl 51 _ _ rfl (w14.heap.size + 1) #[.int .i64 fn.code, .int .i64 fn.place, .string fn.name, .int .i64 0, .int .i64 0, .int .i64 0, .string ⟨#[]⟩, .int .i64 0, .int .i64 0, .int .i64 0, .string ⟨#[]⟩, .int .i64 0, .int .i64 0, .int .i64 0, .string ⟨#[]⟩, .int .i64 0, .int .i64 0, .int .i64 0, .string ⟨#[]⟩] rfl rfl 51 #[.int .i64 0, .int .i64 0, .string ⟨#[]⟩, .int .i64 0, .int .i64 0, .int .i64 0, .string ⟨#[]⟩, .int .i64 0, .int .i64 0, .int .i64 0, .string ⟨#[]⟩, .int .i64 0, .int .i64 0, .int .i64 0, .string ⟨#[]⟩, .int .i64 0, .int .i64 0, .int .i64 0, .string ⟨#[]⟩] ob2 (by kernel_rfl) (by simp) (by simp [Value.oneCell']) ?_))
  rw [← hwe]
  clear hwe oa ob ob2
  have bo := (HBe.out.block (w.heap.size + 1) (by omega)).trans Hpo.out
  go_wp2_with (refine wpList_load_row rfl 31 _ rfl (w.heap.size + 1) rfl 31 #[.string p.name, .slice A4 p.labels.length d4, .slice A5 p.needs.length d5, .slice A6 p.tols.length d6, .string p.req, .slice A7 p.apart.length d7, .slice A8 p.prefer.length d8, .int .i64 p.prio] (0, 0) _ bo Tryz.underlying31 rfl (by kernel_rfl) ?_)
  refine rcheckPod_k _ _ ok p [.string p.name, .slice A4 p.labels.length d4, .slice A5 p.needs.length d5, .slice A6 p.tols.length d6, .string p.req, .slice A7 p.apart.length d7, .slice A8 p.prefer.length d8, .int .i64 p.prio] (fun k hk => Nat.lt_of_lt_of_le (HOK.out k hk) We.out.size) (pdOk.move HP.out (fun k hk => We.out.block k (HOK.out k hk))) FP.out ?_
  rw [HMmp.out]
  intro cf w15 gw15 hkcf
  have hlcf : cf.length = 8 := pdOk.len hkcf
  have yw15 : we.heap.size ≤ w15.heap.size := gw15.size
  have Gw15 := Lib.hid gw15
  have HKcf := Lib.hid (pdOk.bnd (pdOk.mono (ok' := fun k => k < w15.heap.size) (pdOk.bnd hkcf) (fun k hk => hk.2)))
  clear gw15 hkcf bo
  obtain ⟨wg, hwg⟩ : ∃ we, we = (((w15.alloc (.cells #[.string ⟨#[]⟩, .slice none 0 0, .slice none 0 0, .slice none 0 0, .string ⟨#[]⟩, .slice none 0 0, .slice none 0 0, .int .i64 0] 31)).alloc (.cells #[.int .i64 0, .int .i64 0, .string ⟨#[]⟩, .int .i64 0, .int .i64 0, .int .i64 0, .string ⟨#[]⟩, .int .i64 0, .int .i64 0, .int .i64 0, .string ⟨#[]⟩, .int .i64 0, .int .i64 0, .int .i64 0, .string ⟨#[]⟩, .int .i64 0, .int .i64 0, .int .i64 0, .string ⟨#[]⟩] 51)).setRow w15.heap.size cf.toArray).setRow (w15.heap.size + 1) #[.int .i64 fpp.code, .int .i64 fpp.place, .string fpp.name, .int .i64 0, .int .i64 0, .int .i64 0, .string ⟨#[]⟩, .int .i64 0, .int .i64 0, .int .i64 0, .string ⟨#[]⟩, .int .i64 0, .int .i64 0, .int .i64 0, .string ⟨#[]⟩, .int .i64 0, .int .i64 0, .int .i64 0, .string ⟨#[]⟩] := ⟨_, rfl⟩
  have oa : ((w15.alloc (.cells #[.string ⟨#[]⟩, .slice none 0 0, .slice none 0 0, .slice none 0 0, .string ⟨#[]⟩, .slice none 0 0, .slice none 0 0, .int .i64 0] 31)).alloc (.cells #[.int .i64 0, .int .i64 0, .string ⟨#[]⟩, .int .i64 0, .int .i64 0, .int .i64 0, .string ⟨#[]⟩, .int .i64 0, .int .i64 0, .int .i64 0, .string ⟨#[]⟩, .int .i64 0, .int .i64 0, .int .i64 0, .string ⟨#[]⟩, .int .i64 0, .int .i64 0, .int .i64 0, .string ⟨#[]⟩] 51)).heap[w15.heap.size]? = some (.cells #[.string ⟨#[]⟩, .slice none 0 0, .slice none 0 0, .slice none 0 0, .string ⟨#[]⟩, .slice none 0 0, .slice none 0 0, .int .i64 0] 31 (0, 0)) := hkeep (heap_alloc_new _ _) _
  have ob : ((w15.alloc (.cells #[.string ⟨#[]⟩, .slice none 0 0, .slice none 0 0, .slice none 0 0, .string ⟨#[]⟩, .slice none 0 0, .slice none 0 0, .int .i64 0] 31)).alloc (.cells #[.int .i64 0, .int .i64 0, .string ⟨#[]⟩, .int .i64 0, .int .i64 0, .int .i64 0, .string ⟨#[]⟩, .int .i64 0, .int .i64 0, .int .i64 0, .string ⟨#[]⟩, .int .i64 0, .int .i64 0, .int .i64 0, .string ⟨#[]⟩, .int .i64 0, .int .i64 0, .int .i64 0, .string ⟨#[]⟩] 51)).heap[w15.heap.size + 1]? = some (.cells #[.int .i64 0, .int .i64 0, .string ⟨#[]⟩, .int .i64 0, .int .i64 0, .int .i64 0, .string ⟨#[]⟩, .int .i64 0, .int .i64 0, .int .i64 0, .string ⟨#[]⟩, .int .i64 0, .int .i64 0, .int .i64 0, .string ⟨#[]⟩, .int .i64 0, .int .i64 0, .int .i64 0, .string ⟨#[]⟩] 51 (0, 0)) := by simpa using heap_alloc_new (w15.alloc (.cells #[.string ⟨#[]⟩, .slice none 0 0, .slice none 0 0, .slice none 0 0, .string ⟨#[]⟩, .slice none 0 0, .slice none 0 0, .int .i64 0] 31)) (.cells #[.int .i64 0, .int .i64 0, .string ⟨#[]⟩, .int .i64 0, .int .i64 0, .int .i64 0, .string ⟨#[]⟩, .int .i64 0, .int .i64 0, .int .i64 0, .string ⟨#[]⟩, .int .i64 0, .int .i64 0, .int .i64 0, .string ⟨#[]⟩, .int .i64 0, .int .i64 0, .int .i64 0, .string ⟨#[]⟩] 51)
  have ob2 : (((w15.alloc (.cells #[.string ⟨#[]⟩, .slice none 0 0, .slice none 0 0, .slice none 0 0, .string ⟨#[]⟩, .slice none 0 0, .slice none 0 0, .int .i64 0] 31)).alloc (.cells #[.int .i64 0, .int .i64 0, .string ⟨#[]⟩, .int .i64 0, .int .i64 0, .int .i64 0, .string ⟨#[]⟩, .int .i64 0, .int .i64 0, .int .i64 0, .string ⟨#[]⟩, .int .i64 0, .int .i64 0, .int .i64 0, .string ⟨#[]⟩, .int .i64 0, .int .i64 0, .int .i64 0, .string ⟨#[]⟩] 51)).setRow w15.heap.size cf.toArray).heap[w15.heap.size + 1]? = some (.cells #[.int .i64 0, .int .i64 0, .string ⟨#[]⟩, .int .i64 0, .int .i64 0, .int .i64 0, .string ⟨#[]⟩, .int .i64 0, .int .i64 0, .int .i64 0, .string ⟨#[]⟩, .int .i64 0, .int .i64 0, .int .i64 0, .string ⟨#[]⟩, .int .i64 0, .int .i64 0, .int .i64 0, .string ⟨#[]⟩] 51 (0, 0)) := (setRow_other _ _ _ _ (by omega)).trans ob
  have HOwg := Lib.hid (show wg.heap[w15.heap.size]? = some (.cells cf.toArray 31 (0, 0)) by rw [hwg]; exact (setRow_other _ _ _ _ (by omega)).trans (setRow_heap _ _ _ _ _ _ oa))
  have GDwg := Lib.hid (show Below w15.heap.size w15 wg by
    rw [hwg]
    exact below_setRow (below_setRow (Below.alloc (Below.alloc (Below.refl _ _) (Nat.le_refl _) _) (by simp) _) (Nat.le_refl _) _) (by omega) _)
  have zwg : w15.heap.size < wg.heap.size := (Array.getElem?_eq_some_iff.1 HOwg.out).1
  have GSwg := Lib.hid (show Below we.heap.size we wg from Gw15.out.trans (GDwg.out.mono Gw15.out.size))
  have HBg := Lib.hid (HBe.out.trans (GSwg.out.mono HBe.out.size))
  have Wg := Lib.hid (HB1.out.trans (HBg.out.mono HB1.out.size))
  have HKcf := Lib.hid (pdOk.move (w' := wg) HKcf.out (fun k hk => GDwg.out.block k hk.2))
  go_upto_region 16 with (first | (refine wpList_store_row rfl 31 _ _ rfl w15.heap.size cf.toArray rfl rfl 31 #[.string ⟨#[]⟩, .slice none 0 0, .slice none 0 0, .slice none 0 0, .string ⟨#[]⟩, .slice none 0 0, .slice none 0 0, .int .i64 0] oa (by simp only [List.size_toArray, hlcf]; kernel_rfl) (by simp [hlcf]) (all_oneCell_toArray (one_pd HKcf.out)) ?_) | (refine wpList_store_row rfl 51 _ _ rfl (w15.heap.size + 1) #[.int .i64 fpp.code, .int .i64 fpp.place, .string fpp.name, .int .i64 0, .int .i64 0, .int .i64 0, .string ⟨#[]⟩, .int .i64 0, .int .i64 0, .int .i64 0, .string ⟨#[]⟩, .int .i64 0, .int .i64 0, .int .i64 0, .string ⟨#[]⟩, .int .i64 0, .int .i64 0, .int .i64 0, .string ⟨#[]⟩] rfl rfl 51 #[.int .i64 0, .int .i64 0, .string ⟨#[]⟩, .int .i64 0, .int .i64 0, .int .i64 0, .string ⟨#[]⟩, .int .i64 0, .int .i64 0, .int .i64 0, .string ⟨#[]⟩, .int .i64 0, .int .i64 0, .int .i64 0, .string ⟨#[]⟩, .int .i64 0, .int .i64 0, .int .i64 0, .string ⟨#[]⟩] ob2 (by kernel_rfl) (by simp) (by simp [Value.oneCell']) ?_))
  rw [← hwg]
  clear hwg oa ob ob2
  have HY := Lib.hid (show ∀ k, k < wz.heap.size → ¬ (Rg wa.heap.size w4.heap.size) k → ¬ (Rg wy.heap.size w6.heap.size) k → ¬ (Rg w2.heap.size w3.heap.size) k → wg.heap[k]? = wz.heap[k]? from fun k hk h1 h2 h3 => (GSwg.out.block k (by omega)).trans ((GSwe.out.block k (by omega)).trans (HZ.out k hk h1 h2 h3)))
  have by' := (HY.out w5.heap.size (by omega) (fun h => by have h1 := h.1; have h2 := h.2; omega) (fun h => by have h1 := h.1; have h2 := h.2; omega) (fun h => by have h1 := h.1; have h2 := h.2; omega)).trans ((GSwz.out.block w5.heap.size (by omega)).trans ((GSwq.out.block w5.heap.size (by omega)).trans HOwy.out))
  have bd := (GSwg.out.block w14.heap.size (by omega)).trans HOwe.out
  have br := (HY.out w7.heap.size (by omega) (fun h => by have h1 := h.1; have h2 := h.2; omega) (fun h => by have h1 := h.1; have h2 := h.2; omega) (fun h => by have h1 := h.1; have h2 := h.2; omega)).trans HOwz.out
  have HKY := Lib.hid (nodOk.move (w' := wg) HKcy.out (fun k hk => by have h1 := hk.1; have h2 := hk.2; exact (HY.out k (by omega) (fun h => by have h3 := h.1; have h4 := h.2; omega) (fun h => by have h3 := h.1; have h4 := h.2; omega) (fun h => by have h3 := h.1; have h4 := h.2; omega)).trans ((GSwz.out.block k (by omega)).trans (GSwq.out.block k (by omega)))))
  have HKR := Lib.hid (pdOk.move (w' := wg) HKcr.out (fun k hk => by have h1 := hk.1; have h2 := hk.2; exact HY.out k (by omega) (fun h => by have h3 := h.1; have h4 := h.2; omega) (fun h => by have h3 := h.1; have h4 := h.2; omega) (fun h => by have h3 := h.1; have h4 := h.2; omega)))
  have HKD := Lib.hid (nodOk.move (w' := wg) HKcd.out (fun k hk => GSwg.out.block k (by have := hk.2; omega)))
  go_wp2_with (first | (refine wpList_load_row rfl 26 _ rfl w5.heap.size rfl 26 cy.toArray (0, 0) _ by' Tryz.underlying26 rfl (by simp only [List.size_toArray, hlcy]; kernel_rfl) ?_) | (refine wpList_load_row rfl 26 _ rfl w14.heap.size rfl 26 cd.toArray (0, 0) _ bd Tryz.underlying26 rfl (by simp only [List.size_toArray, hlcd]; kernel_rfl) ?_))
  refine sameNode_k _ _ (fun k => k < wg.heap.size) mn cy cd (fun k hk => hk) (nodOk.mono (nodOk.bnd HKY.out) (fun k hk => hk.2)) (nodOk.mono (nodOk.bnd HKD.out) (fun k hk => hk.2)) (chkNode_out FX.out HMmn.out) ?_
  intro wh gh
  have GH := Lib.hid gh
  have yh : wg.heap.size ≤ wh.heap.size := gh.size
  clear gh by' bd
  have br' := (GH.out.block w7.heap.size (by omega)).trans br
  have bf := (GH.out.block w15.heap.size (by omega)).trans HOwg.out
  obtain ⟨ra, rb, rc, rd, re, er, _⟩ := id HKR.out
  subst er
  obtain ⟨fa, fb, fc, fd, fe, ef, _⟩ := id HKcf.out
  subst ef
  have r0 : wh.cell? ⟨w7.heap.size, 0, none⟩ = some (.string mp.name) := cell_at br' rfl
  have r1 : wh.cell? ⟨w7.heap.size, 1, none⟩ = some (ra) := cell_at br' rfl
  have r2 : wh.cell? ⟨w7.heap.size, 2, none⟩ = some (rb) := cell_at br' rfl
  have r3 : wh.cell? ⟨w7.heap.size, 3, none⟩ = some (rc) := cell_at br' rfl
  have r4 : wh.cell? ⟨w7.heap.size, 4, none⟩ = some (.string mp.req) := cell_at br' rfl
  have r5 : wh.cell? ⟨w7.heap.size, 5, none⟩ = some (rd) := cell_at br' rfl
  have r6 : wh.cell? ⟨w7.heap.size, 6, none⟩ = some (re) := cell_at br' rfl
  have r7 : wh.cell? ⟨w7.heap.size, 7, none⟩ = some (.int .i64 mp.prio) := cell_at br' rfl
  have f0 : wh.cell? ⟨w15.heap.size, 0, none⟩ = some (.string mp.name) := cell_at bf rfl
  have f1 : wh.cell? ⟨w15.heap.size, 1, none⟩ = some (fa) := cell_at bf rfl
  have f2 : wh.cell? ⟨w15.heap.size, 2, none⟩ = some (fb) := cell_at bf rfl
  have f3 : wh.cell? ⟨w15.heap.size, 3, none⟩ = some (fc) := cell_at bf rfl
  have f4 : wh.cell? ⟨w15.heap.size, 4, none⟩ = some (.string mp.req) := cell_at bf rfl
  have f5 : wh.cell? ⟨w15.heap.size, 5, none⟩ = some (fd) := cell_at bf rfl
  have f6 : wh.cell? ⟨w15.heap.size, 6, none⟩ = some (fe) := cell_at bf rfl
  have f7 : wh.cell? ⟨w15.heap.size, 7, none⟩ = some (.int .i64 mp.prio) := cell_at bf rfl
  clear br br' bf hlcr hlcf
  go_wp2_with fail
  refine samePod_k _ _ (fun k => k < wg.heap.size) mp [.string mp.name, ra, rb, rc, .string mp.req, rd, re, .int .i64 mp.prio] [.string mp.name, fa, fb, fc, .string mp.req, fd, fe, .int .i64 mp.prio] (fun k hk => Nat.lt_of_lt_of_le hk yh) (pdOk.mono (pdOk.move (pdOk.bnd HKR.out) (fun k hk => GH.out.block k hk.2)) (fun k hk => hk.2)) (pdOk.mono (pdOk.move (pdOk.bnd HKcf.out) (fun k hk => GH.out.block k hk.2)) (fun k hk => hk.2)) (chkPod_out FP.out HMmp.out) ?_
  intro wi gi
  have hv := HR.out wi (HB1.out.trans (((HBg.out.trans (GH.out.mono HBg.out.size)).trans (gi.mono (by omega))).mono HB1.out.size))
  clear gi r0 f0 r1 f1 r2 f2 r3 f3 r4 f4 r5 f5 r6 f6 r7 f7
  go_wp2_with fail
  exact hv
end Go.Proofs.YtdceflgemhcgcaaGreatDoor
