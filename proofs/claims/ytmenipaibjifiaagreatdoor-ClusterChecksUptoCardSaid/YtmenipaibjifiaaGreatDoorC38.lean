/-
The plain facts of berthlaw06.wakes: one node, one pod.
berthlaw06.wakes: true.
berthlaw06.ClusterChecks, walked: whatever node and pod are handed in, it returns true; it writes nothing that lay there.
-/
import Derived.Test.YtmenipaibjifiaaGreatDoorC37
import Derived.Test.YtmenipaibjifiaaGreatDoorC33
import Derived.Test.YtmenipaibjifiaaGreatDoorC22
set_option linter.unusedVariables false
set_option linter.unusedSimpArgs false
namespace Go.Proofs.YtmenipaibjifiaaGreatDoor
open Go.RowKit Go.BigFrame

def cpuW : ByteArray := ⟨#[99, 112, 117]⟩
def bW : ByteArray := ⟨#[98]⟩
def pW : ByteArray := ⟨#[112]⟩
def qW : ByteArray := ⟨#[113]⟩
def n0W : Nod := ⟨bW, [], [], [⟨cpuW, 4⟩], false⟩
def podW (name : ByteArray) (k : Int) : Pd := ⟨name, [], [⟨cpuW, k⟩], [], ⟨#[]⟩, [], [], 0⟩
def S1W : CSt := addS CSt.empty n0W
def S2W : CSt := bindS S1W bW (podW pW 3)
theorem chk0W : chkNode n0W = (n0W, flt0) := by kernel_rfl
theorem chkpW : chkPod (podW pW 3) = (podW pW 3, flt0) := by kernel_rfl
theorem chkqW : chkPod (podW qW 2) = (podW qW 2, flt0) := by kernel_rfl
theorem fit0W : NodFit n0W := ⟨by decide, ⟨(fun s h => by cases h), by decide⟩, ⟨(fun s h => by cases h), by decide⟩, ⟨(fun s h => by simp [n0W] at h; subst h; decide), by decide⟩⟩
theorem fitW (k : Int) (hk : 0 ≤ k ∧ k ≤ 9) (n : ByteArray) (hn : n.size ≤ 1048576) : PdFit (podW n k) := ⟨hn, ⟨(fun s h => by cases h), by simp [podW]⟩, ⟨(fun s h => by cases h), by simp [podW]⟩, ⟨fun s h => by
  simp [podW] at h
  subst h
  exact ⟨by simp only; decide, by simp only; omega⟩, by simp [podW]⟩, by simp [podW], by simp [podW]⟩
theorem goodW (k : Int) (hk : 0 < k ∧ k ≤ 9) : GoodI [⟨cpuW, k⟩] := ⟨by simp, by simp, fun s h => by
  simp at h
  subst h
  exact ⟨by simp only; kernel_rfl, by simp only; omega⟩⟩
theorem free0W : freeT CSt.empty.nodes = 0 := rfl
theorem free1W : freeT S1W.bound = 0 := rfl
theorem there1W : There S1W bW 0 ⟨true, bW, n0W⟩ := ⟨by decide, by decide, by kernel_rfl, by rfl, by decide, by decide, by decide⟩
theorem there2W : There S2W bW 0 ⟨true, bW, n0W⟩ := ⟨by decide, by decide, by kernel_rfl, by rfl, by decide, by decide, by decide⟩
theorem sums1W : S1W.sums bW = none := rfl
theorem pods1W : S1W.pods bW = none := rfl
theorem both1W : bothN [] [⟨cpuW, 3⟩] = [cpuW] := by rw [bothN_b]; simp [bothN]
theorem both2W : bothN [⟨cpuW, 4⟩] [⟨cpuW, 3⟩] = [cpuW] := by rw [bothN_eq (x := ⟨cpuW, 4⟩) (y := ⟨cpuW, 3⟩) (ltB_irrefl cpuW) (ltB_irrefl cpuW)]; simp [bothN]
theorem getW (k : Int) : qget [⟨cpuW, k⟩] cpuW = k := by simp [qget]
theorem sums2W : (S2W.sums bW).getD [] = [⟨cpuW, 3⟩] := by
  show ((ups S1W.sums bW (some (addI ((S1W.sums bW).getD []) [⟨cpuW, 3⟩]))) bW).getD [] = _
  rw [ups_same, sums1W]
  unfold addI
  rw [show ((none : Option (List Itm)).getD []) = [] from rfl, both1W]
  simp [addE, qget]
theorem sub2W : subI [⟨cpuW, 4⟩] [⟨cpuW, 3⟩] = [⟨cpuW, 1⟩] := by
  unfold subI
  rw [both2W]
  simp [subE, getW, posI]
theorem fitSubW (n : ByteArray) : qget [⟨cpuW, 3⟩] n ≤ qget [⟨cpuW, 4⟩] n := by
  unfold qget
  by_cases h : cpuW = n <;> simp [h]
theorem fitAddW (n : ByteArray) : qget [] n + qget [⟨cpuW, 3⟩] n ≤ 9223372036854775807 := by
  unfold qget
  by_cases h : cpuW = n <;> simp [h]
theorem short1W : shortI [⟨cpuW, 3⟩] [⟨cpuW, 4⟩] [] = (⟨#[]⟩, 0) := by kernel_rfl
theorem short2W : shortI [⟨cpuW, 2⟩] [⟨cpuW, 4⟩] [⟨cpuW, 3⟩] = (cpuW, 29) := by kernel_rfl
theorem one_chg {w : World} {ok : Nat → Prop} {x : Chg} {cs : List Value} (h : chgK w ok x cs) : ∀ u ∈ cs, u.oneCell' = true := by
  obtain ⟨c1, c2, c3, rfl, h1, h2, h3⟩ := h
  intro u hu
  simp only [List.mem_append, List.mem_cons, List.not_mem_nil, or_false] at hu
  rcases hu with (rfl | rfl | rfl) | hu | hu | hu
  · rfl
  · rfl
  · rfl
  · exact one_nod h1 u hu
  · exact one_nod h2 u hu
  · exact one_pd h3 u hu
theorem chg_cells {w : World} {ok : Nat → Prop} {x : Chg} {cs : List Value} (h : chgK w ok x cs) : cs.toArray[0]? = some (.int .i64 x.kind) ∧ cs.toArray[1]? = some (.int .i64 x.slot) ∧ cs.toArray[2]? = some (.int .i64 x.podSlot) ∧ cs.toArray[8]? = some (.string x.now.name) ∧ cs.toArray[13]? = some (.string x.pod.name) := by
  obtain ⟨c1, c2, c3, rfl, ⟨_, _, _, rfl, _⟩, ⟨_, _, _, rfl, _⟩, ⟨_, _, _, _, _, rfl, _⟩⟩ := h
  exact ⟨rfl, rfl, rfl, rfl, rfl⟩
theorem item_sl {w : World} {T : TypeId} (s : Itm) : SlK itmK 2 (w.alloc (.cells #[.string s.name, .int .i64 s.n] T)) (fun k => k = w.heap.size) (.slice (some ⟨w.heap.size, 0, none⟩) 1 1) [s] := by
  refine ⟨_, _, rfl, Nat.le_refl _, by simp [maxLen], .inr ⟨w.heap.size, 0, rfl, rfl, by simp, fun j x hx => ?_⟩⟩
  cases j with
  | succ j => simp at hx
  | zero =>
    simp at hx
    subst hx
    refine ⟨_, rfl, rfl, fun i u hu => cell_at (heap_alloc_new w _) ?_⟩
    rw [← Array.getElem?_toList]
    simpa [itmC] using hu
theorem GOk.mine {w w' : World} {own : COwn} {N : Nat} (h : GOk w) (hg : 0 < N) (ho : ∀ k, k < N → own k = none) (hm : Mod (Mine own) w w') : GOk w' := h.mod hm (fun e => e (ho _ hg))
theorem GOk.lt {w : World} (h : GOk w) : 0 < w.heap.size := by
  obtain ⟨m, hm⟩ := h
  exact World.block_lt_of_cell? _ _ hm
theorem Mod.mine {w w' : World} {own : COwn} {N : Nat} (hm : Mod (Mine own) w w') (hN : N ≤ w.heap.size) (ho : ∀ k, k < N → own k = none) : Below N w w' := hm.below hN (fun k hk => by
  rcases Nat.lt_or_ge k N with h | h
  · exact absurd (ho k h) hk
  · exact h)
end Go.Proofs.YtmenipaibjifiaaGreatDoor

namespace Go.Proofs.YtmenipaibjifiaaGreatDoor
open Go.RowKit Go.BigFrame

set_option maxRecDepth 100000 in
set_option maxHeartbeats 16000000 in
theorem wakes6_k (R : Ending → World → Prop) (w : World) (hG : GOk w) (hR : ∀ w', Below w.heap.size w w' → R (.returned (.bool true)) w') :
    Calls Tryz.prog 29 #[] w R := by
  have HR := Lib.hid hR
  have hgl := hG.lt
  have HGL := Lib.hid hgl
  have HG := Lib.hid hG
  clear hR hG hgl
  go_enter Tryz.func29, Tryz.ntmps29
  go_wp2_with fail
  refine newClu_k _ _ ?_
  intro h own w1 g1 hc1 ho1
  have G1 := Lib.hid g1
  have HC1 := Lib.hid hc1
  have HO1 := Lib.hid ho1
  have HG1 := Lib.hid (HG.out.below g1)
  clear g1 hc1 ho1
  go_wp2_with fail
  have GA := Lib.hid (show Below w1.heap.size w1 (w1.alloc (.cells #[.string ⟨#[99, 112, 117]⟩, .int .i64 4] 185)) from Below.alloc (Below.refl _ _) (Nat.le_refl _) _)
  refine addOk_k _ _ h own CSt.empty (HG1.out.below GA.out) (HC1.out.below GA.out) (fun k => k = w1.heap.size) (fun k hk => by subst hk; simp) n0W [.string ⟨#[98]⟩, .slice none 0 0, .slice none 0 0, .slice (some ⟨w1.heap.size, 0, none⟩) 1 1, .bool false] ⟨_, _, _, rfl, SlK.nil, SlK.nil, item_sl (w := w1) (⟨cpuW, 4⟩ : Itm)⟩ fit0W n0W chk0W ⟨by decide, by decide, by decide⟩ (by decide) (by decide) rfl (by decide) (by decide) (by decide) ?_
  intro h2 own2 cs2 w2 hcc hc2 he2 hm2 hk2
  obtain ⟨f0, f1, f2, f8, _⟩ := chg_cells hk2
  have hl2 : cs2.length = 21 := chgOk.len hk2
  have HK2 := Lib.hid hk2
  have HC2 := Lib.hid (show CluAt w2 h2 own2 S1W from hc2)
  have B2 := Lib.hid (show Below w.heap.size w w2 from (G1.out.trans (GA.out.mono G1.out.size)).trans (hm2.mine (Nat.le_trans G1.out.size GA.out.size) HO1.out))
  have HG2 := Lib.hid ((HG1.out.below GA.out).mine HGL.out HO1.out hm2)
  have HO2 := Lib.hid (show ∀ k, k < w.heap.size → own2 k = none from fun k hk => (he2 k (Nat.lt_of_lt_of_le hk (Nat.le_trans G1.out.size GA.out.size))).trans (HO1.out k hk))
  have HCC := Lib.hid hcc
  clear hc2 he2 hm2 hk2 hcc
  have oa : (w2.alloc (.cells #[.int .i64 0, .int .i64 0, .int .i64 0, .string ⟨#[]⟩, .slice none 0 0, .slice none 0 0, .slice none 0 0, .bool false, .string ⟨#[]⟩, .slice none 0 0, .slice none 0 0, .slice none 0 0, .bool false, .string ⟨#[]⟩, .slice none 0 0, .slice none 0 0, .slice none 0 0, .string ⟨#[]⟩, .slice none 0 0, .slice none 0 0, .int .i64 0] 42)).heap[w2.heap.size]? = some (.cells #[.int .i64 0, .int .i64 0, .int .i64 0, .string ⟨#[]⟩, .slice none 0 0, .slice none 0 0, .slice none 0 0, .bool false, .string ⟨#[]⟩, .slice none 0 0, .slice none 0 0, .slice none 0 0, .bool false, .string ⟨#[]⟩, .slice none 0 0, .slice none 0 0, .slice none 0 0, .string ⟨#[]⟩, .slice none 0 0, .slice none 0 0, .int .i64 0] 42 (0, 0)) := heap_alloc_new _ _
  obtain ⟨w3, hw3⟩ : ∃ w3, w3 = (w2.alloc (.cells #[.int .i64 0, .int .i64 0, .int .i64 0, .string ⟨#[]⟩, .slice none 0 0, .slice none 0 0, .slice none 0 0, .bool false, .string ⟨#[]⟩, .slice none 0 0, .slice none 0 0, .slice none 0 0, .bool false, .string ⟨#[]⟩, .slice none 0 0, .slice none 0 0, .slice none 0 0, .string ⟨#[]⟩, .slice none 0 0, .slice none 0 0, .int .i64 0] 42)).setRow w2.heap.size cs2.toArray := ⟨_, rfl⟩
  have o3 : w3.heap[w2.heap.size]? = some (.cells cs2.toArray 42 (0, 0)) := by rw [hw3]; exact setRow_heap _ _ _ _ _ _ oa
  have G3 := Lib.hid (show Below w2.heap.size w2 w3 by rw [hw3]; exact below_setRow (Below.alloc (Below.refl _ _) (Nat.le_refl _) _) (Nat.le_refl _) _)
  go_upto_region 3 with (refine wpList_store_row rfl 42 _ _ rfl w2.heap.size cs2.toArray rfl rfl 42 #[.int .i64 0, .int .i64 0, .int .i64 0, .string ⟨#[]⟩, .slice none 0 0, .slice none 0 0, .slice none 0 0, .bool false, .string ⟨#[]⟩, .slice none 0 0, .slice none 0 0, .slice none 0 0, .bool false, .string ⟨#[]⟩, .slice none 0 0, .slice none 0 0, .slice none 0 0, .string ⟨#[]⟩, .slice none 0 0, .slice none 0 0, .int .i64 0] oa (by simp only [List.size_toArray, hl2]; kernel_rfl) (by simp [hl2]) (all_oneCell_toArray (one_chg HK2.out)) ?_)
  rw [← hw3]
  clear hw3 oa
  have c0 : w3.cell? ⟨w2.heap.size, 0, none⟩ = some (.int .i64 1) := cell_at o3 f0
  have c1 : w3.cell? ⟨w2.heap.size, 1, none⟩ = some (.int .i64 0) := cell_at o3 f1
  have c2 : w3.cell? ⟨w2.heap.size, 2, none⟩ = some (.int .i64 (-1)) := cell_at o3 f2
  have c8 : w3.cell? ⟨w2.heap.size, 8, none⟩ = some (.string ⟨#[98]⟩) := cell_at o3 f8
  clear f0 f1 f2 f8 hl2 o3
  go_wp2_with fail
  clear c0 c1 c2 c8
  rw [← HCC.out]
  have GB := Lib.hid (show Below w3.heap.size w3 (w3.alloc (.cells #[.string ⟨#[99, 112, 117]⟩, .int .i64 3] 185)) from Below.alloc (Below.refl _ _) (Nat.le_refl _) _)
  have B3 := Lib.hid (B2.out.trans (G3.out.mono B2.out.size))
  have B3b := Lib.hid (B3.out.trans (GB.out.mono B3.out.size))
  have HG3 := Lib.hid (HG2.out.below G3.out)
  refine bindOk_k _ _ h2 own2 S1W (HG3.out.below GB.out) ((HC2.out.below G3.out).below GB.out) (fun k => k = w3.heap.size) (fun k hk => by subst hk; simp) (podW pW 3) [.string ⟨#[112]⟩, .slice none 0 0, .slice (some ⟨w3.heap.size, 0, none⟩) 1 1, .slice none 0 0, .string ⟨#[]⟩, .slice none 0 0, .slice none 0 0, .int .i64 0] ⟨_, _, _, _, _, rfl, SlK.nil, item_sl (w := w3) (⟨cpuW, 3⟩ : Itm), SlK.nil, SlK.nil, SlK.nil⟩ (fitW 3 (by decide) _ (by decide)) (podW pW 3) chkpW bW 0 ⟨true, bW, n0W⟩ there1W (by decide) (by decide) rfl (by decide) (goodW 3 (by decide)) (goodW 4 (by decide)) (by rw [sums1W]; exact GoodI.nil) (by decide) (by decide) (by rw [sums1W]; exact short1W) pods1W (by rw [sums1W]; show (bothN [] [⟨cpuW, 3⟩]).length ≤ 16; rw [both1W]; decide) (by rw [sums1W]; exact fitAddW) ⟨by decide, by decide, by decide, by decide, by decide⟩ ?_
  intro h4 own4 cs4 w4 hcc hc4 he4 hm4 hk4
  obtain ⟨f0, _, f2, _, f13⟩ := chg_cells hk4
  have hl4 : cs4.length = 21 := chgOk.len hk4
  have HK4 := Lib.hid hk4
  have HC4 := Lib.hid (show CluAt w4 h4 own4 S2W from hc4)
  have B4 := Lib.hid (show Below w.heap.size w w4 from B3b.out.trans (hm4.mine B3b.out.size HO2.out))
  have HG4 := Lib.hid ((HG3.out.below GB.out).mine HGL.out HO2.out hm4)
  have HC42 := Lib.hid hcc
  clear hc4 he4 hm4 hk4 hcc
  have oa : (w4.alloc (.cells #[.int .i64 0, .int .i64 0, .int .i64 0, .string ⟨#[]⟩, .slice none 0 0, .slice none 0 0, .slice none 0 0, .bool false, .string ⟨#[]⟩, .slice none 0 0, .slice none 0 0, .slice none 0 0, .bool false, .string ⟨#[]⟩, .slice none 0 0, .slice none 0 0, .slice none 0 0, .string ⟨#[]⟩, .slice none 0 0, .slice none 0 0, .int .i64 0] 42)).heap[w4.heap.size]? = some (.cells #[.int .i64 0, .int .i64 0, .int .i64 0, .string ⟨#[]⟩, .slice none 0 0, .slice none 0 0, .slice none 0 0, .bool false, .string ⟨#[]⟩, .slice none 0 0, .slice none 0 0, .slice none 0 0, .bool false, .string ⟨#[]⟩, .slice none 0 0, .slice none 0 0, .slice none 0 0, .string ⟨#[]⟩, .slice none 0 0, .slice none 0 0, .int .i64 0] 42 (0, 0)) := heap_alloc_new _ _
  obtain ⟨w5, hw5⟩ : ∃ w5, w5 = (w4.alloc (.cells #[.int .i64 0, .int .i64 0, .int .i64 0, .string ⟨#[]⟩, .slice none 0 0, .slice none 0 0, .slice none 0 0, .bool false, .string ⟨#[]⟩, .slice none 0 0, .slice none 0 0, .slice none 0 0, .bool false, .string ⟨#[]⟩, .slice none 0 0, .slice none 0 0, .slice none 0 0, .string ⟨#[]⟩, .slice none 0 0, .slice none 0 0, .int .i64 0] 42)).setRow w4.heap.size cs4.toArray := ⟨_, rfl⟩
  have o5 : w5.heap[w4.heap.size]? = some (.cells cs4.toArray 42 (0, 0)) := by rw [hw5]; exact setRow_heap _ _ _ _ _ _ oa
  have G5 := Lib.hid (show Below w4.heap.size w4 w5 by rw [hw5]; exact below_setRow (Below.alloc (Below.refl _ _) (Nat.le_refl _) _) (Nat.le_refl _) _)
  go_upto_region 6 with (refine wpList_store_row rfl 42 _ _ rfl w4.heap.size cs4.toArray rfl rfl 42 #[.int .i64 0, .int .i64 0, .int .i64 0, .string ⟨#[]⟩, .slice none 0 0, .slice none 0 0, .slice none 0 0, .bool false, .string ⟨#[]⟩, .slice none 0 0, .slice none 0 0, .slice none 0 0, .bool false, .string ⟨#[]⟩, .slice none 0 0, .slice none 0 0, .slice none 0 0, .string ⟨#[]⟩, .slice none 0 0, .slice none 0 0, .int .i64 0] oa (by simp only [List.size_toArray, hl4]; kernel_rfl) (by simp [hl4]) (all_oneCell_toArray (one_chg HK4.out)) ?_)
  rw [← hw5]
  clear hw5 oa
  have c0 : w5.cell? ⟨w4.heap.size, 0, none⟩ = some (.int .i64 4) := cell_at o5 f0
  have c2 : w5.cell? ⟨w4.heap.size, 2, none⟩ = some (.int .i64 0) := cell_at o5 f2
  have c13 : w5.cell? ⟨w4.heap.size, 13, none⟩ = some (.string ⟨#[112]⟩) := cell_at o5 f13
  clear f0 f2 f13 hl4 o5
  go_wp2_with fail
  clear c0 c2 c13
  rw [← HC42.out]
  refine roomOk_k _ _ h4 own4 S2W bW (HC4.out.below G5.out) 0 ⟨true, bW, n0W⟩ there2W (goodW 4 (by decide)) (by rw [sums2W]; exact goodW 3 (by decide)) (by rw [sums2W]; exact fitSubW) ?_
  rw [sums2W]
  intro v6 w6 g6 hs6
  have hs6 : SlK itmK 2 w6 (fun k => w5.heap.size ≤ k) v6 [⟨cpuW, 1⟩] := by
    have h := hs6
    rwa [show subI (⟨true, bW, n0W⟩ : SRow Nod).thing.cap [⟨cpuW, 3⟩] = [⟨cpuW, 1⟩] from sub2W] at h
  have G6 := Lib.hid g6
  have HS6 := Lib.hid (hs6.bnd itmOk)
  clear g6
  obtain ⟨bl, off, c6, e6, hc6a, hc6b, _, hbl, hce⟩ := hs6.addr (by simp)
  obtain ⟨y0, y1⟩ := ritems_k_cells hce 0 (by simp)
  subst e6
  have Y0 := Lib.hid (show w6.cell? ⟨bl, off, none⟩ = some (.string ⟨#[99, 112, 117]⟩) by simp at y0; exact y0)
  have Y1 := Lib.hid (show w6.cell? ⟨bl, off + 1, none⟩ = some (.int .i64 1) by simp at y1; exact y1)
  clear hs6 hce y0 y1
  have B5 := Lib.hid (B4.out.trans (G5.out.mono B4.out.size))
  have B6 := Lib.hid (B5.out.trans (G6.out.mono B5.out.size))
  have HG6 := Lib.hid ((HG4.out.below G5.out).below G6.out)
  have GC := Lib.hid (show Below w6.heap.size w6 (w6.alloc (.cells #[.string ⟨#[99, 112, 117]⟩, .int .i64 2] 185)) from Below.alloc (Below.refl _ _) (Nat.le_refl _) _)
  go_wp2_with fail
  try rw [← HC42.out]
  refine bindShort_k _ _ h4 own4 S2W (HG6.out.below GC.out) (((HC4.out.below G5.out).below G6.out).below GC.out) (fun k => k = w6.heap.size) (fun k hk => by subst hk; simp) (podW qW 2) [.string ⟨#[113]⟩, .slice none 0 0, .slice (some ⟨w6.heap.size, 0, none⟩) 1 1, .slice none 0 0, .string ⟨#[]⟩, .slice none 0 0, .slice none 0 0, .int .i64 0] ⟨_, _, _, _, _, rfl, SlK.nil, item_sl (w := w6) (⟨cpuW, 2⟩ : Itm), SlK.nil, SlK.nil, SlK.nil⟩ (fitW 2 (by decide) _ (by decide)) (podW qW 2) chkqW bW 0 ⟨true, bW, n0W⟩ there2W (by decide) (by decide) (by kernel_rfl) (by decide) (goodW 2 (by decide)) (goodW 4 (by decide)) (by rw [sums2W]; exact goodW 3 (by decide)) cpuW (by rw [sums2W]; exact short2W) ?_
  intro ve w7 g7 he7
  have G7 := Lib.hid (GC.out.trans (g7.mono GC.out.size))
  have HE7 := Lib.hid he7
  have x0 : w7.cell? ⟨bl, off, none⟩ = some (.string ⟨#[99, 112, 117]⟩) := (Mod.of_below G7.out).cell' Y0.out (fun h => h)
  have x1 : w7.cell? ⟨bl, off + 1, none⟩ = some (.int .i64 1) := (Mod.of_below G7.out).cell' Y1.out (fun h => h)
  have B7 := Lib.hid (B6.out.trans (G7.out.mono B6.out.size))
  clear g7 he7
  go_wp2_with fail
  refine read_k _ _ ve _ HE7.out ?_
  intro w8 g8
  dsimp only [refuseF, cpuW]
  have B8 := Lib.hid (B7.out.trans (g8.mono B7.out.size))
  clear g8
  go_wp2_with fail
  refine rrefuse_k _ _ 68 ⟨#[99, 112, 117]⟩ ?_
  intro w9 g9
  have ha := arrEq w9
  have hv := HR.out w9 (B8.out.trans (g9.mono B8.out.size))
  clear g9
  go_wp2_with fail
  exact hv
end Go.Proofs.YtmenipaibjifiaaGreatDoor

namespace Go.Proofs.YtmenipaibjifiaaGreatDoor
open Go.RowKit Go.BigFrame

theorem labMake_len (xs : List Lab) : (labMake xs).1.length ≤ xs.length := by
  unfold labMake
  split
  · simp
  · split
    · simp
    · simp [srt_length]
theorem tntMake_len (xs : List Tnt) : (tntMake xs).1.length ≤ xs.length := by
  unfold tntMake
  split
  · simp
  · split
    · simp
    · split
      · simp
      · simp [srt_length]
theorem itmMake_len (xs : List Itm) : (itmMake xs).1.length ≤ xs.length := by
  unfold itmMake
  split
  · simp
  · split
    · simp
    · exact Nat.le_trans (List.length_filter_le _ _) (by simp [srt_length])
theorem rng_all {W : World} {b : Nat} {cs : List Value} {T : TypeId} {fr : Nat × Nat} (h : W.heap[b]? = some (.cells cs.toArray T fr)) : W.rangeAt b 0 cs := fun j u hu => by
  rw [Nat.zero_add]
  exact cell_at h (by simpa using hu)
theorem nod0_short : NodShort nod0 := ⟨by decide, by decide, by decide⟩
theorem pd0_short : PdShort pd0 := ⟨by decide, by decide, by decide, by decide, by decide⟩
theorem chkNode_in {x : Nod} (h : NodFit x) : NodShort x := ⟨h.2.1.2, h.2.2.1.2, h.2.2.2.2⟩
theorem chkPod_in {x : Pd} (h : PdFit x) : PdShort x := ⟨h.2.1.2, h.2.2.2.1.2, h.2.2.1.2, h.2.2.2.2.1, h.2.2.2.2.2⟩
theorem chkNode_out {x m : Nod} {f : Flt} (h : NodFit x) (hm : chkNode x = (m, f)) : NodShort m := by
  have e : m = (chkNode x).1 := by rw [hm]
  obtain ⟨_, ⟨_, h1⟩, ⟨_, h2⟩, ⟨_, h3⟩⟩ := h
  have l1 := labMake_len x.labels
  have l2 := tntMake_len x.taints
  have l3 := itmMake_len x.cap
  rw [e]
  unfold chkNode
  split
  · exact nod0_short
  · split
    · exact nod0_short
    · split
      · exact nod0_short
      · split
        · exact nod0_short
        · exact ⟨by simp only; omega, by simp only; omega, by simp only; omega⟩
theorem chkPod_out {x m : Pd} {f : Flt} (h : PdFit x) (hm : chkPod x = (m, f)) : PdShort m := by
  have e : m = (chkPod x).1 := by rw [hm]
  obtain ⟨_, ⟨_, h1⟩, ⟨_, h2⟩, ⟨_, h3⟩, h4, h5⟩ := h
  have l1 := labMake_len x.labels
  have l3 := itmMake_len x.needs
  rw [e]
  unfold chkPod
  split
  · exact pd0_short
  · split
    · exact pd0_short
    · split
      · exact pd0_short
      · split
        · exact pd0_short
        · exact ⟨by simp only; omega, by simp only; omega, h2, h4, h5⟩
set_option maxRecDepth 100000 in
set_option maxHeartbeats 16000000 in
theorem clusterChecks_k (R : Ending → World → Prop) (w : World) (ok : Nat → Prop) (x : Nod) (csn : List Value) (p : Pd) (csp : List Value) (hG : GOk w) (hok : ∀ k, ok k → k < w.heap.size) (hx : nodK w ok x csn) (hp : pdK w ok p csp) (fx : NodFit x) (fp : PdFit p)
    (hR : ∀ w', Below w.heap.size w w' → R (.returned (.bool true)) w') :
    Calls Tryz.prog 7 #[.agg csn.toArray, .agg csp.toArray] w R := by
  have hln : csn.length = 5 := nodOk.len hx
  have hlp : csp.length = 8 := pdOk.len hp
  have HR := Lib.hid hR
  have HOK := Lib.hid hok
  have HX := Lib.hid hx
  have HP := Lib.hid hp
  have FX := Lib.hid fx
  have FP := Lib.hid fp
  obtain ⟨w1, hw1⟩ : ∃ w1, w1 = (w.alloc (.cells csn.toArray 35)).alloc (.cells csp.toArray 40) := ⟨_, rfl⟩
  have HB1 := Lib.hid (show Below w.heap.size w w1 by
    rw [hw1]
    exact Below.alloc (Below.alloc (Below.refl _ _) (Nat.le_refl _) _) (by simp) _)
  have z1 : w.heap.size + 2 ≤ w1.heap.size := by rw [hw1]; simp
  have Hno := Lib.hid (show w1.heap[w.heap.size]? = some (.cells csn.toArray 35 (0, 0)) by rw [hw1]; exact hkeep (heap_alloc_new w _) _)
  have Hpo := Lib.hid (show w1.heap[w.heap.size + 1]? = some (.cells csp.toArray 40 (0, 0)) by rw [hw1]; simpa using heap_alloc_new (w.alloc (.cells csn.toArray 35)) (.cells csp.toArray 40))
  have HG1 := Lib.hid (hG.below HB1.out)
  clear hR hok hx hp fx fp hG
  go_enter Tryz.func7, Tryz.ntmps7
  go_upto_region 1 with fail
  rw [← hw1]
  clear hw1
  go_wp2_with fail
  refine wakes6_k _ _ HG1.out ?_
  intro w2 g2
  have w2G := Lib.hid g2
  clear g2
  obtain ⟨mn, fn, hmn⟩ : ∃ m f, chkNode x = (m, f) := ⟨_, _, rfl⟩
  have HMn := Lib.hid hmn
  clear hmn
  have bo := ((w2G.out.block (w.heap.size) (by omega))).trans Hno.out
  go_wp2_with (refine wpList_load_row rfl 35 _ rfl (w.heap.size) rfl 35 csn.toArray (0, 0) _ bo Tryz.underlying35 rfl (by simp only [List.size_toArray, hln]; kernel_rfl) ?_)
  have HBb := Lib.hid (HB1.out.trans (w2G.out.mono HB1.out.size))
  refine copyNode_k _ _ ok x csn (fun k hk => Nat.lt_of_lt_of_le (HOK.out k hk) HBb.out.size) (nodOk.move HX.out (fun k hk => HBb.out.block k (HOK.out k hk))) (chkNode_in FX.out) ?_
  intro ca wa ga hka
  have GAn := Lib.hid (w2G.out.trans (ga.mono w2G.out.size))
  have HBa := Lib.hid (HB1.out.trans (GAn.out.mono HB1.out.size))
  have HKa := Lib.hid (nodOk.bnd hka)
  clear ga hka bo
  go_wp2_with fail
  refine checkNode_k _ _ (fun k => k < wa.heap.size) x ca (HG1.out.below GAn.out) (fun k hk => hk) (nodOk.mono HKa.out (fun k hk => hk.2)) FX.out ?_
  rw [HMn.out]
  intro cb ve wb gb hkb heb
  have hlb : cb.length = 5 := nodOk.len hkb
  have GBn := Lib.hid (GAn.out.trans (gb.mono GAn.out.size))
  have HKb := Lib.hid (nodOk.bnd hkb)
  have HEb := Lib.hid heb
  clear gb hkb heb
  obtain ⟨wc, hwc⟩ : ∃ wc, wc = (wb.alloc (.cells #[.string ⟨#[]⟩, .slice none 0 0, .slice none 0 0, .slice none 0 0, .bool false] 35)).setRow wb.heap.size cb.toArray := ⟨_, rfl⟩
  have oa : (wb.alloc (.cells #[.string ⟨#[]⟩, .slice none 0 0, .slice none 0 0, .slice none 0 0, .bool false] 35)).heap[wb.heap.size]? = some (.cells #[.string ⟨#[]⟩, .slice none 0 0, .slice none 0 0, .slice none 0 0, .bool false] 35 (0, 0)) := heap_alloc_new _ _
  have oc : wc.heap[wb.heap.size]? = some (.cells cb.toArray 35 (0, 0)) := by rw [hwc]; exact setRow_heap _ _ _ _ _ _ oa
  have GBC := Lib.hid (show Below wb.heap.size wb wc by rw [hwc]; exact below_setRow (Below.alloc (Below.refl _ _) (Nat.le_refl _) _) (Nat.le_refl _) _)
  have GCn := Lib.hid (GBn.out.trans (GBC.out.mono GBn.out.size))
  have HOC := Lib.hid oc
  go_upto_region 4 with (refine wpList_store_row rfl 35 _ _ rfl wb.heap.size cb.toArray rfl rfl 35 #[.string ⟨#[]⟩, .slice none 0 0, .slice none 0 0, .slice none 0 0, .bool false] oa (by simp only [List.size_toArray, hlb]; kernel_rfl) (by simp [hlb]) (all_oneCell_toArray (one_nod HKb.out)) ?_)
  rw [← hwc]
  clear hwc oa oc
  have bo := (GCn.out.block (w.heap.size) (by omega)).trans Hno.out
  have HBc := Lib.hid (HB1.out.trans (GCn.out.mono HB1.out.size))
  go_wp2_with (refine wpList_load_row rfl 35 _ rfl (w.heap.size) rfl 35 csn.toArray (0, 0) _ bo Tryz.underlying35 rfl (by simp only [List.size_toArray, hln]; kernel_rfl) ?_)
  refine rcheckNode_k _ _ ok x csn (fun k hk => Nat.lt_of_lt_of_le (HOK.out k hk) HBc.out.size) (nodOk.move HX.out (fun k hk => HBc.out.block k (HOK.out k hk))) FX.out ?_
  rw [HMn.out]
  intro cd wd gd hkd
  have hld : cd.length = 5 := nodOk.len hkd
  have GDn := Lib.hid (GCn.out.trans (gd.mono GCn.out.size))
  have GCD := Lib.hid gd
  have HKd := Lib.hid (nodOk.bnd (nodOk.mono (ok' := fun k => k < wd.heap.size) (nodOk.bnd hkd) (fun k hk => hk.2)))
  clear gd hkd bo
  obtain ⟨we, hwe⟩ : ∃ we, we = (((wd.alloc (.cells #[.string ⟨#[]⟩, .slice none 0 0, .slice none 0 0, .slice none 0 0, .bool false] 35)).alloc (.cells #[.int .i64 0, .int .i64 0, .string ⟨#[]⟩, .int .i64 0, .int .i64 0, .int .i64 0, .string ⟨#[]⟩, .int .i64 0, .int .i64 0, .int .i64 0, .string ⟨#[]⟩, .int .i64 0, .int .i64 0, .int .i64 0, .string ⟨#[]⟩, .int .i64 0, .int .i64 0, .int .i64 0, .string ⟨#[]⟩] 87)).setRow wd.heap.size cd.toArray).setRow (wd.heap.size + 1) #[.int .i64 fn.code, .int .i64 fn.place, .string fn.name, .int .i64 0, .int .i64 0, .int .i64 0, .string ⟨#[]⟩, .int .i64 0, .int .i64 0, .int .i64 0, .string ⟨#[]⟩, .int .i64 0, .int .i64 0, .int .i64 0, .string ⟨#[]⟩, .int .i64 0, .int .i64 0, .int .i64 0, .string ⟨#[]⟩] := ⟨_, rfl⟩
  have oa : ((wd.alloc (.cells #[.string ⟨#[]⟩, .slice none 0 0, .slice none 0 0, .slice none 0 0, .bool false] 35)).alloc (.cells #[.int .i64 0, .int .i64 0, .string ⟨#[]⟩, .int .i64 0, .int .i64 0, .int .i64 0, .string ⟨#[]⟩, .int .i64 0, .int .i64 0, .int .i64 0, .string ⟨#[]⟩, .int .i64 0, .int .i64 0, .int .i64 0, .string ⟨#[]⟩, .int .i64 0, .int .i64 0, .int .i64 0, .string ⟨#[]⟩] 87)).heap[wd.heap.size]? = some (.cells #[.string ⟨#[]⟩, .slice none 0 0, .slice none 0 0, .slice none 0 0, .bool false] 35 (0, 0)) := hkeep (heap_alloc_new _ _) _
  have ob : ((wd.alloc (.cells #[.string ⟨#[]⟩, .slice none 0 0, .slice none 0 0, .slice none 0 0, .bool false] 35)).alloc (.cells #[.int .i64 0, .int .i64 0, .string ⟨#[]⟩, .int .i64 0, .int .i64 0, .int .i64 0, .string ⟨#[]⟩, .int .i64 0, .int .i64 0, .int .i64 0, .string ⟨#[]⟩, .int .i64 0, .int .i64 0, .int .i64 0, .string ⟨#[]⟩, .int .i64 0, .int .i64 0, .int .i64 0, .string ⟨#[]⟩] 87)).heap[wd.heap.size + 1]? = some (.cells #[.int .i64 0, .int .i64 0, .string ⟨#[]⟩, .int .i64 0, .int .i64 0, .int .i64 0, .string ⟨#[]⟩, .int .i64 0, .int .i64 0, .int .i64 0, .string ⟨#[]⟩, .int .i64 0, .int .i64 0, .int .i64 0, .string ⟨#[]⟩, .int .i64 0, .int .i64 0, .int .i64 0, .string ⟨#[]⟩] 87 (0, 0)) := by simpa using heap_alloc_new (wd.alloc (.cells #[.string ⟨#[]⟩, .slice none 0 0, .slice none 0 0, .slice none 0 0, .bool false] 35)) (.cells #[.int .i64 0, .int .i64 0, .string ⟨#[]⟩, .int .i64 0, .int .i64 0, .int .i64 0, .string ⟨#[]⟩, .int .i64 0, .int .i64 0, .int .i64 0, .string ⟨#[]⟩, .int .i64 0, .int .i64 0, .int .i64 0, .string ⟨#[]⟩, .int .i64 0, .int .i64 0, .int .i64 0, .string ⟨#[]⟩] 87)
  have ob2 : (((wd.alloc (.cells #[.string ⟨#[]⟩, .slice none 0 0, .slice none 0 0, .slice none 0 0, .bool false] 35)).alloc (.cells #[.int .i64 0, .int .i64 0, .string ⟨#[]⟩, .int .i64 0, .int .i64 0, .int .i64 0, .string ⟨#[]⟩, .int .i64 0, .int .i64 0, .int .i64 0, .string ⟨#[]⟩, .int .i64 0, .int .i64 0, .int .i64 0, .string ⟨#[]⟩, .int .i64 0, .int .i64 0, .int .i64 0, .string ⟨#[]⟩] 87)).setRow wd.heap.size cd.toArray).heap[wd.heap.size + 1]? = some (.cells #[.int .i64 0, .int .i64 0, .string ⟨#[]⟩, .int .i64 0, .int .i64 0, .int .i64 0, .string ⟨#[]⟩, .int .i64 0, .int .i64 0, .int .i64 0, .string ⟨#[]⟩, .int .i64 0, .int .i64 0, .int .i64 0, .string ⟨#[]⟩, .int .i64 0, .int .i64 0, .int .i64 0, .string ⟨#[]⟩] 87 (0, 0)) := (setRow_other _ _ _ _ (by omega)).trans ob
  have oe : we.heap[wd.heap.size]? = some (.cells cd.toArray 35 (0, 0)) := by rw [hwe]; exact (setRow_other _ _ _ _ (by omega)).trans (setRow_heap _ _ _ _ _ _ oa)
  have of : we.heap[wd.heap.size + 1]? = some (.cells #[.int .i64 fn.code, .int .i64 fn.place, .string fn.name, .int .i64 0, .int .i64 0, .int .i64 0, .string ⟨#[]⟩, .int .i64 0, .int .i64 0, .int .i64 0, .string ⟨#[]⟩, .int .i64 0, .int .i64 0, .int .i64 0, .string ⟨#[]⟩, .int .i64 0, .int .i64 0, .int .i64 0, .string ⟨#[]⟩] 87 (0, 0)) := by rw [hwe]; exact setRow_heap _ _ _ _ _ _ ob2
  have GDE := Lib.hid (show Below wd.heap.size wd we by
    rw [hwe]
    exact below_setRow (below_setRow (Below.alloc (Below.alloc (Below.refl _ _) (Nat.le_refl _) _) (by simp) _) (Nat.le_refl _) _) (by omega) _)
  have GEn := Lib.hid (GDn.out.trans (GDE.out.mono GDn.out.size))
  have oce := (((GCD.out.trans (GDE.out.mono GCD.out.size)).block wb.heap.size (Array.getElem?_eq_some_iff.1 HOC.out).1)).trans HOC.out
  go_upto_region 5 with (first | (refine wpList_store_row rfl 35 _ _ rfl wd.heap.size cd.toArray rfl rfl 35 #[.string ⟨#[]⟩, .slice none 0 0, .slice none 0 0, .slice none 0 0, .bool false] oa (by simp only [List.size_toArray, hld]; kernel_rfl) (by simp [hld]) (all_oneCell_toArray (one_nod HKd.out)) ?_) | (refine wpList_store_row rfl 87 _ _ rfl (wd.heap.size + 1) #[.int .i64 fn.code, .int .i64 fn.place, .string fn.name, .int .i64 0, .int .i64 0, .int .i64 0, .string ⟨#[]⟩, .int .i64 0, .int .i64 0, .int .i64 0, .string ⟨#[]⟩, .int .i64 0, .int .i64 0, .int .i64 0, .string ⟨#[]⟩, .int .i64 0, .int .i64 0, .int .i64 0, .string ⟨#[]⟩] rfl rfl 87 #[.int .i64 0, .int .i64 0, .string ⟨#[]⟩, .int .i64 0, .int .i64 0, .int .i64 0, .string ⟨#[]⟩, .int .i64 0, .int .i64 0, .int .i64 0, .string ⟨#[]⟩, .int .i64 0, .int .i64 0, .int .i64 0, .string ⟨#[]⟩, .int .i64 0, .int .i64 0, .int .i64 0, .string ⟨#[]⟩] ob2 (by kernel_rfl) (by simp) (by simp [Value.oneCell']) ?_))
  rw [← hwe]
  clear hwe oa ob ob2
  have HEe := Lib.hid (HEb.out.below (GBC.out.trans ((GCD.out.trans (GDE.out.mono GCD.out.size)).mono GBC.out.size)))
  have HKbe := Lib.hid (nodOk.move (w' := we) HKb.out (fun k hk => (GBC.out.trans ((GCD.out.trans (GDE.out.mono GCD.out.size)).mono GBC.out.size)).block k hk.2))
  have HKde := Lib.hid (nodOk.move (w' := we) HKd.out (fun k hk => GDE.out.block k hk.2))
  have OCE := Lib.hid oce
  have OE := Lib.hid oe
  have OF := Lib.hid of
  have HK := Lib.hid (show ∀ W, Below we.heap.size we W → Below we.heap.size we W ∧ W.rangeAt wb.heap.size 0 cb ∧ W.rangeAt wd.heap.size 0 cd ∧ W.rangeAt (wd.heap.size + 1) 0 [.int .i64 fn.code, .int .i64 fn.place, .string fn.name, .int .i64 0, .int .i64 0, .int .i64 0, .string ⟨#[]⟩, .int .i64 0, .int .i64 0, .int .i64 0, .string ⟨#[]⟩, .int .i64 0, .int .i64 0, .int .i64 0, .string ⟨#[]⟩, .int .i64 0, .int .i64 0, .int .i64 0, .string ⟨#[]⟩] from fun W g => ⟨g, rng_all ((g.block wb.heap.size (Array.getElem?_eq_some_iff.1 OCE.out).1).trans OCE.out), rng_all ((g.block wd.heap.size (Array.getElem?_eq_some_iff.1 OE.out).1).trans OE.out), rng_all (cs := [.int .i64 fn.code, .int .i64 fn.place, .string fn.name, .int .i64 0, .int .i64 0, .int .i64 0, .string ⟨#[]⟩, .int .i64 0, .int .i64 0, .int .i64 0, .string ⟨#[]⟩, .int .i64 0, .int .i64 0, .int .i64 0, .string ⟨#[]⟩, .int .i64 0, .int .i64 0, .int .i64 0, .string ⟨#[]⟩]) ((g.block (wd.heap.size + 1) (Array.getElem?_eq_some_iff.1 OF.out).1).trans OF.out)⟩)
  clear oce oe of
  have YA := Lib.hid (Below.refl we.heap.size we).drew
  have ha := arrEq
  refine wp_region_held_drew (S := fun W => Below we.heap.size we W ∧ W.rangeAt wb.heap.size 0 cb ∧ W.rangeAt wd.heap.size 0 cd ∧ W.rangeAt (wd.heap.size + 1) 0 [.int .i64 fn.code, .int .i64 fn.place, .string fn.name, .int .i64 0, .int .i64 0, .int .i64 0, .string ⟨#[]⟩, .int .i64 0, .int .i64 0, .int .i64 0, .string ⟨#[]⟩, .int .i64 0, .int .i64 0, .int .i64 0, .string ⟨#[]⟩, .int .i64 0, .int .i64 0, .int .i64 0, .string ⟨#[]⟩]) (by kernel_rfl) (HK.out _ YA.out) (fun hHeld => ?_)
  refine' wpAnyH_take (i := 0) (v := _) (List.getElem?_toArray.trans rfl) (by kernel_rfl) (by kernel_rfl) (by kernel_rfl) (fun _ _ _ h => h) (Or.inl ⟨by rfl, ?y0an⟩) hHeld ?r0an
  case y0an => intro w h; (try dsimp only at h); go_simp; (try with_reducible rfl)
  try simp only [Act.put, List.setIfInBounds_toArray, List.set_cons_zero, List.set_cons_succ]
  refine' wpAnyH_take (i := 2) (v := _) (List.getElem?_toArray.trans rfl) (by kernel_rfl) (by kernel_rfl) (by kernel_rfl) (fun _ _ _ h => h) (yieldsIf_load_mid (by rfl) 87 _ rfl (wd.heap.size + 1) 0 rfl [.int .i64 fn.code, .int .i64 fn.place, .string fn.name, .int .i64 0, .int .i64 0, .int .i64 0, .string ⟨#[]⟩, .int .i64 0, .int .i64 0, .int .i64 0, .string ⟨#[]⟩, .int .i64 0, .int .i64 0, .int .i64 0, .string ⟨#[]⟩, .int .i64 0, .int .i64 0, .int .i64 0, .string ⟨#[]⟩] _ (fun V hV => hV.2.2.2) Tryz.underlying87 rfl (by kernel_rfl)) hHeld ?_
  try simp only [Act.put, List.setIfInBounds_toArray, List.set_cons_zero, List.set_cons_succ]
  refine wpAnyH_ready (rs := [1]) (by kernel_rfl) (by simp) ?_
  refine AllReadyH.cons (List.getElem?_toArray.trans rfl) (fun K hK => ?_) AllReadyH.nil
  go_simp
  refine read_k _ _ ve fn (HEe.out.below YA.out) ?_
  intro wf gf
  have YF := Lib.hid (YA.out.trans (gf.mono YA.out.size))
  clear gf
  go_wp2_with fail
  refine hK.out _ _ (HK.out _ YF.out) (fun hHeld => ?_)
  clear hK K
  try simp only [Act.put, List.setIfInBounds_toArray, List.set_cons_zero, List.set_cons_succ]
  refine' wpAnyH_take (i := 3) (v := _) (List.getElem?_toArray.trans rfl) (by kernel_rfl) (by kernel_rfl) (by kernel_rfl) (fun _ _ _ h => h) (Or.inl ⟨by rfl, ?y3bn⟩) hHeld ?r3bn
  case y3bn => intro w h; (try dsimp only at h); go_simp; (try with_reducible rfl)
  try simp only [Act.put, List.setIfInBounds_toArray, List.set_cons_zero, List.set_cons_succ]
  refine' wpAnyH_take (i := 4) (v := _) (List.getElem?_toArray.trans rfl) (by kernel_rfl) (by kernel_rfl) (by kernel_rfl) (fun _ _ _ h => h) (Or.inl ⟨by rfl, ?y4bn⟩) hHeld ?r4bn
  case y4bn => intro w h; (try dsimp only at h); go_simp; (try with_reducible rfl)
  try simp only [Act.put, List.setIfInBounds_toArray, List.set_cons_zero, List.set_cons_succ]
  refine' wpAnyH_take (i := 5) (v := _) (List.getElem?_toArray.trans rfl) (by kernel_rfl) (by kernel_rfl) (by kernel_rfl) (fun _ _ _ h => h) (yieldsIf_load_mid (by rfl) 35 _ rfl wb.heap.size 0 rfl cb _ (fun V hV => hV.2.1) Tryz.underlying35 rfl (by rw [hlb]; kernel_rfl)) hHeld ?_
  try simp only [Act.put, List.setIfInBounds_toArray, List.set_cons_zero, List.set_cons_succ]
  refine' wpAnyH_take (i := 6) (v := _) (List.getElem?_toArray.trans rfl) (by kernel_rfl) (by kernel_rfl) (by kernel_rfl) (fun _ _ _ h => h) (yieldsIf_load_mid (by rfl) 35 _ rfl wd.heap.size 0 rfl cd _ (fun V hV => hV.2.2.1) Tryz.underlying35 rfl (by rw [hld]; kernel_rfl)) hHeld ?_
  try simp only [Act.put, List.setIfInBounds_toArray, List.set_cons_zero, List.set_cons_succ]
  refine wpAnyH_ready (rs := [7]) (by kernel_rfl) (by simp) ?_
  refine AllReadyH.cons (List.getElem?_toArray.trans rfl) (fun K hK => ?_) AllReadyH.nil
  go_simp
  refine sameNode_k _ _ (fun k => k < we.heap.size) mn cb cd (fun k hk => Nat.lt_of_lt_of_le hk YF.out.size) (nodOk.mono (nodOk.move (nodOk.bnd HKbe.out) (fun k hk => YF.out.block k hk.2)) (fun k hk => hk.2)) (nodOk.mono (nodOk.move (nodOk.bnd HKde.out) (fun k hk => YF.out.block k hk.2)) (fun k hk => hk.2)) (chkNode_out FX.out HMn.out) ?_
  intro wg gg
  have YG := Lib.hid (YF.out.trans (gg.mono YF.out.size))
  clear gg
  go_wp2_with fail
  refine hK.out _ _ (HK.out _ YG.out) (fun hHeld => ?_)
  clear hK K
  try simp only [Act.put, List.setIfInBounds_toArray, List.set_cons_zero, List.set_cons_succ]
  refine' wpAnyH_take (i := 8) (v := _) (List.getElem?_toArray.trans rfl) (by kernel_rfl) (by kernel_rfl) (by kernel_rfl) (fun _ _ _ h => h) (Or.inl ⟨by rfl, ?y8cn⟩) hHeld ?r8cn
  case y8cn => intro w h; (try dsimp only at h); go_simp; (try with_reducible rfl)
  try simp only [Act.put, List.setIfInBounds_toArray, List.set_cons_zero, List.set_cons_succ]
  refine' wpAnyH_take (i := 9) (v := _) (List.getElem?_toArray.trans rfl) (by kernel_rfl) (by kernel_rfl) (by kernel_rfl) (fun _ _ _ h => h) (Or.inl ⟨by rfl, ?y9cn⟩) hHeld ?r9cn
  case y9cn => intro w h; (try dsimp only at h); go_simp; (try with_reducible rfl)
  try simp only [Act.put, List.setIfInBounds_toArray, List.set_cons_zero, List.set_cons_succ]
  refine wpAnyH_done (by kernel_rfl) ?_ _
  have Gn2 := Lib.hid (GEn.out.trans (YG.out.mono GEn.out.size))
  clear hlb hld ha
  obtain ⟨mp, fp, hmp⟩ : ∃ m f, chkPod p = (m, f) := ⟨_, _, rfl⟩
  have HMp := Lib.hid hmp
  clear hmp
  have bo := ((Gn2.out.block (w.heap.size + 1) (by omega))).trans Hpo.out
  go_wp2_with (refine wpList_load_row rfl 40 _ rfl (w.heap.size + 1) rfl 40 csp.toArray (0, 0) _ bo Tryz.underlying40 rfl (by simp only [List.size_toArray, hlp]; kernel_rfl) ?_)
  have HBb := Lib.hid (HB1.out.trans (Gn2.out.mono HB1.out.size))
  refine copyPod_k _ _ ok p csp (fun k hk => Nat.lt_of_lt_of_le (HOK.out k hk) HBb.out.size) (pdOk.move HP.out (fun k hk => HBb.out.block k (HOK.out k hk))) (chkPod_in FP.out) ?_
  intro ca wa ga hka
  have GAp := Lib.hid (Gn2.out.trans (ga.mono Gn2.out.size))
  have HBa := Lib.hid (HB1.out.trans (GAp.out.mono HB1.out.size))
  have HKa := Lib.hid (pdOk.bnd hka)
  clear ga hka bo
  go_wp2_with fail
  refine checkPod_k _ _ (fun k => k < wa.heap.size) p ca (HG1.out.below GAp.out) (fun k hk => hk) (pdOk.mono HKa.out (fun k hk => hk.2)) FP.out ?_
  rw [HMp.out]
  intro cb ve wb gb hkb heb
  have hlb : cb.length = 8 := pdOk.len hkb
  have GBp := Lib.hid (GAp.out.trans (gb.mono GAp.out.size))
  have HKb := Lib.hid (pdOk.bnd hkb)
  have HEb := Lib.hid heb
  clear gb hkb heb
  obtain ⟨wc, hwc⟩ : ∃ wc, wc = (wb.alloc (.cells #[.string ⟨#[]⟩, .slice none 0 0, .slice none 0 0, .slice none 0 0, .string ⟨#[]⟩, .slice none 0 0, .slice none 0 0, .int .i64 0] 40)).setRow wb.heap.size cb.toArray := ⟨_, rfl⟩
  have oa : (wb.alloc (.cells #[.string ⟨#[]⟩, .slice none 0 0, .slice none 0 0, .slice none 0 0, .string ⟨#[]⟩, .slice none 0 0, .slice none 0 0, .int .i64 0] 40)).heap[wb.heap.size]? = some (.cells #[.string ⟨#[]⟩, .slice none 0 0, .slice none 0 0, .slice none 0 0, .string ⟨#[]⟩, .slice none 0 0, .slice none 0 0, .int .i64 0] 40 (0, 0)) := heap_alloc_new _ _
  have oc : wc.heap[wb.heap.size]? = some (.cells cb.toArray 40 (0, 0)) := by rw [hwc]; exact setRow_heap _ _ _ _ _ _ oa
  have GBC := Lib.hid (show Below wb.heap.size wb wc by rw [hwc]; exact below_setRow (Below.alloc (Below.refl _ _) (Nat.le_refl _) _) (Nat.le_refl _) _)
  have GCp := Lib.hid (GBp.out.trans (GBC.out.mono GBp.out.size))
  have HOC := Lib.hid oc
  go_upto_region 8 with (refine wpList_store_row rfl 40 _ _ rfl wb.heap.size cb.toArray rfl rfl 40 #[.string ⟨#[]⟩, .slice none 0 0, .slice none 0 0, .slice none 0 0, .string ⟨#[]⟩, .slice none 0 0, .slice none 0 0, .int .i64 0] oa (by simp only [List.size_toArray, hlb]; kernel_rfl) (by simp [hlb]) (all_oneCell_toArray (one_pd HKb.out)) ?_)
  rw [← hwc]
  clear hwc oa oc
  have bo := (GCp.out.block (w.heap.size + 1) (by omega)).trans Hpo.out
  have HBc := Lib.hid (HB1.out.trans (GCp.out.mono HB1.out.size))
  go_wp2_with (refine wpList_load_row rfl 40 _ rfl (w.heap.size + 1) rfl 40 csp.toArray (0, 0) _ bo Tryz.underlying40 rfl (by simp only [List.size_toArray, hlp]; kernel_rfl) ?_)
  refine rcheckPod_k _ _ ok p csp (fun k hk => Nat.lt_of_lt_of_le (HOK.out k hk) HBc.out.size) (pdOk.move HP.out (fun k hk => HBc.out.block k (HOK.out k hk))) FP.out ?_
  rw [HMp.out]
  intro cd wd gd hkd
  have hld : cd.length = 8 := pdOk.len hkd
  have GDp := Lib.hid (GCp.out.trans (gd.mono GCp.out.size))
  have GCD := Lib.hid gd
  have HKd := Lib.hid (pdOk.bnd (pdOk.mono (ok' := fun k => k < wd.heap.size) (pdOk.bnd hkd) (fun k hk => hk.2)))
  clear gd hkd bo
  obtain ⟨we, hwe⟩ : ∃ we, we = (((wd.alloc (.cells #[.string ⟨#[]⟩, .slice none 0 0, .slice none 0 0, .slice none 0 0, .string ⟨#[]⟩, .slice none 0 0, .slice none 0 0, .int .i64 0] 40)).alloc (.cells #[.int .i64 0, .int .i64 0, .string ⟨#[]⟩, .int .i64 0, .int .i64 0, .int .i64 0, .string ⟨#[]⟩, .int .i64 0, .int .i64 0, .int .i64 0, .string ⟨#[]⟩, .int .i64 0, .int .i64 0, .int .i64 0, .string ⟨#[]⟩, .int .i64 0, .int .i64 0, .int .i64 0, .string ⟨#[]⟩] 87)).setRow wd.heap.size cd.toArray).setRow (wd.heap.size + 1) #[.int .i64 fp.code, .int .i64 fp.place, .string fp.name, .int .i64 0, .int .i64 0, .int .i64 0, .string ⟨#[]⟩, .int .i64 0, .int .i64 0, .int .i64 0, .string ⟨#[]⟩, .int .i64 0, .int .i64 0, .int .i64 0, .string ⟨#[]⟩, .int .i64 0, .int .i64 0, .int .i64 0, .string ⟨#[]⟩] := ⟨_, rfl⟩
  have oa : ((wd.alloc (.cells #[.string ⟨#[]⟩, .slice none 0 0, .slice none 0 0, .slice none 0 0, .string ⟨#[]⟩, .slice none 0 0, .slice none 0 0, .int .i64 0] 40)).alloc (.cells #[.int .i64 0, .int .i64 0, .string ⟨#[]⟩, .int .i64 0, .int .i64 0, .int .i64 0, .string ⟨#[]⟩, .int .i64 0, .int .i64 0, .int .i64 0, .string ⟨#[]⟩, .int .i64 0, .int .i64 0, .int .i64 0, .string ⟨#[]⟩, .int .i64 0, .int .i64 0, .int .i64 0, .string ⟨#[]⟩] 87)).heap[wd.heap.size]? = some (.cells #[.string ⟨#[]⟩, .slice none 0 0, .slice none 0 0, .slice none 0 0, .string ⟨#[]⟩, .slice none 0 0, .slice none 0 0, .int .i64 0] 40 (0, 0)) := hkeep (heap_alloc_new _ _) _
  have ob : ((wd.alloc (.cells #[.string ⟨#[]⟩, .slice none 0 0, .slice none 0 0, .slice none 0 0, .string ⟨#[]⟩, .slice none 0 0, .slice none 0 0, .int .i64 0] 40)).alloc (.cells #[.int .i64 0, .int .i64 0, .string ⟨#[]⟩, .int .i64 0, .int .i64 0, .int .i64 0, .string ⟨#[]⟩, .int .i64 0, .int .i64 0, .int .i64 0, .string ⟨#[]⟩, .int .i64 0, .int .i64 0, .int .i64 0, .string ⟨#[]⟩, .int .i64 0, .int .i64 0, .int .i64 0, .string ⟨#[]⟩] 87)).heap[wd.heap.size + 1]? = some (.cells #[.int .i64 0, .int .i64 0, .string ⟨#[]⟩, .int .i64 0, .int .i64 0, .int .i64 0, .string ⟨#[]⟩, .int .i64 0, .int .i64 0, .int .i64 0, .string ⟨#[]⟩, .int .i64 0, .int .i64 0, .int .i64 0, .string ⟨#[]⟩, .int .i64 0, .int .i64 0, .int .i64 0, .string ⟨#[]⟩] 87 (0, 0)) := by simpa using heap_alloc_new (wd.alloc (.cells #[.string ⟨#[]⟩, .slice none 0 0, .slice none 0 0, .slice none 0 0, .string ⟨#[]⟩, .slice none 0 0, .slice none 0 0, .int .i64 0] 40)) (.cells #[.int .i64 0, .int .i64 0, .string ⟨#[]⟩, .int .i64 0, .int .i64 0, .int .i64 0, .string ⟨#[]⟩, .int .i64 0, .int .i64 0, .int .i64 0, .string ⟨#[]⟩, .int .i64 0, .int .i64 0, .int .i64 0, .string ⟨#[]⟩, .int .i64 0, .int .i64 0, .int .i64 0, .string ⟨#[]⟩] 87)
  have ob2 : (((wd.alloc (.cells #[.string ⟨#[]⟩, .slice none 0 0, .slice none 0 0, .slice none 0 0, .string ⟨#[]⟩, .slice none 0 0, .slice none 0 0, .int .i64 0] 40)).alloc (.cells #[.int .i64 0, .int .i64 0, .string ⟨#[]⟩, .int .i64 0, .int .i64 0, .int .i64 0, .string ⟨#[]⟩, .int .i64 0, .int .i64 0, .int .i64 0, .string ⟨#[]⟩, .int .i64 0, .int .i64 0, .int .i64 0, .string ⟨#[]⟩, .int .i64 0, .int .i64 0, .int .i64 0, .string ⟨#[]⟩] 87)).setRow wd.heap.size cd.toArray).heap[wd.heap.size + 1]? = some (.cells #[.int .i64 0, .int .i64 0, .string ⟨#[]⟩, .int .i64 0, .int .i64 0, .int .i64 0, .string ⟨#[]⟩, .int .i64 0, .int .i64 0, .int .i64 0, .string ⟨#[]⟩, .int .i64 0, .int .i64 0, .int .i64 0, .string ⟨#[]⟩, .int .i64 0, .int .i64 0, .int .i64 0, .string ⟨#[]⟩] 87 (0, 0)) := (setRow_other _ _ _ _ (by omega)).trans ob
  have oe : we.heap[wd.heap.size]? = some (.cells cd.toArray 40 (0, 0)) := by rw [hwe]; exact (setRow_other _ _ _ _ (by omega)).trans (setRow_heap _ _ _ _ _ _ oa)
  have of : we.heap[wd.heap.size + 1]? = some (.cells #[.int .i64 fp.code, .int .i64 fp.place, .string fp.name, .int .i64 0, .int .i64 0, .int .i64 0, .string ⟨#[]⟩, .int .i64 0, .int .i64 0, .int .i64 0, .string ⟨#[]⟩, .int .i64 0, .int .i64 0, .int .i64 0, .string ⟨#[]⟩, .int .i64 0, .int .i64 0, .int .i64 0, .string ⟨#[]⟩] 87 (0, 0)) := by rw [hwe]; exact setRow_heap _ _ _ _ _ _ ob2
  have GDE := Lib.hid (show Below wd.heap.size wd we by
    rw [hwe]
    exact below_setRow (below_setRow (Below.alloc (Below.alloc (Below.refl _ _) (Nat.le_refl _) _) (by simp) _) (Nat.le_refl _) _) (by omega) _)
  have GEp := Lib.hid (GDp.out.trans (GDE.out.mono GDp.out.size))
  have oce := (((GCD.out.trans (GDE.out.mono GCD.out.size)).block wb.heap.size (Array.getElem?_eq_some_iff.1 HOC.out).1)).trans HOC.out
  go_upto_region 9 with (first | (refine wpList_store_row rfl 40 _ _ rfl wd.heap.size cd.toArray rfl rfl 40 #[.string ⟨#[]⟩, .slice none 0 0, .slice none 0 0, .slice none 0 0, .string ⟨#[]⟩, .slice none 0 0, .slice none 0 0, .int .i64 0] oa (by simp only [List.size_toArray, hld]; kernel_rfl) (by simp [hld]) (all_oneCell_toArray (one_pd HKd.out)) ?_) | (refine wpList_store_row rfl 87 _ _ rfl (wd.heap.size + 1) #[.int .i64 fp.code, .int .i64 fp.place, .string fp.name, .int .i64 0, .int .i64 0, .int .i64 0, .string ⟨#[]⟩, .int .i64 0, .int .i64 0, .int .i64 0, .string ⟨#[]⟩, .int .i64 0, .int .i64 0, .int .i64 0, .string ⟨#[]⟩, .int .i64 0, .int .i64 0, .int .i64 0, .string ⟨#[]⟩] rfl rfl 87 #[.int .i64 0, .int .i64 0, .string ⟨#[]⟩, .int .i64 0, .int .i64 0, .int .i64 0, .string ⟨#[]⟩, .int .i64 0, .int .i64 0, .int .i64 0, .string ⟨#[]⟩, .int .i64 0, .int .i64 0, .int .i64 0, .string ⟨#[]⟩, .int .i64 0, .int .i64 0, .int .i64 0, .string ⟨#[]⟩] ob2 (by kernel_rfl) (by simp) (by simp [Value.oneCell']) ?_))
  rw [← hwe]
  clear hwe oa ob ob2
  have HEe := Lib.hid (HEb.out.below (GBC.out.trans ((GCD.out.trans (GDE.out.mono GCD.out.size)).mono GBC.out.size)))
  have HKbe := Lib.hid (pdOk.move (w' := we) HKb.out (fun k hk => (GBC.out.trans ((GCD.out.trans (GDE.out.mono GCD.out.size)).mono GBC.out.size)).block k hk.2))
  have HKde := Lib.hid (pdOk.move (w' := we) HKd.out (fun k hk => GDE.out.block k hk.2))
  have OCE := Lib.hid oce
  have OE := Lib.hid oe
  have OF := Lib.hid of
  have HK := Lib.hid (show ∀ W, Below we.heap.size we W → Below we.heap.size we W ∧ W.rangeAt wb.heap.size 0 cb ∧ W.rangeAt wd.heap.size 0 cd ∧ W.rangeAt (wd.heap.size + 1) 0 [.int .i64 fp.code, .int .i64 fp.place, .string fp.name, .int .i64 0, .int .i64 0, .int .i64 0, .string ⟨#[]⟩, .int .i64 0, .int .i64 0, .int .i64 0, .string ⟨#[]⟩, .int .i64 0, .int .i64 0, .int .i64 0, .string ⟨#[]⟩, .int .i64 0, .int .i64 0, .int .i64 0, .string ⟨#[]⟩] from fun W g => ⟨g, rng_all ((g.block wb.heap.size (Array.getElem?_eq_some_iff.1 OCE.out).1).trans OCE.out), rng_all ((g.block wd.heap.size (Array.getElem?_eq_some_iff.1 OE.out).1).trans OE.out), rng_all (cs := [.int .i64 fp.code, .int .i64 fp.place, .string fp.name, .int .i64 0, .int .i64 0, .int .i64 0, .string ⟨#[]⟩, .int .i64 0, .int .i64 0, .int .i64 0, .string ⟨#[]⟩, .int .i64 0, .int .i64 0, .int .i64 0, .string ⟨#[]⟩, .int .i64 0, .int .i64 0, .int .i64 0, .string ⟨#[]⟩]) ((g.block (wd.heap.size + 1) (Array.getElem?_eq_some_iff.1 OF.out).1).trans OF.out)⟩)
  clear oce oe of
  have YA := Lib.hid (Below.refl we.heap.size we).drew
  have ha := arrEq
  refine wp_region_held_drew (S := fun W => Below we.heap.size we W ∧ W.rangeAt wb.heap.size 0 cb ∧ W.rangeAt wd.heap.size 0 cd ∧ W.rangeAt (wd.heap.size + 1) 0 [.int .i64 fp.code, .int .i64 fp.place, .string fp.name, .int .i64 0, .int .i64 0, .int .i64 0, .string ⟨#[]⟩, .int .i64 0, .int .i64 0, .int .i64 0, .string ⟨#[]⟩, .int .i64 0, .int .i64 0, .int .i64 0, .string ⟨#[]⟩, .int .i64 0, .int .i64 0, .int .i64 0, .string ⟨#[]⟩]) (by kernel_rfl) (HK.out _ YA.out) (fun hHeld => ?_)
  refine' wpAnyH_take (i := 0) (v := _) (List.getElem?_toArray.trans rfl) (by kernel_rfl) (by kernel_rfl) (by kernel_rfl) (fun _ _ _ h => h) (Or.inl ⟨by rfl, ?y0ap⟩) hHeld ?r0ap
  case y0ap => intro w h; (try dsimp only at h); go_simp; (try with_reducible rfl)
  try simp only [Act.put, List.setIfInBounds_toArray, List.set_cons_zero, List.set_cons_succ]
  refine' wpAnyH_take (i := 2) (v := _) (List.getElem?_toArray.trans rfl) (by kernel_rfl) (by kernel_rfl) (by kernel_rfl) (fun _ _ _ h => h) (yieldsIf_load_mid (by rfl) 87 _ rfl (wd.heap.size + 1) 0 rfl [.int .i64 fp.code, .int .i64 fp.place, .string fp.name, .int .i64 0, .int .i64 0, .int .i64 0, .string ⟨#[]⟩, .int .i64 0, .int .i64 0, .int .i64 0, .string ⟨#[]⟩, .int .i64 0, .int .i64 0, .int .i64 0, .string ⟨#[]⟩, .int .i64 0, .int .i64 0, .int .i64 0, .string ⟨#[]⟩] _ (fun V hV => hV.2.2.2) Tryz.underlying87 rfl (by kernel_rfl)) hHeld ?_
  try simp only [Act.put, List.setIfInBounds_toArray, List.set_cons_zero, List.set_cons_succ]
  refine wpAnyH_ready (rs := [1]) (by kernel_rfl) (by simp) ?_
  refine AllReadyH.cons (List.getElem?_toArray.trans rfl) (fun K hK => ?_) AllReadyH.nil
  go_simp
  refine read_k _ _ ve fp (HEe.out.below YA.out) ?_
  intro wf gf
  have YF := Lib.hid (YA.out.trans (gf.mono YA.out.size))
  clear gf
  go_wp2_with fail
  refine hK.out _ _ (HK.out _ YF.out) (fun hHeld => ?_)
  clear hK K
  try simp only [Act.put, List.setIfInBounds_toArray, List.set_cons_zero, List.set_cons_succ]
  refine' wpAnyH_take (i := 3) (v := _) (List.getElem?_toArray.trans rfl) (by kernel_rfl) (by kernel_rfl) (by kernel_rfl) (fun _ _ _ h => h) (Or.inl ⟨by rfl, ?y3bp⟩) hHeld ?r3bp
  case y3bp => intro w h; (try dsimp only at h); go_simp; (try with_reducible rfl)
  try simp only [Act.put, List.setIfInBounds_toArray, List.set_cons_zero, List.set_cons_succ]
  refine' wpAnyH_take (i := 4) (v := _) (List.getElem?_toArray.trans rfl) (by kernel_rfl) (by kernel_rfl) (by kernel_rfl) (fun _ _ _ h => h) (Or.inl ⟨by rfl, ?y4bp⟩) hHeld ?r4bp
  case y4bp => intro w h; (try dsimp only at h); go_simp; (try with_reducible rfl)
  try simp only [Act.put, List.setIfInBounds_toArray, List.set_cons_zero, List.set_cons_succ]
  refine' wpAnyH_take (i := 5) (v := _) (List.getElem?_toArray.trans rfl) (by kernel_rfl) (by kernel_rfl) (by kernel_rfl) (fun _ _ _ h => h) (yieldsIf_load_mid (by rfl) 40 _ rfl wb.heap.size 0 rfl cb _ (fun V hV => hV.2.1) Tryz.underlying40 rfl (by rw [hlb]; kernel_rfl)) hHeld ?_
  try simp only [Act.put, List.setIfInBounds_toArray, List.set_cons_zero, List.set_cons_succ]
  refine' wpAnyH_take (i := 6) (v := _) (List.getElem?_toArray.trans rfl) (by kernel_rfl) (by kernel_rfl) (by kernel_rfl) (fun _ _ _ h => h) (yieldsIf_load_mid (by rfl) 40 _ rfl wd.heap.size 0 rfl cd _ (fun V hV => hV.2.2.1) Tryz.underlying40 rfl (by rw [hld]; kernel_rfl)) hHeld ?_
  try simp only [Act.put, List.setIfInBounds_toArray, List.set_cons_zero, List.set_cons_succ]
  refine wpAnyH_ready (rs := [7]) (by kernel_rfl) (by simp) ?_
  refine AllReadyH.cons (List.getElem?_toArray.trans rfl) (fun K hK => ?_) AllReadyH.nil
  go_simp
  refine samePod_k _ _ (fun k => k < we.heap.size) mp cb cd (fun k hk => Nat.lt_of_lt_of_le hk YF.out.size) (pdOk.mono (pdOk.move (pdOk.bnd HKbe.out) (fun k hk => YF.out.block k hk.2)) (fun k hk => hk.2)) (pdOk.mono (pdOk.move (pdOk.bnd HKde.out) (fun k hk => YF.out.block k hk.2)) (fun k hk => hk.2)) (chkPod_out FP.out HMp.out) ?_
  intro wg gg
  have YG := Lib.hid (YF.out.trans (gg.mono YF.out.size))
  clear gg
  go_wp2_with fail
  refine hK.out _ _ (HK.out _ YG.out) (fun hHeld => ?_)
  clear hK K
  try simp only [Act.put, List.setIfInBounds_toArray, List.set_cons_zero, List.set_cons_succ]
  refine' wpAnyH_take (i := 8) (v := _) (List.getElem?_toArray.trans rfl) (by kernel_rfl) (by kernel_rfl) (by kernel_rfl) (fun _ _ _ h => h) (Or.inl ⟨by rfl, ?y8cp⟩) hHeld ?r8cp
  case y8cp => intro w h; (try dsimp only at h); go_simp; (try with_reducible rfl)
  try simp only [Act.put, List.setIfInBounds_toArray, List.set_cons_zero, List.set_cons_succ]
  refine' wpAnyH_take (i := 9) (v := _) (List.getElem?_toArray.trans rfl) (by kernel_rfl) (by kernel_rfl) (by kernel_rfl) (fun _ _ _ h => h) (Or.inl ⟨by rfl, ?y9cp⟩) hHeld ?r9cp
  case y9cp => intro w h; (try dsimp only at h); go_simp; (try with_reducible rfl)
  try simp only [Act.put, List.setIfInBounds_toArray, List.set_cons_zero, List.set_cons_succ]
  refine wpAnyH_done (by kernel_rfl) ?_ _
  have Gp2 := Lib.hid (GEp.out.trans (YG.out.mono GEp.out.size))
  clear hlb hld ha
  have hv := HR.out _ (HB1.out.trans (Gp2.out.mono HB1.out.size))
  go_wp2_with fail
  exact hv
end Go.Proofs.YtmenipaibjifiaaGreatDoor
