/-
The plain facts of berthlaw06.wakes: one node, one pod.
berthlaw06.wakes: true.
What CheckNode and CheckPod take and answer is short. Plain lemmas; no program is walked.
-/
import Derived.Test.YtdceflgemhcgcaaGreatDoorP40
import Derived.Test.YtdceflgemhcgcaaGreatDoorP36
import Derived.Test.YtdceflgemhcgcaaGreatDoorP20
set_option linter.unusedVariables false
set_option linter.unusedSimpArgs false
namespace Go.Proofs.YtdceflgemhcgcaaGreatDoor
open Go.RowKit Go.BigFrame

def cpuW : ByteArray := ⟨#[99, 112, 117]⟩
def bW : ByteArray := ⟨#[98]⟩
def pW : ByteArray := ⟨#[112]⟩
def qW : ByteArray := ⟨#[113]⟩
def n0W : Nod := ⟨bW, [], [], [⟨cpuW, 4⟩], false⟩
def podW (name : ByteArray) (k : Int) : Pd := ⟨name, [], [⟨cpuW, k⟩], [], ⟨#[]⟩, [], [], 0⟩
def S1W : CSt := addS CSt.empty n0W
def S2W : CSt := bindS S1W bW (podW pW 3)
theorem chk0W : chkNode n0W = (n0W, flt0) := by kernel_rfl
theorem chkpW : chkPod (podW pW 3) = (podW pW 3, flt0) := by kernel_rfl
theorem chkqW : chkPod (podW qW 2) = (podW qW 2, flt0) := by kernel_rfl
theorem fit0W : NodFit n0W := ⟨by decide, ⟨(fun s h => by cases h), by decide⟩, ⟨(fun s h => by cases h), by decide⟩, ⟨(fun s h => by simp [n0W] at h; subst h; decide), by decide⟩⟩
theorem fitW (k : Int) (hk : 0 ≤ k ∧ k ≤ 9) (n : ByteArray) (hn : n.size ≤ 1048576) : PdFit (podW n k) := ⟨hn, ⟨(fun s h => by cases h), by simp [podW]⟩, ⟨(fun s h => by cases h), by simp [podW]⟩, ⟨fun s h => by
  simp [podW] at h
  subst h
  exact ⟨by simp only; decide, by simp only; omega⟩, by simp [podW]⟩, by simp [podW], by simp [podW]⟩
theorem goodW (k : Int) (hk : 0 < k ∧ k ≤ 9) : GoodI [⟨cpuW, k⟩] := ⟨by simp, by simp, fun s h => by
  simp at h
  subst h
  exact ⟨by simp only; kernel_rfl, by simp only; omega⟩⟩
theorem there1W : There S1W bW 0 ⟨true, bW, n0W⟩ := ⟨by decide, by decide, by kernel_rfl, by rfl, by decide, by decide, by decide⟩
theorem there2W : There S2W bW 0 ⟨true, bW, n0W⟩ := ⟨by decide, by decide, by kernel_rfl, by rfl, by decide, by decide, by decide⟩
theorem sums1W : S1W.sums bW = none := rfl
theorem pods1W : S1W.pods bW = none := rfl
theorem both1W : bothN [] [⟨cpuW, 3⟩] = [cpuW] := by rw [bothN_b]; simp [bothN]
theorem both2W : bothN [⟨cpuW, 4⟩] [⟨cpuW, 3⟩] = [cpuW] := by rw [bothN_eq (x := ⟨cpuW, 4⟩) (y := ⟨cpuW, 3⟩) (ltB_irrefl cpuW) (ltB_irrefl cpuW)]; simp [bothN]
theorem getW (k : Int) : qget [⟨cpuW, k⟩] cpuW = k := by simp [qget]
theorem sums2W : (S2W.sums bW).getD [] = [⟨cpuW, 3⟩] := by
  show ((ups S1W.sums bW (some (addI ((S1W.sums bW).getD []) [⟨cpuW, 3⟩]))) bW).getD [] = _
  rw [ups_same, sums1W]
  unfold addI
  rw [show ((none : Option (List Itm)).getD []) = [] from rfl, both1W]
  simp [addE, qget]
theorem sub2W : subI [⟨cpuW, 4⟩] [⟨cpuW, 3⟩] = [⟨cpuW, 1⟩] := by
  unfold subI
  rw [both2W]
  simp [subE, getW, posI]
theorem fitSubW (n : ByteArray) : qget [⟨cpuW, 3⟩] n ≤ qget [⟨cpuW, 4⟩] n := by
  unfold qget
  by_cases h : cpuW = n <;> simp [h]
theorem fitAddW (n : ByteArray) : qget [] n + qget [⟨cpuW, 3⟩] n ≤ 9223372036854775807 := by
  unfold qget
  by_cases h : cpuW = n <;> simp [h]
theorem short1W : shortI [⟨cpuW, 3⟩] [⟨cpuW, 4⟩] [] = (⟨#[]⟩, 0) := by kernel_rfl
theorem short2W : shortI [⟨cpuW, 2⟩] [⟨cpuW, 4⟩] [⟨cpuW, 3⟩] = (cpuW, 29) := by kernel_rfl
theorem one_chg {w : World} {ok : Nat → Prop} {x : Chg} {cs : List Value} (h : chgK w ok x cs) : ∀ u ∈ cs, u.oneCell' = true := by
  obtain ⟨c1, c2, c3, rfl, h1, h2, h3⟩ := h
  intro u hu
  simp only [List.mem_append, List.mem_cons, List.not_mem_nil, or_false] at hu
  rcases hu with (rfl | rfl | rfl) | hu | hu | hu
  · rfl
  · rfl
  · rfl
  · exact one_nod h1 u hu
  · exact one_nod h2 u hu
  · exact one_pd h3 u hu
theorem chg_cells {w : World} {ok : Nat → Prop} {x : Chg} {cs : List Value} (h : chgK w ok x cs) : cs.toArray[0]? = some (.int .i64 x.kind) ∧ cs.toArray[1]? = some (.int .i64 x.slot) ∧ cs.toArray[2]? = some (.int .i64 x.podSlot) ∧ cs.toArray[8]? = some (.string x.now.name) ∧ cs.toArray[13]? = some (.string x.pod.name) := by
  obtain ⟨c1, c2, c3, rfl, ⟨_, _, _, rfl, _⟩, ⟨_, _, _, rfl, _⟩, ⟨_, _, _, _, _, rfl, _⟩⟩ := h
  exact ⟨rfl, rfl, rfl, rfl, rfl⟩
theorem item_sl {w : World} {T : TypeId} (s : Itm) : SlK itmK 2 (w.alloc (.cells #[.string s.name, .int .i64 s.n] T)) (fun k => k = w.heap.size) (.slice (some ⟨w.heap.size, 0, none⟩) 1 1) [s] := by
  refine ⟨_, _, rfl, Nat.le_refl _, by simp [maxLen], .inr ⟨w.heap.size, 0, rfl, rfl, by simp, fun j x hx => ?_⟩⟩
  cases j with
  | succ j => simp at hx
  | zero =>
    simp at hx
    subst hx
    refine ⟨_, rfl, rfl, fun i u hu => cell_at (heap_alloc_new w _) ?_⟩
    rw [← Array.getElem?_toList]
    simpa [itmC] using hu
theorem GOk.mine {w w' : World} {own : COwn} {N : Nat} (h : GOk w) (hg : 0 < N) (ho : ∀ k, k < N → own k = none) (hm : Mod (Mine own) w w') : GOk w' := h.mod hm (fun e => e (ho _ hg))
theorem GOk.lt {w : World} (h : GOk w) : 0 < w.heap.size := by
  obtain ⟨m, hm⟩ := h
  exact World.block_lt_of_cell? _ _ hm
theorem Mod.mine {w w' : World} {own : COwn} {N : Nat} (hm : Mod (Mine own) w w') (hN : N ≤ w.heap.size) (ho : ∀ k, k < N → own k = none) : Below N w w' := hm.below hN (fun k hk => by
  rcases Nat.lt_or_ge k N with h | h
  · exact absurd (ho k h) hk
  · exact h)
end Go.Proofs.YtdceflgemhcgcaaGreatDoor

namespace Go.Proofs.YtdceflgemhcgcaaGreatDoor
open Go.RowKit Go.BigFrame

set_option maxRecDepth 100000 in
set_option maxHeartbeats 16000000 in
theorem wakes6_k (R : Ending → World → Prop) (w : World) (hG : GOk w) (hR : ∀ w', Below w.heap.size w w' → R (.returned (.bool true)) w') :
    Calls Tryz.prog 9 #[] w R := by
  have HR := Lib.hid hR
  have hgl := hG.lt
  have HGL := Lib.hid hgl
  have HG := Lib.hid hG
  clear hR hG hgl
  go_enter Tryz.func9, Tryz.ntmps9
  go_wp2_with fail
  refine newClu_k _ _ ?_
  intro h own w1 g1 hc1 ho1
  have G1 := Lib.hid g1
  have HC1 := Lib.hid hc1
  have HO1 := Lib.hid ho1
  have HG1 := Lib.hid (HG.out.below g1)
  clear g1 hc1 ho1
  go_wp2_with fail
  have GA := Lib.hid (show Below w1.heap.size w1 (w1.alloc (.cells #[.string ⟨#[99, 112, 117]⟩, .int .i64 4] 110)) from Below.alloc (Below.refl _ _) (Nat.le_refl _) _)
  refine addOk_k _ _ h own CSt.empty (HG1.out.below GA.out) (HC1.out.below GA.out) (fun k => k = w1.heap.size) (fun k hk => by subst hk; simp) n0W [.string ⟨#[98]⟩, .slice none 0 0, .slice none 0 0, .slice (some ⟨w1.heap.size, 0, none⟩) 1 1, .bool false] ⟨_, _, _, rfl, SlK.nil, SlK.nil, item_sl (w := w1) (⟨cpuW, 4⟩ : Itm)⟩ fit0W n0W chk0W ⟨by decide, by decide, by decide⟩ (by decide) (by decide) rfl (by decide) (by decide) (by decide) ?_
  intro h2 own2 cs2 w2 hcc hc2 he2 hm2 hk2
  obtain ⟨f0, f1, f2, f8, _⟩ := chg_cells hk2
  have hl2 : cs2.length = 21 := chgOk.len hk2
  have HK2 := Lib.hid hk2
  have HC2 := Lib.hid (show CluAt w2 h2 own2 S1W from hc2)
  have B2 := Lib.hid (show Below w.heap.size w w2 from (G1.out.trans (GA.out.mono G1.out.size)).trans (hm2.mine (Nat.le_trans G1.out.size GA.out.size) HO1.out))
  have HG2 := Lib.hid ((HG1.out.below GA.out).mine HGL.out HO1.out hm2)
  have HO2 := Lib.hid (show ∀ k, k < w.heap.size → own2 k = none from fun k hk => (he2 k (Nat.lt_of_lt_of_le hk (Nat.le_trans G1.out.size GA.out.size))).trans (HO1.out k hk))
  have HCC := Lib.hid hcc
  clear hc2 he2 hm2 hk2 hcc
  have oa : (w2.alloc (.cells #[.int .i64 0, .int .i64 0, .int .i64 0, .string ⟨#[]⟩, .slice none 0 0, .slice none 0 0, .slice none 0 0, .bool false, .string ⟨#[]⟩, .slice none 0 0, .slice none 0 0, .slice none 0 0, .bool false, .string ⟨#[]⟩, .slice none 0 0, .slice none 0 0, .slice none 0 0, .string ⟨#[]⟩, .slice none 0 0, .slice none 0 0, .int .i64 0] 71)).heap[w2.heap.size]? = some (.cells #[.int .i64 0, .int .i64 0, .int .i64 0, .string ⟨#[]⟩, .slice none 0 0, .slice none 0 0, .slice none 0 0, .bool false, .string ⟨#[]⟩, .slice none 0 0, .slice none 0 0, .slice none 0 0, .bool false, .string ⟨#[]⟩, .slice none 0 0, .slice none 0 0, .slice none 0 0, .string ⟨#[]⟩, .slice none 0 0, .slice none 0 0, .int .i64 0] 71 (0, 0)) := heap_alloc_new _ _
  obtain ⟨w3, hw3⟩ : ∃ w3, w3 = (w2.alloc (.cells #[.int .i64 0, .int .i64 0, .int .i64 0, .string ⟨#[]⟩, .slice none 0 0, .slice none 0 0, .slice none 0 0, .bool false, .string ⟨#[]⟩, .slice none 0 0, .slice none 0 0, .slice none 0 0, .bool false, .string ⟨#[]⟩, .slice none 0 0, .slice none 0 0, .slice none 0 0, .string ⟨#[]⟩, .slice none 0 0, .slice none 0 0, .int .i64 0] 71)).setRow w2.heap.size cs2.toArray := ⟨_, rfl⟩
  have o3 : w3.heap[w2.heap.size]? = some (.cells cs2.toArray 71 (0, 0)) := by rw [hw3]; exact setRow_heap _ _ _ _ _ _ oa
  have G3 := Lib.hid (show Below w2.heap.size w2 w3 by rw [hw3]; exact below_setRow (Below.alloc (Below.refl _ _) (Nat.le_refl _) _) (Nat.le_refl _) _)
  go_upto_region 3 with (refine wpList_store_row rfl 71 _ _ rfl w2.heap.size cs2.toArray rfl rfl 71 #[.int .i64 0, .int .i64 0, .int .i64 0, .string ⟨#[]⟩, .slice none 0 0, .slice none 0 0, .slice none 0 0, .bool false, .string ⟨#[]⟩, .slice none 0 0, .slice none 0 0, .slice none 0 0, .bool false, .string ⟨#[]⟩, .slice none 0 0, .slice none 0 0, .slice none 0 0, .string ⟨#[]⟩, .slice none 0 0, .slice none 0 0, .int .i64 0] oa (by simp only [List.size_toArray, hl2]; kernel_rfl) (by simp [hl2]) (all_oneCell_toArray (one_chg HK2.out)) ?_)
  rw [← hw3]
  clear hw3 oa
  have c0 : w3.cell? ⟨w2.heap.size, 0, none⟩ = some (.int .i64 1) := cell_at o3 f0
  have c1 : w3.cell? ⟨w2.heap.size, 1, none⟩ = some (.int .i64 0) := cell_at o3 f1
  have c2 : w3.cell? ⟨w2.heap.size, 2, none⟩ = some (.int .i64 (-1)) := cell_at o3 f2
  have c8 : w3.cell? ⟨w2.heap.size, 8, none⟩ = some (.string ⟨#[98]⟩) := cell_at o3 f8
  clear f0 f1 f2 f8 hl2 o3
  go_wp2_with fail
  clear c0 c1 c2 c8
  rw [← HCC.out]
  have GB := Lib.hid (show Below w3.heap.size w3 (w3.alloc (.cells #[.string ⟨#[99, 112, 117]⟩, .int .i64 3] 110)) from Below.alloc (Below.refl _ _) (Nat.le_refl _) _)
  have B3 := Lib.hid (B2.out.trans (G3.out.mono B2.out.size))
  have B3b := Lib.hid (B3.out.trans (GB.out.mono B3.out.size))
  have HG3 := Lib.hid (HG2.out.below G3.out)
  refine bindOk_k _ _ h2 own2 S1W (HG3.out.below GB.out) ((HC2.out.below G3.out).below GB.out) (fun k => k = w3.heap.size) (fun k hk => by subst hk; simp) (podW pW 3) [.string ⟨#[112]⟩, .slice none 0 0, .slice (some ⟨w3.heap.size, 0, none⟩) 1 1, .slice none 0 0, .string ⟨#[]⟩, .slice none 0 0, .slice none 0 0, .int .i64 0] ⟨_, _, _, _, _, rfl, SlK.nil, item_sl (w := w3) (⟨cpuW, 3⟩ : Itm), SlK.nil, SlK.nil, SlK.nil⟩ (fitW 3 (by decide) _ (by decide)) (podW pW 3) chkpW bW 0 ⟨true, bW, n0W⟩ there1W (by decide) (by decide) rfl (by decide) (goodW 3 (by decide)) (goodW 4 (by decide)) (by rw [sums1W]; exact GoodI.nil) (by decide) (by decide) (by rw [sums1W]; exact short1W) pods1W (by rw [sums1W]; show (bothN [] [⟨cpuW, 3⟩]).length ≤ 16; rw [both1W]; decide) (by rw [sums1W]; exact fitAddW) ⟨by decide, by decide, by decide, by decide, by decide⟩ ?_
  intro h4 own4 cs4 w4 hcc hc4 he4 hm4 hk4
  obtain ⟨f0, _, f2, _, f13⟩ := chg_cells hk4
  have hl4 : cs4.length = 21 := chgOk.len hk4
  have HK4 := Lib.hid hk4
  have HC4 := Lib.hid (show CluAt w4 h4 own4 S2W from hc4)
  have B4 := Lib.hid (show Below w.heap.size w w4 from B3b.out.trans (hm4.mine B3b.out.size HO2.out))
  have HG4 := Lib.hid ((HG3.out.below GB.out).mine HGL.out HO2.out hm4)
  have HC42 := Lib.hid hcc
  clear hc4 he4 hm4 hk4 hcc
  have oa : (w4.alloc (.cells #[.int .i64 0, .int .i64 0, .int .i64 0, .string ⟨#[]⟩, .slice none 0 0, .slice none 0 0, .slice none 0 0, .bool false, .string ⟨#[]⟩, .slice none 0 0, .slice none 0 0, .slice none 0 0, .bool false, .string ⟨#[]⟩, .slice none 0 0, .slice none 0 0, .slice none 0 0, .string ⟨#[]⟩, .slice none 0 0, .slice none 0 0, .int .i64 0] 71)).heap[w4.heap.size]? = some (.cells #[.int .i64 0, .int .i64 0, .int .i64 0, .string ⟨#[]⟩, .slice none 0 0, .slice none 0 0, .slice none 0 0, .bool false, .string ⟨#[]⟩, .slice none 0 0, .slice none 0 0, .slice none 0 0, .bool false, .string ⟨#[]⟩, .slice none 0 0, .slice none 0 0, .slice none 0 0, .string ⟨#[]⟩, .slice none 0 0, .slice none 0 0, .int .i64 0] 71 (0, 0)) := heap_alloc_new _ _
  obtain ⟨w5, hw5⟩ : ∃ w5, w5 = (w4.alloc (.cells #[.int .i64 0, .int .i64 0, .int .i64 0, .string ⟨#[]⟩, .slice none 0 0, .slice none 0 0, .slice none 0 0, .bool false, .string ⟨#[]⟩, .slice none 0 0, .slice none 0 0, .slice none 0 0, .bool false, .string ⟨#[]⟩, .slice none 0 0, .slice none 0 0, .slice none 0 0, .string ⟨#[]⟩, .slice none 0 0, .slice none 0 0, .int .i64 0] 71)).setRow w4.heap.size cs4.toArray := ⟨_, rfl⟩
  have o5 : w5.heap[w4.heap.size]? = some (.cells cs4.toArray 71 (0, 0)) := by rw [hw5]; exact setRow_heap _ _ _ _ _ _ oa
  have G5 := Lib.hid (show Below w4.heap.size w4 w5 by rw [hw5]; exact below_setRow (Below.alloc (Below.refl _ _) (Nat.le_refl _) _) (Nat.le_refl _) _)
  go_upto_region 6 with (refine wpList_store_row rfl 71 _ _ rfl w4.heap.size cs4.toArray rfl rfl 71 #[.int .i64 0, .int .i64 0, .int .i64 0, .string ⟨#[]⟩, .slice none 0 0, .slice none 0 0, .slice none 0 0, .bool false, .string ⟨#[]⟩, .slice none 0 0, .slice none 0 0, .slice none 0 0, .bool false, .string ⟨#[]⟩, .slice none 0 0, .slice none 0 0, .slice none 0 0, .string ⟨#[]⟩, .slice none 0 0, .slice none 0 0, .int .i64 0] oa (by simp only [List.size_toArray, hl4]; kernel_rfl) (by simp [hl4]) (all_oneCell_toArray (one_chg HK4.out)) ?_)
  rw [← hw5]
  clear hw5 oa
  have c0 : w5.cell? ⟨w4.heap.size, 0, none⟩ = some (.int .i64 4) := cell_at o5 f0
  have c2 : w5.cell? ⟨w4.heap.size, 2, none⟩ = some (.int .i64 0) := cell_at o5 f2
  have c13 : w5.cell? ⟨w4.heap.size, 13, none⟩ = some (.string ⟨#[112]⟩) := cell_at o5 f13
  clear f0 f2 f13 hl4 o5
  go_wp2_with fail
  clear c0 c2 c13
  rw [← HC42.out]
  refine roomOk_k _ _ h4 own4 S2W bW (HC4.out.below G5.out) 0 ⟨true, bW, n0W⟩ there2W (goodW 4 (by decide)) (by rw [sums2W]; exact goodW 3 (by decide)) (by rw [sums2W]; exact fitSubW) ?_
  rw [sums2W]
  intro v6 w6 g6 hs6
  have hs6 : SlK itmK 2 w6 (fun k => w5.heap.size ≤ k) v6 [⟨cpuW, 1⟩] := by
    have h := hs6
    rwa [show subI (⟨true, bW, n0W⟩ : SRow Nod).thing.cap [⟨cpuW, 3⟩] = [⟨cpuW, 1⟩] from sub2W] at h
  have G6 := Lib.hid g6
  have HS6 := Lib.hid (hs6.bnd itmOk)
  clear g6
  obtain ⟨bl, off, c6, e6, hc6a, hc6b, _, hbl, hce⟩ := hs6.addr (by simp)
  obtain ⟨y0, y1⟩ := ritems_k_cells hce 0 (by simp)
  subst e6
  have Y0 := Lib.hid (show w6.cell? ⟨bl, off, none⟩ = some (.string ⟨#[99, 112, 117]⟩) by simp at y0; exact y0)
  have Y1 := Lib.hid (show w6.cell? ⟨bl, off + 1, none⟩ = some (.int .i64 1) by simp at y1; exact y1)
  clear hs6 hce y0 y1
  have B5 := Lib.hid (B4.out.trans (G5.out.mono B4.out.size))
  have B6 := Lib.hid (B5.out.trans (G6.out.mono B5.out.size))
  have HG6 := Lib.hid ((HG4.out.below G5.out).below G6.out)
  have GC := Lib.hid (show Below w6.heap.size w6 (w6.alloc (.cells #[.string ⟨#[99, 112, 117]⟩, .int .i64 2] 110)) from Below.alloc (Below.refl _ _) (Nat.le_refl _) _)
  go_wp2_with fail
  try rw [← HC42.out]
  refine bindShort_k _ _ h4 own4 S2W (HG6.out.below GC.out) (((HC4.out.below G5.out).below G6.out).below GC.out) (fun k => k = w6.heap.size) (fun k hk => by subst hk; simp) (podW qW 2) [.string ⟨#[113]⟩, .slice none 0 0, .slice (some ⟨w6.heap.size, 0, none⟩) 1 1, .slice none 0 0, .string ⟨#[]⟩, .slice none 0 0, .slice none 0 0, .int .i64 0] ⟨_, _, _, _, _, rfl, SlK.nil, item_sl (w := w6) (⟨cpuW, 2⟩ : Itm), SlK.nil, SlK.nil, SlK.nil⟩ (fitW 2 (by decide) _ (by decide)) (podW qW 2) chkqW bW 0 ⟨true, bW, n0W⟩ there2W (by decide) (by decide) (by kernel_rfl) (by decide) (goodW 2 (by decide)) (goodW 4 (by decide)) (by rw [sums2W]; exact goodW 3 (by decide)) cpuW (by rw [sums2W]; exact short2W) ?_
  intro ve w7 g7 he7
  have G7 := Lib.hid (GC.out.trans (g7.mono GC.out.size))
  have HE7 := Lib.hid he7
  have x0 : w7.cell? ⟨bl, off, none⟩ = some (.string ⟨#[99, 112, 117]⟩) := (Mod.of_below G7.out).cell' Y0.out (fun h => h)
  have x1 : w7.cell? ⟨bl, off + 1, none⟩ = some (.int .i64 1) := (Mod.of_below G7.out).cell' Y1.out (fun h => h)
  have B7 := Lib.hid (B6.out.trans (G7.out.mono B6.out.size))
  clear g7 he7
  go_wp2_with fail
  refine read_k _ _ ve _ HE7.out ?_
  intro w8 g8
  dsimp only [refuseF, cpuW]
  have B8 := Lib.hid (B7.out.trans (g8.mono B7.out.size))
  clear g8
  go_wp2_with fail
  refine rrefuse_k _ _ 68 ⟨#[99, 112, 117]⟩ ?_
  intro w9 g9
  have ha := arrEq w9
  have hv := HR.out w9 (B8.out.trans (g9.mono B8.out.size))
  clear g9
  go_wp2_with fail
  exact hv
end Go.Proofs.YtdceflgemhcgcaaGreatDoor

namespace Go.Proofs.YtdceflgemhcgcaaGreatDoor
open Go.RowKit Go.BigFrame

theorem labMake_len (xs : List Lab) : (labMake xs).1.length ≤ xs.length := by
  unfold labMake
  split
  · simp
  · split
    · simp
    · simp [srt_length]
theorem tntMake_len (xs : List Tnt) : (tntMake xs).1.length ≤ xs.length := by
  unfold tntMake
  split
  · simp
  · split
    · simp
    · split
      · simp
      · simp [srt_length]
theorem itmMake_len (xs : List Itm) : (itmMake xs).1.length ≤ xs.length := by
  unfold itmMake
  split
  · simp
  · split
    · simp
    · exact Nat.le_trans (List.length_filter_le _ _) (by simp [srt_length])
theorem nod0_short : NodShort nod0 := ⟨by decide, by decide, by decide⟩
theorem pd0_short : PdShort pd0 := ⟨by decide, by decide, by decide, by decide, by decide⟩
theorem chkNode_in {x : Nod} (h : NodFit x) : NodShort x := ⟨h.2.1.2, h.2.2.1.2, h.2.2.2.2⟩
theorem chkPod_in {x : Pd} (h : PdFit x) : PdShort x := ⟨h.2.1.2, h.2.2.2.1.2, h.2.2.1.2, h.2.2.2.2.1, h.2.2.2.2.2⟩
theorem chkNode_out {x m : Nod} {f : Flt} (h : NodFit x) (hm : chkNode x = (m, f)) : NodShort m := by
  have e : m = (chkNode x).1 := by rw [hm]
  obtain ⟨_, ⟨_, h1⟩, ⟨_, h2⟩, ⟨_, h3⟩⟩ := h
  have l1 := labMake_len x.labels
  have l2 := tntMake_len x.taints
  have l3 := itmMake_len x.cap
  rw [e]
  unfold chkNode
  split
  · exact nod0_short
  · split
    · exact nod0_short
    · split
      · exact nod0_short
      · split
        · exact nod0_short
        · exact ⟨by simp only; omega, by simp only; omega, by simp only; omega⟩
theorem chkPod_out {x m : Pd} {f : Flt} (h : PdFit x) (hm : chkPod x = (m, f)) : PdShort m := by
  have e : m = (chkPod x).1 := by rw [hm]
  obtain ⟨_, ⟨_, h1⟩, ⟨_, h2⟩, ⟨_, h3⟩, h4, h5⟩ := h
  have l1 := labMake_len x.labels
  have l3 := itmMake_len x.needs
  rw [e]
  unfold chkPod
  split
  · exact pd0_short
  · split
    · exact pd0_short
    · split
      · exact pd0_short
      · split
        · exact pd0_short
        · exact ⟨by simp only; omega, by simp only; omega, h2, h4, h5⟩
end Go.Proofs.YtdceflgemhcgcaaGreatDoor
