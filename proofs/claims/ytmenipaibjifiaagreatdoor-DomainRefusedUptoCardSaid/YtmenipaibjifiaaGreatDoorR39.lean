/-
domain: Apply.
domain: area, Of, Count, stands; of a nil Domains too.
bitset.Or, And, OrWith; domain: Nodes, Pods, stands.
bitset: OrWith.
domain: Apply, a node comes.
domain: Apply, a pod comes.
quit, label by label: what is kept at each of its steps. Plain Lean; no program.
-/
import Derived.Test.YtmenipaibjifiaaGreatDoorR38
import Derived.Test.YtmenipaibjifiaaGreatDoorR37
import Derived.Test.YtmenipaibjifiaaGreatDoorR13
import Derived.Test.YtmenipaibjifiaaGreatDoorR25
import Derived.Deep.RegionHeld3
import Derived.Test.YtmenipaibjifiaaGreatDoorR15
set_option linter.unusedVariables false
set_option linter.unusedSimpArgs false
namespace Go.Proofs.YtmenipaibjifiaaGreatDoor
open Go.RowKit Go.BigFrame

theorem cnt_small {n : Nat} {p : Nat → Bool} {q : Int} (h : optNum (cnt n p) = some q) : 0 ≤ q ∧ q ≤ n := by
  unfold optNum at h
  split at h
  · cases h
  · have := cnt_le n p
    cases h
    omega
theorem AInv.small {M : Nat → List Lab} {V : Spot → Nat → Bool} {S : St} (A : AInv M V S) : Small S 2048 := by
  refine ⟨fun t q e => ?_, fun k g v q e1 e2 => ?_⟩
  · rw [A.cts t] at e
    have := cnt_small e
    omega
  · rw [(A.vyes k g e1).2 v] at e2
    have := cnt_small e2
    omega
theorem chk_len {xs : List Lab} (h : ((chk xs).2 == 0) = true) : xs.length ≤ 32 := by
  unfold chk at h
  split at h
  · simp at h
  · omega
theorem small_enterNode {n : Int} (hn : -1 ≤ n ∧ n ≤ 1) : ∀ (ls : List Lab) (p : Int) {S : St} {K : Int}, Few S → Small S K → 0 ≤ K → Small (enterNode S ls p n) (K + 32 * ls.length)
  | [], p, S, K, _, h, _ => by simpa [enterNode] using h
  | l :: r, p, S, K, hf, h, hK => by
    have h1 := small_enterS h hK (spotOf l) p n hn
    have hl := hf p
    obtain ⟨f1, _⟩ := enterS_fields S (spotOf l) p n
    have h2 := small_enterNode hn r p (hf.of f1) (h1.mono (L := K + 32) (by omega)) (by omega)
    refine Small.mono (S := enterNode S (l :: r) p n) h2 ?_
    simp only [List.length_cons]
    push_cast
    omega
/-- What is asked ahead of every change. -/
structure Pre (w : World) (h : Hdr) (own : Own') (S : St) : Prop where
  D : DomAt w h own S
  I : Inv S
  few : Few S

set_option maxRecDepth 100000 in
set_option maxHeartbeats 40000000 in
theorem dapplyNo_k (R : Ending → World → Prop) (w : World) (h : Hdr) (own : Own') (S : St) (ok : Nat → Prop) (x : Chg) (cs : List Value) (P : Pre w h own S) (hok : ∀ k, ok k → k < w.heap.size ∧ ¬ Mut own k) (hx : chgK w ok x cs) (hs : ChgFit x) (hG : GOk w)
    (hf : fitsS S x = false)
    (hR : ∀ w', Below w.heap.size w w' → R (.returned (.int .i64 90)) w') :
    Calls Tryz.prog 12 #[.pointer (some ⟨h.d, 0, none⟩), .agg cs.toArray] w R := by
  have D := P.D
  have I := P.I
  have hx0 := hx
  obtain ⟨vla, vta, vca, vlb, vtb, vcb, vplc, vpnc, vptc, vpac, vppc, rfl, hn1, hn2, hp3⟩ := chg_form hx
  have hs0 := hs
  obtain ⟨s1, s2⟩ := hs
  obtain ⟨_, _, _, en, hnl, _, _⟩ := hn2
  obtain ⟨_, _, _, _, _, ep, hpl, _, _, _, _⟩ := hp3
  simp only [List.cons.injEq, and_true, true_and] at en ep
  obtain ⟨rfl, rfl, rfl⟩ := en
  obtain ⟨rfl, rfl, rfl, rfl, rfl⟩ := ep
  have HR := Lib.hid hR
  have HOK := Lib.hid hok
  have HFF := Lib.hid hf
  clear hR hx hf
  have t0 : Below w.heap.size w (w.alloc (.cells #[.int .i64 x.kind, .int .i64 x.slot, .int .i64 x.podSlot, .string x.was.name, vla, vta, vca, .bool x.was.cord, .string x.now.name, vlb, vtb, vcb, .bool x.now.cord, .string x.pod.name, vplc, vpnc, vptc, .string x.pod.req, vpac, vppc, .int .i64 x.pod.prio] 42)) := Below.alloc (Below.refl _ _) (Nat.le_refl _) _
  have oc0 : (w.alloc (.cells #[.int .i64 x.kind, .int .i64 x.slot, .int .i64 x.podSlot, .string x.was.name, vla, vta, vca, .bool x.was.cord, .string x.now.name, vlb, vtb, vcb, .bool x.now.cord, .string x.pod.name, vplc, vpnc, vptc, .string x.pod.req, vpac, vppc, .int .i64 x.pod.prio] 42)).heap[w.heap.size]? = some (.cells #[.int .i64 x.kind, .int .i64 x.slot, .int .i64 x.podSlot, .string x.was.name, vla, vta, vca, .bool x.was.cord, .string x.now.name, vlb, vtb, vcb, .bool x.now.cord, .string x.pod.name, vplc, vpnc, vptc, .string x.pod.req, vpac, vppc, .int .i64 x.pod.prio] 42) := heap_alloc_new _ _
  go_enter Tryz.func12, Tryz.ntmps12
  go_wp2_with (first | refine wpList_load_row rfl 42 _ rfl w.heap.size rfl 42 #[.int .i64 x.kind, .int .i64 x.slot, .int .i64 x.podSlot, .string x.was.name, vla, vta, vca, .bool x.was.cord, .string x.now.name, vlb, vtb, vcb, .bool x.now.cord, .string x.pod.name, vplc, vpnc, vptc, .string x.pod.req, vpac, vppc, .int .i64 x.pod.prio] (0, 0) _ oc0 Tryz.underlying42 rfl (by kernel_rfl) ?_)
  refine dfits_k _ _ h own S ok x [.int .i64 x.kind, .int .i64 x.slot, .int .i64 x.podSlot, .string x.was.name, vla, vta, vca, .bool x.was.cord, .string x.now.name, vlb, vtb, vcb, .bool x.now.cord, .string x.pod.name, vplc, vpnc, vptc, .string x.pod.req, vpac, vppc, .int .i64 x.pod.prio] (D.below t0) (fun k hk => by have := (HOK.out k hk).1; have := t0.size; omega) (chgOk.move hx0 (fun k hk => t0.block k (HOK.out k hk).1)) hs0 (GOk.below hG t0) (I.ons _) ?_
  intro w1 g1
  rw [HFF.out]
  have hB1 := t0.trans (g1.mono t0.size)
  have oc1 := (g1.block w.heap.size (by simp)).trans oc0
  clear oc0 t0 g1
  have hv := HR.out w1 hB1
  clear oc1
  go_wp2_with fail
  exact hv
end Go.Proofs.YtmenipaibjifiaaGreatDoor

namespace Go.Proofs.YtmenipaibjifiaaGreatDoor
open Go.RowKit Go.BigFrame

/-- A domain's sets, with their universes; none: nil sets. -/
def setA (S : St) (b : Spot) : (Nat × List Nat) × (Nat × List Nat) := match S.areas b with
  | some (x, y) => ((512, x), (2048, y))
  | none => ((0, []), (0, []))
abbrev Owned (own : Own') : Nat → Prop := fun k => own k ≠ none

set_option maxRecDepth 100000 in
set_option maxHeartbeats 4000000 in
theorem area_d (R : Ending → World → Prop) (w : World) (h : Hdr) (own : Own') (S : St) (key val : ByteArray) (D : DomAt w h own S)
    (hR : ∀ v1 v2 w', Below w.heap.size w w' → SetP w' (Owned own) v1 (setA S (key, val)).1.1 (setA S (key, val)).1.2 → SetP w' (Owned own) v2 (setA S (key, val)).2.1 (setA S (key, val)).2.2 → R (.returned (.agg #[v1, v2])) w') :
    Calls Tryz.prog 81 #[.pointer (some ⟨h.d, 0, none⟩), .string key, .string val] w R := by
  have HR := Lib.hid hR
  clear hR
  have c3 : w.cell? ⟨h.d, 3, none⟩ = some (.map (some h.a)) := cell_at D.hd rfl
  have c3' := cell_old c3 (.cells #[.pointer none, .pointer none] 167)
  have hB : Below w.heap.size w (w.alloc (.cells #[.pointer none, .pointer none] 167)) := Below.alloc (Below.refl _ _) (Nat.le_refl _) _
  cases ha : S.areas (key, val) with
  | none =>
    obtain ⟨m, hm, hmf⟩ := D.fa
    have hat := hmf (key, val)
    rw [ha] at hat
    have l1 := (hm.mod ((Mod.refl Non w).alloc (.cells #[.pointer none, .pointer none] 167)) (fun h => h)).lookup spotK Tryz.underlying121 (z := .agg #[.pointer none, .pointer none]) (by kernel_rfl) (key, val) false
    rw [hat.none_l] at l1
    simp only [Option.getD_none, spotV, Bool.false_eq_true, if_false] at l1
    have hs : setA S (key, val) = ((0, []), (0, [])) := by unfold setA; rw [ha]
    have hv := fun w' hB => HR.out (.pointer none) (.pointer none) w' hB (by rw [hs]; exact .inl ⟨rfl, rfl, rfl⟩) (by rw [hs]; exact .inl ⟨rfl, rfl, rfl⟩)
    have HV := Lib.hid hv
    have HB := Lib.hid hB
    clear hv hB hs hat hmf hm
    go_enter Tryz.func81, Tryz.ntmps81
    go_wp2_with fail
    have yy : (w.alloc (.cells #[.pointer none, .pointer none] 167)).heap[w.heap.size]? = some (.cells #[.pointer none, .pointer none] 167 (0, 0)) := heap_alloc_new _ _
    exact bodyPost_ret (results_cell_row Tryz.results81 _ _ w.heap.size 167 #[.pointer none, .pointer none] (0, 0) _ rfl yy Tryz.underlying167 rfl (by kernel_rfl)) rfl (HV.out _ HB.out)
  | some p =>
    obtain ⟨x, y⟩ := p
    obtain ⟨m, sA, bA, sP, bP, A⟩ := D.areaAt ha
    have l1 := (A.hm.mod ((Mod.refl Non w).alloc (.cells #[.pointer none, .pointer none] 167)) (fun h => h)).lookup spotK Tryz.underlying121 (z := .agg #[.pointer none, .pointer none]) (by kernel_rfl) (key, val) false
    rw [A.hv] at l1
    simp only [Option.getD_some, spotV, Bool.false_eq_true, if_false] at l1
    have hs : setA S (key, val) = ((512, x), (2048, y)) := by unfold setA; rw [ha]
    have A2 := A.below D (w' := w.alloc (.cells #[.pointer (some ⟨sA, 0, none⟩), .pointer (some ⟨sP, 0, none⟩)] 167)) (Below.alloc (Below.refl _ _) (Nat.le_refl _) _)
    have hv := HR.out (.pointer (some ⟨sA, 0, none⟩)) (.pointer (some ⟨sP, 0, none⟩)) (w.alloc (.cells #[.pointer (some ⟨sA, 0, none⟩), .pointer (some ⟨sP, 0, none⟩)] 167)) (Below.alloc (Below.refl _ _) (Nat.le_refl _) _)
      (by rw [hs]; exact .inr ⟨sA, bA, rfl, A2.hA, by show own sA ≠ none; rw [A.iA]; simp, by show own bA ≠ none; rw [A.oA]; simp⟩) (by rw [hs]; exact .inr ⟨sP, bP, rfl, A2.hP, by show own sP ≠ none; rw [A.iP]; simp, by show own bP ≠ none; rw [A.oP]; simp⟩)
    have HV := Lib.hid hv
    clear hv hs A A2 hB
    go_enter Tryz.func81, Tryz.ntmps81
    go_wp2_with fail
    have yy : (w.alloc (.cells #[.pointer (some ⟨sA, 0, none⟩), .pointer (some ⟨sP, 0, none⟩)] 167)).heap[w.heap.size]? = some (.cells #[.pointer (some ⟨sA, 0, none⟩), .pointer (some ⟨sP, 0, none⟩)] 167 (0, 0)) := heap_alloc_new _ _
    exact bodyPost_ret (results_cell_row Tryz.results81 _ _ w.heap.size 167 #[.pointer (some ⟨sA, 0, none⟩), .pointer (some ⟨sP, 0, none⟩)] (0, 0) _ rfl yy Tryz.underlying167 rfl (by kernel_rfl)) rfl HV.out
set_option maxRecDepth 100000 in
theorem areaNil_k (R : Ending → World → Prop) (w : World) (key val : ByteArray) (hR : ∀ w', Below w.heap.size w w' → R (.returned (.agg #[.pointer none, .pointer none])) w') :
    Calls Tryz.prog 81 #[.pointer none, .string key, .string val] w R := by
  have HR := Lib.hid hR
  clear hR
  go_enter Tryz.func81, Tryz.ntmps81
  go_wp2_with fail
  have yy : (w.alloc (.cells #[.pointer none, .pointer none] 167)).heap[w.heap.size]? = some (.cells #[.pointer none, .pointer none] 167 (0, 0)) := heap_alloc_new _ _
  exact bodyPost_ret (results_cell_row Tryz.results81 _ _ w.heap.size 167 #[.pointer none, .pointer none] (0, 0) _ rfl yy Tryz.underlying167 rfl (by kernel_rfl)) rfl (HR.out _ (Below.alloc (Below.refl _ _) (Nat.le_refl _) _))
set_option maxRecDepth 100000 in
theorem count_q (R : Ending → World → Prop) (w : World) (h : Hdr) (own : Own') (S : St) (k v pk pv : ByteArray) (D : DomAt w h own S) (hR : R (.returned (.int .i64 ((S.counts ((k, v), pk, pv)).getD 0))) w) :
    Calls Tryz.prog 48 #[.pointer (some ⟨h.d, 0, none⟩), .string k, .string v, .string pk, .string pv] w R := by
  have HR := Lib.hid hR
  clear hR
  have c5 : w.cell? ⟨h.d, 5, none⟩ = some (.map (some h.c)) := cell_at D.hd rfl
  obtain ⟨m, hm, hf⟩ := D.fc
  have hq : (aget m ((k, v), pk, pv)).getD (.int .i64 0) = .int .i64 ((S.counts ((k, v), pk, pv)).getD 0) := by
    have := hf ((k, v), pk, pv)
    cases e1 : aget m ((k, v), pk, pv) <;> cases e2 : S.counts ((k, v), pk, pv) <;> rw [e1, e2] at this
    · rfl
    · exact this.elim
    · exact this.elim
    · exact this
  have l1 := hm.lookup tagK Tryz.underlying123 (z := .int .i64 0) (by kernel_rfl) ((k, v), pk, pv) false
  rw [hq] at l1
  simp only [tagV, Bool.false_eq_true, if_false] at l1
  clear hq hf hm
  go_enter Tryz.func48, Tryz.ntmps48
  go_wp2_with fail
  exact HR.out
theorem countNil_k (R : Ending → World → Prop) (w : World) (k v pk pv : ByteArray) (hR : R (.returned (.int .i64 0)) w) :
    Calls Tryz.prog 48 #[.pointer none, .string k, .string v, .string pk, .string pv] w R := by
  go_enter Tryz.func48, Tryz.ntmps48
  go_wp2_with fail
  exact hR
theorem DomAt.nodeRead {w : World} {h : Hdr} {own : Own'} {S : St} (D : DomAt w h own S) (s : Int) : ∃ m v, MapAt (Value.int .i64) w h.n m ∧ (aget m s).getD (.slice none 0 0) = v ∧ Labs w (fun b => own b = some .imm) v (nodeL S s) := by
  obtain ⟨m, hm, hf⟩ := D.fn
  have hp := hf s
  refine ⟨m, _, hm, rfl, ?_⟩
  unfold nodeL
  cases e : S.nodes s with
  | none =>
    rw [e] at hp
    rw [hp.none_l]
    exact SlK.nil
  | some l =>
    rw [e] at hp
    obtain ⟨v, hv, hu⟩ := hp.some_l
    rw [hv]
    exact hu
set_option maxRecDepth 100000 in
theorem of_d (R : Ending → World → Prop) (w : World) (h : Hdr) (own : Own') (S : St) (key : ByteArray) (s : Int) (D : DomAt w h own S) (hl : (nodeL S s).length ≤ 1073741824) (hR : ∀ w', Below w.heap.size w w' → R (.returned (getV (getB (nodeL S s) key))) w') :
    Calls Tryz.prog 43 #[.pointer (some ⟨h.d, 0, none⟩), .string key, .int .i64 s] w R := by
  have HR := Lib.hid hR
  clear hR
  have c0 : w.cell? ⟨h.d, 0, none⟩ = some (.map (some h.n)) := cell_at D.hd rfl
  obtain ⟨m, v, hm, hv, hlab⟩ := D.nodeRead s
  have l1 := hm.lookup intK Tryz.underlying118 (z := .slice none 0 0) (by kernel_rfl) s false
  rw [hv] at l1
  simp only [Bool.false_eq_true, if_false] at l1
  have HL := Lib.hid hlab
  have HD := Lib.hid D
  clear hv hm hlab D
  go_enter Tryz.func43, Tryz.ntmps43
  go_wp2_with fail
  refine get_k _ _ (fun b => own b = some .imm) v (nodeL S s) key (fun k hk => HD.out.lt hk) HL.out hl ?_
  intro w1 hB1
  have hq := HR.out w1 hB1
  cases hg : getB (nodeL S s) key with
  | none =>
    rw [hg] at hq
    simp only [getV] at hq ⊢
    go_wp2_with fail
    exact hq
  | some u =>
    rw [hg] at hq
    simp only [getV] at hq ⊢
    go_wp2_with fail
    exact hq
theorem ofNil_k (R : Ending → World → Prop) (w : World) (key : ByteArray) (s : Int) (hR : R (.returned (.tuple #[.string ⟨#[]⟩, .bool false])) w) :
    Calls Tryz.prog 43 #[.pointer none, .string key, .int .i64 s] w R := by
  go_enter Tryz.func43, Tryz.ntmps43
  go_wp2_with fail
  exact hR
end Go.Proofs.YtmenipaibjifiaaGreatDoor

namespace Go.Proofs.YtmenipaibjifiaaGreatDoor
open Go.RowKit Go.BigFrame

set_option maxRecDepth 100000 in
theorem or_k (R : Ending → World → Prop) (w : World) (ok : Nat → Prop) (va vb : Value) (n m : Nat) (x y : List Nat) (hok : ∀ k, ok k → k < w.heap.size) (ha : SetP w ok va n x) (hb : SetP w ok vb m y)
    (hR : ∀ s b w', Below w.heap.size w w' → w.heap.size ≤ s → w.heap.size ≤ b → SetIn w' s b (max n m) (zipW (· ||| ·) ((max n m + 63) / 64) x y) → R (.returned (.pointer (some ⟨s, 0, none⟩))) w') :
    Calls Tryz.prog 80 #[va, vb] w R := by
  have HR := Lib.hid hR
  clear hR
  go_enter Tryz.func80, Tryz.ntmps80
  go_wp2_with fail
  refine joinedOr_k _ _ ok va vb n m (max n m) x y hok ha hb rfl ?_
  intro s b w1 h1 h2 h3 h4
  have hv := HR.out s b w1 h1 h2 h3 h4
  clear h1 h2 h3 h4
  go_wp2_with fail
  exact hv
set_option maxRecDepth 100000 in
theorem and_k (R : Ending → World → Prop) (w : World) (ok : Nat → Prop) (va vb : Value) (n m : Nat) (x y : List Nat) (hok : ∀ k, ok k → k < w.heap.size) (ha : SetP w ok va n x) (hb : SetP w ok vb m y)
    (hR : ∀ s b w', Below w.heap.size w w' → w.heap.size ≤ s → w.heap.size ≤ b → SetIn w' s b (max n m) (zipW (· &&& ·) ((max n m + 63) / 64) x y) → R (.returned (.pointer (some ⟨s, 0, none⟩))) w') :
    Calls Tryz.prog 165 #[va, vb] w R := by
  have HR := Lib.hid hR
  clear hR
  go_enter Tryz.func165, Tryz.ntmps165
  go_wp2_with fail
  refine joinedAnd_k _ _ ok va vb n m (max n m) x y hok ha hb rfl ?_
  intro s b w1 h1 h2 h3 h4
  have hv := HR.out s b w1 h1 h2 h3 h4
  clear h1 h2 h3 h4
  go_wp2_with fail
  exact hv
theorem SetP.any {w : World} {ok : Nat → Prop} {v : Value} {n : Nat} {ws : List Nat} (h : SetP w ok v n ws) : SetP w (fun k => k < w.heap.size) v n ws := h.move (fun _ _ _ => rfl) (fun _ _ hk => hk)
theorem setA_n (S : St) (b : Spot) : max 512 (setA S b).1.1 = 512 ∧ max 2048 (setA S b).2.1 = 2048 := by
  unfold setA
  split <;> exact ⟨rfl, rfl⟩
set_option maxRecDepth 100000 in
set_option maxHeartbeats 4000000 in
theorem nodes_d (R : Ending → World → Prop) (w : World) (h : Hdr) (own : Own') (S : St) (key val : ByteArray) (D : DomAt w h own S)
    (hR : ∀ s b ws w', Below w.heap.size w w' → w.heap.size ≤ s → w.heap.size ≤ b → SetIn w' s b 512 ws → (∀ i, i < 512 → memW ws i = memW (setA S (key, val)).1.2 i) → R (.returned (.pointer (some ⟨s, 0, none⟩))) w') :
    Calls Tryz.prog 22 #[.pointer (some ⟨h.d, 0, none⟩), .string key, .string val] w R := by
  have HR := Lib.hid hR
  have HD := Lib.hid D
  clear hR D
  go_enter Tryz.func22, Tryz.ntmps22
  go_wp2_with fail
  refine bitmap_k _ _ 512 (by decide) ?_
  intro s1 b1 w1 g1 g2 g3 hS1
  have HG1 := Lib.hid g1
  have HS1 := Lib.hid hS1
  clear g1 hS1 g2 g3
  go_wp2_with fail
  refine area_d _ _ h own S key val (HD.out.below HG1.out) ?_
  intro v1 v2 w2 g4 hA hP
  have HG4 := Lib.hid g4
  have HA := Lib.hid hA
  have l2 := area_nodes v1 v2 w2
  clear g4 hA hP
  go_wp2_with fail
  have hb2 := HG1.out.trans (HG4.out.mono HG1.out.size)
  refine or_k _ _ (fun k => k < w2.heap.size) _ v1 512 (setA S (key, val)).1.1 _ (setA S (key, val)).1.2 (fun _ hk => hk) (.inr ⟨s1, b1, rfl, HS1.out.move (HG4.out.block _ HS1.out.lt.1) (HG4.out.block _ HS1.out.lt.2), Nat.lt_of_lt_of_le HS1.out.lt.1 HG4.out.size, Nat.lt_of_lt_of_le HS1.out.lt.2 HG4.out.size⟩) HA.out.any ?_
  intro s b w3 g5 g6 g7 hS3
  rw [(setA_n S (key, val)).1] at hS3
  have hv := HR.out s b _ w3 (hb2.trans (g5.mono hb2.size)) (Nat.le_trans hb2.size g6) (Nat.le_trans hb2.size g7) hS3 (fun i hi => by rw [memW_or _ _ _ _ (by omega), memW_zero]; simp)
  clear g5 g6 g7 hS3 hb2
  go_wp2_with fail
  exact hv
set_option maxRecDepth 100000 in
set_option maxHeartbeats 4000000 in
theorem pods_d (R : Ending → World → Prop) (w : World) (h : Hdr) (own : Own') (S : St) (key val : ByteArray) (D : DomAt w h own S)
    (hR : ∀ s b ws w', Below w.heap.size w w' → w.heap.size ≤ s → w.heap.size ≤ b → SetIn w' s b 2048 ws → (∀ i, i < 2048 → memW ws i = memW (setA S (key, val)).2.2 i) → R (.returned (.pointer (some ⟨s, 0, none⟩))) w') :
    Calls Tryz.prog 23 #[.pointer (some ⟨h.d, 0, none⟩), .string key, .string val] w R := by
  have HR := Lib.hid hR
  have HD := Lib.hid D
  clear hR D
  go_enter Tryz.func23, Tryz.ntmps23
  go_wp2_with fail
  refine bitmap_k _ _ 2048 (by decide) ?_
  intro s1 b1 w1 g1 g2 g3 hS1
  have HG1 := Lib.hid g1
  have HS1 := Lib.hid hS1
  clear g1 hS1 g2 g3
  go_wp2_with fail
  refine area_d _ _ h own S key val (HD.out.below HG1.out) ?_
  intro v1 v2 w2 g4 hA hP
  have HG4 := Lib.hid g4
  have HP := Lib.hid hP
  have l2 := area_pods v1 v2 w2
  clear g4 hA hP
  go_wp2_with fail
  have hb2 := HG1.out.trans (HG4.out.mono HG1.out.size)
  refine or_k _ _ (fun k => k < w2.heap.size) _ v2 2048 (setA S (key, val)).2.1 _ (setA S (key, val)).2.2 (fun _ hk => hk) (.inr ⟨s1, b1, rfl, HS1.out.move (HG4.out.block _ HS1.out.lt.1) (HG4.out.block _ HS1.out.lt.2), Nat.lt_of_lt_of_le HS1.out.lt.1 HG4.out.size, Nat.lt_of_lt_of_le HS1.out.lt.2 HG4.out.size⟩) HP.out.any ?_
  intro s b w3 g5 g6 g7 hS3
  rw [(setA_n S (key, val)).2] at hS3
  have hv := HR.out s b _ w3 (hb2.trans (g5.mono hb2.size)) (Nat.le_trans hb2.size g6) (Nat.le_trans hb2.size g7) hS3 (fun i hi => by rw [memW_or _ _ _ _ (by omega), memW_zero]; simp)
  clear g5 g6 g7 hS3 hb2
  go_wp2_with fail
  exact hv
/-- Of a nil Domains: an empty set. -/
theorem nodesNil_k (R : Ending → World → Prop) (w : World) (key val : ByteArray)
    (hR : ∀ s b ws w', Below w.heap.size w w' → w.heap.size ≤ s → w.heap.size ≤ b → SetIn w' s b 512 ws → (∀ i, i < 512 → memW ws i = false) → R (.returned (.pointer (some ⟨s, 0, none⟩))) w') :
    Calls Tryz.prog 22 #[.pointer none, .string key, .string val] w R := by
  have HR := Lib.hid hR
  clear hR
  go_enter Tryz.func22, Tryz.ntmps22
  go_wp2_with fail
  refine bitmap_k _ _ 512 (by decide) ?_
  intro s1 b1 w1 g1 g2 g3 hS1
  have HG1 := Lib.hid g1
  have HS1 := Lib.hid hS1
  clear g1 hS1 g2 g3
  go_wp2_with fail
  refine areaNil_k _ _ key val ?_
  intro w2 g4
  have HG4 := Lib.hid g4
  have l2 := area_nodes (.pointer none) (.pointer none) w2
  clear g4
  go_wp2_with fail
  have hb2 := HG1.out.trans (HG4.out.mono HG1.out.size)
  refine or_k _ _ (fun k => k < w2.heap.size) _ (.pointer none) 512 0 _ [] (fun _ hk => hk) (.inr ⟨s1, b1, rfl, HS1.out.move (HG4.out.block _ HS1.out.lt.1) (HG4.out.block _ HS1.out.lt.2), Nat.lt_of_lt_of_le HS1.out.lt.1 HG4.out.size, Nat.lt_of_lt_of_le HS1.out.lt.2 HG4.out.size⟩) (.inl ⟨rfl, rfl, rfl⟩) ?_
  intro s b w3 g5 g6 g7 hS3
  have hv := HR.out s b _ w3 (hb2.trans (g5.mono hb2.size)) (Nat.le_trans hb2.size g6) (Nat.le_trans hb2.size g7) hS3 (fun i hi => by rw [memW_or _ _ _ _ (by omega), memW_zero, memW_nil]; rfl)
  clear g5 g6 g7 hS3 hb2
  go_wp2_with fail
  exact hv
theorem podsNil_k (R : Ending → World → Prop) (w : World) (key val : ByteArray)
    (hR : ∀ s b ws w', Below w.heap.size w w' → w.heap.size ≤ s → w.heap.size ≤ b → SetIn w' s b 2048 ws → (∀ i, i < 2048 → memW ws i = false) → R (.returned (.pointer (some ⟨s, 0, none⟩))) w') :
    Calls Tryz.prog 23 #[.pointer none, .string key, .string val] w R := by
  have HR := Lib.hid hR
  clear hR
  go_enter Tryz.func23, Tryz.ntmps23
  go_wp2_with fail
  refine bitmap_k _ _ 2048 (by decide) ?_
  intro s1 b1 w1 g1 g2 g3 hS1
  have HG1 := Lib.hid g1
  have HS1 := Lib.hid hS1
  clear g1 hS1 g2 g3
  go_wp2_with fail
  refine areaNil_k _ _ key val ?_
  intro w2 g4
  have HG4 := Lib.hid g4
  have l2 := area_pods (.pointer none) (.pointer none) w2
  clear g4
  go_wp2_with fail
  have hb2 := HG1.out.trans (HG4.out.mono HG1.out.size)
  refine or_k _ _ (fun k => k < w2.heap.size) _ (.pointer none) 2048 0 _ [] (fun _ hk => hk) (.inr ⟨s1, b1, rfl, HS1.out.move (HG4.out.block _ HS1.out.lt.1) (HG4.out.block _ HS1.out.lt.2), Nat.lt_of_lt_of_le HS1.out.lt.1 HG4.out.size, Nat.lt_of_lt_of_le HS1.out.lt.2 HG4.out.size⟩) (.inl ⟨rfl, rfl, rfl⟩) ?_
  intro s b w3 g5 g6 g7 hS3
  have hv := HR.out s b _ w3 (hb2.trans (g5.mono hb2.size)) (Nat.le_trans hb2.size g6) (Nat.le_trans hb2.size g7) hS3 (fun i hi => by rw [memW_or _ _ _ _ (by omega), memW_zero, memW_nil]; rfl)
  clear g5 g6 g7 hS3 hb2
  go_wp2_with fail
  exact hv
/-- Does a stand so to b? -/
def standsB (a : Int) (c : Int) (b : Int) : Bool :=
  if c = 1 then a == b else if c = 2 then a != b else if c = 3 then decide (a < b) else if c = 4 then decide (a ≤ b) else if c = 5 then decide (b < a) else if c = 6 then decide (b ≤ a) else false
theorem stands_k (R : Ending → World → Prop) (w : World) (a c b : Int) (hR : R (.returned (.bool (standsB a c b))) w) :
    Calls Tryz.prog 89 #[.int .i64 a, .int .i64 c, .int .i64 b] w R := by
  have HR := Lib.hid hR
  clear hR
  have hv := HR.out
  unfold standsB at hv
  by_cases h1 : c = 1
  · rw [if_pos h1] at hv
    subst h1
    go_enter Tryz.func89, Tryz.ntmps89
    go_wp2_with fail
    exact hv
  rw [if_neg h1] at hv
  have q1 : (c == 1) = false := by simpa using h1
  by_cases h2 : c = 2
  · rw [if_pos h2] at hv
    subst h2
    go_enter Tryz.func89, Tryz.ntmps89
    go_wp2_with fail
    exact hv
  rw [if_neg h2] at hv
  have q2 : (c == 2) = false := by simpa using h2
  by_cases h3 : c = 3
  · rw [if_pos h3] at hv
    subst h3
    go_enter Tryz.func89, Tryz.ntmps89
    go_wp2_with fail
    exact hv
  rw [if_neg h3] at hv
  have q3 : (c == 3) = false := by simpa using h3
  by_cases h4 : c = 4
  · rw [if_pos h4] at hv
    subst h4
    go_enter Tryz.func89, Tryz.ntmps89
    go_wp2_with fail
    exact hv
  rw [if_neg h4] at hv
  have q4 : (c == 4) = false := by simpa using h4
  by_cases h5 : c = 5
  · rw [if_pos h5] at hv
    subst h5
    go_enter Tryz.func89, Tryz.ntmps89
    go_wp2_with fail
    exact hv
  rw [if_neg h5] at hv
  have q5 : (c == 5) = false := by simpa using h5
  by_cases h6 : c = 6
  · rw [if_pos h6] at hv
    subst h6
    go_enter Tryz.func89, Tryz.ntmps89
    go_wp2_with fail
    exact hv
  rw [if_neg h6] at hv
  have q6 : (c == 6) = false := by simpa using h6
  clear h1 h2 h3 h4 h5 h6
  go_enter Tryz.func89, Tryz.ntmps89
  go_wp2_with fail
  exact hv
end Go.Proofs.YtmenipaibjifiaaGreatDoor

namespace Go.Proofs.YtmenipaibjifiaaGreatDoor
open Go.RowKit Go.BigFrame

def orTo (ws ys : List Nat) (k : Nat) : List Nat := (List.range ws.length).map fun j => if j < k then ws.getD j 0 ||| ys.getD j 0 else ws.getD j 0
theorem orTo_length (ws ys : List Nat) (k : Nat) : (orTo ws ys k).length = ws.length := by simp [orTo]
theorem orTo_zero (ws ys : List Nat) : orTo ws ys 0 = ws := by
  unfold orTo
  apply List.ext_getElem
  · simp
  · intro i h1 h2
    simp [List.getD_eq_getElem?_getD, h2]
theorem orTo_get (ws ys : List Nat) (k j : Nat) (h : j < ws.length) (hk : k ≤ j) : (orTo ws ys k).getD j 0 = ws.getD j 0 := by
  unfold orTo
  rw [List.getD_eq_getElem?_getD, List.getElem?_map, List.getElem?_range h]
  simp only [Option.map_some, Option.getD_some]
  rw [if_neg (by omega)]
theorem orTo_set (ws ys : List Nat) (k : Nat) : (orTo ws ys k).set k (ws.getD k 0 ||| ys.getD k 0) = orTo ws ys (k + 1) := by
  unfold orTo
  apply List.ext_getElem
  · simp
  · intro i h1 h2
    simp only [List.getElem_set, List.getElem_map, List.getElem_range]
    by_cases e : k = i
    · subst e; simp
    · rw [if_neg e]
      by_cases h : i < k
      · rw [if_pos h, if_pos (by omega)]
      · rw [if_neg h, if_neg (by omega)]
theorem orTo_all (ws ys : List Nat) : orTo ws ys ws.length = zipW (· ||| ·) ws.length ws ys := by
  unfold orTo zipW
  apply List.map_congr_left
  intro j hj
  rw [if_pos (List.mem_range.1 hj)]

set_option maxRecDepth 100000 in
set_option maxHeartbeats 4000000 in
theorem orWith_k (R : Ending → World → Prop) (w : World) (s b n : Nat) (ws : List Nat) (ok : Nat → Prop) (vt : Value) (m : Nat) (ys : List Nat) (hS : SetIn w s b n ws) (hn : n % 64 = 0) (hT : SetP w ok vt m ys) (hnb : ¬ ok b)
    (hR : ∀ w', Mod (fun k => k = b) w w' → SetIn w' s b n (zipW (· ||| ·) ws.length ws ys) → R (.returned (.tuple #[])) w') :
    Calls Tryz.prog 90 #[.pointer (some ⟨s, 0, none⟩), vt] w R := by
  have HR := Lib.hid hR
  clear hR
  obtain ⟨hsb, hs, hb, hl, hn2, hw⟩ := id hS
  have c1 : w.cell? ⟨s, 1, none⟩ = some (.slice (some ⟨b, 0, none⟩) ws.length ws.length) := cell_at hs rfl
  have HS := Lib.hid hS
  have HT := Lib.hid hT
  have hwl : ws.length ≤ 1024 := by omega
  clear hS hT hs hb hl
  go_enter Tryz.func90, Tryz.ntmps90
  go_wp2_with fail
  go_loopw [13] (fun i wr => ∃ k : Nat, k ≤ ws.length ∧ i = .int .i64 k ∧ Mod (fun k => k = b) w wr ∧ SetIn wr s b n (orTo ws ys k)) (fun i _ => ws.length - (intOf i).toNat)
  case atStart => exact ⟨0, Nat.zero_le _, rfl, Mod.refl _ _, by rw [orTo_zero]; exact HS.out⟩
  case round =>
    obtain ⟨k, hk, rfl, hM, hSr⟩ := hrel
    have d1 : wr.cell? ⟨s, 1, none⟩ = some (.slice (some ⟨b, 0, none⟩) (orTo ws ys k).length (orTo ws ys k).length) := cell_at hSr.2.1 rfl
    have d0 : wr.cell? ⟨s, 0, none⟩ = some (.int .i64 n) := cell_at hSr.2.1 rfl
    rw [orTo_length] at d1
    by_cases hkl : k < ws.length
    · have hj : k < (orTo ws ys k).length := by rw [orTo_length]; exact hkl
      have hTr : SetP wr ok vt m ys := HT.out.move (fun j hj hl => hM.block j hl (fun e => hnb (by rw [← e]; exact hj))) (fun _ h _ => h)
      have hgk : (orTo ws ys k)[k]'hj = ws.getD k 0 := by
        have := orTo_get ws ys k k hkl (Nat.le_refl _)
        rw [List.getD_eq_getElem?_getD, List.getElem?_eq_getElem hj] at this
        exact this
      have hx1 := hSr.2.2.2.2.2 _ (List.getElem_mem hj)
      rw [hgk] at hx1
      have hy1 := hTr.words k
      have hlt : ws.getD k 0 ||| ys.getD k 0 < 18446744073709551616 := Nat.or_lt_two_pow (n := 64) hx1 hy1
      obtain ⟨hS2, hM2⟩ := hSr.put hj hlt
      rw [orTo_set] at hS2
      have d3 := hSr.word hj
      rw [hgk] at d3
      have d2 : wr.frozen? ⟨b, k, none⟩ = false := by simp [World.frozen?, hSr.2.2.1]
      have eor := bits_or_u64_nat (ws.getD k 0) (ys.getD k 0) hx1 hy1
      have HS2 := Lib.hid hS2
      have HM2 := Lib.hid hM2
      have HM := Lib.hid hM
      have HTr := Lib.hid hTr
      have HEO := Lib.hid eor
      have dd1 : wr.drew.cell? ⟨s, 1, none⟩ = some (.slice (some ⟨b, 0, none⟩) ws.length ws.length) := d1
      have dd3 : wr.drew.cell? ⟨b, k, none⟩ = some (.int .u64 ((ws.getD k 0 : Nat) : Int)) := d3
      clear hS2 hM2 hM hTr hgk eor hSr hlt hx1 hy1
      go_wp2_with fail
      go_region_with (go_at_call 79; refine word_p _ _ ok vt m ys k ?_ ?_; exact HTr.out.move (fun _ _ _ => rfl) (fun _ h _ => h))
      all_goals go_wp2
      all_goals
        go_roundw
        case rel => exact ⟨k + 1, by omega, by go_num, by
            have h1 := HM2.out
            have h2 := HEO.out
            simp only [List.getD_eq_getElem?_getD, List.getElem?_eq_getElem hkl, Option.getD_some] at h1 h2
            rw [h2]
            exact HM.out.trans h1.drew (fun _ _ e => e), by
            have h1 := HS2.out
            have h2 := HEO.out
            simp only [List.getD_eq_getElem?_getD, List.getElem?_eq_getElem hkl, Option.getD_some] at h1 h2
            rw [h2]
            exact h1.move rfl rfl⟩
        case measure => simp [intOf]; omega
    · obtain rfl : k = ws.length := by omega
      rw [orTo_all] at hSr
      have hv := HR.out wr hM hSr
      have g2 : ((n : Int) % 64 == 0) = true := by simp; omega
      clear hSr hM
      go_wp2_with fail
      try go_end0
      exact hv
end Go.Proofs.YtmenipaibjifiaaGreatDoor

namespace Go.Proofs.YtmenipaibjifiaaGreatDoor
open Go.RowKit Go.BigFrame

set_option maxRecDepth 100000 in
set_option maxHeartbeats 40000000 in
theorem dapplyAdd_k (R : Ending → World → Prop) (w : World) (h : Hdr) (own : Own') (S : St) (ok : Nat → Prop) (x : Chg) (cs : List Value) (P : Pre w h own S) (hok : ∀ k, ok k → k < w.heap.size ∧ ¬ Mut own k) (hx : chgK w ok x cs) (hs : ChgFit x) (hG : GOk w)
    (hk : x.kind = 1) (hf : fitsS S x = true)
    (hR : ∀ own' w', DomAt w' h own' (addNode S x.slot x.now.labels) → Ext w own own' → Mod (Mut own) w w' → R (.returned (.int .i64 0)) w') :
    Calls Tryz.prog 12 #[.pointer (some ⟨h.d, 0, none⟩), .agg cs.toArray] w R := by
  have D := P.D
  have I := P.I
  have hx0 := hx
  obtain ⟨vla, vta, vca, vlb, vtb, vcb, vplc, vpnc, vptc, vpac, vppc, rfl, hn1, hn2, hp3⟩ := chg_form hx
  have hs0 := hs
  obtain ⟨s1, s2⟩ := hs
  obtain ⟨_, _, _, en, hnl, _, _⟩ := hn2
  obtain ⟨_, _, _, _, _, ep, hpl, _, _, _, _⟩ := hp3
  simp only [List.cons.injEq, and_true, true_and] at en ep
  obtain ⟨rfl, rfl, rfl⟩ := en
  obtain ⟨rfl, rfl, rfl, rfl, rfl⟩ := ep
  have HR := Lib.hid hR
  have HOK := Lib.hid hok
  have HFF := Lib.hid hf
  clear hR hx hf
  have HKD := Lib.hid hk
  clear hk
  have t0 : Below w.heap.size w (w.alloc (.cells #[.int .i64 x.kind, .int .i64 x.slot, .int .i64 x.podSlot, .string x.was.name, vla, vta, vca, .bool x.was.cord, .string x.now.name, vlb, vtb, vcb, .bool x.now.cord, .string x.pod.name, vplc, vpnc, vptc, .string x.pod.req, vpac, vppc, .int .i64 x.pod.prio] 42)) := Below.alloc (Below.refl _ _) (Nat.le_refl _) _
  have oc0 : (w.alloc (.cells #[.int .i64 x.kind, .int .i64 x.slot, .int .i64 x.podSlot, .string x.was.name, vla, vta, vca, .bool x.was.cord, .string x.now.name, vlb, vtb, vcb, .bool x.now.cord, .string x.pod.name, vplc, vpnc, vptc, .string x.pod.req, vpac, vppc, .int .i64 x.pod.prio] 42)).heap[w.heap.size]? = some (.cells #[.int .i64 x.kind, .int .i64 x.slot, .int .i64 x.podSlot, .string x.was.name, vla, vta, vca, .bool x.was.cord, .string x.now.name, vlb, vtb, vcb, .bool x.now.cord, .string x.pod.name, vplc, vpnc, vptc, .string x.pod.req, vpac, vppc, .int .i64 x.pod.prio] 42) := heap_alloc_new _ _
  go_enter Tryz.func12, Tryz.ntmps12
  go_wp2_with (first | refine wpList_load_row rfl 42 _ rfl w.heap.size rfl 42 #[.int .i64 x.kind, .int .i64 x.slot, .int .i64 x.podSlot, .string x.was.name, vla, vta, vca, .bool x.was.cord, .string x.now.name, vlb, vtb, vcb, .bool x.now.cord, .string x.pod.name, vplc, vpnc, vptc, .string x.pod.req, vpac, vppc, .int .i64 x.pod.prio] (0, 0) _ oc0 Tryz.underlying42 rfl (by kernel_rfl) ?_)
  refine dfits_k _ _ h own S ok x [.int .i64 x.kind, .int .i64 x.slot, .int .i64 x.podSlot, .string x.was.name, vla, vta, vca, .bool x.was.cord, .string x.now.name, vlb, vtb, vcb, .bool x.now.cord, .string x.pod.name, vplc, vpnc, vptc, .string x.pod.req, vpac, vppc, .int .i64 x.pod.prio] (D.below t0) (fun k hk => by have := (HOK.out k hk).1; have := t0.size; omega) (chgOk.move hx0 (fun k hk => t0.block k (HOK.out k hk).1)) hs0 (GOk.below hG t0) (I.ons _) ?_
  intro w1 g1
  rw [HFF.out]
  have hB1 := t0.trans (g1.mono t0.size)
  have oc1 := (g1.block w.heap.size (by simp)).trans oc0
  clear oc0 t0 g1
  have hk := HKD.out
  have hf2 := HFF.out
  unfold fitsS at hf2
  rw [if_pos hk] at hf2
  simp only [Bool.and_eq_true, decide_eq_true_eq] at hf2
  obtain ⟨⟨⟨f1, f2⟩, f3⟩, f4⟩ := hf2
  have hl32 := chk_len f4
  have D1 := D.below hB1
  have c0 : w1.cell? ⟨w.heap.size, 0, none⟩ = some (.int .i64 x.kind) := cell_at oc1 rfl
  have c1 : w1.cell? ⟨w.heap.size, 1, none⟩ = some (.int .i64 x.slot) := cell_at oc1 rfl
  have c9 : w1.cell? ⟨w.heap.size, 9, none⟩ = some vlb := cell_at oc1 rfl
  rw [hk] at c0
  have x2 : w1.cell? ⟨h.d, 2, none⟩ = some (.map (some h.o)) := cell_at D1.hd rfl
  have hown0 : own w.heap.size = none := D.lim _ (Nat.le_refl _)
  obtain ⟨m, hm, hmf⟩ := D1.fo
  obtain ⟨oU, hU⟩ := hm.update_any intK Tryz.underlying120 x.slot
  have ia : h.o < w1.heap.size := D1.lt D1.oo
  have nA0 : ¬ w.heap.size = h.o := fun e => by have := D1.oo; rw [← e, hown0] at this; cases this
  have nAd : ¬ h.d = h.o := fun e => by have h1 := D1.oo; rw [← e, D1.od] at h1; cases h1
  have HK := Lib.hid (show ∀ w', Mod (fun j => j = h.o) w1 w' → Mod (fun j => j = h.o) w1 w' ∧ w'.cell? ⟨h.d, 2, none⟩ = some (.map (some h.o)) ∧ w'.cell? ⟨w.heap.size, 1, none⟩ = some (.int .i64 x.slot) from
    fun w' hw => ⟨hw, hw.cell' x2 nAd, hw.cell' c1 nA0⟩)
  obtain ⟨Ab, cb, eb, _, _⟩ := hnl.form
  subst eb
  have HU := Lib.hid hU
  have HMF := Lib.hid hmf
  have HD1 := Lib.hid D1
  have HOC := Lib.hid oc1
  have HB1 := Lib.hid hB1
  have HNL := Lib.hid hnl
  clear hU hmf hm D1 oc1 hB1 hnl hpl hn1 hx0 hk
  go_wp2_with fail
  go_region_held3 (fun w' => Mod (fun j => j = h.o) w1 w' ∧ w'.cell? ⟨h.d, 2, none⟩ = some (.map (some h.o)) ∧ w'.cell? ⟨w.heap.size, 1, none⟩ = some (.int .i64 x.slot))
    (first
    | exact HK.out _ ((Mod.refl _ w1).drew)
    | exact HK.out _ yM
    | exact HK.out _ (Mod.put (S := fun j => j = h.o) (b := h.o) yM (fun _ => rfl) _))
    (first
    | (go_at_call 55; refine bitmap_k _ _ 2048 (by decide) ?_; intro sB bB w2 g1 g2 g3 hSB
       have yb := Below.of_drew g1
       have yM : Mod (fun j => j = h.o) w1 w2 := (Mod.of_below yb).non_to
       have zu : ∀ v, (Instr.mapUpdate 120 (.map (some h.o)) (.int .i64 x.slot) v).run Tryz.prog w2 = _ := fun v => (HU.out w2 (yb.block h.o ia) v).1))
  all_goals (
    obtain ⟨nE, nD⟩ := HD1.out.newOn (slot := x.slot) yb hSB ⟨g2, g3⟩ HMF.out (HU.out w2 (yb.block h.o ia) _).2 (putObj_mod _ _ _)
    have zP : Mod (fun j => j = h.o) w1 (putObj w2 h.o (oU (.pointer (some ⟨sB, 0, none⟩)) w2)) := yM.put (b := h.o) (fun _ => rfl) _
    have hE : Ext w own (addOwn (addOwn own bB (.on x.slot)) sB .imm) := fun k hk => nE k (Nat.lt_of_lt_of_le hk HB1.out.size)
    have hM3 : Mod (Mut own) w (putObj w2 h.o (oU (.pointer (some ⟨sB, 0, none⟩)) w2)) := ((Mod.of_below HB1.out).non_to (X := Mut own)).seq (zP.to_mut HD1.out.oo (by simp))
    have d9 := zP.cell' c9 nA0
    have d1 := zP.cell' c1 nA0
    have HE := Lib.hid hE
    have HM3 := Lib.hid hM3
    have HND := Lib.hid nD
    generalize hW3 : putObj w2 h.o (oU (.pointer (some ⟨sB, 0, none⟩)) w2) = W3 at *
    clear hW3 hE hM3 nD zP yM yb g1 g2 g3 hSB nE
    go_wp2_with fail
    have hms := HM3.out.size
    refine join_d _ _ h _ _ x.slot _ x.now.labels ok (List.replicate 32 0) 2048 HND.out (fun k hk => ⟨Nat.lt_of_lt_of_le (HOK.out k hk).1 hms, by unfold Mut; rw [HE.out k (HOK.out k hk).1]; exact (HOK.out k hk).2⟩) (SlK.move labOk HNL.out (fun k hk => HM3.out.block k (HOK.out k hk).1 (HOK.out k hk).2)) hl32 ⟨f1, f2⟩ (fun b hb => I.a.av b hb) (by simp [upd_same]) (P.few.of rfl) (by decide) ⟨I.a.small.counts, I.a.small.values⟩ ?_
    intro own4 w4 D4 E4 M4
    have hv := HR.out own4 w4 D4 (HE.out.trans E4 hms) (HM3.out.chain M4 HE.out)
    go_wp2_with fail
    exact hv)
end Go.Proofs.YtmenipaibjifiaaGreatDoor

namespace Go.Proofs.YtmenipaibjifiaaGreatDoor
open Go.RowKit Go.BigFrame

set_option maxRecDepth 100000 in
set_option maxHeartbeats 40000000 in
theorem dapplyPod_k (R : Ending → World → Prop) (w : World) (h : Hdr) (own : Own') (S : St) (ok : Nat → Prop) (x : Chg) (cs : List Value) (P : Pre w h own S) (hok : ∀ k, ok k → k < w.heap.size ∧ ¬ Mut own k) (hx : chgK w ok x cs) (hs : ChgFit x) (hG : GOk w)
    (hk : x.kind = 4) (hf : fitsS S x = true) (hnode : ∀ s ls, S.nodes s = some ls → ls.length ≤ 1048576)
    (hR : ∀ own' w', DomAt w' h own' (addPod S x.slot x.podSlot x.pod.labels) → Ext w own own' → Mod (Mut own) w w' → R (.returned (.int .i64 0)) w') :
    Calls Tryz.prog 12 #[.pointer (some ⟨h.d, 0, none⟩), .agg cs.toArray] w R := by
  have D := P.D
  have I := P.I
  have hx0 := hx
  obtain ⟨vla, vta, vca, vlb, vtb, vcb, vplc, vpnc, vptc, vpac, vppc, rfl, hn1, hn2, hp3⟩ := chg_form hx
  have hs0 := hs
  obtain ⟨s1, s2⟩ := hs
  obtain ⟨_, _, _, en, hnl, _, _⟩ := hn2
  obtain ⟨_, _, _, _, _, ep, hpl, _, _, _, _⟩ := hp3
  simp only [List.cons.injEq, and_true, true_and] at en ep
  obtain ⟨rfl, rfl, rfl⟩ := en
  obtain ⟨rfl, rfl, rfl, rfl, rfl⟩ := ep
  have HR := Lib.hid hR
  have HOK := Lib.hid hok
  have HFF := Lib.hid hf
  clear hR hx hf
  have HKD := Lib.hid hk
  clear hk
  have t0 : Below w.heap.size w (w.alloc (.cells #[.int .i64 x.kind, .int .i64 x.slot, .int .i64 x.podSlot, .string x.was.name, vla, vta, vca, .bool x.was.cord, .string x.now.name, vlb, vtb, vcb, .bool x.now.cord, .string x.pod.name, vplc, vpnc, vptc, .string x.pod.req, vpac, vppc, .int .i64 x.pod.prio] 42)) := Below.alloc (Below.refl _ _) (Nat.le_refl _) _
  have oc0 : (w.alloc (.cells #[.int .i64 x.kind, .int .i64 x.slot, .int .i64 x.podSlot, .string x.was.name, vla, vta, vca, .bool x.was.cord, .string x.now.name, vlb, vtb, vcb, .bool x.now.cord, .string x.pod.name, vplc, vpnc, vptc, .string x.pod.req, vpac, vppc, .int .i64 x.pod.prio] 42)).heap[w.heap.size]? = some (.cells #[.int .i64 x.kind, .int .i64 x.slot, .int .i64 x.podSlot, .string x.was.name, vla, vta, vca, .bool x.was.cord, .string x.now.name, vlb, vtb, vcb, .bool x.now.cord, .string x.pod.name, vplc, vpnc, vptc, .string x.pod.req, vpac, vppc, .int .i64 x.pod.prio] 42) := heap_alloc_new _ _
  go_enter Tryz.func12, Tryz.ntmps12
  go_wp2_with (first | refine wpList_load_row rfl 42 _ rfl w.heap.size rfl 42 #[.int .i64 x.kind, .int .i64 x.slot, .int .i64 x.podSlot, .string x.was.name, vla, vta, vca, .bool x.was.cord, .string x.now.name, vlb, vtb, vcb, .bool x.now.cord, .string x.pod.name, vplc, vpnc, vptc, .string x.pod.req, vpac, vppc, .int .i64 x.pod.prio] (0, 0) _ oc0 Tryz.underlying42 rfl (by kernel_rfl) ?_)
  refine dfits_k _ _ h own S ok x [.int .i64 x.kind, .int .i64 x.slot, .int .i64 x.podSlot, .string x.was.name, vla, vta, vca, .bool x.was.cord, .string x.now.name, vlb, vtb, vcb, .bool x.now.cord, .string x.pod.name, vplc, vpnc, vptc, .string x.pod.req, vpac, vppc, .int .i64 x.pod.prio] (D.below t0) (fun k hk => by have := (HOK.out k hk).1; have := t0.size; omega) (chgOk.move hx0 (fun k hk => t0.block k (HOK.out k hk).1)) hs0 (GOk.below hG t0) (I.ons _) ?_
  intro w1 g1
  rw [HFF.out]
  have hB1 := t0.trans (g1.mono t0.size)
  have oc1 := (g1.block w.heap.size (by simp)).trans oc0
  clear oc0 t0 g1
  have hk := HKD.out
  have hf2 := HFF.out
  unfold fitsS at hf2
  rw [if_neg (by omega), if_neg (by omega), if_neg (by omega), if_pos hk] at hf2
  simp only [Bool.and_eq_true, decide_eq_true_eq] at hf2
  obtain ⟨⟨⟨⟨f1, f2⟩, f3⟩, f4⟩, f5⟩ := hf2
  have hl32 := chk_len f5
  have D1 := D.below hB1
  have c0 : w1.cell? ⟨w.heap.size, 0, none⟩ = some (.int .i64 x.kind) := cell_at oc1 rfl
  have c1 : w1.cell? ⟨w.heap.size, 1, none⟩ = some (.int .i64 x.slot) := cell_at oc1 rfl
  have c2 : w1.cell? ⟨w.heap.size, 2, none⟩ = some (.int .i64 x.podSlot) := cell_at oc1 rfl
  have c14 : w1.cell? ⟨w.heap.size, 14, none⟩ = some vplc := cell_at oc1 rfl
  rw [hk] at c0
  have x1 : w1.cell? ⟨h.d, 1, none⟩ = some (.map (some h.g)) := cell_at D1.hd rfl
  have hown0 : own w.heap.size = none := D.lim _ (Nat.le_refl _)
  obtain ⟨m, hm, hmf⟩ := D1.fg
  obtain ⟨oU, hU⟩ := hm.update_any intK Tryz.underlying119 x.podSlot
  have ia : h.g < w1.heap.size := D1.lt D1.og
  have nA0 : ¬ w.heap.size = h.g := fun e => by have := D1.og; rw [← e, hown0] at this; cases this
  have nAd : ¬ h.d = h.g := fun e => by have h1 := D1.og; rw [← e, D1.od] at h1; cases h1
  obtain ⟨Ap, cp, ep, _, _⟩ := hpl.form
  subst ep
  have HK := Lib.hid (show ∀ w', Mod (fun j => j = h.g) w1 w' → Mod (fun j => j = h.g) w1 w' ∧ w'.cell? ⟨h.d, 1, none⟩ = some (.map (some h.g)) ∧ w'.cell? ⟨w.heap.size, 2, none⟩ = some (.int .i64 x.podSlot) ∧ w'.cell? ⟨w.heap.size, 14, none⟩ = some (.slice Ap x.pod.labels.length cp) ∧ w'.cell? ⟨w.heap.size, 1, none⟩ = some (.int .i64 x.slot) from
    fun w' hw => ⟨hw, hw.cell' x1 nAd, hw.cell' c2 nA0, hw.cell' c14 nA0, hw.cell' c1 nA0⟩)
  have HU := Lib.hid hU
  have HMF := Lib.hid hmf
  have HD1 := Lib.hid D1
  have HOC := Lib.hid oc1
  have HB1 := Lib.hid hB1
  have HPL := Lib.hid hpl
  clear hU hmf hm D1 oc1 hB1 hnl hpl hn1 hx0 hk
  go_wp2_with fail
  go_cut [91] (fun _ wr => ∃ own2, DomAt wr h own2 { S with guests := upd S.guests x.podSlot (some (x.pod.labels, x.slot)) } ∧ Ext w own own2 ∧ Mod (Mut own) w wr ∧ wr.heap[w.heap.size]? = some (.cells #[.int .i64 x.kind, .int .i64 x.slot, .int .i64 x.podSlot, .string x.was.name, vla, vta, vca, .bool x.was.cord, .string x.now.name, vlb, vtb, vcb, .bool x.now.cord, .string x.pod.name, .slice Ap x.pod.labels.length cp, vpnc, vptc, .string x.pod.req, vpac, vppc, .int .i64 x.pod.prio] 42) ∧ own2 w.heap.size = none)
  case first =>
    go_region_held3 (fun w' => Mod (fun j => j = h.g) w1 w' ∧ w'.cell? ⟨h.d, 1, none⟩ = some (.map (some h.g)) ∧ w'.cell? ⟨w.heap.size, 2, none⟩ = some (.int .i64 x.podSlot) ∧ w'.cell? ⟨w.heap.size, 14, none⟩ = some (.slice Ap x.pod.labels.length cp) ∧ w'.cell? ⟨w.heap.size, 1, none⟩ = some (.int .i64 x.slot))
      (first
      | exact HK.out _ ((Mod.refl _ w1).drew)
      | exact HK.out _ yM
      | exact HK.out _ (Mod.put (S := fun j => j = h.g) (b := h.g) yM (fun _ => rfl) _))
      (first
      | (go_at_call 58; refine clone_k _ _ ok _ x.pod.labels (fun j hj => by have := (HOK.out j hj).1; have := HB1.out.size; show j < w1.heap.size; omega) (SlK.move labOk HPL.out (fun j hj => HB1.out.block j (HOK.out j hj).1)) (by omega) ?_; intro v2 w2 g1 hv2
         obtain ⟨A2, c2', e2, _, _⟩ := hv2.form
         subst e2
         have yb := Below.of_drew g1
         have yM : Mod (fun j => j = h.g) w1 w2 := (Mod.of_below yb).non_to
         have zu : ∀ v, (Instr.mapUpdate 119 (.map (some h.g)) (.int .i64 x.podSlot) v).run Tryz.prog w2 = _ := fun v => (HU.out w2 (yb.block h.g ia) v).1))
    all_goals (
      go_wp2_with fail
      go_meet
      obtain ⟨nE, nD⟩ := HD1.out.newGuest (pod := x.podSlot) (nd := x.slot) yb hv2 HMF.out (HU.out w2 (yb.block h.g ia) _).2 (putObj_mod _ _ _)
      have zP : Mod (fun j => j = h.g) w1 (putObj w2 h.g (oU (.agg #[.slice A2 x.pod.labels.length c2', .int .i64 x.slot]) w2)) := yM.put (b := h.g) (fun _ => rfl) _
      exact ⟨_, nD, fun k hk => nE k (Nat.lt_of_lt_of_le hk HB1.out.size), ((Mod.of_below HB1.out).non_to (X := Mut own)).seq (zP.to_mut HD1.out.og (by simp)), zP.keep HOC.out nA0, (nE _ (Array.getElem?_eq_some_iff.1 HOC.out).1).trans hown0⟩)
  case rest =>
    obtain ⟨own2, D2, E2, M2, b0, o0⟩ := hcut
    obtain ⟨ws, hws⟩ := Option.isSome_iff_exists.1 ((I.ons x.slot).trans f1)
    have x2 : wc.cell? ⟨h.d, 2, none⟩ = some (.map (some h.o)) := cell_at D2.hd rfl
    have y1 : wc.cell? ⟨w.heap.size, 1, none⟩ = some (.int .i64 x.slot) := cell_at b0 rfl
    have y2 : wc.cell? ⟨w.heap.size, 2, none⟩ = some (.int .i64 x.podSlot) := cell_at b0 rfl
    obtain ⟨S2, hS2⟩ : ∃ S2 : St, S2 = { S with guests := upd S.guests x.podSlot (some (x.pod.labels, x.slot)), on := onAdd S x.slot x.podSlot } := ⟨_, rfl⟩
    have HS2 := Lib.hid hS2
    clear hS2 x1 c1 c2 c14 c0 nA0 nAd ia HK HU HMF HD1 HOC HB1 HPL
    obtain ⟨m, hm, hmf⟩ := D2.fo
    have hat := hmf x.slot
    rw [show ({ S with guests := upd S.guests x.podSlot (some (x.pod.labels, x.slot)) } : St).on x.slot = some ws from hws] at hat
    obtain ⟨v, hv, sO, bO, rfl, hSO, oO, iO⟩ := hat.some_l
    have l1 := (hm.move (w' := wc.drew) rfl).lookup intK Tryz.underlying120 (z := .pointer none) (by kernel_rfl) x.slot false
    rw [hv] at l1
    simp only [Bool.false_eq_true, if_false, Option.getD_some] at l1
    have hx : ∀ b, own2 b = none → ¬ b = bO := fun b ob e => by rw [← e, ob] at oO; cases oO
    have hxd : ¬ h.d = bO := fun e => by have h1 := D2.od; rw [e, oO] at h1; cases h1
    have HK := Lib.hid (show ∀ w', Mod (fun j => j = bO) wc w' → Mod (fun j => j = bO) wc w' ∧ w'.cell? ⟨h.d, 2, none⟩ = some (.map (some h.o)) ∧ w'.cell? ⟨w.heap.size, 1, none⟩ = some (.int .i64 x.slot) ∧ w'.cell? ⟨w.heap.size, 2, none⟩ = some (.int .i64 x.podSlot) from
      fun w' hw => ⟨hw, hw.cell' x2 hxd, hw.cell' y1 (hx _ o0), hw.cell' y2 (hx _ o0)⟩)
    have HD2 := Lib.hid D2
    have HM2 := Lib.hid M2
    have HSO := Lib.hid hSO
    have HMm := Lib.hid hm
    have HMF := Lib.hid hmf
    have HV := Lib.hid hv
    have HB0 := Lib.hid b0
    have HWS := Lib.hid hws
    have HE2 := Lib.hid E2
    clear D2 M2 hSO hm hmf hv hat b0 hws E2
    go_wp2_with fail
    go_cut [91] (fun _ wr => DomAt wr h own2 S2 ∧ Mod (Mut own) w wr ∧ wr.heap[w.heap.size]? = some (.cells #[.int .i64 x.kind, .int .i64 x.slot, .int .i64 x.podSlot, .string x.was.name, vla, vta, vca, .bool x.was.cord, .string x.now.name, vlb, vtb, vcb, .bool x.now.cord, .string x.pod.name, .slice Ap x.pod.labels.length cp, vpnc, vptc, .string x.pod.req, vpac, vppc, .int .i64 x.pod.prio] 42))
    case first =>
      go_region_held3 (fun w' => Mod (fun j => j = bO) wc w' ∧ w'.cell? ⟨h.d, 2, none⟩ = some (.map (some h.o)) ∧ w'.cell? ⟨w.heap.size, 1, none⟩ = some (.int .i64 x.slot) ∧ w'.cell? ⟨w.heap.size, 2, none⟩ = some (.int .i64 x.podSlot))
        (first
        | exact HK.out _ ((Mod.refl _ wc).drew)
        | exact HK.out _ yM)
        (first
        | (go_at_call 59; refine add_k _ _ sO bO 2048 ws x.podSlot (HSO.out.move rfl rfl) ?_; intro vb w4 hM4 hS4
           have yM : Mod (fun j => j = bO) wc w4 := (Mod.refl (fun j => j = bO) wc).drew.trans hM4 (fun _ _ e => e)))
      all_goals (
        go_wp2_with fail
        go_meet
        have zD := HD2.out.setOn oO yM hS4 HMm.out HMF.out HV.out iO
        have e4 : S2 = { ({ S with guests := upd S.guests x.podSlot (some (x.pod.labels, x.slot)) } : St) with on := upd S.on x.slot (some (addW 2048 ws x.podSlot)) } := by rw [HS2.out]; simp only [onAdd, HWS.out]
        exact ⟨by rw [e4]; exact zD, HM2.out.chain (yM.to_mut oO (by simp)) HE2.out, yM.keep HB0.out (hx _ o0)⟩)
    case rest =>
      obtain ⟨D3, M3, b3⟩ := hcut
      clear HK HD2 HM2 HSO HMm HMF HV HB0 l1 x2 y1 y2 hx hxd
      obtain ⟨ls, hls⟩ := Option.isSome_iff_exists.1 f1
      have hnl2 : nodeL S x.slot = ls := by unfold nodeL; rw [hls]; rfl
      have x0 : wc.cell? ⟨h.d, 0, none⟩ = some (.map (some h.n)) := cell_at D3.hd rfl
      have y1 : wc.cell? ⟨w.heap.size, 1, none⟩ = some (.int .i64 x.slot) := cell_at b3 rfl
      obtain ⟨mn, hmn, hmnf⟩ := D3.fn
      have hat := hmnf x.slot
      rw [show S2.nodes x.slot = some ls by rw [HS2.out]; exact hls] at hat
      obtain ⟨v, hv, hlab⟩ := hat.some_l
      obtain ⟨An, cn, en, _, _⟩ := SlK.form (show Labs wc (fun b => own2 b = some .imm) v ls from hlab)
      subst en
      have l1 := (hmn.move (w' := wc.drew) rfl).lookup intK Tryz.underlying118 (z := .slice none 0 0) (by kernel_rfl) x.slot false
      rw [hv] at l1
      simp only [Bool.false_eq_true, if_false, Option.getD_some] at l1
      have hll : ls.length ≤ 1048576 := hnode x.slot ls hls
      have hfew2 : Few S2 := fun p => by
        rw [HS2.out]
        unfold guestL
        by_cases e : p = x.podSlot
        · subst e; simp only [upd_same]; exact hl32
        · simp only [upd_ne S.guests _ e]; exact P.few p
      have hsm2 : Small S2 2048 := by rw [HS2.out]; exact ⟨I.a.small.counts, I.a.small.values⟩
      have hia2 : ∀ l, l ∈ ls → (S2.areas (spotOf l)).isSome = true := fun l hl => by rw [HS2.out]; exact I.area (s := x.slot) (by rw [hnl2]; exact hl)
      have HLAB := Lib.hid (show Labs wc (fun b => own2 b = some .imm) (.slice An ls.length cn) ls from hlab)
      have HD3 := Lib.hid D3
      have HM3 := Lib.hid M3
      have HB3 := Lib.hid b3
      have HFW := Lib.hid hfew2
      have HSM := Lib.hid hsm2
      have HIA := Lib.hid hia2
      have HNL := Lib.hid hnl2
      clear hat hmnf hmn hv hlab D3 M3 b3 hfew2 hsm2 hia2 hnl2 hls
      go_wp2_with fail
      go_region
      all_goals (
        go_wp2_with fail
        go_loopw [91] (fun i wr => ∃ k : Nat, k ≤ ls.length ∧ i = .int .i64 k ∧ DomAt wr h own2 (enterNode S2 (ls.take k) x.podSlot 1) ∧ Mod (Mut own2) wc wr ∧ wr.heap[w.heap.size]? = some (.cells #[.int .i64 x.kind, .int .i64 x.slot, .int .i64 x.podSlot, .string x.was.name, vla, vta, vca, .bool x.was.cord, .string x.now.name, vlb, vtb, vcb, .bool x.now.cord, .string x.pod.name, .slice Ap x.pod.labels.length cp, vpnc, vptc, .string x.pod.req, vpac, vppc, .int .i64 x.pod.prio] 42)) (fun i _ => ls.length - (intOf i).toNat)
        case atStart => exact ⟨0, Nat.zero_le _, rfl, HD3.out.drew, (Mod.refl _ wc).drew, HB3.out⟩
        case round =>
          obtain ⟨k, hk, rfl, Dk, hMk, hbk⟩ := hrel
          have hlr : Labs wr (fun b => own2 b = some .imm ∧ b < wc.heap.size) (.slice An ls.length cn) ls := SlK.move labOk (SlK.bnd labOk HLAB.out) (fun j hj => hMk.block j hj.2 (fun hx => hx.2 hj.1))
          by_cases hkl : k < ls.length
          · obtain ⟨b, off, c', he, _, _, hbk2, hbl, hce⟩ := hlr.addr (by omega)
            simp only [Value.slice.injEq] at he
            obtain ⟨rfl, -, rfl⟩ := he
            obtain ⟨d0, d1⟩ := lab_cells hce k hkl
            clear hce hlr
            have z2 : wr.cell? ⟨w.heap.size, 2, none⟩ = some (.int .i64 x.podSlot) := cell_at hbk rfl
            have z2' := cell_old z2 (.cells #[.string (ls[k]'hkl).key, .string (ls[k]'hkl).val] 108)
            have hsk := small_enterNode (n := 1) (by omega) (ls.take k) x.podSlot HFW.out HSM.out (by omega)
            have hlk : (ls.take k).length = k := by rw [List.length_take]; omega
            rw [hlk] at hsk
            obtain ⟨ff1, _, _, _, ff5⟩ := enterNode_fields x.podSlot 1 (ls.take k) S2
            have hia : ((enterNode S2 (ls.take k) x.podSlot 1).areas (spotOf (ls[k]'hkl))).isSome = true := by rw [ff5]; exact HIA.out _ (List.getElem_mem hkl)
            have hfl : (guestL (enterNode S2 (ls.take k) x.podSlot 1) x.podSlot).length ≤ 1048576 := by rw [guestL_congr ff1]; have := HFW.out x.podSlot; omega
            have HDk := Lib.hid Dk
            have HMk := Lib.hid hMk
            have HBk := Lib.hid hbk
            clear Dk hMk hbk ff1 ff5 hlk
            go_wp2_with fail
            refine enterPlus_d _ _ h own2 _ (spotOf (ls[k]'hkl)) x.podSlot (2048 + 32 * (k : Int)) (HDk.out.alloc _) hia (by omega) hsk hfl ?_
            intro w6 hD6 hM6
            have e1 : enterS (enterNode S2 (ls.take k) x.podSlot 1) (spotOf (ls[k]'hkl)) x.podSlot 1 = enterNode S2 (ls.take (k + 1)) x.podSlot 1 := by
              rw [List.take_succ_eq_append_getElem hkl]; unfold enterNode; rw [List.foldl_append]; rfl
            rw [e1] at hD6
            have hM7 : Mod (Mut own2) wc w6 := (HMk.out.seq (((Mod.refl Non wr).alloc _).non_to)).seq hM6
            have hb7 := hM6.keep (heap_keep HBk.out _) (fun e => e.1 o0)
            have HD6 := Lib.hid hD6
            have HM7 := Lib.hid hM7
            have HB7 := Lib.hid hb7
            clear hD6 hM7 hb7 hM6 e1 z2' hsk hia hfl
            go_wp2_with fail
            go_roundw
            case rel => exact ⟨k + 1, by omega, by go_num, HD6.out, HM7.out, HB7.out⟩
            case measure => simp [intOf]; omega
          · obtain rfl : k = ls.length := by omega
            rw [List.take_length] at Dk
            have hv := HR.out own2 wr (by unfold addPod; rw [HNL.out, ← HS2.out]; exact Dk) HE2.out (HM3.out.chain hMk HE2.out)
            clear hlr hbk Dk hMk
            go_wp2_with fail
            exact hv)
end Go.Proofs.YtmenipaibjifiaaGreatDoor

namespace Go.Proofs.YtmenipaibjifiaaGreatDoor
open Go.RowKit

theorem quitPre {slot : Nat} (hs : slot < 512) {ps : List Nat} (hps : ps.Nodup) {r : List Lab} : ∀ (pre : List Lab) {M : Nat → List Lab} {V : Spot → Nat → Bool} {S : St}, AInv M V S → (pre ++ r).Nodup → M slot = pre ++ r →
    (∀ p ∈ ps, p < 2048 ∧ (guestL S p).Nodup ∧ ∀ l ∈ pre ++ r, V (spotOf l) p = true) → (∀ b p, p < 2048 → p ∉ ps → V b p = true → ∃ s, s < 512 ∧ s ≠ slot ∧ hasL (M s) b = true) →
    ∃ V', AInv (upd M slot r) V' (pre.foldl (quitOne slot ps) S)
  | [], M, V, S, A, _, h0, _, _ => ⟨V, A.congr (fun s _ b => by
      by_cases e : s = slot
      · subst e; rw [upd_same, h0]; rfl
      · rw [upd_ne _ _ e]) (fun b p _ => rfl)⟩
  | l :: pre, M, V, S, A, hn, h0, hp, hv => by
    rw [List.cons_append] at hn h0 hp
    rw [List.nodup_cons] at hn
    have hin : hasL (M slot) (spotOf l) = true := by rw [h0, hasL_cons]; simp
    have hsome : (S.areas (spotOf l)).isSome = true := by
      cases h : S.areas (spotOf l) with
      | some q => rfl
      | none => rw [(A.no _ h).1 slot hs] at hin; cases hin
    have hsp : ∀ q ∈ pre ++ r, spotOf q ≠ spotOf l := fun q hq e => hn.1 (by
      obtain ⟨q1, q2⟩ := q
      obtain ⟨l1, l2⟩ := l
      simp only [spotOf, Prod.mk.injEq] at e
      obtain ⟨rfl, rfl⟩ := e
      exact hq)
    have hrl : hasL (pre ++ r) (spotOf l) = false := by
      rw [hasL_spot]
      simpa using hn.1
    have A1 := AInv.minusAll (at_ := spotOf l) ps A hps (fun p h => by
      obtain ⟨a1, a2, a3⟩ := hp p h
      exact ⟨a1, a2, a3 l List.mem_cons_self⟩) hsome
    have A2 := A1.nodeMinus (M' := upd M slot (pre ++ r)) hs hin (fun s b => by
      by_cases e : s = slot
      · subst e
        rw [upd_same, h0, hasL_cons]
        by_cases e2 : b = spotOf l
        · subst e2; simp [hrl]
        · simp [e2]
      · rw [upd_ne _ _ e]; simp [e]) (fun hz p hp2 => by
      cases hvp : V (spotOf l) p with
      | false => rfl
      | true =>
        by_cases e : p ∈ ps
        · simp [e]
        · obtain ⟨s, hs2, hne, hh⟩ := hv _ p hp2 e hvp
          have := hz s hs2
          rw [upd_ne _ _ hne, hh] at this
          cases this)
    obtain ⟨k1, _, _⟩ := quitOne_fields slot ps S l
    obtain ⟨V', A3⟩ := quitPre hs hps (r := r) pre A2 hn.2 (by rw [upd_same]) (fun p h => by
      obtain ⟨a1, a2, a3⟩ := hp p h
      have ek := guestL_congr k1 (p : Int)
      refine ⟨a1, by unfold quitOne at ek; rw [ek]; exact a2, fun q hq => ?_⟩
      simp [hsp q hq, a3 q (List.mem_cons_of_mem _ hq)]) (fun b p hp2 hnp hvp => by
      simp only [hnp, decide_false, Bool.and_false, Bool.not_false, Bool.and_true] at hvp
      obtain ⟨s, hs2, hne, hh⟩ := hv b p hp2 hnp hvp
      exact ⟨s, hs2, hne, by rw [upd_ne _ _ hne]; exact hh⟩)
    rw [upd_upd] at A3
    exact ⟨V', A3⟩
/-- What stands at quit's round k. -/
theorem Inv.quitAt {S : St} (I : Inv S) {slot : Int} {pre r : List Lab} {l : Lab} (h0 : S.nodes slot = some (pre ++ l :: r)) :
    ((pre.foldl (quitOne slot (onL S slot)) S).areas (spotOf l)).isSome = true ∧ (∃ g q, (pre.foldl (quitOne slot (onL S slot)) S).values l.key = some g ∧ g l.val = some q ∧ 1 ≤ q) ∧ Small (pre.foldl (quitOne slot (onL S slot)) S) 2048 := by
  obtain ⟨b1, b2, hk⟩ := I.nb _ _ h0
  obtain ⟨k, rfl⟩ : ∃ k : Nat, slot = k := ⟨slot.toNat, by omega⟩
  have hk5 : k < 512 := by omega
  have hM0 : nodeL S k = pre ++ l :: r := by unfold nodeL; rw [h0]; rfl
  obtain ⟨V', A⟩ := quitPre (slot := k) hk5 (onL_nodup S k) (r := l :: r) pre I.a hk.labs hM0 (fun p h => by
    obtain ⟨h1, h2⟩ := (I.onL_mem k p).1 h
    refine ⟨h1, (I.guest p).labs, fun q hq => ?_⟩
    rw [VV_node h2, hM0, hasL_spot]
    simpa using hq) (fun b p hp hnp hv => by
    unfold VV at hv
    cases hpn : podNode S p with
    | none => rw [hpn] at hv; cases hv
    | some n =>
      rw [hpn] at hv
      have hne : n ≠ k := fun e => hnp ((I.onL_mem k p).2 ⟨hp, by rw [hpn, e]⟩)
      cases hn : S.nodes n with
      | none => simp [nodeL, hn, hasL] at hv
      | some m =>
        obtain ⟨b1, b2, _⟩ := I.nb n m hn
        refine ⟨n.toNat, by omega, by omega, ?_⟩
        rw [show ((n.toNat : Nat) : Int) = n by omega]
        exact hv)
  have hin : hasL (upd (fun s : Nat => nodeL S s) k (l :: r) k) (spotOf l) = true := by rw [upd_same, hasL_cons]; simp
  refine ⟨?_, ?_, A.small⟩
  · cases h : (pre.foldl (quitOne k (onL S k)) S).areas (spotOf l) with
    | some q => rfl
    | none => rw [(A.no _ h).1 k hk5] at hin; cases hin
  · cases h : (pre.foldl (quitOne k (onL S k)) S).values l.key with
    | none =>
      have := A.vno _ h l.val k hk5
      rw [show (l.key, l.val) = spotOf l from rfl, hin] at this
      cases this
    | some g =>
      have hg := (A.vyes _ _ h).2 l.val
      have hc : cnt 512 (fun s => hasL (upd (fun s : Nat => nodeL S s) k (l :: r) s) (l.key, l.val)) ≠ 0 := fun e => by
        have := cnt_zero.1 e k hk5
        rw [show (l.key, l.val) = spotOf l from rfl, hin] at this
        cases this
      refine ⟨g, _, rfl, by rw [hg]; unfold optNum; rw [if_neg hc], by omega⟩
end Go.Proofs.YtmenipaibjifiaaGreatDoor
