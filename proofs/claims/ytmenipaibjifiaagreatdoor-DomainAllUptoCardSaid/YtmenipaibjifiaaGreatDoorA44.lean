/-
The reference's lists of nodes and pods against what domain.Domains keeps. Plain Lean; no program.
What the questions of domain.Domains answer is what the reference answers. Plain Lean; no program.
berthlaw09: a question; what a Domains answers to each, as contracts; rows.
-/
import Derived.Test.YtmenipaibjifiaaGreatDoorA41
import Derived.Test.YtmenipaibjifiaaGreatDoorA43
import Derived.Test.YtmenipaibjifiaaGreatDoorA14
import Derived.Test.YtmenipaibjifiaaGreatDoorA22
import Derived.Test.YtmenipaibjifiaaGreatDoorA36
import Derived.Test.YtmenipaibjifiaaGreatDoorA21
set_option linter.unusedVariables false
set_option linter.unusedSimpArgs false
namespace Go.Proofs.YtmenipaibjifiaaGreatDoor
open Go.RowKit

/-- The reference's lists and what is kept tell the same. -/
structure Tells (d : RDom) (S : St) : Prop where
  inv : Inv S
  ns : d.nodes.Pairwise (fun a b => a.slot < b.slot)
  ps : d.pods.Pairwise (fun a b => a.slot < b.slot)
  nodes : ∀ s, S.nodes s = (rNodeAt d s).map (·.labels)
  pods : ∀ p, S.guests p = (rPodAt d p).map (fun x => (x.labels, x.on))

theorem find_slot {α : Type} {f : α → Int} : ∀ {l : List α}, l.Pairwise (fun a b => f a < f b) → ∀ {x : α}, x ∈ l → l.find? (fun y => decide (f y = f x)) = some x
  | [], _, x, h => by cases h
  | y :: r, hp, x, h => by
    rw [List.pairwise_cons] at hp
    rcases List.mem_cons.1 h with e | e
    · subst e; simp
    · have := hp.1 x e
      rw [List.find?_cons_of_neg (by simp; omega)]
      exact find_slot hp.2 e
theorem find_slot_iff {α : Type} {f : α → Int} {l : List α} (hp : l.Pairwise (fun a b => f a < f b)) {s : Int} {x : α} : l.find? (fun y => decide (f y = s)) = some x ↔ x ∈ l ∧ f x = s := by
  constructor
  · intro h
    have h1 := List.find?_some h
    exact ⟨List.mem_of_find?_eq_some h, by simpa using h1⟩
  · rintro ⟨h, rfl⟩
    exact find_slot hp h
theorem rise_int {l m : List Int} (hl : l.Pairwise (· < ·)) (hm : m.Pairwise (· < ·)) (h : ∀ x, x ∈ l ↔ x ∈ m) : l = m :=
  rise_eq (r := (· < ·)) (fun a => Int.lt_irrefl a) (fun a b h1 h2 => by omega) hl hm h
theorem natI_mems_rise (n : Nat) (ws : List Nat) : (natI (mems n ws)).Pairwise (· < ·) := by
  unfold natI mems
  rw [List.pairwise_map]
  exact (List.pairwise_lt_range.filter _).imp fun h => by omega
theorem mem_natI_mems (n : Nat) (ws : List Nat) (x : Int) : x ∈ natI (mems n ws) ↔ ∃ i : Nat, i < n ∧ memW ws i = true ∧ x = i := by
  unfold natI mems
  simp only [List.mem_map, List.mem_filter, List.mem_range]
  constructor
  · rintro ⟨i, ⟨h1, h2⟩, rfl⟩; exact ⟨i, h1, h2, rfl⟩
  · rintro ⟨i, h1, h2, rfl⟩; exact ⟨i, ⟨h1, h2⟩, rfl⟩
theorem getB_iff {ls : List Lab} (h : KeysNodup ls) (k v : ByteArray) : getB ls k = some v ↔ (⟨k, v⟩ : Lab) ∈ ls := by
  induction ls with
  | nil => simp [getB]
  | cons l r ih =>
    unfold KeysNodup at h
    rw [List.map_cons, List.nodup_cons] at h
    have ih := ih h.2
    unfold getB at ih ⊢
    by_cases e : l.key = k
    · rw [List.find?_cons_of_pos (by simpa using e)]
      subst e
      simp only [Option.map_some, Option.some.injEq, List.mem_cons]
      constructor
      · intro e; left; cases l; simp at e ⊢; exact e.symm
      · rintro (e | e)
        · rw [← e]
        · exact absurd (List.mem_map_of_mem (f := Lab.key) e) h.1
    · rw [List.find?_cons_of_neg (by simpa using e), ih, List.mem_cons]
      constructor
      · exact .inr
      · rintro (e2 | e2)
        · subst e2; exact absurd rfl e
        · exact e2
theorem hasL_getB {ls : List Lab} (h : KeysNodup ls) (k v : ByteArray) : hasL ls (k, v) = decide (getB ls k = some v) := by
  unfold hasL
  simp only [getB_iff h]
section
variable {d : RDom} {S : St}
theorem Tells.mem_node (T : Tells d S) {x : RNode} : x ∈ d.nodes ↔ rNodeAt d x.slot = some x := by
  unfold rNodeAt
  rw [find_slot_iff T.ns]
  simp
theorem Tells.mem_pod (T : Tells d S) {x : RPod} : x ∈ d.pods ↔ rPodAt d x.slot = some x := by
  unfold rPodAt
  rw [find_slot_iff T.ps]
  simp
theorem Tells.nodeAt (T : Tells d S) {s : Int} {x : RNode} (h : rNodeAt d s = some x) : x ∈ d.nodes ∧ x.slot = s ∧ S.nodes s = some x.labels := by
  have h1 := (find_slot_iff T.ns).1 h
  exact ⟨h1.1, h1.2, by rw [T.nodes, h]; rfl⟩
theorem Tells.podAt (T : Tells d S) {s : Int} {x : RPod} (h : rPodAt d s = some x) : x ∈ d.pods ∧ x.slot = s ∧ S.guests s = some (x.labels, x.on) := by
  have h1 := (find_slot_iff T.ps).1 h
  exact ⟨h1.1, h1.2, by rw [T.pods, h]; rfl⟩
theorem Tells.node_of (T : Tells d S) {x : RNode} (h : x ∈ d.nodes) : S.nodes x.slot = some x.labels ∧ 0 ≤ x.slot ∧ x.slot < 512 ∧ KeysNodup x.labels := by
  have h1 := (T.nodeAt (T.mem_node.1 h)).2.2
  exact ⟨h1, T.inv.nb _ _ h1⟩
theorem Tells.pod_of (T : Tells d S) {x : RPod} (h : x ∈ d.pods) : S.guests x.slot = some (x.labels, x.on) ∧ 0 ≤ x.slot ∧ x.slot < 2048 ∧ KeysNodup x.labels ∧ (S.nodes x.on).isSome = true := by
  have h1 := (T.podAt (T.mem_pod.1 h)).2.2
  exact ⟨h1, T.inv.gb _ _ _ h1⟩
theorem Tells.nodeL_eq (T : Tells d S) (s : Int) : nodeL S s = ((rNodeAt d s).map (·.labels)).getD [] := by unfold nodeL; rw [T.nodes]
theorem Tells.nodes_len (T : Tells d S) : d.nodes.length ≤ 512 := by
  have h : (d.nodes.map fun x => x.slot.toNat).length ≤ (List.range 512).length := by
    refine List.Nodup.length_le_of_subset ?_ ?_
    · refine List.pairwise_map.2 ?_
      refine (List.Pairwise.and_mem.1 T.ns).imp ?_
      rintro a b ⟨ha, hb, h⟩
      have h1 := T.node_of ha
      have h2 := T.node_of hb
      omega
    · intro y hy
      obtain ⟨x, hx, rfl⟩ := List.mem_map.1 hy
      have := T.node_of hx
      rw [List.mem_range]; omega
  simpa using h
theorem Tells.pods_len (T : Tells d S) : d.pods.length ≤ 2048 := by
  have h : (d.pods.map fun x => x.slot.toNat).length ≤ (List.range 2048).length := by
    refine List.Nodup.length_le_of_subset ?_ ?_
    · refine List.pairwise_map.2 ?_
      refine (List.Pairwise.and_mem.1 T.ps).imp ?_
      rintro a b ⟨ha, hb, h⟩
      have h1 := T.pod_of ha
      have h2 := T.pod_of hb
      omega
    · intro y hy
      obtain ⟨x, hx, rfl⟩ := List.mem_map.1 hy
      have := T.pod_of hx
      rw [List.mem_range]; omega
  simpa using h
/-- T4: Of. -/
theorem Tells.of (T : Tells d S) (key : ByteArray) (s : Int) : getB (nodeL S s) key = rOf d key s := by
  rw [T.nodeL_eq]
  unfold rOf
  cases rNodeAt d s with
  | none => rfl
  | some x => rfl
theorem Tells.hasL (T : Tells d S) (key val : ByteArray) (s : Int) : hasL (nodeL S s) (key, val) = decide (rOf d key s = some val) := by
  rw [hasL_getB (T.inv.node s), T.of]
theorem Tells.rOf_node (T : Tells d S) {x : RNode} (h : x ∈ d.nodes) (key : ByteArray) : rOf d key x.slot = getB x.labels key := by
  unfold rOf
  rw [T.mem_node.1 h]; rfl
/-- What the sets of a domain hold. -/
theorem Tells.areaN (T : Tells d S) (key val : ByteArray) (i : Nat) (hi : i < 512) : memW (setA S (key, val)).1.2 i = decide (rOf d key i = some val) := by
  rw [← T.hasL]
  unfold setA
  cases e : S.areas (key, val) with
  | none =>
    have := (T.inv.a.no _ e).1 i hi
    simp only
    rw [memW_nil]
    exact this.symm
  | some p =>
    obtain ⟨x, y⟩ := p
    exact (T.inv.a.yes _ x y e).2.2.2.1 i hi
theorem Tells.areaP (T : Tells d S) (key val : ByteArray) (i : Nat) (hi : i < 2048) : memW (setA S (key, val)).2.2 i = VV S (key, val) i := by
  unfold setA
  cases e : S.areas (key, val) with
  | none =>
    have := (T.inv.a.no _ e).2 i hi
    simp only
    rw [memW_nil]
    exact this.symm
  | some p =>
    obtain ⟨x, y⟩ := p
    exact (T.inv.a.yes _ x y e).2.2.2.2 i hi
theorem Tells.vv (T : Tells d S) (key val : ByteArray) (p : Nat) : VV S (key, val) p = match rPodAt d p with | some x => decide (rOf d key x.on = some val) | none => false := by
  unfold VV podNode
  rw [T.pods]
  cases e : rPodAt d p with
  | none => rfl
  | some x => exact T.hasL key val x.on
theorem rNodesL_rise {l : List RNode} (h : l.Pairwise (fun a b => a.slot < b.slot)) (key val : ByteArray) : (rNodesL l key val).Pairwise (· < ·) := by
  unfold rNodesL
  rw [List.pairwise_map]
  exact h.filter _
theorem rPodsL_rise {l : List RPod} (h : l.Pairwise (fun a b => a.slot < b.slot)) (key val : ByteArray) : (rPodsL d l key val).Pairwise (· < ·) := by
  unfold rPodsL
  rw [List.pairwise_map]
  exact h.filter _
theorem Tells.mem_nodesL (T : Tells d S) (key val : ByteArray) (s : Int) : s ∈ rNodesL d.nodes key val ↔ rOf d key s = some val := by
  unfold rNodesL
  simp only [List.mem_map, List.mem_filter]
  constructor
  · rintro ⟨x, ⟨h1, h2⟩, rfl⟩
    rw [T.rOf_node h1]
    unfold hasV at h2
    simpa using h2
  · intro h
    have h0 := h
    unfold rOf at h
    obtain ⟨x, hx, h2⟩ := Option.bind_eq_some_iff.1 h
    obtain ⟨h3, h4, _⟩ := T.nodeAt hx
    exact ⟨x, ⟨h3, by unfold hasV; simpa using h2⟩, h4⟩
theorem Tells.rOf_lt (T : Tells d S) {key val : ByteArray} {s : Int} (h : rOf d key s = some val) : 0 ≤ s ∧ s < 512 := by
  unfold rOf at h
  obtain ⟨x, hx, h2⟩ := Option.bind_eq_some_iff.1 h
  obtain ⟨h3, h4, _⟩ := T.nodeAt hx
  have := T.node_of h3
  omega
theorem Tells.mem_podsL (T : Tells d S) (key val : ByteArray) (s : Int) : s ∈ rPodsL d d.pods key val ↔ 0 ≤ s ∧ s < 2048 ∧ VV S (key, val) s.toNat = true := by
  unfold rPodsL
  simp only [List.mem_map, List.mem_filter]
  constructor
  · rintro ⟨x, ⟨h1, h2⟩, rfl⟩
    have h3 := T.pod_of h1
    refine ⟨h3.2.1, h3.2.2.1, ?_⟩
    rw [T.vv, show ((x.slot.toNat : Nat) : Int) = x.slot by omega, T.mem_pod.1 h1]
    exact h2
  · rintro ⟨h1, h2, h3⟩
    rw [T.vv, show ((s.toNat : Nat) : Int) = s by omega] at h3
    cases e : rPodAt d s with
    | none => rw [e] at h3; cases h3
    | some x =>
      rw [e] at h3
      obtain ⟨h4, h5, _⟩ := T.podAt e
      exact ⟨x, ⟨h4, h3⟩, h5⟩
/-- T5: Nodes. -/
theorem Tells.nodesQ (T : Tells d S) (key val : ByteArray) {ws : List Nat} (h : ∀ i, i < 512 → memW ws i = memW (setA S (key, val)).1.2 i) : natI (mems 512 ws) = rNodesL d.nodes key val := by
  refine rise_int (natI_mems_rise _ _) (rNodesL_rise T.ns _ _) fun x => ?_
  rw [mem_natI_mems, T.mem_nodesL]
  constructor
  · rintro ⟨i, h1, h2, rfl⟩
    rw [h i h1, T.areaN key val i h1] at h2
    simpa using h2
  · intro hx
    have := T.rOf_lt hx
    refine ⟨x.toNat, by omega, ?_, by omega⟩
    rw [h _ (by omega), T.areaN key val _ (by omega), show ((x.toNat : Nat) : Int) = x by omega]
    simpa using hx
/-- T6: Pods. -/
theorem Tells.podsQ (T : Tells d S) (key val : ByteArray) {ws : List Nat} (h : ∀ i, i < 2048 → memW ws i = memW (setA S (key, val)).2.2 i) : natI (mems 2048 ws) = rPodsL d d.pods key val := by
  refine rise_int (natI_mems_rise _ _) (rPodsL_rise T.ps _ _) fun x => ?_
  rw [mem_natI_mems, T.mem_podsL]
  constructor
  · rintro ⟨i, h1, h2, rfl⟩
    rw [h i h1, T.areaP key val i h1] at h2
    refine ⟨by omega, by omega, ?_⟩
    simpa using h2
  · rintro ⟨h1, h2, h3⟩
    refine ⟨x.toNat, by omega, ?_, by omega⟩
    rw [h _ (by omega), T.areaP key val _ (by omega)]
    exact h3
/-- What counts in a list that rises. -/
theorem cnt_length {n : Nat} {p : Nat → Bool} {l : List Int} (hl : l.Pairwise (· < ·)) (hm : ∀ x : Int, x ∈ l ↔ 0 ≤ x ∧ x < n ∧ p x.toNat = true) : cnt n p = l.length := by
  unfold cnt
  have : ((List.range n).filter p).map (fun (i : Nat) => (i : Int)) = l := by
    refine rise_int ?_ hl fun x => ?_
    · rw [List.pairwise_map]
      exact (List.pairwise_lt_range.filter _).imp fun h => by omega
    · rw [hm]
      simp only [List.mem_map, List.mem_filter, List.mem_range]
      constructor
      · rintro ⟨i, ⟨h1, h2⟩, rfl⟩
        exact ⟨by omega, by omega, by simpa using h2⟩
      · rintro ⟨h1, h2, h3⟩
        exact ⟨x.toNat, ⟨by omega, h3⟩, by omega⟩
  rw [← this, List.length_map]
end
end Go.Proofs.YtmenipaibjifiaaGreatDoor

namespace Go.Proofs.YtmenipaibjifiaaGreatDoor
open Go.RowKit

section
variable {d : RDom} {S : St}
/-- T7: Count. -/
theorem Tells.guestL_eq (T : Tells d S) (s : Int) : guestL S s = ((rPodAt d s).map (·.labels)).getD [] := by
  unfold guestL
  rw [T.pods]
  cases rPodAt d s with
  | none => rfl
  | some x => rfl
theorem Tells.podHas (T : Tells d S) (pk pv : ByteArray) (s : Int) : podHas d pk pv s = Go.Proofs.YtmenipaibjifiaaGreatDoor.hasL (guestL S s) (pk, pv) := by
  rw [hasL_getB (T.inv.guest s), T.guestL_eq]
  unfold Go.Proofs.YtmenipaibjifiaaGreatDoor.podHas
  cases rPodAt d s with
  | none => simp [getB]
  | some x => rfl
theorem Tells.countQ (T : Tells d S) (key val pk pv : ByteArray) : (S.counts ((key, val), pk, pv)).getD 0 = (rCountN d key val pk pv : Int) := by
  rw [T.inv.a.cts, optNum_getD]
  refine congrArg (fun n : Nat => (n : Int)) ?_
  refine cnt_length ((rPodsL_rise T.ps key val).filter _) fun x => ?_
  rw [List.mem_filter, T.mem_podsL, T.podHas]
  simp only [Bool.and_eq_true]
  constructor
  · rintro ⟨⟨h1, h2, h3⟩, h4⟩
    exact ⟨h1, h2, h3, by rw [show ((x.toNat : Nat) : Int) = x by omega]; exact h4⟩
  · rintro ⟨h1, h2, h3, h4⟩
    exact ⟨⟨h1, h2, h3⟩, by rw [show ((x.toNat : Nat) : Int) = x by omega] at h4; exact h4⟩
/-- T2: Keys. -/
theorem Tells.values_some (T : Tells d S) (k : ByteArray) : (S.values k).isSome = true ↔ k ∈ d.nodes.flatMap (fun x => x.labels.map Lab.key) := by
  simp only [List.mem_flatMap, List.mem_map]
  constructor
  · intro h
    obtain ⟨g, hg⟩ := Option.isSome_iff_exists.1 h
    obtain ⟨⟨v, s, hs, h1⟩, _⟩ := T.inv.a.vyes k g hg
    unfold Go.Proofs.YtmenipaibjifiaaGreatDoor.hasL at h1
    simp only [decide_eq_true_eq] at h1
    rw [T.nodeL_eq] at h1
    cases e : rNodeAt d s with
    | none => rw [e] at h1; simp at h1
    | some x =>
      rw [e] at h1
      exact ⟨x, (T.nodeAt e).1, ⟨k, v⟩, h1, rfl⟩
  · rintro ⟨x, hx, l, hl, rfl⟩
    cases e : S.values l.key with
    | some g => rfl
    | none =>
      have h0 := T.node_of hx
      have h1 := T.inv.a.vno _ e l.val x.slot.toNat (by omega)
      rw [show ((x.slot.toNat : Nat) : Int) = x.slot by omega] at h1
      unfold nodeL at h1
      rw [h0.1] at h1
      unfold Go.Proofs.YtmenipaibjifiaaGreatDoor.hasL at h1
      simp only [Option.getD_some, decide_eq_false_iff_not] at h1
      exact absurd hl h1
theorem Tells.keysQ (T : Tells d S) {ks : List ByteArray} (hn : ks.Nodup) (hk : ∀ k, k ∈ ks ↔ (S.values k).isSome = true) : sortedK ks = rKeysL d :=
  sortedK_putAll hn fun x => (hk x).trans (T.values_some x)
/-- T3: Values. -/
theorem Tells.inner_cnt (T : Tells d S) (key v : ByteArray) : innerG S key v = optNum (rNodesL d.nodes key v).length := by
  rw [innerG_opt T.inv.a]
  refine congrArg optNum ?_
  refine cnt_length (rNodesL_rise T.ns key v) fun x => ?_
  rw [T.mem_nodesL]
  constructor
  · intro h
    have := T.rOf_lt h
    refine ⟨by omega, by omega, ?_⟩
    rw [T.hasL, show ((x.toNat : Nat) : Int) = x by omega]
    simpa using h
  · rintro ⟨h1, h2, h3⟩
    rw [T.hasL, show ((x.toNat : Nat) : Int) = x by omega] at h3
    simpa using h3
theorem optNum_some {c : Nat} : (optNum c).isSome = true ↔ 0 < c := by
  unfold optNum
  split <;> simp <;> omega
theorem Tells.inner_some (T : Tells d S) (key v : ByteArray) : (innerG S key v).isSome = true ↔ v ∈ d.nodes.filterMap (fun x => getB x.labels key) := by
  rw [T.inner_cnt, optNum_some, List.mem_filterMap, List.length_pos_iff_exists_mem]
  unfold rNodesL hasV
  simp only [List.mem_map, List.mem_filter, decide_eq_true_eq]
  constructor
  · rintro ⟨_, x, ⟨h1, h2⟩, rfl⟩; exact ⟨x, h1, h2⟩
  · rintro ⟨x, h1, h2⟩; exact ⟨_, x, ⟨h1, h2⟩, rfl⟩
theorem Tells.valL (T : Tells d S) {key : ByteArray} {ks : List ByteArray} (hn : ks.Nodup) (hk : ∀ k, k ∈ ks ↔ (innerG S key k).isSome = true) : sortedK ks = rValL d key :=
  sortedK_putAll hn fun x => (hk x).trans (T.inner_some key x)
theorem Tells.numV (T : Tells d S) (key v : ByteArray) : numV S key v = ((rNodesL d.nodes key v).length : Int) := by
  unfold Go.Proofs.YtmenipaibjifiaaGreatDoor.numV
  rw [T.inner_cnt, optNum_getD]
/-- rows as pairs -/
def rowP (r : RRow) : ByteArray × Int := (r.value, r.n)
theorem zip_map {α β : Type} (f : α → β) : ∀ l : List α, l.zip (l.map f) = l.map (fun x => (x, f x))
  | [] => rfl
  | a :: r => by simp [zip_map f r]
theorem Tells.valuesQ (T : Tells d S) {key : ByteArray} {ks : List ByteArray} (hn : ks.Nodup) (hk : ∀ k, k ∈ ks ↔ (innerG S key k).isSome = true) :
    (sortedK ks).zip ((sortedK ks).map (Go.Proofs.YtmenipaibjifiaaGreatDoor.numV S key)) = (rValuesL d key).map rowP := by
  rw [T.valL hn hk, zip_map]
  unfold rValuesL
  rw [List.map_map]
  refine List.map_congr_left fun v _ => ?_
  simp only [Function.comp, rowP, rRowV, T.numV]
/-- T8: Tally. -/
theorem marksW_length (l : List Int) : ∀ ws : List Nat, (l.foldl (addW 2048) ws).length = ws.length := by
  induction l with
  | nil => intro ws; rfl
  | cons a r ih => intro ws; rw [List.foldl_cons, ih, addW_length]
theorem marksW_mem (i : Nat) : ∀ (l : List Int) (ws : List Nat), ws.length = 32 → memW (l.foldl (addW 2048) ws) i = (memW ws i || (decide (i < 2048) && isIn l i)) := by
  intro l
  induction l with
  | nil => intro ws _; simp [isIn]
  | cons a r ih =>
    intro ws hw
    rw [List.foldl_cons, ih _ (by rw [addW_length]; exact hw)]
    have e1 : isIn (a :: r) i = (decide (a = i) || isIn r i) := rfl
    rw [e1]
    by_cases ha : 0 ≤ a ∧ a < 2048
    · obtain ⟨k, rfl⟩ : ∃ k : Nat, a = k := ⟨a.toNat, by omega⟩
      rw [memW_add (by rw [hw]) k i (by omega)]
      by_cases e : i = k
      · subst e
        have : i < 2048 := by omega
        simp [this]
      · have e2 : ¬ (k : Int) = (i : Int) := by omega
        simp [e, e2]
    · rw [memW_add_out a ha]
      by_cases hi : i < 2048
      · have e2 : ¬ a = (i : Int) := by omega
        simp [e2]
      · simp [hi]
theorem marksS_mem (l : List Int) (i : Nat) (hi : i < 2048) : memW (marksS l) i = isIn l i := by
  unfold marksS
  split
  · next h => subst h; rw [memW_nil]; rfl
  · unfold marksW
    rw [marksW_mem i l _ (by simp), memW_zero]
    simp [hi]
theorem mems_length_cnt (n : Nat) (ws : List Nat) : (mems n ws).length = cnt n (memW ws) := rfl
theorem cnt_false (n : Nat) : cnt n (fun _ => false) = 0 := cnt_zero.2 fun _ _ => rfl
theorem Tells.numT (T : Tells d S) (key : ByteArray) (l : List Int) (v : ByteArray) : numT S key (marksN l) (marksS l) v = (rNum d key l v : Int) := by
  have h1 : (rNum d key l v) = cnt 2048 (fun i => memW (setA S (key, v)).2.2 i && memW (marksS l) i) := by
    unfold rNum
    rw [← cnt_length (n := 2048) (p := fun i => memW (setA S (key, v)).2.2 i && memW (marksS l) i) (l := (rPodsL d d.pods key v).filter (isIn l)) ((rPodsL_rise T.ps key v).filter _)]
    intro x
    rw [List.mem_filter, T.mem_podsL]
    constructor
    · rintro ⟨⟨a1, a2, a3⟩, a4⟩
      refine ⟨a1, a2, ?_⟩
      show (memW (setA S (key, v)).2.2 x.toNat && memW (marksS l) x.toNat) = true
      rw [T.areaP key v _ (by omega), marksS_mem l _ (by omega), a3, show ((x.toNat : Nat) : Int) = x by omega, a4]; rfl
    · rintro ⟨a1, a2, a3⟩
      replace a3 : (memW (setA S (key, v)).2.2 x.toNat && memW (marksS l) x.toNat) = true := a3
      rw [T.areaP key v _ (by omega), marksS_mem l _ (by omega), show ((x.toNat : Nat) : Int) = x by omega, Bool.and_eq_true] at a3
      exact ⟨⟨a1, a2, a3.1⟩, a3.2⟩
  rw [h1]
  unfold Go.Proofs.YtmenipaibjifiaaGreatDoor.numT
  rw [mems_length_cnt]
  have hm : marksN l = 0 ∧ marksS l = [] ∨ marksN l = 2048 := by
    unfold marksN marksS
    split
    · exact .inl ⟨rfl, rfl⟩
    · exact .inr rfl
  have ha : (setA S (key, v)).2.1 = 0 ∧ (setA S (key, v)).2.2 = [] ∨ (setA S (key, v)).2.1 = 2048 := by
    unfold setA
    cases S.areas (key, v) with
    | none => exact .inl ⟨rfl, rfl⟩
    | some p => exact .inr rfl
  by_cases hmax : max (setA S (key, v)).2.1 (marksN l) = 2048
  · rw [hmax]
    refine congrArg _ (cnt_congr fun i hi => ?_)
    rw [memW_and _ _ _ _ (by omega)]
  · have hz : max (setA S (key, v)).2.1 (marksN l) = 0 := by
      rcases hm with ⟨h, _⟩ | h <;> rcases ha with ⟨h2, _⟩ | h2 <;> omega
    rw [hz]
    rcases ha with ⟨_, h2⟩ | h2
    · rw [h2]
      have : (fun i => memW [] i && memW (marksS l) i) = fun _ => false := by funext i; rw [memW_nil]; rfl
      rw [this, cnt_false]
      rfl
    · omega
theorem Tells.tallyQ (T : Tells d S) {key : ByteArray} {ks : List ByteArray} (hn : ks.Nodup) (hk : ∀ k, k ∈ ks ↔ (innerG S key k).isSome = true) (l : List Int) :
    (sortedK ks).zip ((sortedK ks).map (Go.Proofs.YtmenipaibjifiaaGreatDoor.numT S key (marksN l) (marksS l))) = (rTallyL d key l).map rowP := by
  rw [T.valL hn hk, zip_map, rTallyL_eq, List.map_map]
  refine List.map_congr_left fun v _ => ?_
  simp only [Function.comp, rowP, T.numT]
/-- T9: Ranked. -/
theorem zipW_len (f : Nat → Nat → Nat) (k : Nat) (x y : List Nat) : (zipW f k x y).length = k := by simp [zipW]
theorem rankF_mem (S : St) (key : ByteArray) (c n : Int) (m : Nat) (ps : List Nat) (i : Nat) (hi : i < 512) : ∀ (vs : List ByteArray) (ws : List Nat),
    memW (vs.foldl (rankOne S key c n m ps) ws) i = (memW ws i || vs.any fun v => standsB (Go.Proofs.YtmenipaibjifiaaGreatDoor.numT S key m ps v) c n && memW (setA S (key, v)).1.2 i) := by
  intro vs
  induction vs with
  | nil => intro ws; simp
  | cons v r ih =>
    intro ws
    rw [List.foldl_cons, ih, List.any_cons]
    unfold rankOne
    cases e : standsB (Go.Proofs.YtmenipaibjifiaaGreatDoor.numT S key m ps v) c n with
    | false => simp
    | true =>
      simp only [if_true]
      rw [memW_or _ _ _ _ (by omega)]
      simp [Bool.or_assoc]
theorem Tells.rankedQ (T : Tells d S) {key : ByteArray} {ks : List ByteArray} (hn : ks.Nodup) (hk : ∀ k, k ∈ ks ↔ (innerG S key k).isSome = true) (l : List Int) (c n : Int) :
    natI (mems 512 (rankF S key c n (marksN l) (marksS l) (sortedK ks))) = rRankedL d key l c n := by
  have hfil : rRankedL d key l c n = (d.nodes.filter (fun x => match getB x.labels key with | none => false | some v => standsB (rNum d key l v) c n)).map (·.slot) := by
    unfold rRankedL
    have hone : ∀ x ∈ d.nodes, rankRow (rTallyL d key l) key c n x = if (match getB x.labels key with | none => false | some v => standsB (rNum d key l v) c n) = true then [x.slot] else [] := by
      intro x hx
      unfold rankRow
      cases e : getB x.labels key with
      | none => rfl
      | some v =>
        simp only
        have hv : v ∈ rValL d key := by
          unfold rValL
          rw [mem_putAll]
          exact .inr (List.mem_filterMap.2 ⟨x, hx, e⟩)
        have hnd : (rValL d key).Nodup := by
          unfold rValL
          exact (rise_putAll (l := []) List.Pairwise.nil).imp fun h e => by subst e; exact ltL_irr _ h
        rw [rTallyL_eq, List.filter_map, List.map_map]
        have hnil : ∀ vs : List ByteArray, (v ∉ vs ∨ standsB (rNum d key l v) c n = false) → vs.filter ((fun r : RRow => decide (r.value = v) && standsB r.n c n) ∘ fun v => ⟨v, rNum d key l v⟩) = [] := by
          intro vs h
          rw [List.filter_eq_nil_iff]
          intro u hu
          simp only [Function.comp]
          by_cases e2 : u = v
          · subst e2
            rcases h with h | h
            · exact absurd hu h
            · simp [h]
          · simp [e2]
        have hone : standsB (rNum d key l v) c n = true → ∀ vs : List ByteArray, vs.Nodup → v ∈ vs → vs.filter ((fun r : RRow => decide (r.value = v) && standsB r.n c n) ∘ fun v => ⟨v, rNum d key l v⟩) = [v] := by
          intro hs vs
          induction vs with
          | nil => intro _ h; cases h
          | cons u r ih =>
            intro h hm
            rw [List.nodup_cons] at h
            by_cases e2 : u = v
            · subst e2
              rw [List.filter_cons_of_pos (by simp [Function.comp, hs]), hnil r (.inl h.1)]
            · rw [List.filter_cons_of_neg (by simp [Function.comp, e2])]
              rcases List.mem_cons.1 hm with e3 | e3
              · exact absurd e3.symm e2
              · exact ih h.2 e3
        by_cases hs : standsB (rNum d key l v) c n = true
        · rw [hone hs _ hnd hv, if_pos hs]; rfl
        · rw [hnil _ (.inr (by simpa using hs)), if_neg hs]; rfl
    have hgen : ∀ (q : RNode → Bool) (xs : List RNode), (∀ x ∈ xs, rankRow (rTallyL d key l) key c n x = if q x = true then [x.slot] else []) → xs.flatMap (rankRow (rTallyL d key l) key c n) = (xs.filter q).map (·.slot) := by
      intro q xs
      induction xs with
      | nil => intro _; rfl
      | cons x r ih =>
        intro h
        rw [List.flatMap_cons, h x List.mem_cons_self, ih (fun y hy => h y (List.mem_cons_of_mem _ hy)), List.filter_cons]
        split <;> simp
    exact hgen _ _ hone
  rw [hfil]
  refine rise_int (natI_mems_rise _ _) ?_ fun s => ?_
  · rw [List.pairwise_map]; exact T.ns.filter _
  · rw [mem_natI_mems]
    simp only [List.mem_map, List.mem_filter]
    have hmem : ∀ i : Nat, i < 512 → memW (rankF S key c n (marksN l) (marksS l) (sortedK ks)) i = match rOf d key i with | none => false | some v => standsB (rNum d key l v) c n := by
      intro i hi
      unfold rankF
      rw [rankF_mem _ _ _ _ _ _ i hi, memW_zero, Bool.false_or]
      cases e : rOf d key i with
      | none =>
        rw [List.any_eq_false]
        intro v _
        rw [T.areaN key v i hi, e]
        simp
      | some v =>
        simp only
        cases hs : standsB (rNum d key l v) c n with
        | false =>
          rw [List.any_eq_false]
          intro u _
          rw [T.areaN key u i hi, e, T.numT]
          by_cases e2 : u = v
          · subst e2; simp [hs]
          · have : v ≠ u := fun e => e2 e.symm
            simp [this]
        | true =>
          rw [List.any_eq_true]
          refine ⟨v, ?_, by rw [T.areaN key v i hi, e, T.numT, hs]; simp⟩
          rw [T.valL hn hk]
          unfold rValL
          rw [mem_putAll]
          refine .inr ?_
          unfold rOf at e
          obtain ⟨x, hx, h2⟩ := Option.bind_eq_some_iff.1 e
          exact List.mem_filterMap.2 ⟨x, (T.nodeAt hx).1, h2⟩
    constructor
    · rintro ⟨i, hi, h1, rfl⟩
      rw [hmem i hi] at h1
      cases e : rOf d key i with
      | none => rw [e] at h1; cases h1
      | some v =>
        rw [e] at h1
        unfold rOf at e
        obtain ⟨x, hx, h2⟩ := Option.bind_eq_some_iff.1 e
        obtain ⟨h3, h4, _⟩ := T.nodeAt hx
        exact ⟨x, ⟨h3, by rw [h2]; exact h1⟩, h4⟩
    · rintro ⟨x, ⟨h1, h2⟩, rfl⟩
      have h3 := T.node_of h1
      refine ⟨x.slot.toNat, by omega, ?_, by omega⟩
      rw [hmem _ (by omega), show ((x.slot.toNat : Nat) : Int) = x.slot by omega, T.rOf_node h1]
      exact h2
/-- T10: Same. -/
theorem Tells.same {d' : RDom} {S' : St} (T : Tells d S) (T' : Tells d' S') : (S.nodes = S'.nodes ∧ S.guests = S'.guests) ↔ d = d' := by
  constructor
  · rintro ⟨h1, h2⟩
    have hn : d.nodes = d'.nodes := by
      refine rise_eq (r := fun a b : RNode => a.slot < b.slot) (fun a => Int.lt_irrefl _) (fun a b h1 h2 => by omega) T.ns T'.ns fun x => ?_
      rw [T.mem_node, T'.mem_node]
      have e := congrFun h1 x.slot
      rw [T.nodes, T'.nodes] at e
      constructor
      · intro h
        rw [h] at e
        obtain ⟨y, hy, hl⟩ := Option.map_eq_some_iff.1 e.symm
        have h3 := (T'.nodeAt hy).2.1
        rw [hy]
        obtain ⟨ys, yl⟩ := y
        obtain ⟨xs, xl⟩ := x
        simp only at hl h3
        rw [hl, h3]
      · intro h
        rw [h] at e
        obtain ⟨y, hy, hl⟩ := Option.map_eq_some_iff.1 e
        have h3 := (T.nodeAt hy).2.1
        rw [hy]
        obtain ⟨ys, yl⟩ := y
        obtain ⟨xs, xl⟩ := x
        simp only at hl h3
        rw [hl, h3]
    have hp : d.pods = d'.pods := by
      refine rise_eq (r := fun a b : RPod => a.slot < b.slot) (fun a => Int.lt_irrefl _) (fun a b h1 h2 => by omega) T.ps T'.ps fun x => ?_
      rw [T.mem_pod, T'.mem_pod]
      have e := congrFun h2 x.slot
      rw [T.pods, T'.pods] at e
      constructor
      · intro h
        rw [h] at e
        obtain ⟨y, hy, hl⟩ := Option.map_eq_some_iff.1 e.symm
        have h3 := (T'.podAt hy).2.1
        rw [hy]
        obtain ⟨ys, yo, yl⟩ := y
        obtain ⟨xs, xo, xl⟩ := x
        simp only [Prod.mk.injEq] at hl h3
        rw [hl.1, hl.2, h3]
      · intro h
        rw [h] at e
        obtain ⟨y, hy, hl⟩ := Option.map_eq_some_iff.1 e
        have h3 := (T.podAt hy).2.1
        rw [hy]
        obtain ⟨ys, yo, yl⟩ := y
        obtain ⟨xs, xo, xl⟩ := x
        simp only [Prod.mk.injEq] at hl h3
        rw [hl.1, hl.2, h3]
    cases d; cases d'; simp only at hn hp; rw [hn, hp]
  · rintro rfl
    exact ⟨funext fun s => by rw [T.nodes, T'.nodes], funext fun s => by rw [T.pods, T'.pods]⟩
/-! ### what the questions ask of sizes -/
theorem chk_nodup {xs : List Lab} (h : (chk xs).2 = 0) : KeysNodup xs ∧ xs.length ≤ 32 := by
  have hl : xs.length ≤ 32 := by
    unfold chk at h
    split at h
    · cases h
    · omega
  refine ⟨?_, hl⟩
  unfold chk at h
  rw [if_neg (by omega)] at h
  have hall : ∀ j, j < xs.length → errAt xs j = 0 := by
    intro j
    induction j using Nat.strongRecOn with
    | ind j ih =>
      intro hj
      cases e : decide (errAt xs j = 0) with
      | true => simpa using e
      | false =>
        have e' : errAt xs j ≠ 0 := by simpa using e
        rw [chkFrom_err (Nat.zero_le j) (by omega) (fun i _ hi => ih i hi (by omega)) e'] at h
        exact absurd h e'
  have hstep : ∀ j (hj : j + 1 < xs.length), ltL (xs[j]'(by omega)).key (xs[j + 1]'hj).key := by
    intro j hj
    have := hall (j + 1) hj
    unfold errAt at this
    simp only [List.getD_eq_getElem?_getD, List.getElem?_eq_getElem hj, Nat.add_sub_cancel, List.getElem?_eq_getElem (show j < xs.length by omega), Option.getD_some] at this
    split at this
    · cases this
    · split at this
      · cases this
      · split at this
        · cases this
        · next h3 =>
          split at this
          · cases this
          · next h4 =>
            simp only [Nat.zero_lt_succ, true_and] at h3 h4
            exact ltL_tri h3 (fun e => h4 ((ltB_iff _ _).2 e))
  have hlt : ∀ k j (hj : j + (k + 1) < xs.length), ltL (xs[j]'(by omega)).key (xs[j + (k + 1)]'hj).key := by
    intro k
    induction k with
    | zero => intro j hj; exact hstep j hj
    | succ k ih =>
      intro j hj
      exact List.lt_trans (ih j (by omega)) (hstep (j + (k + 1)) (by omega))
  unfold KeysNodup
  unfold List.Nodup
  rw [List.pairwise_map, List.pairwise_iff_getElem]
  intro i j hi hj hij e
  have := hlt (j - i - 1) i (by omega)
  have e2 : i + (j - i - 1 + 1) = j := by omega
  simp only [e2] at this
  rw [e] at this
  exact ltL_irr _ this
/-- Each node has few labels, of short texts. -/
structure Fit (d : RDom) : Prop where
  nl : ∀ x ∈ d.nodes, x.labels.length ≤ 32 ∧ ∀ l ∈ x.labels, l.key.size ≤ 1048576 ∧ l.val.size ≤ 1048576
  pl : ∀ x ∈ d.pods, x.labels.length ≤ 32
theorem flat_len {α β : Type} (f : α → List β) (k : Nat) : ∀ l : List α, (∀ x ∈ l, (f x).length ≤ k) → (l.flatMap f).length ≤ l.length * k
  | [], _ => by simp
  | a :: r, h => by
    rw [List.flatMap_cons, List.length_append, List.length_cons, Nat.add_mul]
    have h1 := h a List.mem_cons_self
    have h2 := flat_len f k r (fun x hx => h x (List.mem_cons_of_mem _ hx))
    omega
theorem Tells.keys_num (T : Tells d S) (F : Fit d) {ks : List ByteArray} (hn : ks.Nodup) (hk : ∀ k, k ∈ ks → (S.values k).isSome = true) : ks.length ≤ 1048576 := by
  have h1 := hn.length_le_of_subset (l₂ := d.nodes.flatMap (fun x => x.labels.map Lab.key)) fun k h => (T.values_some k).1 (hk k h)
  have h2 := flat_len (fun x : RNode => x.labels.map Lab.key) 32 d.nodes (fun x hx => by rw [List.length_map]; exact (F.nl x hx).1)
  have := T.nodes_len
  omega
theorem Tells.vals_num (T : Tells d S) {key : ByteArray} {ks : List ByteArray} (hn : ks.Nodup) (hk : ∀ k, k ∈ ks → (innerG S key k).isSome = true) : ks.length ≤ 1048576 := by
  have h1 := hn.length_le_of_subset (l₂ := d.nodes.filterMap (fun x => getB x.labels key)) fun k h => (T.inner_some key k).1 (hk k h)
  have h2 := List.length_filterMap_le (fun x : RNode => getB x.labels key) d.nodes
  have := T.nodes_len
  omega
theorem Tells.key_size (T : Tells d S) (F : Fit d) {k : ByteArray} (h : (S.values k).isSome = true) : k.size ≤ 1048576 := by
  obtain ⟨x, hx, hl⟩ := List.mem_flatMap.1 ((T.values_some k).1 h)
  obtain ⟨l, hl2, rfl⟩ := List.mem_map.1 hl
  exact ((F.nl x hx).2 l hl2).1
theorem getB_mem {ls : List Lab} {k v : ByteArray} (h : getB ls k = some v) : (⟨k, v⟩ : Lab) ∈ ls := by
  unfold getB at h
  obtain ⟨l, hl, rfl⟩ := Option.map_eq_some_iff.1 h
  have h1 := List.mem_of_find?_eq_some hl
  have h2 := List.find?_some hl
  simp only [decide_eq_true_eq] at h2
  rw [← h2]; exact h1
theorem Tells.val_size (T : Tells d S) (F : Fit d) {key v : ByteArray} (h : (innerG S key v).isSome = true) : v.size ≤ 1048576 := by
  obtain ⟨x, hx, hl⟩ := List.mem_filterMap.1 ((T.inner_some key v).1 h)
  exact ((F.nl x hx).2 _ (getB_mem hl)).2
end
end Go.Proofs.YtmenipaibjifiaaGreatDoor

namespace Go.Proofs.YtmenipaibjifiaaGreatDoor
open Go.RowKit Go.BigFrame Go.Shelf
attribute [local go_sem] Oper.semAt_some

structure AskD where
  kind : Int
  key : ByteArray
  value : ByteArray
  podKey : ByteArray
  podValue : ByteArray
  slot : Int
  pods : List Int
  cmp : Int
  n : Int
abbrev askC (x : AskD) (vp : Value) : Array Value := #[.int .i64 x.kind, .string x.key, .string x.value, .string x.podKey, .string x.podValue, .int .i64 x.slot, vp, .int .i64 x.cmp, .int .i64 x.n]
def askK : KRel AskD := fun w ok x cs => ∃ vp, cs = (askC x vp).toList ∧ SlK intsK 1 w ok vp x.pods
abbrev fnRows (B1 B2 : Nat) : Value := .func (.func 156) #[] #[.pointer (some ⟨B1, 0, none⟩), .pointer (some ⟨B2, 0, none⟩)]
/-- What a Domains answers, at any later world, is what the reference answers of d. -/
structure Asked (w : World) (dv : Value) (d : RDom) : Prop where
  keys : ∀ (R : Ending → World → Prop) w', Below w.heap.size w w' → (∀ v w'', Below w'.heap.size w' w'' → SlK strsK 1 w'' (fun k => w'.heap.size ≤ k) v (rKeysL d) → R (.returned v) w'') → Calls Tryz.prog 19 #[dv] w' R
  values : ∀ (R : Ending → World → Prop) w' key, Below w.heap.size w w' → (∀ B1 B2 vs ns w'', Below w'.heap.size w' w'' → RowsAt w' w'' B1 B2 vs ns → ns.length = vs.length → vs.length ≤ 1048576 → vs.zip ns = (rValuesL d key).map rowP → R (.returned (fnRows B1 B2)) w'') → Calls Tryz.prog 20 #[dv, .string key] w' R
  tally : ∀ (R : Ending → World → Prop) w' key ok vp l, Below w.heap.size w w' → SetP w' ok vp (marksN l) (marksS l) → (∀ k, ok k → k < w'.heap.size) → (∀ B1 B2 vs ns w'', Below w'.heap.size w' w'' → RowsAt w' w'' B1 B2 vs ns → ns.length = vs.length → vs.length ≤ 1048576 → vs.zip ns = (rTallyL d key l).map rowP → R (.returned (fnRows B1 B2)) w'') → Calls Tryz.prog 45 #[dv, .string key, vp] w' R
  of : ∀ (R : Ending → World → Prop) w' key s, Below w.heap.size w w' → (∀ w'', Below w'.heap.size w' w'' → R (.returned (getV (rOf d key s))) w'') → Calls Tryz.prog 43 #[dv, .string key, .int .i64 s] w' R
  count : ∀ (R : Ending → World → Prop) w' k v pk pv, Below w.heap.size w w' → (∀ w'', Below w'.heap.size w' w'' → R (.returned (.int .i64 (rCountN d k v pk pv : Nat))) w'') → Calls Tryz.prog 48 #[dv, .string k, .string v, .string pk, .string pv] w' R
  nodes : ∀ (R : Ending → World → Prop) w' k v, Below w.heap.size w w' → (∀ s b ws w'', Below w'.heap.size w' w'' → w'.heap.size ≤ s → w'.heap.size ≤ b → SetIn w'' s b 512 ws → natI (mems 512 ws) = rNodesL d.nodes k v → R (.returned (.pointer (some ⟨s, 0, none⟩))) w'') → Calls Tryz.prog 22 #[dv, .string k, .string v] w' R
  pods : ∀ (R : Ending → World → Prop) w' k v, Below w.heap.size w w' → (∀ s b ws w'', Below w'.heap.size w' w'' → w'.heap.size ≤ s → w'.heap.size ≤ b → SetIn w'' s b 2048 ws → natI (mems 2048 ws) = rPodsL d d.pods k v → R (.returned (.pointer (some ⟨s, 0, none⟩))) w'') → Calls Tryz.prog 23 #[dv, .string k, .string v] w' R
  near : ∀ (R : Ending → World → Prop) w' k ok vp l, Below w.heap.size w w' → SetP w' ok vp (marksN l) (marksS l) → (∀ k, ok k → k < w'.heap.size) → (∀ s b ws w'', Below w'.heap.size w' w'' → w'.heap.size ≤ s → w'.heap.size ≤ b → SetIn w'' s b 512 ws → natI (mems 512 ws) = rRankedL d k l 5 0 → R (.returned (.pointer (some ⟨s, 0, none⟩))) w'') → Calls Tryz.prog 26 #[dv, .string k, vp] w' R
  ranked : ∀ (R : Ending → World → Prop) w' k ok vp l c n, Below w.heap.size w w' → SetP w' ok vp (marksN l) (marksS l) → (∀ k, ok k → k < w'.heap.size) → (∀ s b ws w'', Below w'.heap.size w' w'' → w'.heap.size ≤ s → w'.heap.size ≤ b → SetIn w'' s b 512 ws → natI (mems 512 ws) = rRankedL d k l c n → R (.returned (.pointer (some ⟨s, 0, none⟩))) w'') → Calls Tryz.prog 28 #[dv, .string k, vp, .int .i64 c, .int .i64 n] w' R
theorem Asked.below {w w' : World} {dv : Value} {d : RDom} (Q : Asked w dv d) (h : Below w.heap.size w w') : Asked w' dv d where
  keys := fun R w2 h2 k => Q.keys R w2 (h.trans (h2.mono h.size)) k
  values := fun R w2 key h2 k => Q.values R w2 key (h.trans (h2.mono h.size)) k
  tally := fun R w2 key ok vp l h2 h3 h4 k => Q.tally R w2 key ok vp l (h.trans (h2.mono h.size)) h3 h4 k
  of := fun R w2 key s h2 k => Q.of R w2 key s (h.trans (h2.mono h.size)) k
  count := fun R w2 a b c e h2 k => Q.count R w2 a b c e (h.trans (h2.mono h.size)) k
  nodes := fun R w2 a b h2 k => Q.nodes R w2 a b (h.trans (h2.mono h.size)) k
  pods := fun R w2 a b h2 k => Q.pods R w2 a b (h.trans (h2.mono h.size)) k
  near := fun R w2 key ok vp l h2 h3 h4 k => Q.near R w2 key ok vp l (h.trans (h2.mono h.size)) h3 h4 k
  ranked := fun R w2 key ok vp l c n h2 h3 h4 k => Q.ranked R w2 key ok vp l c n (h.trans (h2.mono h.size)) h3 h4 k
theorem marks_ok (l : List Int) : marksN l = 0 ∨ marksN l = 2048 := by
  unfold marksN
  split
  · exact .inl rfl
  · exact .inr rfl
/-- Near asks Ranked for more than 0; the reference for 1 or more. -/
theorem stands_near (a : Nat) : standsB (a : Int) 5 0 = standsB (a : Int) 6 1 := by
  simp only [standsB]
  simp
  omega
theorem rRanked_near (d : RDom) (key : ByteArray) (l : List Int) : rRankedL d key l 5 0 = rRankedL d key l 6 1 := by
  unfold rRankedL
  refine congrArg (fun f => d.nodes.flatMap f) ?_
  funext x
  unfold rankRow
  cases getB x.labels key with
  | none => rfl
  | some v =>
    simp only
    refine congrArg _ (List.filter_congr fun r hr => ?_)
    rw [rTallyL_eq] at hr
    obtain ⟨u, _, rfl⟩ := List.mem_map.1 hr
    simp only [stands_near]
/-- A nil Domains answers as the empty lists. -/
theorem Asked.nil (w : World) : Asked w (.pointer none) ⟨[], []⟩ where
  keys := fun R w' _ k => keysNil_k R w' (k _ _ (Below.refl _ _) (by exact SlK.nil))
  values := fun R w' key _ k => valuesNil_r R w' key (fun B1 B2 w'' hb hr => k B1 B2 [] [] w'' hb hr rfl (by simp) rfl)
  tally := fun R w' key ok vp l _ _ _ k => tallyNil_r R w' key vp (fun B1 B2 w'' hb hr => k B1 B2 [] [] w'' hb hr rfl (by simp) rfl)
  of := fun R w' key s _ k => ofNil_k R w' key s (k w' (Below.refl _ _))
  count := fun R w' a b c e _ k => countNil_k R w' a b c e (k w' (Below.refl _ _))
  nodes := fun R w' a b _ k => nodesNil_k R w' a b (fun s b ws w'' h1 h2 h3 h4 h5 => k s b ws w'' h1 h2 h3 h4 (by
    have : mems 512 ws = [] := List.filter_eq_nil_iff.2 fun i hi => by rw [h5 i (List.mem_range.1 hi)]; simp
    rw [this]; rfl))
  pods := fun R w' a b _ k => podsNil_k R w' a b (fun s b ws w'' h1 h2 h3 h4 h5 => k s b ws w'' h1 h2 h3 h4 (by
    have : mems 2048 ws = [] := List.filter_eq_nil_iff.2 fun i hi => by rw [h5 i (List.mem_range.1 hi)]; simp
    rw [this]; rfl))
  near := fun R w' key ok vp l _ _ _ k => nearNil_k R w' key vp (fun s b w'' h1 h2 h3 h4 => k s b _ w'' h1 h2 h3 h4 (by rw [mems_zero]; rfl))
  ranked := fun R w' key ok vp l c n _ _ _ k => rankedNil_k R w' key vp c n (fun s b w'' h1 h2 h3 h4 => k s b _ w'' h1 h2 h3 h4 (by rw [mems_zero]; rfl))
theorem marksS_len (l : List Int) : True := trivial
/-- A Domains that tells the same as the lists answers as they. -/
theorem Asked.dom {w : World} {h : Hdr} {own : Own'} {S : St} {d : RDom} (D : DomAt w h own S) (T : Tells d S) (F : Fit d) : Asked w (.pointer (some ⟨h.d, 0, none⟩)) d where
  keys := fun R w' hb k => keys_d R w' h own S (D.below hb) (fun x hx => T.key_size F hx) (fun ks hn hk => T.keys_num F hn hk) (fun v ks w'' h1 h2 h3 h4 => k v w'' h1 (by rw [← T.keysQ h2 h3]; exact h4))
  values := fun R w' key hb k => values_r R w' h own S key (D.below hb) (fun x hx => T.val_size F hx) (fun ks hn hk => T.vals_num hn hk) (fun B1 B2 ks w'' h1 h2 h3 h4 => k B1 B2 _ _ w'' h1 h4 (by simp) (by
    have := T.vals_num h2 (fun x hx => (h3 x).1 hx)
    simp [sortedK, List.length_mergeSort]; exact this) (T.valuesQ h2 h3))
  tally := fun R w' key ok vp l hb hp hok k => tally_r R w' h own S key ok vp (marksN l) (marksS l) (D.below hb) hp hok (marks_ok l) (fun x hx => T.val_size F hx) (fun ks hn hk => T.vals_num hn hk) (fun B1 B2 ks w'' h1 h2 h3 h4 => k B1 B2 _ _ w'' h1 h4 (by simp) (by
    have := T.vals_num h2 (fun x hx => (h3 x).1 hx)
    simp [sortedK, List.length_mergeSort]; exact this) (T.tallyQ h2 h3 l))
  of := fun R w' key s hb k => of_d R w' h own S key s (D.below hb) (by
    unfold nodeL
    rw [T.nodes]
    cases e : rNodeAt d s with
    | none => simp
    | some x => have := (F.nl x (T.nodeAt e).1).1; simp; omega) (fun w'' h1 => by rw [T.of]; exact k w'' h1)
  count := fun R w' a b c e hb k => count_q R w' h own S a b c e (D.below hb) (by rw [T.countQ]; exact k w' (Below.refl _ _))
  nodes := fun R w' a b hb k => nodes_d R w' h own S a b (D.below hb) (fun s b ws w'' h1 h2 h3 h4 h5 => k s b ws w'' h1 h2 h3 h4 (T.nodesQ _ _ h5))
  pods := fun R w' a b hb k => pods_d R w' h own S a b (D.below hb) (fun s b ws w'' h1 h2 h3 h4 h5 => k s b ws w'' h1 h2 h3 h4 (T.podsQ _ _ h5))
  near := fun R w' key ok vp l hb hp hok k => near_d R w' h own S key ok vp (marksN l) (marksS l) (D.below hb) hp hok (marks_ok l) (fun x hx => T.val_size F hx) (fun ks hn hk => T.vals_num hn hk) (fun s b ks w'' h1 h2 h3 h4 h5 h6 => k s b _ w'' h1 h2 h3 h6 (T.rankedQ h4 h5 l 5 0))
  ranked := fun R w' key ok vp l c n hb hp hok k => ranked_d R w' h own S key ok vp (marksN l) (marksS l) c n (D.below hb) hp hok (marks_ok l) (fun x hx => T.val_size F hx) (fun ks hn hk => T.vals_num hn hk) (fun s b ks w'' h1 h2 h3 h4 h5 h6 => k s b _ w'' h1 h2 h3 h6 (T.rankedQ h4 h5 l c n))
theorem Sized.of {S : St} {d : RDom} (T : Tells d S) (F : Fit d) : Sized d := ⟨T.nodes_len, T.pods_len, fun x hx => (F.nl x hx).1, F.pl⟩
end Go.Proofs.YtmenipaibjifiaaGreatDoor
