/-
The memory of domain.Domains: six maps, their sets, their label lists, each block with its owner. Plain lemmas; no program is walked.
What the calls of domain.Domains do to what it keeps: plain functions on St; no program.
What domain.Domains keeps, as counted from its nodes and pods: plain Lean; no program.
A node's label comes or goes: what is kept stays counted. Plain Lean; no program.
-/
import Derived.Test.YtmenipaibjifiaaGreatDoorR09
import Derived.Test.YtmenipaibjifiaaGreatDoorR05
import Derived.Test.YtmenipaibjifiaaGreatDoorR10
set_option linter.unusedVariables false
set_option linter.unusedSimpArgs false
namespace Go.Proofs.YtmenipaibjifiaaGreatDoor
open Go.RowKit

def upd {κ : Type} [DecidableEq κ] {α : Type} (f : κ → α) (k : κ) (x : α) : κ → α := fun j => if j = k then x else f j
theorem upd_same {κ : Type} [DecidableEq κ] {α : Type} (f : κ → α) (k : κ) (x : α) : upd f k x k = x := by simp [upd]
theorem upd_ne {κ : Type} [DecidableEq κ] {α : Type} (f : κ → α) {k j : κ} (x : α) (h : j ≠ k) : upd f k x j = f j := by simp [upd, h]

abbrev Spot := ByteArray × ByteArray
abbrev Tag := (ByteArray × ByteArray) × ByteArray × ByteArray
/-- What Domains keeps. -/
structure St where
  nodes : Int → Option (List Lab)
  guests : Int → Option (List Lab × Int)
  on : Int → Option (List Nat)
  areas : Spot → Option (List Nat × List Nat)
  values : ByteArray → Option (ByteArray → Option Int)
  counts : Tag → Option Int
def St.empty : St := ⟨fun _ => none, fun _ => none, fun _ => none, fun _ => none, fun _ => none, fun _ => none⟩
inductive Owner where
  | imm | nodes | guests | ons | areas | values | counts
  | on (k : Int) | an (k : Spot) | ap (k : Spot) | inner (k : ByteArray)
structure Hdr where
  d : Nat
  n : Nat
  g : Nat
  o : Nat
  a : Nat
  v : Nat
  c : Nat

def OptR {β α : Type} (r : β → α → Prop) : Option β → Option α → Prop
  | none, none => True
  | some v, some x => r v x
  | _, _ => False
theorem OptR.imp {β α : Type} {r q : β → α → Prop} {v : Option β} {x : Option α} (h : OptR r v x) (hq : ∀ v x, r v x → q v x) : OptR q v x := by
  cases v <;> cases x <;> first | exact h | exact hq _ _ h
theorem OptR.some_l {β α : Type} {r : β → α → Prop} {v : Option β} {x : α} (h : OptR r v (some x)) : ∃ y, v = some y ∧ r y x := by
  cases v with
  | none => exact h.elim
  | some y => exact ⟨y, rfl, h⟩
theorem OptR.none_l {β α : Type} {r : β → α → Prop} {v : Option β} (h : OptR r v (none : Option α)) : v = none := by
  cases v with
  | none => rfl
  | some y => exact h.elim
/-- The map in block b: its keys are f's, its values stand so to f's. -/
def FMap {κ α : Type} [DecidableEq κ] (enc : κ → Value) (w : World) (b : Nat) (rel : κ → Value → α → Prop) (f : κ → Option α) : Prop :=
  ∃ m, MapAt enc w b m ∧ ∀ k, OptR (rel k) (aget m k) (f k)
section
variable {κ α : Type} [DecidableEq κ] {enc : κ → Value} {w w' : World} {b : Nat} {rel rel' : κ → Value → α → Prop} {f : κ → Option α}
theorem FMap.move (h : FMap enc w b rel f) (hb : w'.heap[b]? = w.heap[b]?) (hr : ∀ k v x, rel k v x → rel' k v x) : FMap enc w' b rel' f := by
  obtain ⟨m, hm, hf⟩ := h
  exact ⟨m, hm.move hb, fun k => (hf k).imp (hr k)⟩
theorem FMap.set {m : List (κ × Value)} (hf : ∀ k, OptR (rel k) (aget m k) (f k)) {k : κ} {u : Value} {x : α} (hm : MapAt enc w' b (aset m k u)) (hk : rel' k u x) (hr : ∀ j v x, j ≠ k → rel j v x → rel' j v x) : FMap enc w' b rel' (upd f k (some x)) := by
  refine ⟨_, hm, fun j => ?_⟩
  rw [aget_aset]
  by_cases h : k = j
  · subst h; rw [if_pos rfl, upd_same]; exact hk
  · rw [if_neg h, upd_ne _ _ (fun e => h e.symm)]; exact (hf j).imp (fun v x => hr j v x (fun e => h e.symm))
theorem FMap.del {m : List (κ × Value)} (hn : (akeys m).Nodup) (hf : ∀ k, OptR (rel k) (aget m k) (f k)) {k : κ} (hm : MapAt enc w' b (adel m k)) (hr : ∀ j v x, rel j v x → rel' j v x) : FMap enc w' b rel' (upd f k none) := by
  refine ⟨_, hm, fun j => ?_⟩
  rw [aget_adel hn]
  by_cases h : k = j
  · subst h; rw [if_pos rfl, upd_same]; trivial
  · rw [if_neg h, upd_ne _ _ (fun e => h e.symm)]; exact (hf j).imp (hr j)
theorem FMap.empty (h : MapAt enc w b []) : FMap enc w b rel (fun _ => none) := ⟨[], h, fun _ => trivial⟩
/-- What lies behind the value at a key has turned. -/
theorem FMap.upd_at {m : List (κ × Value)} (hm : MapAt enc w b m) (hf : ∀ k, OptR (rel k) (aget m k) (f k)) (hb : w'.heap[b]? = w.heap[b]?) {k : κ} {v : Value} {y : α} (hk : aget m k = some v) (hy : rel' k v y) (hr : ∀ j v x, j ≠ k → rel j v x → rel' j v x) : FMap enc w' b rel' (upd f k (some y)) := by
  refine ⟨m, hm.move hb, fun j => ?_⟩
  by_cases h : j = k
  · subst h
    rw [upd_same, hk]
    exact hy
  · rw [upd_ne _ _ h]; exact (hf j).imp (fun v x => hr j v x h)
end

abbrev Own' := Nat → Option Owner
def nodeR (own : Own') (w : World) (_ : Int) (v : Value) (l : List Lab) : Prop := Labs w (fun b => own b = some .imm) v l
def guestR (own : Own') (w : World) (_ : Int) (v : Value) (p : List Lab × Int) : Prop := ∃ u, v = .agg #[u, .int .i64 p.2] ∧ Labs w (fun b => own b = some .imm) u p.1
def onR (own : Own') (w : World) (k : Int) (v : Value) (ws : List Nat) : Prop := ∃ s b, v = .pointer (some ⟨s, 0, none⟩) ∧ SetIn w s b 2048 ws ∧ own b = some (.on k) ∧ own s = some .imm
def areaR (own : Own') (w : World) (k : Spot) (v : Value) (p : List Nat × List Nat) : Prop :=
  ∃ s b s2 b2, v = .agg #[.pointer (some ⟨s, 0, none⟩), .pointer (some ⟨s2, 0, none⟩)] ∧ SetIn w s b 512 p.1 ∧ SetIn w s2 b2 2048 p.2 ∧ own b = some (.an k) ∧ own s = some .imm ∧ own b2 = some (.ap k) ∧ own s2 = some .imm
def numR {κ : Type} (_ : κ) (v : Value) (x : Int) : Prop := v = .int .i64 x
def valR (own : Own') (w : World) (k : ByteArray) (v : Value) (g : ByteArray → Option Int) : Prop := ∃ b, v = .map (some b) ∧ own b = some (.inner k) ∧ FMap Value.string w b numR g

structure DomAt (w : World) (h : Hdr) (own : Own') (S : St) : Prop where
  hd : w.heap[h.d]? = some (.cells (DomCells h.n h.g h.o h.a h.v h.c) 125)
  lim : ∀ k, w.heap.size ≤ k → own k = none
  od : own h.d = some .imm
  on_ : own h.n = some .nodes
  og : own h.g = some .guests
  oo : own h.o = some .ons
  oa : own h.a = some .areas
  ov : own h.v = some .values
  oc : own h.c = some .counts
  fn : FMap (Value.int .i64) w h.n (nodeR own w) S.nodes
  fg : FMap (Value.int .i64) w h.g (guestR own w) S.guests
  fo : FMap (Value.int .i64) w h.o (onR own w) S.on
  fa : FMap spotV w h.a (areaR own w) S.areas
  fv : FMap Value.string w h.v (valR own w) S.values
  fc : FMap tagV w h.c numR S.counts

section
variable {w w' : World} {own own' : Own'} {X : Nat → Prop}
/-- w' is w but for the blocks of X; what lay in w has the owner that it had. -/
structure Step (own own' : Own') (X : Nat → Prop) (w w' : World) : Prop where
  mod : Mod X w w'
  same : ∀ k, k < w.heap.size → own' k = own k
theorem Step.of (h : Mod X w w') : Step own own X w w' := ⟨h, fun _ _ => rfl⟩
theorem Step.keep (h : Step own own' X w w') {b : Nat} (hb : b < w.heap.size) (hx : ¬ X b) : w'.heap[b]? = w.heap[b]? := h.mod.block b hb hx
theorem labs_step {v : Value} {l : List Lab} (h : Step own own' X w w') (hx : ∀ j, X j → own j ≠ some .imm) (hl : Labs w (fun b => own b = some .imm) v l) : Labs w' (fun b => own' b = some .imm) v l := by
  have h1 := SlK.bnd labOk hl
  refine SlK.mono labOk (SlK.move labOk (w' := w') h1 (fun k hk => h.keep hk.2 (fun e => hx k e hk.1))) (fun k hk => (h.same k hk.2).trans hk.1)
theorem nodeR_step {k : Int} {v : Value} {l : List Lab} (h : Step own own' X w w') (hx : ∀ j, X j → own j ≠ some .imm) (hl : nodeR own w k v l) : nodeR own' w' k v l := labs_step h hx hl
theorem guestR_step {k : Int} {v : Value} {l : List Lab × Int} (h : Step own own' X w w') (hx : ∀ j, X j → own j ≠ some .imm) (hl : guestR own w k v l) : guestR own' w' k v l := by
  obtain ⟨u, e, hu⟩ := hl
  exact ⟨u, e, labs_step h hx hu⟩
theorem SetIn.lt {s b n : Nat} {ws : List Nat} (h : SetIn w s b n ws) : s < w.heap.size ∧ b < w.heap.size := by
  obtain ⟨_, h1, h2, _⟩ := h
  exact ⟨(Array.getElem?_eq_some_iff.1 h1).1, (Array.getElem?_eq_some_iff.1 h2).1⟩
theorem onR_step {k : Int} {v : Value} {ws : List Nat} (h : Step own own' X w w') (hx : ∀ j, X j → own j ≠ some .imm) (hk : ∀ j, X j → own j ≠ some (.on k)) (hl : onR own w k v ws) : onR own' w' k v ws := by
  obtain ⟨s, b, e, hS, hb, hs⟩ := hl
  have := hS.lt
  exact ⟨s, b, e, hS.move (h.keep this.1 (fun c => hx s c hs)) (h.keep this.2 (fun c => hk b c hb)), (h.same b this.2).trans hb, (h.same s this.1).trans hs⟩
theorem areaR_step {k : Spot} {v : Value} {p : List Nat × List Nat} (h : Step own own' X w w') (hx : ∀ j, X j → own j ≠ some .imm) (hk : ∀ j, X j → own j ≠ some (.an k)) (hk2 : ∀ j, X j → own j ≠ some (.ap k)) (hl : areaR own w k v p) : areaR own' w' k v p := by
  obtain ⟨s, b, s2, b2, e, hS, hS2, hb, hs, hb2, hs2⟩ := hl
  have := hS.lt
  have := hS2.lt
  exact ⟨s, b, s2, b2, e, hS.move (h.keep (by omega) (fun c => hx s c hs)) (h.keep (by omega) (fun c => hk b c hb)), hS2.move (h.keep (by omega) (fun c => hx s2 c hs2)) (h.keep (by omega) (fun c => hk2 b2 c hb2)),
    (h.same b (by omega)).trans hb, (h.same s (by omega)).trans hs, (h.same b2 (by omega)).trans hb2, (h.same s2 (by omega)).trans hs2⟩
theorem FMap.lt {κ α : Type} [DecidableEq κ] {enc : κ → Value} {b : Nat} {rel : κ → Value → α → Prop} {f : κ → Option α} (h : FMap enc w b rel f) : b < w.heap.size := by
  obtain ⟨m, hm, _⟩ := h; exact hm.lt
theorem valR_step {k : ByteArray} {v : Value} {g : ByteArray → Option Int} (h : Step own own' X w w') (hk : ∀ j, X j → own j ≠ some (.inner k)) (hl : valR own w k v g) : valR own' w' k v g := by
  obtain ⟨b, e, hb, hf⟩ := hl
  have := hf.lt
  exact ⟨b, e, (h.same b this).trans hb, hf.move (h.keep this (fun c => hk b c hb)) (fun _ _ _ h => h)⟩
end

section
variable {w w' : World} {h : Hdr} {own own' : Own'} {S : St} {X : Nat → Prop}
theorem DomAt.lt (D : DomAt w h own S) {k : Nat} {t : Owner} (hk : own k = some t) : k < w.heap.size := by
  rcases Nat.lt_or_ge k w.heap.size with h | h
  · exact h
  · rw [D.lim k h] at hk; cases hk
/-- The parts that a step leaves alone. -/
structure Rest (w' : World) (h : Hdr) (own' : Own') : Prop where
  hd : w'.heap[h.d]? = some (.cells (DomCells h.n h.g h.o h.a h.v h.c) 125)
  lim : ∀ k, w'.heap.size ≤ k → own' k = none
  od : own' h.d = some .imm
  on_ : own' h.n = some .nodes
  og : own' h.g = some .guests
  oo : own' h.o = some .ons
  oa : own' h.a = some .areas
  ov : own' h.v = some .values
  oc : own' h.c = some .counts
theorem DomAt.rest (D : DomAt w h own S) (hs : Step own own' X w w') (hx : ∀ j, X j → own j ≠ some .imm) (hl : ∀ k, w'.heap.size ≤ k → own' k = none) : Rest w' h own' :=
  ⟨(hs.keep (D.lt D.od) (fun c => hx _ c D.od)).trans D.hd, hl, (hs.same _ (D.lt D.od)).trans D.od, (hs.same _ (D.lt D.on_)).trans D.on_, (hs.same _ (D.lt D.og)).trans D.og, (hs.same _ (D.lt D.oo)).trans D.oo,
    (hs.same _ (D.lt D.oa)).trans D.oa, (hs.same _ (D.lt D.ov)).trans D.ov, (hs.same _ (D.lt D.oc)).trans D.oc⟩
theorem DomAt.fn' (D : DomAt w h own S) (hs : Step own own' X w w') (hx : ∀ j, X j → own j ≠ some .imm) (h1 : ∀ j, X j → own j ≠ some .nodes) : FMap (Value.int .i64) w' h.n (nodeR own' w') S.nodes :=
  D.fn.move (hs.keep (D.lt D.on_) (fun c => h1 _ c D.on_)) (fun _ _ _ h => nodeR_step hs hx h)
theorem DomAt.fg' (D : DomAt w h own S) (hs : Step own own' X w w') (hx : ∀ j, X j → own j ≠ some .imm) (h1 : ∀ j, X j → own j ≠ some .guests) : FMap (Value.int .i64) w' h.g (guestR own' w') S.guests :=
  D.fg.move (hs.keep (D.lt D.og) (fun c => h1 _ c D.og)) (fun _ _ _ h => guestR_step hs hx h)
theorem DomAt.fo' (D : DomAt w h own S) (hs : Step own own' X w w') (hx : ∀ j, X j → own j ≠ some .imm) (h1 : ∀ j, X j → own j ≠ some .ons) (h2 : ∀ k j, X j → own j ≠ some (.on k)) : FMap (Value.int .i64) w' h.o (onR own' w') S.on :=
  D.fo.move (hs.keep (D.lt D.oo) (fun c => h1 _ c D.oo)) (fun k _ _ h => onR_step hs hx (h2 k) h)
theorem DomAt.fa' (D : DomAt w h own S) (hs : Step own own' X w w') (hx : ∀ j, X j → own j ≠ some .imm) (h1 : ∀ j, X j → own j ≠ some .areas) (h2 : ∀ k j, X j → own j ≠ some (.an k)) (h3 : ∀ k j, X j → own j ≠ some (.ap k)) : FMap spotV w' h.a (areaR own' w') S.areas :=
  D.fa.move (hs.keep (D.lt D.oa) (fun c => h1 _ c D.oa)) (fun k _ _ h => areaR_step hs hx (h2 k) (h3 k) h)
theorem DomAt.fv' (D : DomAt w h own S) (hs : Step own own' X w w') (h1 : ∀ j, X j → own j ≠ some .values) (h2 : ∀ k j, X j → own j ≠ some (.inner k)) : FMap Value.string w' h.v (valR own' w') S.values :=
  D.fv.move (hs.keep (D.lt D.ov) (fun c => h1 _ c D.ov)) (fun k _ _ h => valR_step hs (h2 k) h)
theorem DomAt.fc' (D : DomAt w h own S) (hs : Step own own' X w w') (h1 : ∀ j, X j → own j ≠ some .counts) : FMap tagV w' h.c numR S.counts :=
  D.fc.move (hs.keep (D.lt D.oc) (fun c => h1 _ c D.oc)) (fun _ _ _ h => h)
/-- A world that left the owned blocks alone. -/
theorem DomAt.mod (D : DomAt w h own S) (hm : Mod X w w') (hx : ∀ j, X j → own j = none) : DomAt w' h own S := by
  have hs : Step own own X w w' := .of hm
  have ne : ∀ t j, X j → own j ≠ some t := fun t j hj e => by rw [hx j hj] at e; cases e
  have R := D.rest hs (ne _) (fun k hk => D.lim k (Nat.le_trans hm.size hk))
  exact ⟨R.hd, R.lim, R.od, R.on_, R.og, R.oo, R.oa, R.ov, R.oc, D.fn' hs (ne _) (ne _), D.fg' hs (ne _) (ne _), D.fo' hs (ne _) (ne _) (fun _ => ne _), D.fa' hs (ne _) (ne _) (fun _ => ne _) (fun _ => ne _), D.fv' hs (ne _) (fun _ => ne _), D.fc' hs (ne _)⟩
theorem DomAt.below (D : DomAt w h own S) (hb : Below w.heap.size w w') : DomAt w' h own S := D.mod (Mod.of_below hb) (fun _ h => h.elim)
theorem DomAt.same (D : DomAt w h own S) (hb : w'.heap = w.heap) (ho : w'.os = w.os) (ht : w'.tape = w.tape) (hout : w'.output = w.output) : DomAt w' h own S :=
  D.mod (X := Non) ⟨ho, ht, hout, by rw [hb]; exact Nat.le_refl _, fun _ _ _ => by rw [hb]⟩ (fun _ h => h.elim)
end

/-! ### the turns of one part -/
section
variable {w w' : World} {h : Hdr} {own own' : Own'} {S : St}
theorem one_ne {X : Nat} {t : Owner} {own : Own'} (ht : own X = some t) {u : Owner} (hu : t ≠ u) : ∀ j, j = X → own j ≠ some u := fun j e q => by rw [e, ht] at q; cases q; exact hu rfl
/-- counts -/
theorem DomAt.setCounts (D : DomAt w h own S) (hm : Mod (fun k => k = h.c) w w') {f : Tag → Option Int} (hf : FMap tagV w' h.c numR f) : DomAt w' h own { S with counts := f } := by
  have hs : Step own own (fun k => k = h.c) w w' := .of hm
  have ne : ∀ {u : Owner}, Owner.counts ≠ u → ∀ j, j = h.c → own j ≠ some u := fun hu => one_ne D.oc hu
  have R := D.rest hs (ne (by simp)) (fun k hk => D.lim k (Nat.le_trans hm.size hk))
  exact ⟨R.hd, R.lim, R.od, R.on_, R.og, R.oo, R.oa, R.ov, R.oc, D.fn' hs (ne (by simp)) (ne (by simp)), D.fg' hs (ne (by simp)) (ne (by simp)), D.fo' hs (ne (by simp)) (ne (by simp)) (fun _ => ne (by simp)),
    D.fa' hs (ne (by simp)) (ne (by simp)) (fun _ => ne (by simp)) (fun _ => ne (by simp)), D.fv' hs (ne (by simp)) (fun _ => ne (by simp)), hf⟩
/-- the words of on[k] -/
theorem DomAt.setOn (D : DomAt w h own S) {k : Int} {s b : Nat} {ws' : List Nat} (hb : own b = some (.on k)) (hm : Mod (fun j => j = b) w w') (hS' : SetIn w' s b 2048 ws') 
    {m : List (Int × Value)} (hma : MapAt (Value.int .i64) w h.o m) (hmf : ∀ k, OptR (onR own w k) (aget m k) (S.on k)) (hv : aget m k = some (.pointer (some ⟨s, 0, none⟩))) (hso : own s = some .imm) : DomAt w' h own { S with on := upd S.on k (some ws') } := by
  have hs : Step own own (fun j => j = b) w w' := .of hm
  have ne : ∀ {u : Owner}, Owner.on k ≠ u → ∀ j, j = b → own j ≠ some u := fun hu => one_ne hb hu
  have R := D.rest hs (ne (by simp)) (fun k hk => D.lim k (Nat.le_trans hm.size hk))
  refine ⟨R.hd, R.lim, R.od, R.on_, R.og, R.oo, R.oa, R.ov, R.oc, D.fn' hs (ne (by simp)) (ne (by simp)), D.fg' hs (ne (by simp)) (ne (by simp)), ?_,
    D.fa' hs (ne (by simp)) (ne (by simp)) (fun _ => ne (by simp)) (fun _ => ne (by simp)), D.fv' hs (ne (by simp)) (fun _ => ne (by simp)), D.fc' hs (ne (by simp))⟩
  exact FMap.upd_at hma hmf (hs.keep (D.lt D.oo) (fun c => ne (u := .ons) (by simp) _ c D.oo)) hv ⟨s, b, rfl, hS', hb, hso⟩ (fun j v x hj hr => onR_step hs (ne (by simp)) (ne (by simpa using fun e => hj e.symm)) hr)
/-- the nodes' words of areas[k] -/
theorem DomAt.setAn (D : DomAt w h own S) {k : Spot} {s b s2 b2 : Nat} {x' y : List Nat} (hb : own b = some (.an k)) (hm : Mod (fun j => j = b) w w') (hS' : SetIn w' s b 512 x') (hS2 : SetIn w s2 b2 2048 y)
    {m : List (Spot × Value)} (hma : MapAt spotV w h.a m) (hmf : ∀ k, OptR (areaR own w k) (aget m k) (S.areas k)) (hv : aget m k = some (.agg #[.pointer (some ⟨s, 0, none⟩), .pointer (some ⟨s2, 0, none⟩)])) (hso : own s = some .imm) (hb2 : own b2 = some (.ap k)) (hs2 : own s2 = some .imm) : DomAt w' h own { S with areas := upd S.areas k (some (x', y)) } := by
  have hs : Step own own (fun j => j = b) w w' := .of hm
  have ne : ∀ {u : Owner}, Owner.an k ≠ u → ∀ j, j = b → own j ≠ some u := fun hu => one_ne hb hu
  have R := D.rest hs (ne (by simp)) (fun k hk => D.lim k (Nat.le_trans hm.size hk))
  refine ⟨R.hd, R.lim, R.od, R.on_, R.og, R.oo, R.oa, R.ov, R.oc, D.fn' hs (ne (by simp)) (ne (by simp)), D.fg' hs (ne (by simp)) (ne (by simp)), D.fo' hs (ne (by simp)) (ne (by simp)) (fun _ => ne (by simp)), ?_,
    D.fv' hs (ne (by simp)) (fun _ => ne (by simp)), D.fc' hs (ne (by simp))⟩
  refine FMap.upd_at hma hmf (hs.keep (D.lt D.oa) (fun c => ne (u := .areas) (by simp) _ c D.oa)) hv ⟨s, b, s2, b2, rfl, hS', ?_, hb, hso, hb2, hs2⟩ (fun j v x hj hr => areaR_step hs (ne (by simp)) (ne (by simpa using fun e => hj e.symm)) (ne (by simp)) hr)
  have := hS2.lt
  exact hS2.move (hs.keep this.1 (fun c => ne (u := .imm) (by simp) _ c hs2)) (hs.keep this.2 (fun c => ne (u := .ap k) (by simp) _ c hb2))
/-- the pods' words of areas[k] -/
theorem DomAt.setAp (D : DomAt w h own S) {k : Spot} {s b s2 b2 : Nat} {x y' : List Nat} (hb2 : own b2 = some (.ap k)) (hm : Mod (fun j => j = b2) w w') (hS' : SetIn w' s2 b2 2048 y') (hS : SetIn w s b 512 x)
    {m : List (Spot × Value)} (hma : MapAt spotV w h.a m) (hmf : ∀ k, OptR (areaR own w k) (aget m k) (S.areas k)) (hv : aget m k = some (.agg #[.pointer (some ⟨s, 0, none⟩), .pointer (some ⟨s2, 0, none⟩)])) (hso : own s = some .imm) (hb : own b = some (.an k)) (hs2 : own s2 = some .imm) : DomAt w' h own { S with areas := upd S.areas k (some (x, y')) } := by
  have hs : Step own own (fun j => j = b2) w w' := .of hm
  have ne : ∀ {u : Owner}, Owner.ap k ≠ u → ∀ j, j = b2 → own j ≠ some u := fun hu => one_ne hb2 hu
  have R := D.rest hs (ne (by simp)) (fun k hk => D.lim k (Nat.le_trans hm.size hk))
  refine ⟨R.hd, R.lim, R.od, R.on_, R.og, R.oo, R.oa, R.ov, R.oc, D.fn' hs (ne (by simp)) (ne (by simp)), D.fg' hs (ne (by simp)) (ne (by simp)), D.fo' hs (ne (by simp)) (ne (by simp)) (fun _ => ne (by simp)), ?_,
    D.fv' hs (ne (by simp)) (fun _ => ne (by simp)), D.fc' hs (ne (by simp))⟩
  refine FMap.upd_at hma hmf (hs.keep (D.lt D.oa) (fun c => ne (u := .areas) (by simp) _ c D.oa)) hv ⟨s, b, s2, b2, rfl, ?_, hS', hb, hso, hb2, hs2⟩ (fun j v x hj hr => areaR_step hs (ne (by simp)) (ne (by simp)) (ne (by simpa using fun e => hj e.symm)) hr)
  have := hS.lt
  exact hS.move (hs.keep this.1 (fun c => ne (u := .imm) (by simp) _ c hso)) (hs.keep this.2 (fun c => ne (u := .an k) (by simp) _ c hb))
end
end Go.Proofs.YtmenipaibjifiaaGreatDoor

namespace Go.Proofs.YtmenipaibjifiaaGreatDoor
open Go.RowKit

def countS (S : St) (t : Tag) (x : Int) : St := { S with counts := upd S.counts t (if (S.counts t).getD 0 + x = 0 then none else some ((S.counts t).getD 0 + x)) }
def tagOf (at_ : Spot) (l : Lab) : Tag := (at_, l.key, l.val)
def spotOf (l : Lab) : Spot := (l.key, l.val)
def podSet (S : St) (at_ : Spot) (pod n : Int) : St :=
  match S.areas at_ with
  | some (x, y) => { S with areas := upd S.areas at_ (some (x, if 0 < n then addW 2048 y pod else delW 2048 y pod)) }
  | none => S
def guestL (S : St) (pod : Int) : List Lab := match S.guests pod with
  | some (l, _) => l
  | none => []
def enterS (S : St) (at_ : Spot) (pod n : Int) : St := (guestL S pod).foldl (fun S l => countS S (tagOf at_ l) n) (podSet S at_ pod n)
def innerG (S : St) (k : ByteArray) : ByteArray → Option Int := match S.values k with
  | some g => g
  | none => fun _ => none
def mkArea (S : St) (l : Lab) : St :=
  match S.areas (spotOf l) with
  | some _ => S
  | none => { S with areas := upd S.areas (spotOf l) (some (List.replicate 8 0, List.replicate 32 0)), values := upd S.values l.key (some (innerG S l.key)) }
def bumpV (S : St) (l : Lab) (x : Int) : St := { S with values := upd S.values l.key (some (upd (innerG S l.key) l.val (some ((innerG S l.key l.val).getD 0 + x)))) }
def nodeSet (S : St) (l : Lab) (slot : Int) (b : Bool) : St :=
  match S.areas (spotOf l) with
  | some (x, y) => { S with areas := upd S.areas (spotOf l) (some (if b then addW 512 x slot else delW 512 x slot, y)) }
  | none => S
def onL (S : St) (slot : Int) : List Nat := match S.on slot with
  | some ws => mems 2048 ws
  | none => []
def enterAll (S : St) (at_ : Spot) (ps : List Nat) (n : Int) : St := ps.foldl (fun S (p : Nat) => enterS S at_ (p : Int) n) S
def joinOne (slot : Int) (ps : List Nat) (S : St) (l : Lab) : St := enterAll (nodeSet (bumpV (mkArea S l) l 1) l slot true) (spotOf l) ps 1
def joinS (S : St) (slot : Int) (ls : List Lab) : St := let T := ls.foldl (joinOne slot (onL S slot)) S; { T with nodes := upd T.nodes slot (some ls) }
/-- A value's number, one less; where that is 0, value and domain are struck; a key without values, too. -/
def dropV (S : St) (l : Lab) : St :=
  let g := innerG S l.key
  let q := (g l.val).getD 0 - 1
  if q = 0 then { S with values := upd S.values l.key (some (upd g l.val none)), areas := upd S.areas (spotOf l) none } else { S with values := upd S.values l.key (some (upd g l.val (some q))) }
open Classical in
noncomputable def dropK (S : St) (k : ByteArray) : St := if (∀ v, innerG S k v = none) then { S with values := upd S.values k none } else S
noncomputable def quitOne (slot : Int) (ps : List Nat) (S : St) (l : Lab) : St := dropK (dropV (nodeSet (enterAll S (spotOf l) ps (-1)) l slot false) l) l.key
noncomputable def quitS (S : St) (slot : Int) (ls : List Lab) : St := let T := ls.foldl (quitOne slot (onL S slot)) S; { T with nodes := upd T.nodes slot none }
/-- Numbers stay small. -/
structure Small (S : St) (K : Int) : Prop where
  counts : ∀ t q, S.counts t = some q → -K ≤ q ∧ q ≤ K
  values : ∀ k g v q, S.values k = some g → g v = some q → -K ≤ q ∧ q ≤ K
theorem Small.mono {S : St} {K L : Int} (h : Small S K) (hk : K ≤ L) : Small S L :=
  ⟨fun t q e => by have := h.counts t q e; omega, fun k g v q e1 e2 => by have := h.values k g v q e1 e2; omega⟩
theorem Small.getC {S : St} {K : Int} (h : Small S K) (hK : 0 ≤ K) (t : Tag) : -K ≤ (S.counts t).getD 0 ∧ (S.counts t).getD 0 ≤ K := by
  cases e : S.counts t with
  | none => simp; omega
  | some q => exact h.counts t q e
theorem Small.getV {S : St} {K : Int} (h : Small S K) (hK : 0 ≤ K) (k v : ByteArray) : -K ≤ (innerG S k v).getD 0 ∧ (innerG S k v).getD 0 ≤ K := by
  unfold innerG
  cases e : S.values k with
  | none => simp; omega
  | some g =>
    cases e2 : g v with
    | none => simp [e2]; omega
    | some q => simp only [e2, Option.getD_some]; exact h.values k g v q e e2
theorem small_countS {S : St} {K : Int} (h : Small S K) (hK : 0 ≤ K) (t : Tag) (x : Int) (hx : -1 ≤ x ∧ x ≤ 1) : Small (countS S t x) (K + 1) := by
  have h0 := h.getC hK t
  refine ⟨fun u q e => ?_, (h.mono (by omega)).values⟩
  unfold countS at e
  by_cases hu : u = t
  · subst hu
    simp only [upd_same] at e
    split at e
    · cases e
    · cases e; omega
  · simp only [upd_ne _ _ hu] at e
    have := h.counts u q e; omega
theorem small_podSet {S : St} {K : Int} (h : Small S K) (at_ : Spot) (pod n : Int) : Small (podSet S at_ pod n) K := by
  unfold podSet
  split
  · exact ⟨h.counts, h.values⟩
  · exact h
theorem small_foldCount {at_ : Spot} {n : Int} (hn : -1 ≤ n ∧ n ≤ 1) : ∀ (ls : List Lab) {S : St} {K : Int}, Small S K → 0 ≤ K → Small (ls.foldl (fun S l => countS S (tagOf at_ l) n) S) (K + ls.length)
  | [], S, K, h, _ => by simpa using h
  | l :: r, S, K, h, hK => by
    have := small_foldCount (at_ := at_) hn r (small_countS h hK (tagOf at_ l) n hn) (by omega)
    simp only [List.foldl_cons, List.length_cons]
    exact this.mono (by push_cast; omega)
theorem small_enterS {S : St} {K : Int} (h : Small S K) (hK : 0 ≤ K) (at_ : Spot) (pod n : Int) (hn : -1 ≤ n ∧ n ≤ 1) : Small (enterS S at_ pod n) (K + (guestL S pod).length) :=
  small_foldCount hn _ (small_podSet h at_ pod n) hK
end Go.Proofs.YtmenipaibjifiaaGreatDoor

namespace Go.Proofs.YtmenipaibjifiaaGreatDoor
open Go.RowKit

/-! ### counting -/
def cnt (n : Nat) (p : Nat → Bool) : Nat := ((List.range n).filter p).length
theorem cnt_congr {n : Nat} {p q : Nat → Bool} (h : ∀ i, i < n → p i = q i) : cnt n p = cnt n q := by
  unfold cnt
  rw [List.filter_congr (fun i hi => h i (List.mem_range.1 hi))]
theorem cnt_succ (n : Nat) (p : Nat → Bool) : cnt (n + 1) p = cnt n p + (if p n then 1 else 0) := by
  unfold cnt
  rw [List.range_succ, List.filter_append, List.length_append]
  cases h : p n <;> simp [h]
theorem cnt_turn : ∀ (n : Nat) {p q : Nat → Bool} {i : Nat}, i < n → (∀ j, j < n → j ≠ i → q j = p j) → p i = false → q i = true → cnt n q = cnt n p + 1
  | 0, _, _, _, h, _, _, _ => by omega
  | n + 1, p, q, i, h, hj, hp, hq => by
    rw [cnt_succ, cnt_succ]
    by_cases hi : i = n
    · subst hi
      rw [cnt_congr (fun j hjn => hj j (by omega) (by omega)), hp, hq]
      simp
    · rw [cnt_turn n (by omega) (fun j h1 h2 => hj j (by omega) h2) hp hq, hj n (by omega) (fun e => hi e.symm)]
      omega
theorem cnt_le (n : Nat) (p : Nat → Bool) : cnt n p ≤ n := by
  unfold cnt
  have := List.length_filter_le p (List.range n)
  simpa using this
theorem cnt_zero {n : Nat} {p : Nat → Bool} : cnt n p = 0 ↔ ∀ i, i < n → p i = false := by
  unfold cnt
  rw [List.length_eq_zero_iff, List.filter_eq_nil_iff]
  constructor
  · intro h i hi
    simpa using h i (List.mem_range.2 hi)
  · intro h i hi
    simpa using h i (List.mem_range.1 hi)
def optNum (c : Nat) : Option Int := if c = 0 then none else some (c : Int)
theorem optNum_getD (c : Nat) : (optNum c).getD 0 = c := by
  unfold optNum
  split
  · next h => simp [h]
  · rfl
theorem optNum_plus (c : Nat) : (if (optNum c).getD 0 + 1 = 0 then none else some ((optNum c).getD 0 + 1)) = optNum (c + 1) := by
  rw [optNum_getD, if_neg (by omega)]
  unfold optNum
  rw [if_neg (by omega)]
  simp
theorem optNum_minus (c : Nat) : (if (optNum (c + 1)).getD 0 + -1 = 0 then none else some ((optNum (c + 1)).getD 0 + -1)) = optNum c := by
  rw [optNum_getD]
  unfold optNum
  by_cases h : c = 0
  · subst h; simp
  · rw [if_neg (by omega), if_neg h]
    congr 1
    push_cast
    omega

/-! ### the folds -/
def hasL (ls : List Lab) (at_ : Spot) : Bool := decide ((⟨at_.1, at_.2⟩ : Lab) ∈ ls)
theorem hasL_spot (ls : List Lab) (l : Lab) : hasL ls (spotOf l) = decide (l ∈ ls) := rfl
theorem fold_counts (at_ : Spot) (n : Int) : ∀ (ls : List Lab) (S : St), ls.Nodup →
    (ls.foldl (fun S l => countS S (tagOf at_ l) n) S) = { S with counts := fun t => if t.1 = at_ ∧ hasL ls t.2 = true then (if (S.counts t).getD 0 + n = 0 then none else some ((S.counts t).getD 0 + n)) else S.counts t }
  | [], S, _ => by simp [hasL]
  | l :: r, S, h => by
    rw [List.nodup_cons] at h
    rw [List.foldl_cons, fold_counts at_ n r _ h.2]
    unfold countS
    simp only [St.mk.injEq, true_and]
    funext t
    by_cases h1 : t.1 = at_
    · by_cases h2 : hasL r t.2 = true
      · have hne : t ≠ tagOf at_ l := by
          intro e
          subst e
          exact h.1 (of_decide_eq_true h2)
        have h3 : hasL (l :: r) t.2 = true := by simp only [hasL, decide_eq_true_eq] at h2 ⊢; exact List.mem_cons_of_mem _ h2
        rw [if_pos (show t.1 = at_ ∧ hasL r t.2 = true from ⟨h1, h2⟩), if_pos (show t.1 = at_ ∧ hasL (l :: r) t.2 = true from ⟨h1, h3⟩), upd_ne _ _ hne]
      · rw [if_neg (show ¬ (t.1 = at_ ∧ hasL r t.2 = true) from fun e => h2 e.2)]
        by_cases h3 : t = tagOf at_ l
        · have h4 : hasL (l :: r) t.2 = true := by subst h3; simp [tagOf, hasL]
          rw [if_pos (show t.1 = at_ ∧ hasL (l :: r) t.2 = true from ⟨h1, h4⟩), h3, upd_same]
        · rw [upd_ne _ _ h3, if_neg (show ¬ (t.1 = at_ ∧ hasL (l :: r) t.2 = true) from ?_)]
          rintro ⟨_, e⟩
          simp only [hasL, decide_eq_true_eq, List.mem_cons] at e h2
          rcases e with e | e
          · apply h3
            obtain ⟨t1, t2⟩ := t
            simp only at h1 e
            subst h1
            simp [tagOf, ← e]
          · exact h2 e
    · have hne : t ≠ tagOf at_ l := by
        intro e
        subst e
        exact h1 rfl
      rw [if_neg (show ¬ (t.1 = at_ ∧ hasL r t.2 = true) from fun e => h1 e.1), if_neg (show ¬ (t.1 = at_ ∧ hasL (l :: r) t.2 = true) from fun e => h1 e.1), upd_ne _ _ hne]

/-- What is kept, counted: M: the labels that count at each node; V: the pods that count in each domain. -/
structure AInv (M : Nat → List Lab) (V : Spot → Nat → Bool) (S : St) : Prop where
  no : ∀ at_, S.areas at_ = none → (∀ s, s < 512 → hasL (M s) at_ = false) ∧ ∀ p, p < 2048 → V at_ p = false
  yes : ∀ at_ x y, S.areas at_ = some (x, y) → (∃ s, s < 512 ∧ hasL (M s) at_ = true) ∧ x.length = 8 ∧ y.length = 32 ∧ (∀ s, s < 512 → memW x s = hasL (M s) at_) ∧ ∀ p, p < 2048 → memW y p = V at_ p
  vno : ∀ k, S.values k = none → ∀ v s, s < 512 → hasL (M s) (k, v) = false
  vyes : ∀ k g, S.values k = some g → (∃ v s, s < 512 ∧ hasL (M s) (k, v) = true) ∧ ∀ v, g v = optNum (cnt 512 fun s => hasL (M s) (k, v))
  cts : ∀ t : Tag, S.counts t = optNum (cnt 2048 fun p => V t.1 p && hasL (guestL S p) t.2)
theorem enterS_eq (S : St) (at_ : Spot) (p n : Int) (h : (guestL S p).Nodup) : enterS S at_ p n =
    { podSet S at_ p n with counts := fun t => if t.1 = at_ ∧ hasL (guestL S p) t.2 = true then (if (S.counts t).getD 0 + n = 0 then none else some ((S.counts t).getD 0 + n)) else S.counts t } := by
  unfold enterS
  rw [fold_counts _ _ _ _ h]
  unfold podSet
  split <;> rfl
theorem AInv.plus {M : Nat → List Lab} {V : Spot → Nat → Bool} {S : St} (A : AInv M V S) {at_ : Spot} {p : Nat} (hp : p < 2048) (hg : (guestL S p).Nodup) (hV : V at_ p = false) (ha : (S.areas at_).isSome = true) :
    AInv M (upd V at_ (upd (V at_) p true)) (enterS S at_ p 1) := by
  obtain ⟨⟨x, y⟩, ha⟩ := Option.isSome_iff_exists.1 ha
  obtain ⟨h1, h2, h3, h4, h5⟩ := A.yes _ _ _ ha
  rw [enterS_eq _ _ _ _ hg]
  have hps : podSet S at_ p 1 = { S with areas := upd S.areas at_ (some (x, addW 2048 y p)) } := by unfold podSet; rw [ha]; simp
  have hgl : ∀ q, guestL (enterS S at_ p 1) q = guestL S q := fun q => by rw [enterS_eq _ _ _ _ hg, hps]; rfl
  rw [hps]
  refine ⟨fun b hb => ?_, fun b x' y' hb => ?_, A.vno, A.vyes, fun t => ?_⟩
  · by_cases e : b = at_
    · subst e; simp [upd_same] at hb
    · simp only [upd_ne _ _ e] at hb ⊢
      exact A.no b hb
  · by_cases e : b = at_
    · subst e
      simp only [upd_same, Option.some.injEq, Prod.mk.injEq] at hb ⊢
      obtain ⟨rfl, rfl⟩ := hb
      refine ⟨h1, h2, by rw [addW_length]; exact h3, h4, fun q hq => ?_⟩
      rw [memW_add (by rw [h3]) p q hp, h5 q hq]
      by_cases e : q = p
      · subst e; simp [upd_same]
      · simp [upd_ne _ _ e, e]
    · simp only [upd_ne _ _ e] at hb ⊢
      exact A.yes b x' y' hb
  · show (if t.1 = at_ ∧ hasL (guestL S p) t.2 = true then (if (S.counts t).getD 0 + 1 = 0 then none else some ((S.counts t).getD 0 + 1)) else S.counts t) = _
    rw [A.cts t, optNum_plus]
    have hgl' : ∀ q, guestL ({ ({ S with areas := upd S.areas at_ (some (x, addW 2048 y p)) } : St) with counts := fun t => if t.1 = at_ ∧ hasL (guestL S p) t.2 = true then (if (S.counts t).getD 0 + 1 = 0 then none else some ((S.counts t).getD 0 + 1)) else S.counts t }) q = guestL S q := fun _ => rfl
    simp only [hgl']
    split
    · next hc =>
      obtain ⟨e, hc⟩ := hc
      subst e
      refine congrArg optNum ?_
      refine (cnt_turn 2048 hp (fun j hj hne => ?_) ?_ ?_).symm
      · simp [upd_same, upd_ne _ _ hne]
      · simp [hV]
      · simp [upd_same, hc]
    · next hc =>
      refine congrArg optNum ?_
      refine cnt_congr fun j hj => ?_
      by_cases e : t.1 = at_
      · subst e
        rw [upd_same]
        by_cases e2 : j = p
        · subst e2
          have : hasL (guestL S j) t.2 = false := by
            cases hh : hasL (guestL S j) t.2 with
            | false => rfl
            | true => exact absurd ⟨rfl, hh⟩ hc
          simp [this]
        · rw [upd_ne _ _ e2]
      · rw [upd_ne _ _ e]
theorem AInv.minus {M : Nat → List Lab} {V : Spot → Nat → Bool} {S : St} (A : AInv M V S) {at_ : Spot} {p : Nat} (hp : p < 2048) (hg : (guestL S p).Nodup) (hV : V at_ p = true) (ha : (S.areas at_).isSome = true) :
    AInv M (upd V at_ (upd (V at_) p false)) (enterS S at_ p (-1)) := by
  obtain ⟨⟨x, y⟩, ha⟩ := Option.isSome_iff_exists.1 ha
  obtain ⟨h1, h2, h3, h4, h5⟩ := A.yes _ _ _ ha
  rw [enterS_eq _ _ _ _ hg]
  have hps : podSet S at_ p (-1) = { S with areas := upd S.areas at_ (some (x, delW 2048 y p)) } := by unfold podSet; rw [ha]; simp
  rw [hps]
  refine ⟨fun b hb => ?_, fun b x' y' hb => ?_, A.vno, A.vyes, fun t => ?_⟩
  · by_cases e : b = at_
    · subst e; simp [upd_same] at hb
    · simp only [upd_ne _ _ e] at hb ⊢
      exact A.no b hb
  · by_cases e : b = at_
    · subst e
      simp only [upd_same, Option.some.injEq, Prod.mk.injEq] at hb ⊢
      obtain ⟨rfl, rfl⟩ := hb
      refine ⟨h1, h2, by rw [delW_length]; exact h3, h4, fun q hq => ?_⟩
      rw [memW_del (by rw [h3]) p q hp, h5 q hq]
      by_cases e : q = p
      · subst e; simp [upd_same]
      · simp [upd_ne _ _ e, e]
    · simp only [upd_ne _ _ e] at hb ⊢
      exact A.yes b x' y' hb
  · show (if t.1 = at_ ∧ hasL (guestL S p) t.2 = true then (if (S.counts t).getD 0 + -1 = 0 then none else some ((S.counts t).getD 0 + -1)) else S.counts t) = _
    have hgl' : ∀ q, guestL ({ ({ S with areas := upd S.areas at_ (some (x, delW 2048 y p)) } : St) with counts := fun t => if t.1 = at_ ∧ hasL (guestL S p) t.2 = true then (if (S.counts t).getD 0 + -1 = 0 then none else some ((S.counts t).getD 0 + -1)) else S.counts t }) q = guestL S q := fun _ => rfl
    simp only [hgl']
    split
    · next hc =>
      obtain ⟨e, hc⟩ := hc
      subst e
      have hc2 : (cnt 2048 fun q => V t.1 q && hasL (guestL S q) t.2) = (cnt 2048 fun q => upd V t.1 (upd (V t.1) p false) t.1 q && hasL (guestL S q) t.2) + 1 := by
        refine cnt_turn 2048 hp (fun j hj hne => ?_) ?_ ?_
        · simp [upd_same, upd_ne _ _ hne]
        · simp [upd_same]
        · simp [hV, hc]
      rw [A.cts t, hc2, optNum_minus]
    · next hc =>
      rw [A.cts t]
      refine congrArg optNum ?_
      refine cnt_congr fun j hj => ?_
      by_cases e : t.1 = at_
      · subst e
        rw [upd_same]
        by_cases e2 : j = p
        · subst e2
          have : hasL (guestL S j) t.2 = false := by
            cases hh : hasL (guestL S j) t.2 with
            | false => rfl
            | true => exact absurd ⟨rfl, hh⟩ hc
          simp [this]
        · rw [upd_ne _ _ e2]
      · rw [upd_ne _ _ e]
end Go.Proofs.YtmenipaibjifiaaGreatDoor

namespace Go.Proofs.YtmenipaibjifiaaGreatDoor
open Go.RowKit

theorem upd_upd {κ : Type} [DecidableEq κ] {α : Type} (f : κ → α) (k : κ) (x y : α) : upd (upd f k x) k y = upd f k y := by
  funext j
  by_cases h : j = k
  · subst h; simp [upd_same]
  · simp [upd_ne _ _ h]
def areaOf (S : St) (at_ : Spot) : List Nat × List Nat := (S.areas at_).getD (List.replicate 8 0, List.replicate 32 0)
theorem plus_eq (S : St) (l : Lab) (slot : Int) : nodeSet (bumpV (mkArea S l) l 1) l slot true =
    { S with areas := upd S.areas (spotOf l) (some (addW 512 (areaOf S (spotOf l)).1 slot, (areaOf S (spotOf l)).2)), values := upd S.values l.key (some (upd (innerG S l.key) l.val (some ((innerG S l.key l.val).getD 0 + 1)))) } := by
  unfold mkArea
  cases h : S.areas (spotOf l) with
  | some p =>
    obtain ⟨x, y⟩ := p
    simp only [bumpV, nodeSet, h, areaOf, Option.getD_some, if_true]
  | none =>
    have hg : innerG ({ S with areas := upd S.areas (spotOf l) (some (List.replicate 8 0, List.replicate 32 0)), values := upd S.values l.key (some (innerG S l.key)) } : St) l.key = innerG S l.key := by
      conv => lhs; unfold innerG
      simp only [upd_same]
      rfl
    simp only [bumpV, nodeSet, hg, upd_same, upd_upd, areaOf, h, Option.getD_none, if_true]
theorem innerG_opt {M : Nat → List Lab} {V : Spot → Nat → Bool} {S : St} (A : AInv M V S) (k v : ByteArray) : innerG S k v = optNum (cnt 512 fun s => hasL (M s) (k, v)) := by
  unfold innerG
  cases h : S.values k with
  | some g => exact (A.vyes k g h).2 v
  | none =>
    have : (cnt 512 fun s => hasL (M s) (k, v)) = 0 := cnt_zero.2 fun s hs => A.vno k h v s hs
    simp [this, optNum]
theorem areaOf_mem {M : Nat → List Lab} {V : Spot → Nat → Bool} {S : St} (A : AInv M V S) (b : Spot) : (areaOf S b).1.length = 8 ∧ (areaOf S b).2.length = 32 ∧ (∀ s, s < 512 → memW (areaOf S b).1 s = hasL (M s) b) ∧ ∀ p, p < 2048 → memW (areaOf S b).2 p = V b p := by
  unfold areaOf
  cases h : S.areas b with
  | some p =>
    obtain ⟨x, y⟩ := p
    obtain ⟨_, h2, h3, h4, h5⟩ := A.yes b x y h
    exact ⟨h2, h3, h4, h5⟩
  | none =>
    obtain ⟨h1, h2⟩ := A.no b h
    simp only [Option.getD_none, List.length_replicate, true_and]
    exact ⟨fun s hs => by rw [memW_zero, h1 s hs], fun p hp => by rw [memW_zero, h2 p hp]⟩
theorem AInv.nodePlus {M M' : Nat → List Lab} {V : Spot → Nat → Bool} {S : St} (A : AInv M V S) {l : Lab} {slot : Nat} (hs : slot < 512) (h0 : hasL (M slot) (spotOf l) = false)
    (hM : ∀ s b, hasL (M' s) b = (hasL (M s) b || (decide (s = slot) && decide (b = spotOf l)))) : AInv M' V (nodeSet (bumpV (mkArea S l) l 1) l slot true) := by
  rw [plus_eq]
  have hother : ∀ s b, b ≠ spotOf l → hasL (M' s) b = hasL (M s) b := fun s b hb => by rw [hM]; simp [hb]
  obtain ⟨a1, a2, a3, a4⟩ := areaOf_mem A (spotOf l)
  refine ⟨fun b hb => ?_, fun b x y hb => ?_, fun k hk v s hs' => ?_, fun k g hk => ?_, A.cts⟩
  · by_cases e : b = spotOf l
    · subst e; simp [upd_same] at hb
    · simp only [upd_ne _ _ e] at hb
      obtain ⟨h1, h2⟩ := A.no b hb
      exact ⟨fun s hs' => by rw [hother s b e]; exact h1 s hs', h2⟩
  · by_cases e : b = spotOf l
    · subst e
      simp only [upd_same, Option.some.injEq, Prod.mk.injEq] at hb
      obtain ⟨rfl, rfl⟩ := hb
      refine ⟨⟨slot, hs, by rw [hM]; simp⟩, by rw [addW_length]; exact a1, a2, fun s hs' => ?_, a4⟩
      rw [memW_add (by rw [a1]) slot s hs, a3 s hs', hM]
      simp
    · simp only [upd_ne _ _ e] at hb
      obtain ⟨⟨s0, hs0, h1⟩, h2, h3, h4, h5⟩ := A.yes b x y hb
      exact ⟨⟨s0, hs0, by rw [hother _ _ e]; exact h1⟩, h2, h3, fun s hs' => by rw [hother _ _ e]; exact h4 s hs', h5⟩
  · by_cases e : k = l.key
    · subst e; simp [upd_same] at hk
    · simp only [upd_ne _ _ e] at hk
      rw [hother s (k, v) (fun c => e (by rw [spotOf, Prod.mk.injEq] at c; exact c.1))]
      exact A.vno k hk v s hs'
  · by_cases e : k = l.key
    · subst e
      simp only [upd_same, Option.some.injEq] at hk
      subst hk
      refine ⟨⟨l.val, slot, hs, by rw [hM]; simp [spotOf]⟩, fun v => ?_⟩
      by_cases ev : v = l.val
      · subst ev
        rw [upd_same, innerG_opt A, optNum_getD]
        have : (cnt 512 fun s => hasL (M' s) (l.key, l.val)) = (cnt 512 fun s => hasL (M s) (l.key, l.val)) + 1 := by
          refine cnt_turn 512 hs (fun j hj hne => ?_) h0 (by rw [hM]; simp [spotOf])
          rw [hM]; simp [hne]
        rw [this]
        unfold optNum
        rw [if_neg (by omega)]
        simp
      · rw [upd_ne _ _ ev, innerG_opt A]
        refine congrArg optNum ?_
        exact cnt_congr fun s hs' => (hother s _ (fun c => ev (by rw [spotOf, Prod.mk.injEq] at c; exact c.2))).symm
    · simp only [upd_ne _ _ e] at hk
      obtain ⟨⟨v0, s0, hs0, h1⟩, h2⟩ := A.vyes k g hk
      have hne : ∀ v, (k, v) ≠ spotOf l := fun v c => e (by rw [spotOf, Prod.mk.injEq] at c; exact c.1)
      refine ⟨⟨v0, s0, hs0, by rw [hother _ _ (hne _)]; exact h1⟩, fun v => ?_⟩
      rw [h2 v]
      refine congrArg optNum ?_
      exact cnt_congr fun s hs' => (hother s _ (hne v)).symm
theorem AInv.nodeMinus {M M' : Nat → List Lab} {V : Spot → Nat → Bool} {S : St} (A : AInv M V S) {l : Lab} {slot : Nat} (hs : slot < 512) (h0 : hasL (M slot) (spotOf l) = true)
    (hM : ∀ s b, hasL (M' s) b = (hasL (M s) b && !(decide (s = slot) && decide (b = spotOf l)))) (hV : (∀ s, s < 512 → hasL (M' s) (spotOf l) = false) → ∀ p, p < 2048 → V (spotOf l) p = false) :
    AInv M' V (dropK (dropV (nodeSet S l slot false) l) l.key) := by
  have hother : ∀ s b, b ≠ spotOf l → hasL (M' s) b = hasL (M s) b := fun s b hb => by rw [hM]; simp [hb]
  have hself : ∀ s, s ≠ slot → hasL (M' s) (spotOf l) = hasL (M s) (spotOf l) := fun s hb => by rw [hM]; simp [hb]
  have hgone : hasL (M' slot) (spotOf l) = false := by rw [hM]; simp
  have hne : ∀ k v, k ≠ l.key → (k, v) ≠ spotOf l := fun k v e c => e (by rw [spotOf, Prod.mk.injEq] at c; exact c.1)
  have hne2 : ∀ v, v ≠ l.val → (l.key, v) ≠ spotOf l := fun v e c => e (by rw [spotOf, Prod.mk.injEq] at c; exact c.2)
  -- the area is there
  obtain ⟨x, y, ha⟩ : ∃ x y, S.areas (spotOf l) = some (x, y) := by
    cases h : S.areas (spotOf l) with
    | some p => exact ⟨p.1, p.2, rfl⟩
    | none => rw [(A.no _ h).1 slot hs] at h0; cases h0
  obtain ⟨a0, a1, a2, a3, a4⟩ := A.yes _ x y ha
  obtain ⟨g, hg⟩ : ∃ g, S.values l.key = some g := by
    cases h : S.values l.key with
    | some g => exact ⟨g, rfl⟩
    | none => have := A.vno _ h l.val slot hs; rw [show (l.key, l.val) = spotOf l from rfl, h0] at this; cases this
  obtain ⟨_, hgv⟩ := A.vyes _ g hg
  have hc : (cnt 512 fun s => hasL (M s) (l.key, l.val)) = (cnt 512 fun s => hasL (M' s) (l.key, l.val)) + 1 := by
    refine cnt_turn 512 hs (fun j hj hne => (hself j hne).symm) hgone h0
  generalize hq : (cnt 512 fun s => hasL (M' s) (l.key, l.val)) = c at hc
  have hng : (g l.val).getD 0 - 1 = (c : Int) := by rw [hgv, hc, optNum_getD]; push_cast; omega
  have hns : nodeSet S l slot false = { S with areas := upd S.areas (spotOf l) (some (delW 512 x slot, y)) } := by unfold nodeSet; rw [ha]; simp
  have hig : innerG ({ S with areas := upd S.areas (spotOf l) (some (delW 512 x slot, y)) } : St) l.key = g := by unfold innerG; rw [show ({ S with areas := upd S.areas (spotOf l) (some (delW 512 x slot, y)) } : St).values = S.values from rfl, hg]
  have hdv : dropV (nodeSet S l slot false) l = { S with areas := upd S.areas (spotOf l) (if c = 0 then none else some (delW 512 x slot, y)), values := upd S.values l.key (some (upd g l.val (optNum c))) } := by
    rw [hns]
    unfold dropV
    rw [hig]
    simp only [hng, Int.natCast_eq_zero]
    unfold optNum
    by_cases e : c = 0
    · simp [e, upd_upd]
    · simp [e]
  have hmem : ∀ s, s < 512 → memW (delW 512 x slot) s = hasL (M' s) (spotOf l) := fun s hs' => by
    rw [memW_del (by rw [a1]) slot s hs, a3 s hs', hM]; simp
  have hc0 : c = 0 → ∀ s, s < 512 → hasL (M' s) (spotOf l) = false := fun e => by rw [← hq] at e; exact cnt_zero.1 e
  have hg' : ∀ v, upd g l.val (optNum c) v = optNum (cnt 512 fun s => hasL (M' s) (l.key, v)) := fun v => by
    by_cases e : v = l.val
    · subst e; rw [upd_same, hq]
    · rw [upd_ne _ _ e, hgv]
      refine congrArg optNum ?_
      exact cnt_congr fun s _ => (hother s _ (hne2 v e)).symm
  have core : ∀ T : St, T.areas = upd S.areas (spotOf l) (if c = 0 then none else some (delW 512 x slot, y)) → T.counts = S.counts → T.guests = S.guests →
      (T.values = upd S.values l.key (some (upd g l.val (optNum c))) ∧ (∃ v, upd g l.val (optNum c) v ≠ none) ∨ T.values = upd S.values l.key none ∧ ∀ v, upd g l.val (optNum c) v = none) → AInv M' V T := by
    intro T h1 h2 h3 h4
    refine ⟨fun b hb => ?_, fun b x' y' hb => ?_, fun k hk v s hs' => ?_, fun k g2 hk => ?_, fun t => ?_⟩
    · rw [h1] at hb
      by_cases e : b = spotOf l
      · subst e
        rw [upd_same] at hb
        by_cases e0 : c = 0
        · exact ⟨hc0 e0, hV (hc0 e0)⟩
        · rw [if_neg e0] at hb; cases hb
      · rw [upd_ne _ _ e] at hb
        obtain ⟨q1, q2⟩ := A.no b hb
        exact ⟨fun s hs' => by rw [hother _ _ e]; exact q1 s hs', q2⟩
    · rw [h1] at hb
      by_cases e : b = spotOf l
      · subst e
        rw [upd_same] at hb
        by_cases e0 : c = 0
        · rw [if_pos e0] at hb; cases hb
        · rw [if_neg e0] at hb
          simp only [Option.some.injEq, Prod.mk.injEq] at hb
          obtain ⟨rfl, rfl⟩ := hb
          refine ⟨?_, by rw [delW_length]; exact a1, a2, hmem, a4⟩
          apply Classical.byContradiction
          intro hno
          apply e0
          rw [← hq]
          refine cnt_zero.2 fun s hs' => ?_
          cases hh : hasL (M' s) (l.key, l.val) with
          | false => rfl
          | true => exact absurd ⟨s, hs', hh⟩ hno
      · rw [upd_ne _ _ e] at hb
        obtain ⟨⟨s0, hs0, q1⟩, q2, q3, q4, q5⟩ := A.yes b x' y' hb
        exact ⟨⟨s0, hs0, by rw [hother _ _ e]; exact q1⟩, q2, q3, fun s hs' => by rw [hother _ _ e]; exact q4 s hs', q5⟩
    · by_cases e : k = l.key
      · subst e
        rcases h4 with ⟨h4, _⟩ | ⟨h4, h5⟩
        · rw [h4, upd_same] at hk; cases hk
        · have := (hg' v).symm.trans (h5 v)
          unfold optNum at this
          split at this
          · next h => exact cnt_zero.1 h s hs'
          · cases this
      · have : S.values k = none := by
          rcases h4 with ⟨h4, _⟩ | ⟨h4, _⟩ <;> (rw [h4, upd_ne _ _ e] at hk; exact hk)
        rw [hother _ _ (hne k v e)]
        exact A.vno k this v s hs'
    · by_cases e : k = l.key
      · subst e
        rcases h4 with ⟨h4, v, hv⟩ | ⟨h4, _⟩
        · rw [h4, upd_same] at hk
          cases hk
          refine ⟨?_, hg'⟩
          rw [hg'] at hv
          apply Classical.byContradiction
          intro hno
          apply hv
          have : (cnt 512 fun s => hasL (M' s) (l.key, v)) = 0 := cnt_zero.2 fun s hs' => by
            cases hh : hasL (M' s) (l.key, v) with
            | false => rfl
            | true => exact absurd ⟨v, s, hs', hh⟩ hno
          simp [this, optNum]
        · rw [h4, upd_same] at hk; cases hk
      · have : S.values k = some g2 := by
          rcases h4 with ⟨h4, _⟩ | ⟨h4, _⟩ <;> (rw [h4, upd_ne _ _ e] at hk; exact hk)
        obtain ⟨⟨v0, s0, hs0, q1⟩, q2⟩ := A.vyes k g2 this
        refine ⟨⟨v0, s0, hs0, by rw [hother _ _ (hne k v0 e)]; exact q1⟩, fun v => ?_⟩
        rw [q2 v]
        refine congrArg optNum ?_
        exact cnt_congr fun s _ => (hother s _ (hne k v e)).symm
    · rw [h2, A.cts t]
      have : ∀ q, guestL T q = guestL S q := fun q => by unfold guestL; rw [h3]
      simp only [this]
  rw [hdv]
  have hig2 : innerG ({ S with areas := upd S.areas (spotOf l) (if c = 0 then none else some (delW 512 x slot, y)), values := upd S.values l.key (some (upd g l.val (optNum c))) } : St) l.key = upd g l.val (optNum c) := by
    unfold innerG; simp only [upd_same]
  unfold dropK
  rw [hig2]
  split
  · next h => exact core _ rfl rfl rfl (.inr ⟨by simp only [upd_upd], h⟩)
  · next h =>
    refine core _ rfl rfl rfl (.inl ⟨rfl, ?_⟩)
    apply Classical.byContradiction
    intro hno
    apply h
    intro v
    apply Classical.byContradiction
    intro hv
    exact hno ⟨v, hv⟩
end Go.Proofs.YtmenipaibjifiaaGreatDoor
