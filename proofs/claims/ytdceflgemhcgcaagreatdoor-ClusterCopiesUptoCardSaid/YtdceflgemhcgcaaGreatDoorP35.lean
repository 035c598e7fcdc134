/-
  The memory of a cluster: its two tables, its two maps, each block with its owner. Plain lemmas; no program is walked.
-/
import Derived.Test.YtdceflgemhcgcaaGreatDoorP34
set_option linter.unusedVariables false
set_option linter.unusedSimpArgs false
namespace Go.Proofs.YtdceflgemhcgcaaGreatDoor
open Go.RowKit

def ups {κ : Type} [DecidableEq κ] {α : Type} (f : κ → α) (k : κ) (x : α) : κ → α := fun j => if j = k then x else f j
theorem ups_same {κ : Type} [DecidableEq κ] {α : Type} (f : κ → α) (k : κ) (x : α) : ups f k x k = x := by simp [ups]
theorem ups_ne {κ : Type} [DecidableEq κ] {α : Type} (f : κ → α) {k j : κ} (x : α) (h : j ≠ k) : ups f k x j = f j := by simp [ups, h]
def GOpt {β α : Type} (r : β → α → Prop) : Option β → Option α → Prop
  | none, none => True
  | some v, some x => r v x
  | _, _ => False
theorem GOpt.imp {β α : Type} {r q : β → α → Prop} {v : Option β} {x : Option α} (h : GOpt r v x) (hq : ∀ v x, r v x → q v x) : GOpt q v x := by
  cases v <;> cases x <;> first | exact h | exact hq _ _ h
theorem GOpt.some_l {β α : Type} {r : β → α → Prop} {v : Option β} {x : α} (h : GOpt r v (some x)) : ∃ y, v = some y ∧ r y x := by
  cases v with
  | none => exact h.elim
  | some y => exact ⟨y, rfl, h⟩
theorem GOpt.none_l {β α : Type} {r : β → α → Prop} {v : Option β} (h : GOpt r v (none : Option α)) : v = none := by
  cases v with
  | none => rfl
  | some y => exact h.elim
/-- The map in block b: its keys are f's, its values stand so to f's. -/
def GMap {α : Type} (w : World) (b : Nat) (rel : ByteArray → Value → α → Prop) (f : ByteArray → Option α) : Prop :=
  ∃ m, MapAt Value.string w b m ∧ ∀ k, GOpt (rel k) (aget m k) (f k)
section
variable {α : Type} {w w' : World} {b : Nat} {rel rel' : ByteArray → Value → α → Prop} {f : ByteArray → Option α}
theorem GMap.move (h : GMap w b rel f) (hb : w'.heap[b]? = w.heap[b]?) (hr : ∀ k v x, rel k v x → rel' k v x) : GMap w' b rel' f := by
  obtain ⟨m, hm, hf⟩ := h
  exact ⟨m, hm.move hb, fun k => (hf k).imp (hr k)⟩
theorem GMap.set {m : List (ByteArray × Value)} (hf : ∀ k, GOpt (rel k) (aget m k) (f k)) {k : ByteArray} {u : Value} {x : α} (hm : MapAt Value.string w' b (aset m k u)) (hk : rel' k u x) (hr : ∀ j v x, j ≠ k → rel j v x → rel' j v x) : GMap w' b rel' (ups f k (some x)) := by
  refine ⟨_, hm, fun j => ?_⟩
  rw [aget_aset]
  by_cases h : k = j
  · subst h; rw [if_pos rfl, ups_same]; exact hk
  · rw [if_neg h, ups_ne _ _ (fun e => h e.symm)]; exact (hf j).imp (fun v x => hr j v x (fun e => h e.symm))
theorem GMap.empty (h : MapAt Value.string w b []) : GMap w b rel (fun _ => none) := ⟨[], h, fun _ => trivial⟩
theorem GMap.lt (h : GMap w b rel f) : b < w.heap.size := by obtain ⟨m, hm, _⟩ := h; exact hm.lt
end

inductive CT where
  | imm | hdr | t1 | t2 | m1 | m2 | b1 | b2 | r1 | r2
  | inner (k : ByteArray)
abbrev COwn := Nat → Option CT
structure CHdr where
  c : Nat
  t1 : Nat
  m1 : Nat
  v1 : Value
  t2 : Nat
  m2 : Nat
  v2 : Value
  b1 : Nat
  b2 : Nat
/-- What a cluster keeps. -/
structure CSt where
  nodes : Tab Nod
  bound : Tab (Pd × ByteArray)
  sums : ByteArray → Option (List Itm)
  pods : ByteArray → Option (ByteArray → Option Int)
def CSt.empty : CSt := ⟨⟨[], [], 0⟩, ⟨[], [], 0⟩, fun _ => none, fun _ => none⟩
abbrev Imm (own : COwn) : Nat → Prop := fun k => own k = some .imm
def sumR (own : COwn) (w : World) (_ : ByteArray) (v : Value) (l : List Itm) : Prop := SlK itmK 2 w (Imm own) v l
def oneR (_ : ByteArray) (v : Value) (x : Int) : Prop := v = .int .i64 x
def podR (own : COwn) (w : World) (k : ByteArray) (v : Value) (g : ByteArray → Option Int) : Prop := ∃ b, v = .map (some b) ∧ own b = some (.inner k) ∧ GMap w b oneR g
abbrev NodT (own : COwn) := TabAt nodK 5 266 241 512 (Imm own)
abbrev PlcT (own : COwn) := TabAt plcK 9 269 244 2048 (Imm own)
structure CluAt (w : World) (h : CHdr) (own : COwn) (S : CSt) : Prop where
  cell : w.heap[h.c]? = some (.cells #[.map (some h.b1), .map (some h.b2), .pointer (some ⟨h.t1, 0, none⟩), .pointer (some ⟨h.t2, 0, none⟩)] 182)
  lim : ∀ k, w.heap.size ≤ k → own k = none
  oc : own h.c = some .hdr
  ot1 : own h.t1 = some .t1
  om1 : own h.m1 = some .m1
  ov1 : ∀ k, h.v1.ownBlock = some k → own k = some .r1
  ot2 : own h.t2 = some .t2
  om2 : own h.m2 = some .m2
  ov2 : ∀ k, h.v2.ownBlock = some k → own k = some .r2
  ob1 : own h.b1 = some .b1
  ob2 : own h.b2 = some .b2
  tn : NodT own w h.t1 h.m1 h.v1 S.nodes
  tb : PlcT own w h.t2 h.m2 h.v2 S.bound
  sums : GMap w h.b1 (sumR own w) S.sums
  pods : GMap w h.b2 (podR own w) S.pods
/-- The owners have grown: what lay there has the owner that it had. -/
def Ext' (w : World) (own own' : COwn) : Prop := ∀ k, k < w.heap.size → own' k = own k
theorem Ext'.refl (w : World) (own : COwn) : Ext' w own own := fun _ _ => rfl
theorem Ext'.trans {w w' : World} {a b c : COwn} (h : Ext' w a b) (k : Ext' w' b c) (hs : w.heap.size ≤ w'.heap.size) : Ext' w a c := fun i hi => (k i (by omega)).trans (h i hi)
section
variable {w w' : World} {h : CHdr} {own own' : COwn} {S : CSt} {X : Nat → Prop}
theorem own_lt (hl : ∀ k, w.heap.size ≤ k → own k = none) {k : Nat} {t : CT} (hk : own k = some t) : k < w.heap.size := by
  rcases Nat.lt_or_ge k w.heap.size with h | h
  · exact h
  · rw [hl k h] at hk; cases hk
theorem CluAt.lt (hc : CluAt w h own S) {k : Nat} {t : CT} (hk : own k = some t) : k < w.heap.size := own_lt hc.lim hk
theorem sumR_step {k : ByteArray} {v : Value} {l : List Itm} (hm : Mod X w w') (he : Ext' w own own') (hx : ∀ j, X j → own j ≠ some .imm) (hl : sumR own w k v l) : sumR own' w' k v l := by
  have h1 := SlK.bnd itmOk hl
  exact SlK.mono itmOk (SlK.move itmOk (w' := w') h1 (fun k hk => hm.block k hk.2 (fun e => hx k e hk.1))) (fun k hk => (he k hk.2).trans hk.1)
theorem podR_step {k : ByteArray} {v : Value} {g : ByteArray → Option Int} (hm : Mod X w w') (he : Ext' w own own') (hx : ∀ j, X j → own j ≠ some (.inner k)) (hl : podR own w k v g) : podR own' w' k v g := by
  obtain ⟨b, h1, h2, h3⟩ := hl
  exact ⟨b, h1, (he b h3.lt).trans h2, h3.move (hm.block b h3.lt (fun e => hx b e h2)) (fun _ _ _ h => h)⟩
theorem sums_step {b : Nat} {f : ByteArray → Option (List Itm)} (hb : own b = some .b1) (hm : Mod X w w') (he : Ext' w own own') (hx : ∀ j, X j → own j ≠ some .imm ∧ own j ≠ some .b1) (hs : GMap w b (sumR own w) f) : GMap w' b (sumR own' w') f :=
  hs.move (hm.block b hs.lt (fun e => (hx b e).2 hb)) (fun _ _ _ h => sumR_step hm he (fun j e => (hx j e).1) h)
theorem pods_step {b : Nat} {f : ByteArray → Option (ByteArray → Option Int)} (hb : own b = some .b2) (hm : Mod X w w') (he : Ext' w own own') (hx : ∀ j, X j → (∀ k, own j ≠ some (.inner k)) ∧ own j ≠ some .b2) (hs : GMap w b (podR own w) f) : GMap w' b (podR own' w') f :=
  hs.move (hm.block b hs.lt (fun e => (hx b e).2 hb)) (fun _ _ _ h => podR_step hm he (fun j e => (hx j e).1 _) h)
theorem tab_step {α : Type} {K : KRel α} {sz : Nat} {e tt : TypeId} {most : Int} {t m : Nat} {v : Value} {T : Tab α} {a b r : CT} (H : KOk K sz) (ht : own t = some a) (hmm : own m = some b) (hv : ∀ k, v.ownBlock = some k → own k = some r) (hr : r ≠ .imm) (hm : Mod X w w') (he : Ext' w own own') (hl' : ∀ k, w'.heap.size ≤ k → own' k = none)
    (hx : ∀ j, X j → own j ≠ some .imm ∧ own j ≠ some a ∧ own j ≠ some b ∧ own j ≠ some r) (h : TabAt K sz e tt most (Imm own) w t m v T) : TabAt K sz e tt most (Imm own') w' t m v T := by
  have h1 := h.move H (w' := w') (fun k hk hh => hm.block k hk (fun e => by
    have hq := hx k e
    rcases hh with rfl | rfl | hh | hh
    · exact hq.2.1 ht
    · exact hq.2.2.1 hmm
    · exact hq.1 hh
    · exact hq.2.2.2 (hv k hh))) hm.size
  refine h1.wider H (fun k hk => (he k (h.imm_lt hk)).trans hk) (fun k hk => ⟨own_lt hl' hk, fun hh => ?_⟩)
  have hlt : k < w.heap.size := by
    obtain ⟨cur, hc⟩ := h.rows.own_ty hh
    exact (Array.getElem?_eq_some_iff.1 hc).1
  have := (he k hlt).symm.trans hk
  rw [hv k hh] at this
  exact hr (Option.some.inj this)
theorem ov_step {v : Value} {r : CT} {α : Type} {K : KRel α} {sz : Nat} {e tt : TypeId} {most : Int} {t m : Nat} {T : Tab α} (h : TabAt K sz e tt most (Imm own) w t m v T) (he : Ext' w own own') (hv : ∀ k, v.ownBlock = some k → own k = some r) : ∀ k, v.ownBlock = some k → own' k = some r := fun k hk => by
  obtain ⟨cur, hc⟩ := h.rows.own_ty hk
  exact (he k (Array.getElem?_eq_some_iff.1 hc).1).trans (hv k hk)
/-- Nothing of it has been written; more blocks may be its own. -/
theorem CluAt.grow (hc : CluAt w h own S) (hb : Below w.heap.size w w') (he : Ext' w own own') (hl : ∀ k, w'.heap.size ≤ k → own' k = none) : CluAt w' h own' S := by
  have hm : Mod Non w w' := Mod.of_below hb
  have g : ∀ {k t}, own k = some t → own' k = some t := fun {k t} hk => (he k (hc.lt hk)).trans hk
  have f0 : ∀ j, Non j → own j ≠ some .imm := fun _ h => h.elim
  exact {
    cell := (hb.block _ (hc.lt hc.oc)).trans hc.cell
    lim := hl
    oc := g hc.oc
    ot1 := g hc.ot1
    om1 := g hc.om1
    ov1 := ov_step hc.tn he hc.ov1
    ot2 := g hc.ot2
    om2 := g hc.om2
    ov2 := ov_step hc.tb he hc.ov2
    ob1 := g hc.ob1
    ob2 := g hc.ob2
    tn := tab_step nodOk hc.ot1 hc.om1 hc.ov1 (fun e => by cases e) hm he hl (fun _ h => h.elim) hc.tn
    tb := tab_step plcOk hc.ot2 hc.om2 hc.ov2 (fun e => by cases e) hm he hl (fun _ h => h.elim) hc.tb
    sums := sums_step hc.ob1 hm he (fun _ h => h.elim) hc.sums
    pods := pods_step hc.ob2 hm he (fun _ h => h.elim) hc.pods }
theorem CluAt.below (hc : CluAt w h own S) (hb : Below w.heap.size w w') : CluAt w' h own S := hc.grow hb (Ext'.refl _ _) (fun k hk => hc.lim k (Nat.le_trans hb.size hk))
/-- New blocks become immutable. -/
def immIn (own : COwn) (a b : Nat) : COwn := fun k => if a ≤ k ∧ k < b then some .imm else own k
theorem CluAt.imms (hc : CluAt w h own S) (hb : Below w.heap.size w w') {a : Nat} (ha : w.heap.size ≤ a) : CluAt w' h (immIn own a w'.heap.size) S ∧ Ext' w own (immIn own a w'.heap.size) := by
  have he : Ext' w own (immIn own a w'.heap.size) := fun k hk => by unfold immIn; rw [if_neg (by omega)]
  refine ⟨hc.grow hb he (fun k hk => ?_), he⟩
  unfold immIn
  rw [if_neg (by omega)]
  exact hc.lim k (Nat.le_trans hb.size hk)
theorem immIn_in {own : COwn} {a b k : Nat} (h1 : a ≤ k) (h2 : k < b) : immIn own a b k = some .imm := by unfold immIn; rw [if_pos ⟨h1, h2⟩]
def putO (own : COwn) (v : Value) (t : CT) : COwn := fun k => if v.ownBlock = some k then some t else own k
/-- The nodes' table has turned. -/
theorem CluAt.setN (hc : CluAt w h own S) {v : Value} {T : Tab Nod} (hm : Mod (fun k => k = h.t1 ∨ k = h.m1 ∨ h.v1.ownBlock = some k) w w') (ht : NodT own w' h.t1 h.m1 v T) (hv : v.ownBlock = h.v1.ownBlock ∨ ∃ b, v.ownBlock = some b ∧ w.heap.size ≤ b) :
    CluAt w' { h with v1 := v } (putO own v .r1) { S with nodes := T } ∧ Ext' w own (putO own v .r1) := by
  have hnew : ∀ k, v.ownBlock = some k → k < w.heap.size → own k = some .r1 := fun k hk hlt => by
    rcases hv with hv | ⟨b, hb, hbl⟩
    · exact hc.ov1 k (hv ▸ hk)
    · rw [hb] at hk; cases hk; omega
  have he : Ext' w own (putO own v .r1) := fun k hk => by
    unfold putO
    by_cases e : v.ownBlock = some k
    · rw [if_pos e]; exact (hnew k e hk).symm
    · rw [if_neg e]
  have hl : ∀ k, w'.heap.size ≤ k → putO own v .r1 k = none := fun k hk => by
    unfold putO
    rw [if_neg (fun e => ?_)]
    · exact hc.lim k (Nat.le_trans hm.size hk)
    · obtain ⟨cur, hcc⟩ := ht.rows.own_ty e
      have := (Array.getElem?_eq_some_iff.1 hcc).1
      omega
  have g : ∀ {k t}, own k = some t → putO own v .r1 k = some t := fun {k t} hk => (he k (hc.lt hk)).trans hk
  have tag : ∀ j, (j = h.t1 ∨ j = h.m1 ∨ h.v1.ownBlock = some j) → own j = some .t1 ∨ own j = some .m1 ∨ own j = some .r1 := fun j hj => by
    rcases hj with rfl | rfl | hj
    · exact .inl hc.ot1
    · exact .inr (.inl hc.om1)
    · exact .inr (.inr (hc.ov1 j hj))
  refine ⟨{
    cell := (hm.block _ (hc.lt hc.oc) (fun e => by rcases tag _ e with e | e | e <;> (rw [hc.oc] at e; cases e))).trans hc.cell
    lim := hl
    oc := g hc.oc
    ot1 := g hc.ot1
    om1 := g hc.om1
    ov1 := fun k hk => by unfold putO; rw [if_pos hk]
    ot2 := g hc.ot2
    om2 := g hc.om2
    ov2 := ov_step hc.tb he hc.ov2
    ob1 := g hc.ob1
    ob2 := g hc.ob2
    tn := ht.wider nodOk (fun k hk => g hk) (fun k hk => ⟨own_lt hl hk, fun hh => by unfold Imm putO at hk; rw [if_pos hh] at hk; cases hk⟩)
    tb := tab_step plcOk hc.ot2 hc.om2 hc.ov2 (fun e => by cases e) hm he hl (fun j hj => by rcases tag j hj with e | e | e <;> (rw [e]; refine ⟨?_, ?_, ?_, ?_⟩ <;> (intro q; cases q))) hc.tb
    sums := sums_step hc.ob1 hm he (fun j hj => by rcases tag j hj with e | e | e <;> (rw [e]; refine ⟨?_, ?_⟩ <;> (intro q; cases q))) hc.sums
    pods := pods_step hc.ob2 hm he (fun j hj => by rcases tag j hj with e | e | e <;> (rw [e]; exact ⟨fun k q => (by cases q), fun q => (by cases q)⟩)) hc.pods }, he⟩
/-- The bound pods' table has turned. -/
theorem CluAt.setB (hc : CluAt w h own S) {v : Value} {T : Tab (Pd × ByteArray)} (hm : Mod (fun k => k = h.t2 ∨ k = h.m2 ∨ h.v2.ownBlock = some k) w w') (ht : PlcT own w' h.t2 h.m2 v T) (hv : v.ownBlock = h.v2.ownBlock ∨ ∃ b, v.ownBlock = some b ∧ w.heap.size ≤ b) :
    CluAt w' { h with v2 := v } (putO own v .r2) { S with bound := T } ∧ Ext' w own (putO own v .r2) := by
  have hnew : ∀ k, v.ownBlock = some k → k < w.heap.size → own k = some .r2 := fun k hk hlt => by
    rcases hv with hv | ⟨b, hb, hbl⟩
    · exact hc.ov2 k (hv ▸ hk)
    · rw [hb] at hk; cases hk; omega
  have he : Ext' w own (putO own v .r2) := fun k hk => by
    unfold putO
    by_cases e : v.ownBlock = some k
    · rw [if_pos e]; exact (hnew k e hk).symm
    · rw [if_neg e]
  have hl : ∀ k, w'.heap.size ≤ k → putO own v .r2 k = none := fun k hk => by
    unfold putO
    rw [if_neg (fun e => ?_)]
    · exact hc.lim k (Nat.le_trans hm.size hk)
    · obtain ⟨cur, hcc⟩ := ht.rows.own_ty e
      have := (Array.getElem?_eq_some_iff.1 hcc).1
      omega
  have g : ∀ {k t}, own k = some t → putO own v .r2 k = some t := fun {k t} hk => (he k (hc.lt hk)).trans hk
  have tag : ∀ j, (j = h.t2 ∨ j = h.m2 ∨ h.v2.ownBlock = some j) → own j = some .t2 ∨ own j = some .m2 ∨ own j = some .r2 := fun j hj => by
    rcases hj with rfl | rfl | hj
    · exact .inl hc.ot2
    · exact .inr (.inl hc.om2)
    · exact .inr (.inr (hc.ov2 j hj))
  refine ⟨{
    cell := (hm.block _ (hc.lt hc.oc) (fun e => by rcases tag _ e with e | e | e <;> (rw [hc.oc] at e; cases e))).trans hc.cell
    lim := hl
    oc := g hc.oc
    ot1 := g hc.ot1
    om1 := g hc.om1
    ov1 := ov_step hc.tn he hc.ov1
    ot2 := g hc.ot2
    om2 := g hc.om2
    ov2 := fun k hk => by unfold putO; rw [if_pos hk]
    ob1 := g hc.ob1
    ob2 := g hc.ob2
    tn := tab_step nodOk hc.ot1 hc.om1 hc.ov1 (fun e => by cases e) hm he hl (fun j hj => by rcases tag j hj with e | e | e <;> (rw [e]; refine ⟨?_, ?_, ?_, ?_⟩ <;> (intro q; cases q))) hc.tn
    tb := ht.wider plcOk (fun k hk => g hk) (fun k hk => ⟨own_lt hl hk, fun hh => by unfold Imm putO at hk; rw [if_pos hh] at hk; cases hk⟩)
    sums := sums_step hc.ob1 hm he (fun j hj => by rcases tag j hj with e | e | e <;> (rw [e]; refine ⟨?_, ?_⟩ <;> (intro q; cases q))) hc.sums
    pods := pods_step hc.ob2 hm he (fun j hj => by rcases tag j hj with e | e | e <;> (rw [e]; exact ⟨fun k q => (by cases q), fun q => (by cases q)⟩)) hc.pods }, he⟩
/-- The sums have turned. -/
theorem CluAt.setS (hc : CluAt w h own S) {f : ByteArray → Option (List Itm)} (hm : Mod (fun k => k = h.b1) w w') (hs : GMap w' h.b1 (sumR own w') f) : CluAt w' h own { S with sums := f } := by
  have he := Ext'.refl w own
  have hl : ∀ k, w'.heap.size ≤ k → own k = none := fun k hk => hc.lim k (Nat.le_trans hm.size hk)
  have tag : ∀ j, j = h.b1 → own j = some .b1 := fun j hj => by rw [hj]; exact hc.ob1
  exact { hc with
    cell := (hm.block _ (hc.lt hc.oc) (fun e => by have := tag _ e; rw [hc.oc] at this; cases this)).trans hc.cell
    lim := hl
    tn := tab_step nodOk hc.ot1 hc.om1 hc.ov1 (fun e => by cases e) hm he hl (fun j hj => by rw [tag j hj]; refine ⟨?_, ?_, ?_, ?_⟩ <;> (intro q; cases q)) hc.tn
    tb := tab_step plcOk hc.ot2 hc.om2 hc.ov2 (fun e => by cases e) hm he hl (fun j hj => by rw [tag j hj]; refine ⟨?_, ?_, ?_, ?_⟩ <;> (intro q; cases q)) hc.tb
    sums := hs
    pods := pods_step hc.ob2 hm he (fun j hj => by rw [tag j hj]; exact ⟨fun k q => (by cases q), fun q => (by cases q)⟩) hc.pods }
/-- The pods' names have turned: in the map of maps, or in one key's map. -/
theorem CluAt.setP (hc : CluAt w h own S) {f : ByteArray → Option (ByteArray → Option Int)} (hm : Mod X w w') (hx : ∀ j, X j → own j = some .b2 ∨ ∃ k, own j = some (.inner k)) (hs : GMap w' h.b2 (podR own w') f) : CluAt w' h own { S with pods := f } := by
  have he := Ext'.refl w own
  have hl : ∀ k, w'.heap.size ≤ k → own k = none := fun k hk => hc.lim k (Nat.le_trans hm.size hk)
  exact { hc with
    cell := (hm.block _ (hc.lt hc.oc) (fun e => by rcases hx _ e with e | ⟨k, e⟩ <;> (rw [hc.oc] at e; cases e))).trans hc.cell
    lim := hl
    tn := tab_step nodOk hc.ot1 hc.om1 hc.ov1 (fun e => by cases e) hm he hl (fun j hj => by rcases hx j hj with e | ⟨k, e⟩ <;> (rw [e]; refine ⟨?_, ?_, ?_, ?_⟩ <;> (intro q; cases q))) hc.tn
    tb := tab_step plcOk hc.ot2 hc.om2 hc.ov2 (fun e => by cases e) hm he hl (fun j hj => by rcases hx j hj with e | ⟨k, e⟩ <;> (rw [e]; refine ⟨?_, ?_, ?_, ?_⟩ <;> (intro q; cases q))) hc.tb
    sums := sums_step hc.ob1 hm he (fun j hj => by rcases hx j hj with e | ⟨k, e⟩ <;> (rw [e]; refine ⟨?_, ?_⟩ <;> (intro q; cases q))) hc.sums
    pods := hs }
end
end Go.Proofs.YtdceflgemhcgcaaGreatDoor
