/-
  Words of this session: worlds that part in some blocks alone (Mod), association lists, maps in memory (MapAt). No condition: a library of plain lemmas over whatever program.
-/
import Derived.WalkKit
import Derived.Lib.Hide
import Derived.WideLaws
import Derived.MapKept
import Derived.Deep.Draws
import Derived.Laws.StructEq
set_option linter.unusedVariables false
set_option linter.unusedSimpArgs false
namespace Go.Proofs.YtdceflgemhcgcaaGreatDoor
open Go.RowKit

/-! ### worlds -/
/-- w' is w but for the blocks of S, and new ones. -/
structure Mod (S : Nat → Prop) (w w' : World) : Prop where
  os : w'.os = w.os
  tape : w'.tape = w.tape
  output : w'.output = w.output
  size : w.heap.size ≤ w'.heap.size
  block : ∀ k, k < w.heap.size → ¬ S k → w'.heap[k]? = w.heap[k]?

abbrev Non : Nat → Prop := fun _ => False

theorem Mod.refl (S : Nat → Prop) (w : World) : Mod S w w := ⟨rfl, rfl, rfl, Nat.le_refl _, fun _ _ _ => rfl⟩
theorem Mod.mono {S T : Nat → Prop} {w w' : World} (h : Mod S w w') (hs : ∀ k, k < w.heap.size → S k → T k) : Mod T w w' :=
  ⟨h.os, h.tape, h.output, h.size, fun k hk ht => h.block k hk (fun s => ht (hs k hk s))⟩
theorem Mod.trans {S T : Nat → Prop} {a b c : World} (h : Mod S a b) (k : Mod T b c) (ht : ∀ i, i < a.heap.size → T i → S i) : Mod S a c :=
  ⟨k.os.trans h.os, k.tape.trans h.tape, k.output.trans h.output, Nat.le_trans h.size k.size, fun i hi hs =>
    (k.block i (Nat.lt_of_lt_of_le hi h.size) (fun t => hs (ht i hi t))).trans (h.block i hi hs)⟩
theorem Mod.of_below {w w' : World} (h : Below w.heap.size w w') : Mod Non w w' := ⟨h.os, h.tape, h.output, h.size, fun k hk _ => h.block k hk⟩
theorem Mod.below {S : Nat → Prop} {w w' : World} {B : Nat} (h : Mod S w w') (hB : B ≤ w.heap.size) (hs : ∀ k, S k → B ≤ k) : Below B w w' :=
  ⟨h.os, h.tape, h.output, h.size, fun k hk => h.block k (by omega) (fun s => by have := hs k s; omega)⟩
theorem Mod.cell {S : Nat → Prop} {w w' : World} (h : Mod S w w') {a : Addr} (hk : a.block < w.heap.size) (hs : ¬ S a.block) : w'.cell? a = w.cell? a :=
  World.cell?_of_block (w := w) (h.block a.block hk hs)
theorem Mod.cell' {S : Nat → Prop} {w w' : World} (h : Mod S w w') {b i : Nat} {x : Value} (hc : w.cell? ⟨b, i, none⟩ = some x) (hs : ¬ S b) : w'.cell? ⟨b, i, none⟩ = some x := by
  rw [h.cell (a := ⟨b, i, none⟩) (World.block_lt_of_cell? w _ hc) hs]; exact hc
theorem Mod.frozen {S : Nat → Prop} {w w' : World} (h : Mod S w w') {a : Addr} (hk : a.block < w.heap.size) (hs : ¬ S a.block) : w'.frozen? a = w.frozen? a :=
  World.frozen?_of_block (w := w) (h.block a.block hk hs)
theorem Mod.drew {S : Nat → Prop} {a w : World} (h : Mod S a w) : Mod S a w.drew := ⟨h.os, h.tape, h.output, h.size, h.block⟩
theorem Mod.drewN {S : Nat → Prop} {a w : World} (h : Mod S a w) (n : Nat) : Mod S a (w.drewN n) := ⟨h.os, h.tape, h.output, h.size, h.block⟩
theorem Mod.alloc {S : Nat → Prop} {a w : World} (h : Mod S a w) (o : Obj) : Mod S a (w.alloc o) :=
  h.trans (T := Non) ⟨rfl, rfl, rfl, by simp, fun k hk _ => Below.heap_alloc _ _ _ hk⟩ (fun _ _ h => h.elim)
theorem Mod.setCell {S : Nat → Prop} {a w : World} (h : Mod S a w) {p : Addr} (hp : p.block < a.heap.size → S p.block) (u : Value) : Mod S a (w.setCell p u) :=
  h.trans (T := fun k => k = p.block) ⟨rfl, rfl, rfl, by simp [World.setCell], fun k _ hne => Below.heap_setCell _ _ _ _ hne⟩ (fun i hi e => by subst e; exact hp hi)

theorem cell_new {w : World} {cs : Array Value} {T : TypeId} {fz : Nat × Nat} {i : Nat} {x : Value} (h : cs[i]? = some x) : (w.alloc (.cells cs T fz)).cell? ⟨w.heap.size, i, none⟩ = some x := by
  unfold World.cell?
  rw [show (⟨w.heap.size, i, none⟩ : Addr).block = w.heap.size from rfl, heap_alloc_new]
  simpa using h
theorem cell_old {w : World} {b i : Nat} {x : Value} (h : w.cell? ⟨b, i, none⟩ = some x) (o : Obj) : (w.alloc o).cell? ⟨b, i, none⟩ = some x := by
  rw [World.cell?_of_block (w := w) (Below.heap_alloc w o b (World.block_lt_of_cell? w _ h))]; exact h
theorem cell_at {w : World} {b : Nat} {cs : Array Value} {T : TypeId} {fz : Nat × Nat} (h : w.heap[b]? = some (.cells cs T fz)) {i : Nat} {x : Value} (hx : cs[i]? = some x) : w.cell? ⟨b, i, none⟩ = some x := by
  simp [World.cell?, h, hx]
/-- The world with another object in a block. -/
def putObj (w : World) (b : Nat) (o : Obj) : World := { w with heap := w.heap.setIfInBounds b o }
theorem putObj_size (w : World) (b : Nat) (o : Obj) : (putObj w b o).heap.size = w.heap.size := by simp [putObj]
theorem putObj_same {w : World} {b : Nat} (h : b < w.heap.size) (o : Obj) : (putObj w b o).heap[b]? = some o := by simp [putObj, h]
theorem putObj_other {w : World} {b k : Nat} (h : k ≠ b) (o : Obj) : (putObj w b o).heap[k]? = w.heap[k]? := by
  simp only [putObj, Array.getElem?_setIfInBounds]
  rw [if_neg (by omega)]
theorem putObj_mod (w : World) (b : Nat) (o : Obj) : Mod (fun k => k = b) w (putObj w b o) :=
  ⟨rfl, rfl, rfl, by simp [putObj], fun _ _ h => putObj_other h o⟩
theorem Mod.put {S : Nat → Prop} {a w : World} (h : Mod S a w) {b : Nat} (hb : b < a.heap.size → S b) (o : Obj) : Mod S a (putObj w b o) :=
  h.trans (putObj_mod w b o) (fun i hi e => by subst e; exact hb hi)

/-! ### association lists -/
section
variable {κ : Type} [DecidableEq κ] {β : Type}
def aget : List (κ × β) → κ → Option β
  | [], _ => none
  | p :: r, k => if p.1 = k then some p.2 else aget r k
def aset : List (κ × β) → κ → β → List (κ × β)
  | [], k, v => [(k, v)]
  | p :: r, k, v => if p.1 = k then (k, v) :: r else p :: aset r k v
def adel : List (κ × β) → κ → List (κ × β)
  | [], _ => []
  | p :: r, k => if p.1 = k then r else p :: adel r k
abbrev akeys (m : List (κ × β)) : List κ := m.map Prod.fst

theorem aget_aset (m : List (κ × β)) (k j : κ) (v : β) : aget (aset m k v) j = if k = j then some v else aget m j := by
  induction m with
  | nil => simp [aset, aget]
  | cons p r ih =>
    unfold aset
    by_cases h : p.1 = k
    · rw [if_pos h]; by_cases hj : k = j
      · simp [aget, hj]
      · simp only [aget, if_neg hj]; rw [if_neg (by rw [h]; exact hj)]
    · rw [if_neg h]; simp only [aget, ih]
      by_cases hp : p.1 = j
      · rw [if_pos hp, if_pos hp, if_neg (by rw [← hp]; exact fun e => h e.symm)]
      · rw [if_neg hp, if_neg hp]
theorem mem_akeys_iff {m : List (κ × β)} {k : κ} : k ∈ akeys m ↔ (aget m k).isSome = true := by
  induction m with
  | nil => simp [aget]
  | cons p r ih =>
    simp only [akeys, List.map_cons, List.mem_cons, aget] at ih ⊢
    by_cases h : p.1 = k
    · simp [h]
    · rw [if_neg h, ← ih]; simp [Ne.symm h]
theorem aget_none_iff {m : List (κ × β)} {k : κ} : aget m k = none ↔ k ∉ akeys m := by
  rw [mem_akeys_iff]; cases aget m k <;> simp
theorem akeys_aset_of_mem {m : List (κ × β)} {k : κ} (v : β) (h : k ∈ akeys m) : akeys (aset m k v) = akeys m := by
  induction m with
  | nil => simp at h
  | cons p r ih =>
    unfold aset
    by_cases hp : p.1 = k
    · rw [if_pos hp]; simp [hp]
    · rw [if_neg hp]
      have : k ∈ akeys r := by simpa [Ne.symm hp] using h
      simp [ih this]
theorem aset_of_not_mem {m : List (κ × β)} {k : κ} (v : β) (h : k ∉ akeys m) : aset m k v = m ++ [(k, v)] := by
  induction m with
  | nil => rfl
  | cons p r ih =>
    simp only [akeys, List.map_cons, List.mem_cons, not_or] at h
    unfold aset
    rw [if_neg (Ne.symm h.1), ih h.2]; rfl
theorem nodup_aset {m : List (κ × β)} (hn : (akeys m).Nodup) (k : κ) (v : β) : (akeys (aset m k v)).Nodup := by
  by_cases h : k ∈ akeys m
  · rw [akeys_aset_of_mem v h]; exact hn
  · rw [aset_of_not_mem v h]
    simp only [akeys, List.map_append, List.map_cons, List.map_nil]
    rw [List.nodup_append]
    refine ⟨hn, by simp, ?_⟩
    intro a ha b hb
    simp at hb
    subst hb
    exact fun e => h (e ▸ ha)
/-- the place of a key -/
def aidx : List (κ × β) → κ → Option Nat
  | [], _ => none
  | p :: r, k => if p.1 = k then some 0 else (aidx r k).map (· + 1)
theorem aidx_none {m : List (κ × β)} {k : κ} : aidx m k = none ↔ k ∉ akeys m := by
  induction m with
  | nil => simp [aidx]
  | cons p r ih =>
    unfold aidx
    by_cases h : p.1 = k
    · simp [h]
    · rw [if_neg h]; simp only [Option.map_eq_none_iff, ih, akeys, List.map_cons, List.mem_cons, not_or]
      exact ⟨fun q => ⟨Ne.symm h, q⟩, fun q => q.2⟩
theorem aidx_some {m : List (κ × β)} {k : κ} {i : Nat} (h : aidx m k = some i) : ∃ v, m[i]? = some (k, v) ∧ aget m k = some v ∧ aset m k = (fun u => m.set i (k, u)) ∧ adel m k = m.eraseIdx i := by
  induction m generalizing i with
  | nil => simp [aidx] at h
  | cons p r ih =>
    unfold aidx at h
    by_cases hp : p.1 = k
    · rw [if_pos hp] at h; cases h
      refine ⟨p.2, by subst hp; rfl, by simp [aget, hp], ?_, by simp [adel, hp]⟩
      funext u; simp [aset, hp]
    · rw [if_neg hp] at h
      obtain ⟨j, hj, rfl⟩ := Option.map_eq_some_iff.1 h
      obtain ⟨v, h1, h2, h3, h4⟩ := ih hj
      refine ⟨v, by simpa using h1, by simp only [aget]; rw [if_neg hp]; exact h2, ?_, by simp [adel, hp, h4]⟩
      funext u
      simp only [aset, if_neg hp, List.set_cons_succ]
      rw [h3]
end

/-! ### maps in memory -/
/-- enc writes the keys of type kt; the model's '==' tells them apart. -/
structure KeyT (P : Program) (kt : TypeId) {κ : Type} [DecidableEq κ] (enc : κ → Value) : Prop where
  find : ∀ (w : World) (k : κ) (es : List MapEntry) (m : List (κ × Value)), es.map (fun e => (e.key, e.val)) = m.map (fun p => (enc p.1, p.2)) →
    (Instr.findKey kt (enc k) es).run P w = .ok ((aidx m k).bind fun i => (aget m k).map fun v => (i, v)) w
  check : ∀ (w : World) (em : Bool) (k : κ), (Instr.checkKey em 10000 kt (enc k)).run P w = .ok () w
  stays : ∀ (w : World) (k : κ), (Instr.keyThatStays (enc k) (enc k)).run P w = .ok (enc k) w

/-- Block b is the map of these entries. -/
def MapAt {κ : Type} [DecidableEq κ] (enc : κ → Value) (w : World) (b : Nat) (m : List (κ × Value)) : Prop :=
  ∃ es clock, w.heap[b]? = some (.map es clock) ∧ es.toList.map (fun e => (e.key, e.val)) = m.map (fun p => (enc p.1, p.2)) ∧ (akeys m).Nodup ∧
    (es.toList.map (·.born)).Nodup ∧ ∀ e ∈ es.toList, e.born < clock

section
variable {P : Program} {κ : Type} [DecidableEq κ] {enc : κ → Value} {w : World} {b : Nat} {m : List (κ × Value)}
theorem MapAt.lt (h : MapAt enc w b m) : b < w.heap.size := by obtain ⟨_, _, h, _⟩ := h; exact (Array.getElem?_eq_some_iff.1 h).1
theorem MapAt.ne_cells {d : Nat} {cs : Array Value} {T : TypeId} {fz : Nat × Nat} (h : MapAt enc w b m) (hd : w.heap[d]? = some (.cells cs T fz)) : ¬ d = b := by
  obtain ⟨_, _, h, _⟩ := h
  intro e
  subst e
  rw [h] at hd
  cases hd
theorem MapAt.move {w' : World} (h : MapAt enc w b m) (hb : w'.heap[b]? = w.heap[b]?) : MapAt enc w' b m := by
  obtain ⟨es, c, h1, h2⟩ := h; exact ⟨es, c, hb.trans h1, h2⟩
theorem MapAt.mod {w' : World} {S : Nat → Prop} (h : MapAt enc w b m) (hm : Mod S w w') (hs : ¬ S b) : MapAt enc w' b m := h.move (hm.block b h.lt hs)
theorem MapAt.made (enc : κ → Value) (w : World) : MapAt enc (w.alloc (.map #[] 0)) w.heap.size [] :=
  ⟨#[], 0, heap_alloc_new w _, by simp, by simp, by simp, by simp⟩

/-- m[k] with and without ok: the world stays. -/
theorem MapAt.lookup (h : MapAt enc w b m) {kt e t : TypeId} (K : KeyT P kt enc) (ht : P.underlying t = some (.map kt e)) {z : Value} (hz : (zeroValue e).run P w = .ok z w) (k : κ) (ok : Bool) :
    (Instr.lookup t (.map (some b)) (enc k) ok).run P w = .ok (if ok = true then .tuple #[(aget m k).getD z, .bool (aget m k).isSome] else (aget m k).getD z) w := by
  obtain ⟨es, c, hb, hm, hn, _⟩ := h
  unfold Instr.lookup
  have hf := K.find w k es.toList m hm
  simp only [Sem.run_bind, run_underlying ht, Result.andThen_ok, MapKept.run_getObj_map hb, K.check, hf, Sem.run_pure]
  cases hi : aidx m k with
  | none =>
    have : aget m k = none := aget_none_iff.2 (aidx_none.1 hi)
    cases ok <;> simp [this, hz, Result.andThen_ok]
  | some i =>
    obtain ⟨v, _, hv, _⟩ := aidx_some hi
    cases ok <;> simp [hv]
theorem map_len (h : MapAt enc w b m) {kt e t ty : TypeId} (ht : P.underlying t = some (.map kt e)) :
    (Builtin.len_ #[t] ty #[.map (some b)]).run P w = .ok (.int .i64 (m.length : Int)) w := by
  obtain ⟨es, c, hb, hm, _⟩ := h
  have hl : es.size = m.length := by have := congrArg List.length hm; simpa using this
  simp [Builtin.len_, run_underlying ht, MapKept.run_getObj_map hb, goInt, hl]
omit [DecidableEq κ] in
theorem key_of_idx {es : Array MapEntry} (hm : es.toList.map (fun e => (e.key, e.val)) = m.map (fun p => (enc p.1, p.2))) {i : Nat} {k : κ} {v : Value} (h : m[i]? = some (k, v)) :
    ∃ e, es[i]? = some e ∧ e.key = enc k ∧ e.val = v := by
  have h1 : (es.toList.map (fun e => (e.key, e.val)))[i]? = some (enc k, v) := by rw [hm]; simp [h]
  rw [List.getElem?_map] at h1
  obtain ⟨e, he, h2⟩ := Option.map_eq_some_iff.1 h1
  refine ⟨e, by simpa using he, ?_, ?_⟩
  · exact (Prod.mk.inj h2).1
  · exact (Prod.mk.inj h2).2
/-- m[k] = v -/
theorem MapAt.update (h : MapAt enc w b m) {kt e t : TypeId} (K : KeyT P kt enc) (ht : P.underlying t = some (.map kt e)) (k : κ) (v : Value) :
    ∃ o, (Instr.mapUpdate t (.map (some b)) (enc k) v).run P w = .ok () (putObj w b o) ∧ MapAt enc (putObj w b o) b (aset m k v) := by
  obtain ⟨es, c, hb, hm, hn, hs, hc⟩ := h
  have hlt : b < w.heap.size := (Array.getElem?_eq_some_iff.1 hb).1
  have hf := K.find w k es.toList m hm
  have hlen : es.size = m.length := by have := congrArg List.length hm; simpa using this
  have hset : ∀ o : Obj, (setObj b o).run P w = .ok () (putObj w b o) := fun o => by
    simp [setObj, Sem.run, hb, putObj]
  cases hi : aidx m k with
  | none =>
    have hk := aidx_none.1 hi
    refine ⟨.map (es.push { key := enc k, val := v, born := c }) (c + 1), ?_, ⟨_, _, putObj_same hlt _, ?_, nodup_aset hn k v, ?_, ?_⟩⟩
    · unfold Instr.mapUpdate
      simp only [Sem.run_bind, run_underlying ht, Result.andThen_ok, MapKept.run_getObj_map hb, K.check, hf, hi, Option.bind_none, hset]
    · rw [aset_of_not_mem v hk]; simp [hm]
    · simp only [Array.toList_push, List.map_append, List.map_cons, List.map_nil]
      rw [List.nodup_append]
      refine ⟨hs, by simp, fun a ha d hd => ?_⟩
      simp at hd; subst hd
      obtain ⟨e', he', rfl⟩ := List.mem_map.1 ha
      have := hc e' he'; omega
    · intro e' he'
      rw [Array.toList_push] at he'
      rcases List.mem_append.1 he' with h | h
      · have := hc e' h; omega
      · rw [List.mem_singleton] at h; subst h; exact Nat.lt_succ_self _
  | some i =>
    obtain ⟨v0, h1, h2, h3, _⟩ := aidx_some hi
    obtain ⟨e0, he0, hk0, hv0⟩ := key_of_idx hm h1
    refine ⟨.map (es.modify i fun e => { e with key := enc k, val := v }) c, ?_, ⟨_, _, putObj_same hlt _, ?_, nodup_aset hn k v, ?_, ?_⟩⟩
    · unfold Instr.mapUpdate
      simp only [Sem.run_bind, run_underlying ht, Result.andThen_ok, MapKept.run_getObj_map hb, K.check, hf, hi, Option.bind_some, h2, Option.map_some, he0, Option.getD_some, hk0, K.stays, hset]
    · rw [h3]
      apply List.ext_getElem?
      intro j
      have hj : (es.toList.map (fun e => (e.key, e.val)))[j]? = (m.map (fun p => (enc p.1, p.2)))[j]? := by rw [hm]
      simp only [List.getElem?_map, Array.getElem?_toList] at hj
      simp only [List.getElem?_map, Array.getElem?_toList, Array.getElem?_modify, List.getElem?_set]
      by_cases hij : i = j
      · subst hij
        have hl : i < m.length := (List.getElem?_eq_some_iff.1 h1).1
        simp [he0, hl]
      · simp [hij, hj]
    · have : (es.modify i fun e => { e with key := enc k, val := v }).toList.map (·.born) = es.toList.map (·.born) := by
        apply List.ext_getElem?
        intro j
        simp only [List.getElem?_map, Array.getElem?_toList, Array.getElem?_modify]
        by_cases hij : i = j
        · subst hij; simp [he0]
        · simp [hij]
      rw [this]; exact hs
    · intro e' he'
      obtain ⟨j, hj⟩ := List.mem_iff_getElem?.1 he'
      simp only [Array.getElem?_toList, Array.getElem?_modify] at hj
      by_cases hij : i = j
      · subst hij
        rw [if_pos rfl, he0] at hj
        simp at hj
        subst hj
        exact hc e0 (List.mem_iff_getElem?.2 ⟨i, by simpa using he0⟩)
      · rw [if_neg hij] at hj
        exact hc e' (List.mem_iff_getElem?.2 ⟨j, by simpa using hj⟩)
end
/-! ### kinds of keys -/
theorem findNow_spec {κ : Type} [DecidableEq κ] {enc : κ → Value} {D : TypeDesc} (hs : ∀ a b, Instr.sameNow D (enc a) (enc b) = some (decide (a = b))) (k : κ) :
    ∀ (es : List MapEntry) (m : List (κ × Value)) (i : Nat), es.map (fun e => (e.key, e.val)) = m.map (fun p => (enc p.1, p.2)) →
      Instr.findNow D (enc k) es i = some ((aidx m k).bind fun j => (aget m k).map fun v => (i + j, v)) := by
  intro es
  induction es with
  | nil =>
    intro m i h
    cases m with
    | nil => simp [Instr.findNow, aidx]
    | cons p r => simp at h
  | cons e es ih =>
    intro m i h
    cases m with
    | nil => simp at h
    | cons p r =>
      simp only [List.map_cons, List.cons.injEq, Prod.mk.injEq] at h
      obtain ⟨⟨h1, h2⟩, h3⟩ := h
      unfold Instr.findNow
      rw [h1, hs]
      by_cases hk : k = p.1
      · subst hk; simp [aidx, aget, h2]
      · have hk' : ¬ p.1 = k := fun e => hk e.symm
        simp only [hk, decide_false]
        rw [ih r (i + 1) h3]
        simp only [aidx, aget, if_neg hk']
        cases aidx r k with
        | none => simp
        | some j => simp; cases aget r k <;> simp; omega
theorem KeyT.of_now {P : Program} {kt : TypeId} {κ : Type} [DecidableEq κ] {enc : κ → Value} {D : TypeDesc} (hD : P.underlying kt = some D) (hs : ∀ a b, Instr.sameNow D (enc a) (enc b) = some (decide (a = b)))
    (hc : ∀ (w : World) (em : Bool) (k : κ), (Instr.checkKey em 10000 kt (enc k)).run P w = .ok () w) (hb : ∀ k, Instr.sameBits 10000 (enc k) (enc k) = true) : KeyT P kt enc where
  find w k es m h := by
    unfold Instr.findKey
    simp only [Sem.run_bind, run_underlying hD, Result.andThen_ok, findNow_spec hs k es m 0 h, Sem.run_pure, Nat.zero_add]
  check := hc
  stays w k := by unfold Instr.keyThatStays; rw [if_pos (hb k)]; simp
theorem ba_beq (a b : ByteArray) : (a == b) = decide (a = b) := by
  rw [Bool.eq_iff_iff, decide_eq_true_iff]
  obtain ⟨x⟩ := a
  obtain ⟨y⟩ := b
  show (x == y) = true ↔ _
  rw [beq_iff_eq, ByteArray.mk.injEq]
theorem ba_toList_inj {a b : ByteArray} : a.toList = b.toList ↔ a = b := by
  rw [ByteArray.toList_eq, ByteArray.toList_eq]
  obtain ⟨⟨x⟩⟩ := a
  obtain ⟨⟨y⟩⟩ := b
  simp
theorem KeyT.string {P : Program} {kt : TypeId} (h : P.underlying kt = some .string) : KeyT P kt (κ := ByteArray) Value.string :=
  .of_now h (fun a b => by simp only [Instr.sameNow, ba_beq]) (fun w em k => MapKept.run_checkKey h (by trivial) em 9999) (fun k => by simp [Instr.sameBits, ba_beq])
theorem KeyT.int {P : Program} {kt : TypeId} {q : IntKind} (h : P.underlying kt = some (.int q)) : KeyT P kt (κ := Int) (Value.int q) :=
  .of_now h (fun a b => by simp [Instr.sameNow]; rfl) (fun w em k => MapKept.run_checkKey h (by trivial) em 9999) (fun k => by simp [Instr.sameBits])
end Go.Proofs.YtdceflgemhcgcaaGreatDoor
