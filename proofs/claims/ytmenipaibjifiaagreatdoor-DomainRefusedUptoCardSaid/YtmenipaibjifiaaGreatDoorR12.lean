/-
  A range over a map that reads as an association list, in whatever order its entries come. No condition: plain lemmas over whatever program.
-/
import Derived.Test.YtmenipaibjifiaaGreatDoorR03
import Derived.Maps.Range
import Derived.Maps.RangeRun
set_option linter.unusedVariables false
set_option linter.unusedSimpArgs false
namespace Go.Proofs.YtmenipaibjifiaaGreatDoor
open Go.RowKit

/-- A range over the map in block b, its iterator in block r: good: the keys that have come; n: how many are to come. -/
def ItAt {κ : Type} [DecidableEq κ] (enc : κ → Value) (w : World) (r b : Nat) (m : List (κ × Value)) (good : κ → Prop) (n : Nat) : Prop :=
  ∃ es clock seen, w.heap[b]? = some (.map es clock) ∧ es.toList.map (fun e => (e.key, e.val)) = m.map (fun p => (enc p.1, p.2)) ∧ (es.toList.map (·.born)).Nodup ∧ (∀ e ∈ es.toList, e.born < clock) ∧
    w.heap[r]? = some (.mapIter (some b) clock seen clock) ∧ (leftOf es seen).size = n ∧ ∀ p ∈ m, good p.1 ∨ ∃ e ∈ (leftOf es seen).toList, e.key = enc p.1

section
variable {P : Program} {κ : Type} [DecidableEq κ] {enc : κ → Value} {w w' : World} {b r : Nat} {m : List (κ × Value)} {good good' : κ → Prop} {n : Nat}
theorem ItAt.move (h : ItAt enc w r b m good n) (hb : w'.heap[b]? = w.heap[b]?) (hr : w'.heap[r]? = w.heap[r]?) : ItAt enc w' r b m good n := by
  obtain ⟨es, c, s, h1, h2, h3, h4, h5, h6, h7⟩ := h
  exact ⟨es, c, s, hb.trans h1, h2, h3, h4, hr.trans h5, h6, h7⟩
theorem ItAt.mono (h : ItAt enc w r b m good n) (hg : ∀ k, good k → good' k) : ItAt enc w r b m good' n := by
  obtain ⟨es, c, s, h1, h2, h3, h4, h5, h6, h7⟩ := h
  exact ⟨es, c, s, h1, h2, h3, h4, h5, h6, fun p hp => (h7 p hp).imp (hg _) id⟩
theorem ItAt.lt (h : ItAt enc w r b m good n) : b < w.heap.size ∧ r < w.heap.size := by
  obtain ⟨es, c, s, h1, h2, h3, h4, h5, h6, h7⟩ := h
  exact ⟨(Array.getElem?_eq_some_iff.1 h1).1, (Array.getElem?_eq_some_iff.1 h5).1⟩
theorem ItAt.left (h : ItAt enc w r b m good n) : w.rangeLeft b r = n := by
  obtain ⟨es, c, s, h1, h2, h3, h4, h5, h6, h7⟩ := h
  simp only [World.rangeLeft, h1, h5]
  exact h6
theorem ItAt.ne (h : ItAt enc w r b m good n) : r ≠ b := by
  obtain ⟨es, c, s, h1, h2, h3, h4, h5, h6, h7⟩ := h
  rintro rfl
  rw [h1] at h5
  cases h5
/-- How many of them are to come. -/
theorem MapAt.len (h : MapAt enc w b m) {t kt e ty : TypeId} (ht : P.underlying t = some (.map kt e)) : (Builtin.len_ #[t] ty #[.map (some b)]).run P w = .ok (.int .i64 (m.length : Int)) w := by
  obtain ⟨es, c, h1, h2, _⟩ := h
  have hl : es.size = m.length := by
    have := congrArg List.length h2
    simpa using this
  unfold Builtin.len_
  simp [run_underlying ht, MapKept.run_getObj_map h1, goInt, hl]
theorem MapAt.range (h : MapAt enc w b m) {t kt e : TypeId} (ht : P.underlying t = some (.map kt e)) :
    ∃ o, (Instr.range t (.map (some b))).run P w = .ok (.pointer (some ⟨w.heap.size, 0, none⟩)) (w.alloc o) ∧ ItAt enc (w.alloc o) w.heap.size b m (fun _ => False) m.length := by
  obtain ⟨es, c, h1, h2, h3, h4, h5⟩ := h
  have hl : es.size = m.length := by
    have := congrArg List.length h2
    simpa using this
  have hlt := (Array.getElem?_eq_some_iff.1 h1).1
  have hle : leftOf es #[] = es := by unfold leftOf; simp
  refine ⟨_, run_range_map w t kt e b es c ht h1, es, c, #[], ?_, h2, h4, h5, heap_alloc_new _ _, by rw [hle, hl], fun p hp => .inr ?_⟩
  · rw [heap_alloc_old w _ hlt]; exact h1
  · rw [hle]
    have : (enc p.1, p.2) ∈ es.toList.map (fun e => (e.key, e.val)) := by rw [h2]; exact List.mem_map.2 ⟨p, hp, rfl⟩
    obtain ⟨e, he, hk⟩ := List.mem_map.1 this
    exact ⟨e, he, congrArg Prod.fst hk⟩
/-- The next of them, whichever; or none is left. -/
theorem ItAt.next (h : ItAt enc w r b m good n) (inj : ∀ x y, enc x = enc y → x = y) (hrb : r ≠ b) (ty : TypeId) :
    ((∀ p ∈ m, good p.1) ∧ (Instr.next (.pointer (some ⟨r, 0, none⟩)) false ty).run P w = .ok (.tuple #[.bool false]) w) ∨
    ∃ p ∈ m, ∃ (w' : World) (n' : Nat), n' < n ∧ (Instr.next (.pointer (some ⟨r, 0, none⟩)) false ty).run P w = .ok (.tuple #[.bool true, enc p.1, p.2]) w' ∧
      ItAt enc w' r b m (fun k => good k ∨ k = p.1) n' ∧ Mod (fun k => k = r) w w' ∧ (Instr.entry (.pointer (some ⟨r, 0, none⟩))).run P w' = .ok (.tuple #[enc p.1, p.2]) w' := by
  obtain ⟨es, c, s, h1, h2, h3, h4, h5, h6, h7⟩ := h
  rcases run_next_at (P := P) w ty r b c c s es c h5 h1 h4 (Nat.le_refl _) with ⟨h0, hrun⟩ | ⟨e, he, w1, hw1, hrun⟩
  · left
    refine ⟨fun p hp => ?_, hrun⟩
    rcases h7 p hp with h | ⟨e, he, _⟩
    · exact h
    · have : (leftOf es s).toList = [] := List.eq_nil_of_length_eq_zero (by simpa using h0)
      rw [this] at he; cases he
  · right
    have hel := (mem_left he).1
    have hm : (e.key, e.val) ∈ m.map (fun p => (enc p.1, p.2)) := by rw [← h2]; exact List.mem_map.2 ⟨e, hel, rfl⟩
    obtain ⟨p, hp, hpe⟩ := List.mem_map.1 hm
    have hk : enc p.1 = e.key := congrArg Prod.fst hpe
    have hv : p.2 = e.val := congrArg Prod.snd hpe
    have hlr := (Array.getElem?_eq_some_iff.1 h5).1
    have hheap : w1.heap = w.heap := by rcases hw1 with rfl | rfl <;> rfl
    have hM : Mod (fun k => k = r) w (ChangeMaps.setBlock w1 r (.mapIter (some b) c (s.push e.born) c)) := by
      have hsz : (ChangeMaps.setBlock w1 r (.mapIter (some b) c (s.push e.born) c)).heap.size = w.heap.size := by simp [ChangeMaps.setBlock, hheap]
      refine ⟨?_, ?_, ?_, Nat.le_of_eq hsz.symm, fun k hk hne => ?_⟩
      · rcases hw1 with rfl | rfl <;> rfl
      · rcases hw1 with rfl | rfl <;> rfl
      · rcases hw1 with rfl | rfl <;> rfl
      · simp only [ChangeMaps.setBlock, Array.getElem?_setIfInBounds]
        rw [if_neg (fun e => hne e.symm), hheap]
    have hb' : (ChangeMaps.setBlock w1 r (.mapIter (some b) c (s.push e.born) c)).heap[b]? = some (.map es c) := (hM.block b (Array.getElem?_eq_some_iff.1 h1).1 (fun e => hrb e.symm)).trans h1
    have hr' : (ChangeMaps.setBlock w1 r (.mapIter (some b) c (s.push e.born) c)).heap[r]? = some (.mapIter (some b) c (s.push e.born) c) := by
      simp [ChangeMaps.setBlock, hheap, hlr]
    refine ⟨p, hp, _, _, by rw [← h6]; exact left_shrinks es s e he, by rw [hk, hv]; exact hrun, ⟨es, c, s.push e.born, hb', h2, h3, h4, hr', rfl, fun q hq => ?_⟩, hM, ?_⟩
    · by_cases hqp : q.1 = p.1
      · exact .inl (.inr hqp)
      · rcases h7 q hq with h | ⟨e', he', hke'⟩
        · exact .inl (.inl h)
        · right
          refine ⟨e', ?_, hke'⟩
          have hml := mem_left he'
          have hne : e'.born ≠ e.born := fun hb => hqp (inj _ _ (by rw [← hke', hk, born_inj h3 hml.1 hel hb]))
          unfold leftOf
          rw [Array.toList_filter]
          refine List.mem_filter.2 ⟨hml.1, ?_⟩
          rw [contains_push, hml.2]
          simpa using hne
    · rw [hk, hv]
      exact run_entry_at _ r b c s es c e hr' hb' hel h3
end
end Go.Proofs.YtmenipaibjifiaaGreatDoor
