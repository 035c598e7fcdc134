/-
  Two maps of as many entries, each key of the one with the same under the other: they are the same. Plain Lean; no program.
-/
import Derived.Test.YtmenipaibjifiaaGreatDoorR12
import Derived.Test.YtmenipaibjifiaaGreatDoorR14
set_option linter.unusedVariables false
set_option linter.unusedSimpArgs false
namespace Go.Proofs.YtmenipaibjifiaaGreatDoor
open Go.RowKit

section
variable {κ α : Type} [DecidableEq κ] {m1 m2 : List (κ × Value)} {r1 r2 : κ → Value → α → Prop} {f1 f2 : κ → Option α}
theorem OptR.isSome {β α : Type} {r : β → α → Prop} {v : Option β} {x : Option α} (h : OptR r v x) : v.isSome = x.isSome := by
  cases v <;> cases x <;> first | rfl | exact h.elim
theorem akeys_le (n1 : (akeys m1).Nodup) (h1 : ∀ k, OptR (r1 k) (aget m1 k) (f1 k)) (h2 : ∀ k, OptR (r2 k) (aget m2 k) (f2 k)) (h : ∀ k, (f1 k).isSome = true → (f2 k).isSome = true) : m1.length ≤ m2.length := by
  have := List.Nodup.length_le_of_subset n1 (l₂ := akeys m2) (fun k hk => by
    rw [mem_akeys_iff] at hk ⊢
    rw [(h2 k).isSome]
    exact h k (by rw [← (h1 k).isSome]; exact hk))
  simpa using this
theorem eqf_good (n1 : (akeys m1).Nodup) (n2 : (akeys m2).Nodup) (hl : m1.length = m2.length) (h1 : ∀ k, OptR (r1 k) (aget m1 k) (f1 k)) (h2 : ∀ k, OptR (r2 k) (aget m2 k) (f2 k)) (h : ∀ p ∈ m1, f1 p.1 = f2 p.1) : ∀ k, f1 k = f2 k := by
  intro k
  cases e1 : aget m1 k with
  | some v => exact h _ (aget_mem e1)
  | none =>
    have g1 : f1 k = none := by
      have := (h1 k).isSome
      rw [e1] at this
      cases hf : f1 k with
      | none => rfl
      | some _ => rw [hf] at this; cases this
    cases g2 : f2 k with
    | none => exact g1
    | some x =>
      exfalso
      have hk1 : k ∉ akeys m1 := aget_none_iff.1 e1
      have hk2 : k ∈ akeys m2 := by rw [mem_akeys_iff, (h2 k).isSome, g2]; rfl
      have := List.Nodup.length_le_of_subset (List.nodup_cons.2 ⟨hk1, n1⟩) (l₂ := akeys m2) (fun j hj => by
        rcases List.mem_cons.1 hj with e | e
        · rw [e]; exact hk2
        · obtain ⟨p, hp, rfl⟩ := List.mem_map.1 e
          rw [mem_akeys_iff, (h2 p.1).isSome, ← h p hp, ← (h1 p.1).isSome, ← mem_akeys_iff]
          exact e)
      simp at this
      omega
theorem eqf_len (n1 : (akeys m1).Nodup) (n2 : (akeys m2).Nodup) (hl : ¬ m1.length = m2.length) (h1 : ∀ k, OptR (r1 k) (aget m1 k) (f1 k)) (h2 : ∀ k, OptR (r2 k) (aget m2 k) (f2 k)) : ¬ ∀ k, f1 k = f2 k := fun h =>
  hl (Nat.le_antisymm (akeys_le n1 h1 h2 (fun k hk => by rw [← h]; exact hk)) (akeys_le n2 h2 h1 (fun k hk => by rw [h]; exact hk)))
end
end Go.Proofs.YtmenipaibjifiaaGreatDoor
