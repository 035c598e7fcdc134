/-
  A region that draws its order, in a round of a range over a function; a range whose rounds append. No condition: plain lemmas over whatever program.
-/
import Derived.Test.YtdceflgemhcgcaaGreatDoorP03
import Derived.Deep.RegionHeld3
import Derived.OrdersIn
import Derived.TacticsIn
import Derived.RangeFuncWrites
import Derived.RangeFuncCalls
set_option linter.unusedVariables false
set_option linter.unusedSimpArgs false
namespace Go.Proofs.YtdceflgemhcgcaaGreatDoor
open Go.RowKit

/-- append(v, y), run: the goal's world is 'W.alloc' of y's box. -/
theorem append_run {α : Type} {P : Program} {K : KRel α} {sz : Nat} {W : World} (H : KOk K sz) (t ty e : TypeId) (z : Value) (bytes B : Nat) (ok : Nat → Prop)
    (ht : P.underlying t = some (.slice e)) (hinfo : (P.info? e).map (fun i => (i.zero, i.size, i.bytes)) = some (some z, sz, bytes)) (hz : z.cells.size = sz) (hsz : 0 < sz) (hb0 : 0 < bytes)
    (v : Value) (xs : List α) (y : α) (cs : Array Value) (h1 : ∀ u ∈ cs.toList, u.oneCell' = true)
    (HO : OwnK K sz e W B ok v xs) (hy : K W ok y cs.toList) (hB : B ≤ W.heap.size) (hl : (xs.length + 1) * bytes ≤ 140737488355328) :
    ∃ v1 w1, (Builtin.append_ #[t, t] ty #[v, .slice (some ⟨W.heap.size, 0, none⟩) 1 1]).run P (W.alloc (.cells cs e)) = .ok v1 w1 ∧ OwnK K sz e w1 B ok v1 (xs ++ [y]) ∧ W.grownBy w1 v.ownBlock ∧ (v1.ownBlock = v.ownBlock ∨ ∃ b, v1.ownBlock = some b ∧ W.heap.size ≤ b) := by
  obtain ⟨i0, hi, hzz⟩ := Option.map_eq_some_iff.1 hinfo
  simp only [Prod.mk.injEq] at hzz
  obtain ⟨hz0, hz1, hz2⟩ := hzz
  obtain ⟨h0, css, hr, hcl, hk⟩ := HO
  have hcs : cs.toList.length = sz := H.len hy
  have hlen : xs.length + 1 ≤ 140737488355328 := Nat.le_trans (Nat.le_mul_of_pos_right _ hb0) hl
  obtain ⟨v1, w1, hrun, hown, hg, _, hat⟩ := run_append_own_at (P := P) (W.alloc (.cells cs e)) B t ty e i0 z sz bytes ht hi hz0 hz1 hz2 hz hsz v xs.length css.flatten (hr.alloc _) ⟨W.heap.size, 0, none⟩ 1 1 cs.toList (by rw [Nat.one_mul]; exact hcs)
    (World.news_of_block (cs := cs) (t := e) (fr := (0, 0)) (heap_alloc_new W _)) h1 (by simp only [maxLen]; omega) hl (by simp; omega)
  have hg' : W.grownBy w1 v.ownBlock := World.grownBy.trans (World.grownBy_alloc W _ _) hg
  have hne : ∀ k, ok k → v1.ownBlock ≠ some k := fun k hk he => by
    rcases hat with hat | hat
    · exact (h0 k hk).2 (hat ▸ he)
    · rw [hat] at he; have := (h0 k hk).1; simp at he; omega
  refine ⟨v1, w1, hrun, ⟨fun k hk => ⟨Nat.lt_of_lt_of_le (h0 k hk).1 hg'.size, hne k hk⟩, css ++ [cs.toList], ?_, by simp [hcl], fun j p q hp hq => ?_⟩, hg', ?_⟩
  · simpa using hown
  · have hmv : ∀ k, ok k → w1.heap[k]? = W.heap[k]? := fun k hk => hg'.block k (h0 k hk).1 (fun e => (h0 k hk).2 e.symm)
    rcases Nat.lt_or_ge j xs.length with hj | hj
    · rw [List.getElem?_append_left hj] at hp
      rw [List.getElem?_append_left (by omega)] at hq
      exact H.move (hk j p q hp hq) hmv
    · have hj' : j = xs.length := by
        have := (List.getElem?_eq_some_iff.1 hp).1
        simp at this; omega
      subst hj'
      simp at hp
      rw [← hcl] at hq
      simp at hq
      subst hp; subst hq
      exact H.move hy hmv
  · rcases hat with hat | hat
    · exact .inl hat
    · exact .inr ⟨_, hat, by simp⟩
end Go.Proofs.YtdceflgemhcgcaaGreatDoor
