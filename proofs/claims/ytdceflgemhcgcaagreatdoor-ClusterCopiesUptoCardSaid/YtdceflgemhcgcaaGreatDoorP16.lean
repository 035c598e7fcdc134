/-
  CopyNode, CopyPod, CopyChange.
-/
import Derived.Test.YtdceflgemhcgcaaGreatDoorP13
import Derived.Handy
set_option linter.unusedVariables false
set_option linter.unusedSimpArgs false
namespace Go.Proofs.YtdceflgemhcgcaaGreatDoor
open Go.RowKit Go.BigFrame

theorem infoTnt : (Tryz.prog.info? 34).map (fun i => (i.zero, i.size, i.bytes)) = some (some (.agg #[.string ⟨#[]⟩, .string ⟨#[]⟩, .string ⟨#[]⟩]), 3, 48) := by kernel_rfl
theorem infoItm : (Tryz.prog.info? 110).map (fun i => (i.zero, i.size, i.bytes)) = some (some (.agg #[.string ⟨#[]⟩, .int .i64 0]), 2, 24) := by kernel_rfl
theorem infoTol : (Tryz.prog.info? 123).map (fun i => (i.zero, i.size, i.bytes)) = some (some (.agg #[.string ⟨#[]⟩, .string ⟨#[]⟩, .string ⟨#[]⟩, .string ⟨#[]⟩]), 4, 64) := by kernel_rfl
theorem infoApt : (Tryz.prog.info? 126).map (fun i => (i.zero, i.size, i.bytes)) = some (some (.agg #[.string ⟨#[]⟩, .string ⟨#[]⟩]), 2, 32) := by kernel_rfl
theorem infoPrf : (Tryz.prog.info? 129).map (fun i => (i.zero, i.size, i.bytes)) = some (some (.agg #[.int .i64 0, .string ⟨#[]⟩]), 2, 24) := by kernel_rfl
theorem one_tnt {w : World} {ok : Nat → Prop} {y : Tnt} {cs : List Value} (h : tntK w ok y cs) : ∀ u ∈ cs, u.oneCell' = true := by
  intro u hu
  cases h
  simp [tntC] at hu
  rcases hu with rfl | rfl | rfl <;> rfl
theorem one_itm {w : World} {ok : Nat → Prop} {y : Itm} {cs : List Value} (h : itmK w ok y cs) : ∀ u ∈ cs, u.oneCell' = true := by
  intro u hu
  cases h
  simp [itmC] at hu
  rcases hu with rfl | rfl <;> rfl
theorem one_tol {w : World} {ok : Nat → Prop} {y : Tol} {cs : List Value} (h : tolK w ok y cs) : ∀ u ∈ cs, u.oneCell' = true := by
  intro u hu
  cases h
  simp [tolC] at hu
  rcases hu with rfl | rfl | rfl | rfl <;> rfl
theorem one_apt {w : World} {ok : Nat → Prop} {y : Apt} {cs : List Value} (h : aptK w ok y cs) : ∀ u ∈ cs, u.oneCell' = true := by
  intro u hu
  cases h
  simp [aptC] at hu
  rcases hu with rfl | rfl <;> rfl
theorem one_prf {w : World} {ok : Nat → Prop} {y : Prf} {cs : List Value} (h : prfK w ok y cs) : ∀ u ∈ cs, u.oneCell' = true := by
  intro u hu
  cases h
  simp [prfC] at hu
  rcases hu with rfl | rfl <;> rfl

theorem heap_setCell_at {w : World} {b i : Nat} {cs : Array Value} {T : TypeId} {fz : Nat × Nat} {v : Value} (h : w.heap[b]? = some (.cells cs T fz)) : (w.setCell ⟨b, i, none⟩ v).heap[b]? = some (.cells (cs.setIfInBounds i v) T fz) := by
  simp only [World.setCell, Array.getElem?_modify]
  simp [h]
theorem frozen_at {w : World} {b i : Nat} {cs : Array Value} {T : TypeId} (h : w.heap[b]? = some (.cells cs T)) : w.frozen? ⟨b, i, none⟩ = false := by
  simp [World.frozen?, h]
/-- Lists that are short. -/
def NodShort (n : Nod) : Prop := n.labels.length ≤ 1073741824 ∧ n.taints.length ≤ 1073741824 ∧ n.cap.length ≤ 1073741824
def PdShort (p : Pd) : Prop := p.labels.length ≤ 1073741824 ∧ p.needs.length ≤ 1073741824 ∧ p.tols.length ≤ 1073741824 ∧ p.apart.length ≤ 1073741824 ∧ p.prefer.length ≤ 1073741824

end Go.Proofs.YtdceflgemhcgcaaGreatDoor
