/-
  takeWhile and dropWhile as take and drop; a step of take. Plain lemmas; no program is walked.
-/
import Derived.Test.YtdceflgemhcgcaaGreatDoorProg
import Derived.Test.YtdceflgemhcgcaaGreatDoorP03
import Derived.KernelRfl
import Derived.Deep.DeepCutAuto
import Derived.Deep.CutBlock
set_option linter.unusedVariables false
set_option linter.unusedSimpArgs false
namespace Go.Proofs.YtdceflgemhcgcaaGreatDoor
open Go.RowKit

theorem take_snoc {α : Type} (l : List α) (k : Nat) (h : k < l.length) : l.take (k + 1) = l.take k ++ [l[k]'h] := by
  rw [List.take_succ_eq_append_getElem h]
end Go.Proofs.YtdceflgemhcgcaaGreatDoor
