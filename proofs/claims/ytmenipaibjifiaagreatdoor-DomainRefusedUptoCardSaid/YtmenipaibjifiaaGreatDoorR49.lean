/-
  A step of a script: a change, and a question behind it.
-/
import Derived.Test.YtmenipaibjifiaaGreatDoorR45
set_option linter.unusedVariables false
set_option linter.unusedSimpArgs false
namespace Go.Proofs.YtmenipaibjifiaaGreatDoor
open Go.RowKit Go.BigFrame Go.Shelf

structure StepD where
  chg : Chg
  ask : AskD
def stepK : KRel StepD := fun w ok s cs => ∃ c vp, cs = c ++ (askC s.ask vp).toList ∧ chgK w ok s.chg c ∧ SlK intsK 1 w ok vp s.ask.pods
theorem stepOk : KOk stepK 30 where
  len := by rintro w ok x cs ⟨c, vp, rfl, h, _⟩; simp [chgOk.len h]
  move := by rintro w w' ok x cs ⟨c, vp, e, h, hv⟩ hm; exact ⟨c, vp, e, chgOk.move h hm, SlK.move intOk hv hm⟩
  mono := by rintro w ok ok' x cs ⟨c, vp, e, h, hv⟩ hm; exact ⟨c, vp, e, chgOk.mono h hm, SlK.mono intOk hv hm⟩
  bnd := by rintro w ok x cs ⟨c, vp, e, h, hv⟩; exact ⟨c, vp, e, chgOk.bnd h, SlK.bnd intOk hv⟩
end Go.Proofs.YtmenipaibjifiaaGreatDoor
