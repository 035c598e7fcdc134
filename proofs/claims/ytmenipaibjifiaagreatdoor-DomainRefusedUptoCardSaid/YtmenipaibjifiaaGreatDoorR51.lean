/-
  berthlaw09.DomainRefused, its row and its tied card in the second form: whatever changes are handed in, the law returns true and they read as they read before.
  Condition: what is read (the arguments, the two listed tables) is of bulk at most 1048576 (the given form '..Upto').
-/
import Derived.Test.YtmenipaibjifiaaGreatDoorR48
import Derived.Test.YtmenipaibjifiaaGreatDoorR50
import Derived.Test.YtmenipaibjifiaaGreatDoorCards
import Derived.Test.YtmenipaibjifiaaGreatDoorTie
import Derived.WalkKit
import Derived.ProofKit
import Derived.OpenShut
import Derived.Deep.DeepHandedRow
import Derived.Lib.LaidTab
set_option linter.unusedVariables false
set_option linter.unusedSimpArgs false
namespace Go.Proofs.YtmenipaibjifiaaGreatDoor.domainRefused
open Go.ChangeShapes Go.WideShapes Go.ChangeAt Go.RowKit

theorem own : ownKnob Tryz.prog.godebug = none := by kernel_rfl
theorem laidOut : laidOutB Tryz.prog = true := by kernel_rfl

set_option maxRecDepth 100000 in
/-- The walk, for every reading of the arguments. -/
theorem contract (H : Type) (enc : TypeId × Value → H) (W : World) (base : Nat) (args : Array Value) (ds gs : List (DataW H)) (before : List MemPlace)
    (hval : ∀ (j : Nat) t v, Tryz.f5.params[j]? = some t → args[j]? = some v → Value.okWide Tryz.prog W .any base t v)
    (hW : DataW.Whole enc Tryz.prog Tryz.f5.params.toList Rows.domainRefusedSpec.vars false W args.toList ds gs before) (hk : Rows.uptoBulkAll (ds ++ gs) ≤ 1048576) (hsh : W.ShapedOpen Tryz.prog) :
    Calls Tryz.prog 5 args W fun e W' => ∃ v, e = .returned v ∧ Rows.domainRefusedSpec.post enc Tryz.prog Tryz.f5 false true false false W args v W' := by
  have hW' := hW
  have hlt := fun p hp => hW.lt p hp
  obtain ⟨p, q, hA0, hV, rfl, hfz, hnd⟩ := hW
  have hA : DataW.TrodAll enc Tryz.prog W 0 (fun _ => true) true Tryz.f5.params.toList args.toList ds p := hA0
  rw [Tryz.params5] at hA hval
  obtain ⟨v0, vs0, d0, ds0, p0, y0, hargs, rfl, rfl, h0, r0⟩ := trodAll_cons hA
  obtain ⟨rfl, rfl, rfl⟩ := trodAll_nil r0
  obtain rfl : args = #[v0] := by cases args; simp_all
  obtain ⟨rfl, rfl⟩ := trodVars_none hV
  clear hA0
  simp only [List.append_nil] at hW' hk hlt
  have ok0 := hval 0 55 v0 rfl rfl
  obtain ⟨a0, l0, c0, rfl⟩ := okWide_slice Tryz.underlying55 ok0
  obtain ⟨n0, e0⟩ := h0
  simp only [Value.cells] at e0
  obtain ⟨s0, ⟨u0, hu0, k0⟩, q0⟩ := opens_chgs enc W _ _ _ e0
  obtain rfl := (List.cons.inj hu0).1
  dsimp only at q0
  have hb0 : Rows.uptoBulk d0 ≤ 1048576 := by
    have : Rows.uptoBulk d0 ≤ Rows.uptoBulkAll [d0] := bulkAll_mem (by simp)
    omega
  refine domainRefused_k _ W (Lt W) _ s0 (GOk_of hsh) (fun _ h => h) k0 (fun s hs => ⟨chg_fit hb0 (q0.2 s hs), chg_short hb0 (q0.2 s hs)⟩) (by have := q0.1; omega) ?_
  intro W' hb
  refine ⟨_, rfl, [d0], [], _, [], p0, [], hW', trodAll_cons_mk (shut_bool Tryz.underlying4 _) trodAll_mk0, ?_, rfl, hb.frame _, fun h => by cases h⟩
  have ha0 := Below.trod laidOut (t := 55) (by kernel_rfl) (of_decide_eq_true (by kernel_rfl)) (W := W) (v := .slice a0 l0 c0) ⟨n0, by simpa [Value.cells] using e0⟩ hb (fun z hz => hlt z (hz))
  have ht := trodAll_cons_mk ha0 trodAll_mk0
  rw [List.append_nil] at ht
  exact ht
end Go.Proofs.YtmenipaibjifiaaGreatDoor.domainRefused
