/-
  berthlaw09.DomainNil, its row and its tied card in the second form: whatever change and question are handed in, the law returns true and both read as they read before.
  Condition: what is read (the arguments, the two listed tables) is of bulk at most 1048576 (the given form '..Upto').
-/
import Derived.Test.YtmenipaibjifiaaGreatDoorM45
import Derived.Test.YtmenipaibjifiaaGreatDoorM46
import Derived.Test.YtmenipaibjifiaaGreatDoorCards
import Derived.Test.YtmenipaibjifiaaGreatDoorTie
import Derived.WalkKit
import Derived.ProofKit
import Derived.OpenShut
import Derived.Deep.DeepHandedRow
import Derived.Lib.LaidTab
set_option linter.unusedVariables false
set_option linter.unusedSimpArgs false
namespace Go.Proofs.YtmenipaibjifiaaGreatDoor.domainNil
open Go.ChangeShapes Go.WideShapes Go.ChangeAt Go.RowKit

theorem own : ownKnob Tryz.prog.godebug = none := by kernel_rfl
theorem laidOut : laidOutB Tryz.prog = true := by kernel_rfl

set_option maxRecDepth 100000 in
/-- The walk, for every reading of the two arguments. -/
theorem contract (H : Type) (enc : TypeId × Value → H) (W : World) (base : Nat) (args : Array Value) (ds gs : List (DataW H)) (before : List MemPlace)
    (hval : ∀ (j : Nat) t v, Tryz.f6.params[j]? = some t → args[j]? = some v → Value.okWide Tryz.prog W .any base t v)
    (hW : DataW.Whole enc Tryz.prog Tryz.f6.params.toList Rows.domainNilSpec.vars false W args.toList ds gs before) (hk : Rows.uptoBulkAll (ds ++ gs) ≤ 1048576) (hsh : W.ShapedOpen Tryz.prog) :
    Calls Tryz.prog 6 args W fun e W' => ∃ v, e = .returned v ∧ Rows.domainNilSpec.post enc Tryz.prog Tryz.f6 false true false false W args v W' := by
  have hW' := hW
  have hlt := fun p hp => hW.lt p hp
  obtain ⟨p, q, hA0, hV, rfl, hfz, hnd⟩ := hW
  have hA : DataW.TrodAll enc Tryz.prog W 0 (fun _ => true) true Tryz.f6.params.toList args.toList ds p := hA0
  rw [Tryz.params6] at hA hval
  obtain ⟨v0, vs0, d0, ds0, p0, q0, hargs, rfl, rfl, h0, r0⟩ := trodAll_cons hA
  obtain ⟨v1, vs1, d1, ds1, p1, q1, rfl, rfl, rfl, h1, r1⟩ := trodAll_cons r0
  obtain ⟨rfl, rfl, rfl⟩ := trodAll_nil r1
  obtain rfl : args = #[v0, v1] := by cases args; simp_all
  obtain ⟨rfl, rfl⟩ := trodVars_none hV
  clear hA0
  simp only [List.append_nil] at hW' hk hlt
  have ok0 := hval 0 42 v0 rfl rfl
  have ok1 := hval 1 45 v1 rfl rfl
  unfold Value.okWide at ok0 ok1
  rw [Tryz.underlying42] at ok0
  rw [Tryz.underlying45] at ok1
  obtain ⟨cs0, rfl, _, _⟩ := ok0
  obtain ⟨cs1, rfl, _, _⟩ := ok1
  obtain ⟨n0, e0⟩ := h0
  obtain ⟨n1, e1⟩ := h1
  simp only [Value.cells] at e0 e1
  obtain ⟨x, hx, qx⟩ := opens_chg enc W _ _ _ e0
  obtain ⟨y, ⟨vp, hy, hyp⟩, qy⟩ := opens_ask enc W _ _ _ e1
  have hb1 : Rows.uptoBulk d1 ≤ 1048576 := by
    have : Rows.uptoBulk d1 ≤ Rows.uptoBulkAll [d0, d1] := bulkAll_mem (by simp)
    omega
  have hcs1 : cs1 = askC y vp := by cases cs1; simpa using hy
  subst hcs1
  have hpl : y.pods.length ≤ 1048576 := by
    have h5 := qy.2.2.2.2
    dsimp only at h5
    omega
  refine domainNil_k _ W (Lt W) x cs0.toList y vp (GOk_of hsh) (fun _ h => h) hx hyp hpl ?_
  intro W' hb
  refine ⟨_, rfl, [d0, d1], [], _, [], p0 ++ p1, [], hW', trodAll_cons_mk (shut_bool Tryz.underlying4 _) trodAll_mk0, ?_, rfl, hb.frame _, fun h => by cases h⟩
  have ha0 := Below.trod laidOut (t := 42) (by kernel_rfl) (of_decide_eq_true (by kernel_rfl)) (W := W) (v := .agg cs0) ⟨n0, by simpa [Value.cells] using e0⟩ hb (fun z hz => hlt z (List.mem_append_left _ hz))
  have ha1 := Below.trod laidOut (t := 45) (by kernel_rfl) (of_decide_eq_true (by kernel_rfl)) (W := W) (v := .agg (askC y vp)) ⟨n1, by simpa [Value.cells] using e1⟩ hb (fun z hz => hlt z (List.mem_append_right _ hz))
  exact trodAll_mk2 ha0 ha1
end Go.Proofs.YtmenipaibjifiaaGreatDoor.domainNil
