/-
  berthlaw06.ClusterCopies, its row and its tied card in the second form: whatever node and pod are handed in, the law returns true and both read as they read before.
  Condition: what is read (the arguments, the two listed tables) is of bulk at most 1048576 (the given form '..Upto').
-/
import Derived.Test.YtdceflgemhcgcaaGreatDoorP43
import Derived.Test.YtdceflgemhcgcaaGreatDoorP42
import Derived.Test.YtdceflgemhcgcaaGreatDoorCards
import Derived.Test.YtdceflgemhcgcaaGreatDoorTie
import Derived.WalkKit
import Derived.ProofKit
import Derived.OpenShut
import Derived.Deep.DeepHandedRow
import Derived.Lib.LaidTab
set_option linter.unusedVariables false
set_option linter.unusedSimpArgs false
namespace Go.Proofs.YtdceflgemhcgcaaGreatDoor.clusterCopies
open Go.ChangeShapes Go.WideShapes Go.ChangeAt Go.RowKit

theorem own : ownKnob Tryz.prog.godebug = none := by kernel_rfl
theorem laidOut : laidOutB Tryz.prog = true := by kernel_rfl

set_option maxRecDepth 100000 in
/-- The walk, for every reading of the two arguments. -/
theorem contract (H : Type) (enc : TypeId × Value → H) (W : World) (base : Nat) (args : Array Value) (ds gs : List (DataW H)) (before : List MemPlace)
    (hval : ∀ (j : Nat) t v, Tryz.f3.params[j]? = some t → args[j]? = some v → Value.okWide Tryz.prog W .any base t v)
    (hW : DataW.Whole enc Tryz.prog Tryz.f3.params.toList Rows.clusterCopiesSpec.vars false W args.toList ds gs before) (hk : Rows.uptoBulkAll (ds ++ gs) ≤ 1048576) (hsh : W.ShapedOpen Tryz.prog) :
    Calls Tryz.prog 3 args W fun e W' => ∃ v, e = .returned v ∧ Rows.clusterCopiesSpec.post enc Tryz.prog Tryz.f3 false true false false W args v W' := by
  have hW' := hW
  have hlt := fun p hp => hW.lt p hp
  obtain ⟨p, q, hA0, hV, rfl, hfz, hnd⟩ := hW
  have hA : DataW.TrodAll enc Tryz.prog W 0 (fun _ => true) true Tryz.f3.params.toList args.toList ds p := hA0
  rw [Tryz.params3] at hA hval
  obtain ⟨v0, vs0, d0, ds0, p0, q0, hargs, rfl, rfl, h0, r0⟩ := trodAll_cons hA
  obtain ⟨v1, vs1, d1, ds1, p1, q1, rfl, rfl, rfl, h1, r1⟩ := trodAll_cons r0
  obtain ⟨rfl, rfl, rfl⟩ := trodAll_nil r1
  obtain rfl : args = #[v0, v1] := by cases args; simp_all
  obtain ⟨rfl, rfl⟩ := trodVars_none hV
  clear hA0
  simp only [List.append_nil] at hW' hk hlt
  have ok0 := hval 0 26 v0 rfl rfl
  have ok1 := hval 1 31 v1 rfl rfl
  unfold Value.okWide at ok0 ok1
  rw [Tryz.underlying26] at ok0
  rw [Tryz.underlying31] at ok1
  obtain ⟨cs0, rfl, _, _⟩ := ok0
  obtain ⟨cs1, rfl, _, _⟩ := ok1
  obtain ⟨n0, e0⟩ := h0
  obtain ⟨n1, e1⟩ := h1
  simp only [Value.cells] at e0 e1
  obtain ⟨x, hx, qx⟩ := op6.opens_nod enc W _ _ _ e0
  obtain ⟨y, hy, qy⟩ := op6.opens_pd enc W _ _ _ e1
  have hb0 : Rows.uptoBulk d0 ≤ 1048576 := by
    have : Rows.uptoBulk d0 ≤ Rows.uptoBulkAll [d0, d1] := bulkAll_mem (by simp)
    omega
  have hb1 : Rows.uptoBulk d1 ≤ 1048576 := by
    have : Rows.uptoBulk d1 ≤ Rows.uptoBulkAll [d0, d1] := bulkAll_mem (by simp)
    omega
  refine clusterCopies_k _ W (Lt W) x cs0.toList y cs1.toList (op6.GOk_of hsh) (fun _ h => h) hx hy (op6.nod_fit hb0 qx) (op6.pd_fit hb1 qy) ?_
  intro W' hb
  refine ⟨_, rfl, [d0, d1], [], _, [], p0 ++ p1, [], hW', trodAll_cons_mk (shut_bool Tryz.underlying4 _) trodAll_mk0, ?_, rfl, hb.frame _, fun h => by cases h⟩
  have ha0 := Below.trod laidOut (t := 26) (by kernel_rfl) (of_decide_eq_true (by kernel_rfl)) (W := W) (v := .agg cs0) ⟨n0, by simpa [Value.cells] using e0⟩ hb (fun z hz => hlt z (List.mem_append_left _ hz))
  have ha1 := Below.trod laidOut (t := 31) (by kernel_rfl) (of_decide_eq_true (by kernel_rfl)) (W := W) (v := .agg cs1) ⟨n1, by simpa [Value.cells] using e1⟩ hb (fun z hz => hlt z (List.mem_append_right _ hz))
  exact trodAll_mk2 ha0 ha1
end Go.Proofs.YtdceflgemhcgcaaGreatDoor.clusterCopies
