/-
  No cell of these rows narrows 'for every input' (looked for: loops, veiled, ifaces, maps, wideKeys, modest, calm, conditions, laid).
  DERIVED. THE GIVEN ROWS OF THIS SEAT. 6 by the template 'for every input the law returns true; each argument reads behind the call as it read before'; 0 by the template 'total and deterministic' (their statements: YtepnelagdgjjbaaTotals.lean).
  GIVEN WITH THE SEED: the statements are not yours to turn. If you find one false, say at which input.
  Laid BY PROGRAM, IN A SANDBOX (cutbox-rows.mjs): the forced cells as the released guide's own fill.sh prints them over the translation 3e616504cc5e83c9… (all of the seat's roots in one cut). By AI agents, Wed Nov 11 2026. No macro, syntax, notation, axiom, sorry.
-/
import Derived.Test.YtepnelagdgjjbaaChecked
import GoSem.Claim
import GoSem.ClaimJoined
import GoSem.ClaimMapViews
import Derived.JoinedTies
import Derived.KernelRfl
namespace Go.Proofs.Ytepnelagdgjjbaa
/- THE CELL 'sum', in the pinned program and in every row, IS THE sha256 OF THE DUMP (.gsa) THAT YtepnelagdgjjbaaProg.lean LOADS. Nothing in Lean hashes anything: it is a label: what it is worth is what the hold of that sum in a sandbox is worth. -/
noncomputable def Try.pinned : Pinned := { name := "ytepnelagdgjjbaa", sum := "3e616504cc5e83c9ebb311f8b159a8aa224369471f7d6f8c5728a01ed12559fa", checked := Try.checked }
namespace Rows
def none {H : Type} : Left H := { results := [], args := [] }

/-- 'berthlaw06.ClusterNames': WHATEVER THE INPUT: true; the input reads as it did. -/
def clusterNamesSpec : ChangeSpec := { name := "clusterNames", fn := fun _ => fun
  | [] => { results := [.lit (.bool true)], args := [] }
  | _ => none }
def clusterNamesRow : OpenClaim := { program := "ytepnelagdgjjbaa", sum := "3e616504cc5e83c9ebb311f8b159a8aa224369471f7d6f8c5728a01ed12559fa", func := "berth/berthlaw06.ClusterNames", spec := "clusterNames", apart := false }
def ClusterNamesSaid : Prop := clusterNamesRow.holds Try.pinned (OpenSpec.ofChange clusterNamesSpec)

/-- ITS FALSE NEIGHBOUR: 'it returns false'. Refute it at one input. -/
def clusterNamesWrong : ChangeSpec := { name := "clusterNames", fn := fun _ => fun
  | [] => { results := [.lit (.bool false)], args := [] }
  | _ => none }
def ClusterNamesWrongFalsely : Prop := clusterNamesRow.holds Try.pinned (OpenSpec.ofChange clusterNamesWrong)

/-- 'berthlaw09.DomainNames': WHATEVER THE INPUT: true; the input reads as it did. -/
def domainNamesSpec : ChangeSpec := { name := "domainNames", fn := fun _ => fun
  | [] => { results := [.lit (.bool true)], args := [] }
  | _ => none }
def domainNamesRow : OpenClaim := { program := "ytepnelagdgjjbaa", sum := "3e616504cc5e83c9ebb311f8b159a8aa224369471f7d6f8c5728a01ed12559fa", func := "berth/berthlaw09.DomainNames", spec := "domainNames", apart := false }
def DomainNamesSaid : Prop := domainNamesRow.holds Try.pinned (OpenSpec.ofChange domainNamesSpec)

/-- ITS FALSE NEIGHBOUR: 'it returns false'. Refute it at one input. -/
def domainNamesWrong : ChangeSpec := { name := "domainNames", fn := fun _ => fun
  | [] => { results := [.lit (.bool false)], args := [] }
  | _ => none }
def DomainNamesWrongFalsely : Prop := domainNamesRow.holds Try.pinned (OpenSpec.ofChange domainNamesWrong)

/-- 'berthlaw10.IndexNames': WHATEVER THE INPUT: true; the input reads as it did. -/
def indexNamesSpec : ChangeSpec := { name := "indexNames", fn := fun _ => fun
  | [] => { results := [.lit (.bool true)], args := [] }
  | _ => none }
def indexNamesRow : OpenClaim := { program := "ytepnelagdgjjbaa", sum := "3e616504cc5e83c9ebb311f8b159a8aa224369471f7d6f8c5728a01ed12559fa", func := "berth/berthlaw10.IndexNames", spec := "indexNames", apart := false }
def IndexNamesSaid : Prop := indexNamesRow.holds Try.pinned (OpenSpec.ofChange indexNamesSpec)

/-- ITS FALSE NEIGHBOUR: 'it returns false'. Refute it at one input. -/
def indexNamesWrong : ChangeSpec := { name := "indexNames", fn := fun _ => fun
  | [] => { results := [.lit (.bool false)], args := [] }
  | _ => none }
def IndexNamesWrongFalsely : Prop := indexNamesRow.holds Try.pinned (OpenSpec.ofChange indexNamesWrong)

/-- 'berthlaw22.VmNames': WHATEVER THE INPUT: true; the input reads as it did. -/
def vmNamesSpec : ChangeSpec := { name := "vmNames", fn := fun _ => fun
  | [] => { results := [.lit (.bool true)], args := [] }
  | _ => none }
def vmNamesRow : OpenClaim := { program := "ytepnelagdgjjbaa", sum := "3e616504cc5e83c9ebb311f8b159a8aa224369471f7d6f8c5728a01ed12559fa", func := "berth/berthlaw22.VmNames", spec := "vmNames", apart := false }
def VmNamesSaid : Prop := vmNamesRow.holds Try.pinned (OpenSpec.ofChange vmNamesSpec)

/-- ITS FALSE NEIGHBOUR: 'it returns false'. Refute it at one input. -/
def vmNamesWrong : ChangeSpec := { name := "vmNames", fn := fun _ => fun
  | [] => { results := [.lit (.bool false)], args := [] }
  | _ => none }
def VmNamesWrongFalsely : Prop := vmNamesRow.holds Try.pinned (OpenSpec.ofChange vmNamesWrong)

/-- 'berthlaw15.MeanNames': WHATEVER THE INPUT: true; the input reads as it did. -/
def meanNamesSpec : ChangeSpec := { name := "meanNames", fn := fun _ => fun
  | [] => { results := [.lit (.bool true)], args := [] }
  | _ => none }
def meanNamesRow : OpenClaim := { program := "ytepnelagdgjjbaa", sum := "3e616504cc5e83c9ebb311f8b159a8aa224369471f7d6f8c5728a01ed12559fa", func := "berth/berthlaw15.MeanNames", spec := "meanNames", apart := false }
def MeanNamesSaid : Prop := meanNamesRow.holds Try.pinned (OpenSpec.ofChange meanNamesSpec)

/-- ITS FALSE NEIGHBOUR: 'it returns false'. Refute it at one input. -/
def meanNamesWrong : ChangeSpec := { name := "meanNames", fn := fun _ => fun
  | [] => { results := [.lit (.bool false)], args := [] }
  | _ => none }
def MeanNamesWrongFalsely : Prop := meanNamesRow.holds Try.pinned (OpenSpec.ofChange meanNamesWrong)

/-- 'berthlaw24.ScoreNames': WHATEVER THE INPUT: true; the input reads as it did. -/
def scoreNamesSpec : ChangeSpec := { name := "scoreNames", fn := fun _ => fun
  | [] => { results := [.lit (.bool true)], args := [] }
  | _ => none }
def scoreNamesRow : OpenClaim := { program := "ytepnelagdgjjbaa", sum := "3e616504cc5e83c9ebb311f8b159a8aa224369471f7d6f8c5728a01ed12559fa", func := "berth/berthlaw24.ScoreNames", spec := "scoreNames", apart := false }
def ScoreNamesSaid : Prop := scoreNamesRow.holds Try.pinned (OpenSpec.ofChange scoreNamesSpec)

/-- ITS FALSE NEIGHBOUR: 'it returns false'. Refute it at one input. -/
def scoreNamesWrong : ChangeSpec := { name := "scoreNames", fn := fun _ => fun
  | [] => { results := [.lit (.bool false)], args := [] }
  | _ => none }
def ScoreNamesWrongFalsely : Prop := scoreNamesRow.holds Try.pinned (OpenSpec.ofChange scoreNamesWrong)

/- THE SECOND FORM. 'bulk': how many values and letters a reading holds, each counted each time it is reached (what is shared counts as often as it is met; a slice's spare places count too). A statement '..UptoSaid' is the law's where the arguments, and the package variables that the reading takes, are together of bulk at most 1048576: NARROWER than '..Said'. Prove '..Said' where nothing that the law and all that it calls make is longer than what came in: it says more and counts as full. Else prove '..UptoSaid'. A law counts once. -/
mutual
def uptoBulk {H : Type} : DataW H → Nat
  | .lit (.string bytes) => bytes.length + 1
  | .lit _ => 1
  | .nil => 1
  | .ptr d => uptoBulk d + 1
  | .slice elems spare => uptoBulkAll elems + uptoBulkAll spare + 1
  | .agg parts => uptoBulkAll parts + 1
  | .iface _ d => uptoBulk d + 1
  | .map entries => uptoBulkEntries entries + 1
  | .held _ => 1
def uptoBulkAll {H : Type} : List (DataW H) → Nat
  | [] => 0
  | d :: r => uptoBulk d + uptoBulkAll r
def uptoBulkEntries {H : Type} : List (Lit × DataW H) → Nat
  | [] => 0
  | x :: r => uptoBulkEntry x + uptoBulkEntries r
def uptoBulkEntry {H : Type} : Lit × DataW H → Nat
  | (.string bytes, d) => bytes.length + uptoBulk d + 1
  | (_, d) => uptoBulk d + 1
 end
def uptoSmall : (H : Type) → List (DataW H) → Bool := fun _ ds => decide (uptoBulkAll ds ≤ 1048576)
def OpenSpec.upto (s : _root_.Go.ChangeSpec) : _root_.Go.OpenSpec := { _root_.Go.OpenSpec.ofChange s with cond := some uptoSmall }

/-- 'berthlaw06.ClusterNames', WHERE WHAT IT READS IS OF BULK AT MOST 1048576: true; the input reads as it did. -/
def clusterNamesUptoRow : OpenClaim := { program := "ytepnelagdgjjbaa", sum := "3e616504cc5e83c9ebb311f8b159a8aa224369471f7d6f8c5728a01ed12559fa", func := "berth/berthlaw06.ClusterNames", spec := "clusterNames", apart := false, narrowed := true }
def ClusterNamesUptoSaid : Prop := clusterNamesUptoRow.holds Try.pinned (OpenSpec.upto clusterNamesSpec)

/-- 'berthlaw09.DomainNames', WHERE WHAT IT READS IS OF BULK AT MOST 1048576: true; the input reads as it did. -/
def domainNamesUptoRow : OpenClaim := { program := "ytepnelagdgjjbaa", sum := "3e616504cc5e83c9ebb311f8b159a8aa224369471f7d6f8c5728a01ed12559fa", func := "berth/berthlaw09.DomainNames", spec := "domainNames", apart := false, narrowed := true }
def DomainNamesUptoSaid : Prop := domainNamesUptoRow.holds Try.pinned (OpenSpec.upto domainNamesSpec)

/-- 'berthlaw10.IndexNames', WHERE WHAT IT READS IS OF BULK AT MOST 1048576: true; the input reads as it did. -/
def indexNamesUptoRow : OpenClaim := { program := "ytepnelagdgjjbaa", sum := "3e616504cc5e83c9ebb311f8b159a8aa224369471f7d6f8c5728a01ed12559fa", func := "berth/berthlaw10.IndexNames", spec := "indexNames", apart := false, narrowed := true }
def IndexNamesUptoSaid : Prop := indexNamesUptoRow.holds Try.pinned (OpenSpec.upto indexNamesSpec)

/-- 'berthlaw22.VmNames', WHERE WHAT IT READS IS OF BULK AT MOST 1048576: true; the input reads as it did. -/
def vmNamesUptoRow : OpenClaim := { program := "ytepnelagdgjjbaa", sum := "3e616504cc5e83c9ebb311f8b159a8aa224369471f7d6f8c5728a01ed12559fa", func := "berth/berthlaw22.VmNames", spec := "vmNames", apart := false, narrowed := true }
def VmNamesUptoSaid : Prop := vmNamesUptoRow.holds Try.pinned (OpenSpec.upto vmNamesSpec)

/-- 'berthlaw15.MeanNames', WHERE WHAT IT READS IS OF BULK AT MOST 1048576: true; the input reads as it did. -/
def meanNamesUptoRow : OpenClaim := { program := "ytepnelagdgjjbaa", sum := "3e616504cc5e83c9ebb311f8b159a8aa224369471f7d6f8c5728a01ed12559fa", func := "berth/berthlaw15.MeanNames", spec := "meanNames", apart := false, narrowed := true }
def MeanNamesUptoSaid : Prop := meanNamesUptoRow.holds Try.pinned (OpenSpec.upto meanNamesSpec)

/-- 'berthlaw24.ScoreNames', WHERE WHAT IT READS IS OF BULK AT MOST 1048576: true; the input reads as it did. -/
def scoreNamesUptoRow : OpenClaim := { program := "ytepnelagdgjjbaa", sum := "3e616504cc5e83c9ebb311f8b159a8aa224369471f7d6f8c5728a01ed12559fa", func := "berth/berthlaw24.ScoreNames", spec := "scoreNames", apart := false, narrowed := true }
def ScoreNamesUptoSaid : Prop := scoreNamesUptoRow.holds Try.pinned (OpenSpec.upto scoreNamesSpec)

end Rows
end Go.Proofs.Ytepnelagdgjjbaa
