/-
  NARROWER THAN 'FOR EVERY INPUT', by the rows' own cells (each row's printed sentence says how): ClusterCopies: laid · ClusterActs: laid · ClusterWalks: laid · ClusterTold: laid · ClusterRefused: laid · ClusterAll: laid.
  DERIVED. THE GIVEN ROWS OF THIS SEAT. 6 by the template 'for every input the law returns true; each argument reads behind the call as it read before'; 0 by the template 'total and deterministic' (their statements: YtdceflgemhcgcaaGreatDoorTotals.lean).
  GIVEN WITH THE SEED: the statements are not yours to turn. If you find one false, say at which input.
  Laid BY PROGRAM, IN A SANDBOX (cutbox-rows.mjs): the forced cells as the released guide's own fill.sh prints them over the translation 9044095c0f3f7e37… (all of the seat's roots in one cut). By AI agents, Wed Nov 11 2026. No macro, syntax, notation, axiom, sorry.
-/
import Derived.Test.YtdceflgemhcgcaaGreatDoorChecked
import GoSem.PinnedTables
import GoSem.Claim
import GoSem.ClaimJoined
import GoSem.ClaimMapViews
import Derived.JoinedTies
import Derived.KernelRfl
namespace Go.Proofs.YtdceflgemhcgcaaGreatDoor
/- THE CELL 'sum', in the pinned program and in every row, IS THE sha256 OF THE DUMP (.gsa) THAT YtdceflgemhcgcaaGreatDoorProg.lean LOADS. Nothing in Lean hashes anything: it is a label: what it is worth is what the hold of that sum in a sandbox is worth. -/
noncomputable def Tryz.pinned : Pinned := { name := "ytdceflgemhcgcaagreatdoor", sum := "9044095c0f3f7e372069c9fbcd927d40ca03dbc0590718e42e0c2584b0e2b4ae", checked := Tryz.checked }
namespace Rows
def none {H : Type} : Left H := { results := [], args := [] }

/- WHAT THE LISTED PACKAGE-LEVEL VARIABLES READ AS WHEN THE CALL BEGINS. Each datum BY PROGRAM (the guide's laid-datum.mjs) off the statement by which the dump's own 'gosem.cut.vars' lays the variable. In a bare row this is a premise. The card (YtdceflgemhcgcaaGreatDoorCards.lean) ties it to the program's text. -/
def laid_unicode_utf8_acceptRanges {H : Type} : DataW H := .agg [.agg [.lit (.int .u8 128), .lit (.int .u8 191)], .agg [.lit (.int .u8 160), .lit (.int .u8 191)], .agg [.lit (.int .u8 128), .lit (.int .u8 159)], .agg [.lit (.int .u8 144), .lit (.int .u8 191)], .agg [.lit (.int .u8 128), .lit (.int .u8 143)], .agg [.lit (.int .u8 0), .lit (.int .u8 0)], .agg [.lit (.int .u8 0), .lit (.int .u8 0)], .agg [.lit (.int .u8 0), .lit (.int .u8 0)], .agg [.lit (.int .u8 0), .lit (.int .u8 0)], .agg [.lit (.int .u8 0), .lit (.int .u8 0)], .agg [.lit (.int .u8 0), .lit (.int .u8 0)], .agg [.lit (.int .u8 0), .lit (.int .u8 0)], .agg [.lit (.int .u8 0), .lit (.int .u8 0)], .agg [.lit (.int .u8 0), .lit (.int .u8 0)], .agg [.lit (.int .u8 0), .lit (.int .u8 0)], .agg [.lit (.int .u8 0), .lit (.int .u8 0)]]
/-- One of Go's own tables, pinned by name: the form's constant. -/
def laid_unicode_utf8_first : DataW Unit := Go.Pinned.utf8First

/-- 'berthlaw06.ClusterCopies': WHATEVER THE INPUT: true; the input reads as it did. -/
def clusterCopiesSpec : ChangeSpec := { name := "clusterCopies", fn := fun _ => fun
  | [d1, d2] => { results := [.lit (.bool true)], args := [d1, d2] }
  | _ => none }
def clusterCopiesRow : OpenClaim := { program := "ytdceflgemhcgcaagreatdoor", sum := "9044095c0f3f7e372069c9fbcd927d40ca03dbc0590718e42e0c2584b0e2b4ae", func := "berth/berthlaw06.ClusterCopies", spec := "clusterCopies", inPlace := ["internal/bytealg.CountString", "internal/bytealg.IndexByteString", "internal/bytealg.IndexString", "internal/reflectlite.ValueOf", "internal/reflectlite.Swapper", "(internal/reflectlite.Value).Len", "internal/bytealg.abigen_runtime_cmpstring"], unfollowed := true, recurses := true, named := ["unicode/utf8.first", "unicode/utf8.acceptRanges", "internal/bytealg.MaxLen"], apart := false, laid := [("unicode/utf8.acceptRanges", laid_unicode_utf8_acceptRanges), ("unicode/utf8.first", laid_unicode_utf8_first)] }
def ClusterCopiesSaid : Prop := clusterCopiesRow.holds Tryz.pinned (OpenSpec.ofChange clusterCopiesSpec)

/-- ITS FALSE NEIGHBOUR: 'it returns false'. Refute it at one input. -/
def clusterCopiesWrong : ChangeSpec := { name := "clusterCopies", fn := fun _ => fun
  | [d1, d2] => { results := [.lit (.bool false)], args := [d1, d2] }
  | _ => none }
def ClusterCopiesWrongFalsely : Prop := clusterCopiesRow.holds Tryz.pinned (OpenSpec.ofChange clusterCopiesWrong)

/-- 'berthlaw06.ClusterActs': WHATEVER THE INPUT: true; the input reads as it did. -/
def clusterActsSpec : ChangeSpec := { name := "clusterActs", fn := fun _ => fun
  | [d] => { results := [.lit (.bool true)], args := [d] }
  | _ => none }
def clusterActsRow : OpenClaim := { program := "ytdceflgemhcgcaagreatdoor", sum := "9044095c0f3f7e372069c9fbcd927d40ca03dbc0590718e42e0c2584b0e2b4ae", func := "berth/berthlaw06.ClusterActs", spec := "clusterActs", inPlace := ["internal/bytealg.CountString", "internal/bytealg.IndexByteString", "internal/bytealg.IndexString", "internal/reflectlite.ValueOf", "internal/reflectlite.Swapper", "(internal/reflectlite.Value).Len", "internal/bytealg.abigen_runtime_cmpstring"], unfollowed := true, recurses := true, named := ["unicode/utf8.first", "unicode/utf8.acceptRanges", "internal/bytealg.MaxLen"], apart := false, laid := [("unicode/utf8.acceptRanges", laid_unicode_utf8_acceptRanges), ("unicode/utf8.first", laid_unicode_utf8_first)] }
def ClusterActsSaid : Prop := clusterActsRow.holds Tryz.pinned (OpenSpec.ofChange clusterActsSpec)

/-- ITS FALSE NEIGHBOUR: 'it returns false'. Refute it at one input. -/
def clusterActsWrong : ChangeSpec := { name := "clusterActs", fn := fun _ => fun
  | [d] => { results := [.lit (.bool false)], args := [d] }
  | _ => none }
def ClusterActsWrongFalsely : Prop := clusterActsRow.holds Tryz.pinned (OpenSpec.ofChange clusterActsWrong)

/-- 'berthlaw06.ClusterWalks': WHATEVER THE INPUT: true; the input reads as it did. -/
def clusterWalksSpec : ChangeSpec := { name := "clusterWalks", fn := fun _ => fun
  | [d1, d2, d3] => { results := [.lit (.bool true)], args := [d1, d2, d3] }
  | _ => none }
def clusterWalksRow : OpenClaim := { program := "ytdceflgemhcgcaagreatdoor", sum := "9044095c0f3f7e372069c9fbcd927d40ca03dbc0590718e42e0c2584b0e2b4ae", func := "berth/berthlaw06.ClusterWalks", spec := "clusterWalks", inPlace := ["internal/bytealg.CountString", "internal/bytealg.IndexByteString", "internal/bytealg.IndexString", "internal/reflectlite.ValueOf", "internal/reflectlite.Swapper", "(internal/reflectlite.Value).Len", "internal/bytealg.abigen_runtime_cmpstring"], unfollowed := true, recurses := true, named := ["unicode/utf8.first", "unicode/utf8.acceptRanges", "internal/bytealg.MaxLen"], apart := false, laid := [("unicode/utf8.acceptRanges", laid_unicode_utf8_acceptRanges), ("unicode/utf8.first", laid_unicode_utf8_first)] }
def ClusterWalksSaid : Prop := clusterWalksRow.holds Tryz.pinned (OpenSpec.ofChange clusterWalksSpec)

/-- ITS FALSE NEIGHBOUR: 'it returns false'. Refute it at one input. -/
def clusterWalksWrong : ChangeSpec := { name := "clusterWalks", fn := fun _ => fun
  | [d1, d2, d3] => { results := [.lit (.bool false)], args := [d1, d2, d3] }
  | _ => none }
def ClusterWalksWrongFalsely : Prop := clusterWalksRow.holds Tryz.pinned (OpenSpec.ofChange clusterWalksWrong)

/-- 'berthlaw06.ClusterTold': WHATEVER THE INPUT: true; the input reads as it did. -/
def clusterToldSpec : ChangeSpec := { name := "clusterTold", fn := fun _ => fun
  | [d] => { results := [.lit (.bool true)], args := [d] }
  | _ => none }
def clusterToldRow : OpenClaim := { program := "ytdceflgemhcgcaagreatdoor", sum := "9044095c0f3f7e372069c9fbcd927d40ca03dbc0590718e42e0c2584b0e2b4ae", func := "berth/berthlaw06.ClusterTold", spec := "clusterTold", inPlace := ["internal/bytealg.CountString", "internal/bytealg.IndexByteString", "internal/bytealg.IndexString", "internal/reflectlite.ValueOf", "internal/reflectlite.Swapper", "(internal/reflectlite.Value).Len", "internal/bytealg.abigen_runtime_cmpstring"], unfollowed := true, recurses := true, named := ["unicode/utf8.first", "unicode/utf8.acceptRanges", "internal/bytealg.MaxLen"], apart := false, laid := [("unicode/utf8.acceptRanges", laid_unicode_utf8_acceptRanges), ("unicode/utf8.first", laid_unicode_utf8_first)] }
def ClusterToldSaid : Prop := clusterToldRow.holds Tryz.pinned (OpenSpec.ofChange clusterToldSpec)

/-- ITS FALSE NEIGHBOUR: 'it returns false'. Refute it at one input. -/
def clusterToldWrong : ChangeSpec := { name := "clusterTold", fn := fun _ => fun
  | [d] => { results := [.lit (.bool false)], args := [d] }
  | _ => none }
def ClusterToldWrongFalsely : Prop := clusterToldRow.holds Tryz.pinned (OpenSpec.ofChange clusterToldWrong)

/-- 'berthlaw06.ClusterRefused': WHATEVER THE INPUT: true; the input reads as it did. -/
def clusterRefusedSpec : ChangeSpec := { name := "clusterRefused", fn := fun _ => fun
  | [d] => { results := [.lit (.bool true)], args := [d] }
  | _ => none }
def clusterRefusedRow : OpenClaim := { program := "ytdceflgemhcgcaagreatdoor", sum := "9044095c0f3f7e372069c9fbcd927d40ca03dbc0590718e42e0c2584b0e2b4ae", func := "berth/berthlaw06.ClusterRefused", spec := "clusterRefused", inPlace := ["internal/bytealg.CountString", "internal/bytealg.IndexByteString", "internal/bytealg.IndexString", "internal/reflectlite.ValueOf", "internal/reflectlite.Swapper", "(internal/reflectlite.Value).Len", "internal/bytealg.abigen_runtime_cmpstring"], unfollowed := true, recurses := true, named := ["unicode/utf8.first", "unicode/utf8.acceptRanges", "internal/bytealg.MaxLen"], apart := false, laid := [("unicode/utf8.acceptRanges", laid_unicode_utf8_acceptRanges), ("unicode/utf8.first", laid_unicode_utf8_first)] }
def ClusterRefusedSaid : Prop := clusterRefusedRow.holds Tryz.pinned (OpenSpec.ofChange clusterRefusedSpec)

/-- ITS FALSE NEIGHBOUR: 'it returns false'. Refute it at one input. -/
def clusterRefusedWrong : ChangeSpec := { name := "clusterRefused", fn := fun _ => fun
  | [d] => { results := [.lit (.bool false)], args := [d] }
  | _ => none }
def ClusterRefusedWrongFalsely : Prop := clusterRefusedRow.holds Tryz.pinned (OpenSpec.ofChange clusterRefusedWrong)

/-- 'berthlaw06.ClusterAll': WHATEVER THE INPUT: true; the input reads as it did. -/
def clusterAllSpec : ChangeSpec := { name := "clusterAll", fn := fun _ => fun
  | [d] => { results := [.lit (.bool true)], args := [d] }
  | _ => none }
def clusterAllRow : OpenClaim := { program := "ytdceflgemhcgcaagreatdoor", sum := "9044095c0f3f7e372069c9fbcd927d40ca03dbc0590718e42e0c2584b0e2b4ae", func := "berth/berthlaw06.ClusterAll", spec := "clusterAll", inPlace := ["internal/bytealg.CountString", "internal/bytealg.IndexByteString", "internal/bytealg.IndexString", "internal/reflectlite.ValueOf", "internal/reflectlite.Swapper", "(internal/reflectlite.Value).Len", "internal/bytealg.abigen_runtime_cmpstring"], unfollowed := true, recurses := true, named := ["unicode/utf8.first", "unicode/utf8.acceptRanges", "internal/bytealg.MaxLen"], apart := false, laid := [("unicode/utf8.acceptRanges", laid_unicode_utf8_acceptRanges), ("unicode/utf8.first", laid_unicode_utf8_first)] }
def ClusterAllSaid : Prop := clusterAllRow.holds Tryz.pinned (OpenSpec.ofChange clusterAllSpec)

/-- ITS FALSE NEIGHBOUR: 'it returns false'. Refute it at one input. -/
def clusterAllWrong : ChangeSpec := { name := "clusterAll", fn := fun _ => fun
  | [d] => { results := [.lit (.bool false)], args := [d] }
  | _ => none }
def ClusterAllWrongFalsely : Prop := clusterAllRow.holds Tryz.pinned (OpenSpec.ofChange clusterAllWrong)

/- THE SECOND FORM. 'bulk': how many values and letters a reading holds, each counted each time it is reached (what is shared counts as often as it is met; a slice's spare places count too). A statement '..UptoSaid' is the law's where the arguments, and the package variables that the reading takes, are together of bulk at most 1048576: NARROWER than '..Said'. Prove '..Said' where nothing that the law and all that it calls make is longer than what came in: it says more and counts as full. Else prove '..UptoSaid'. A law counts once. -/
mutual
def uptoBulk {H : Type} : DataW H → Nat
  | .lit (.string bytes) => bytes.length + 1
  | .lit _ => 1
  | .nil => 1
  | .ptr d => uptoBulk d + 1
  | .slice elems spare => uptoBulkAll elems + uptoBulkAll spare + 1
  | .agg parts => uptoBulkAll parts + 1
  | .iface _ d => uptoBulk d + 1
  | .map entries => uptoBulkEntries entries + 1
  | .held _ => 1
def uptoBulkAll {H : Type} : List (DataW H) → Nat
  | [] => 0
  | d :: r => uptoBulk d + uptoBulkAll r
def uptoBulkEntries {H : Type} : List (Lit × DataW H) → Nat
  | [] => 0
  | x :: r => uptoBulkEntry x + uptoBulkEntries r
def uptoBulkEntry {H : Type} : Lit × DataW H → Nat
  | (.string bytes, d) => bytes.length + uptoBulk d + 1
  | (_, d) => uptoBulk d + 1
 end
def uptoSmall : (H : Type) → List (DataW H) → Bool := fun _ ds => decide (uptoBulkAll ds ≤ 1048576)
def OpenSpec.upto (s : _root_.Go.ChangeSpec) : _root_.Go.OpenSpec := { _root_.Go.OpenSpec.ofChange s with cond := some uptoSmall }

/-- 'berthlaw06.ClusterCopies', WHERE WHAT IT READS IS OF BULK AT MOST 1048576: true; the input reads as it did. -/
def clusterCopiesUptoRow : OpenClaim := { program := "ytdceflgemhcgcaagreatdoor", sum := "9044095c0f3f7e372069c9fbcd927d40ca03dbc0590718e42e0c2584b0e2b4ae", func := "berth/berthlaw06.ClusterCopies", spec := "clusterCopies", inPlace := ["internal/bytealg.CountString", "internal/bytealg.IndexByteString", "internal/bytealg.IndexString", "internal/reflectlite.ValueOf", "internal/reflectlite.Swapper", "(internal/reflectlite.Value).Len", "internal/bytealg.abigen_runtime_cmpstring"], unfollowed := true, recurses := true, named := ["unicode/utf8.first", "unicode/utf8.acceptRanges", "internal/bytealg.MaxLen"], apart := false, laid := [("unicode/utf8.acceptRanges", laid_unicode_utf8_acceptRanges), ("unicode/utf8.first", laid_unicode_utf8_first)], narrowed := true }
def ClusterCopiesUptoSaid : Prop := clusterCopiesUptoRow.holds Tryz.pinned (OpenSpec.upto clusterCopiesSpec)

/-- 'berthlaw06.ClusterActs', WHERE WHAT IT READS IS OF BULK AT MOST 1048576: true; the input reads as it did. -/
def clusterActsUptoRow : OpenClaim := { program := "ytdceflgemhcgcaagreatdoor", sum := "9044095c0f3f7e372069c9fbcd927d40ca03dbc0590718e42e0c2584b0e2b4ae", func := "berth/berthlaw06.ClusterActs", spec := "clusterActs", inPlace := ["internal/bytealg.CountString", "internal/bytealg.IndexByteString", "internal/bytealg.IndexString", "internal/reflectlite.ValueOf", "internal/reflectlite.Swapper", "(internal/reflectlite.Value).Len", "internal/bytealg.abigen_runtime_cmpstring"], unfollowed := true, recurses := true, named := ["unicode/utf8.first", "unicode/utf8.acceptRanges", "internal/bytealg.MaxLen"], apart := false, laid := [("unicode/utf8.acceptRanges", laid_unicode_utf8_acceptRanges), ("unicode/utf8.first", laid_unicode_utf8_first)], narrowed := true }
def ClusterActsUptoSaid : Prop := clusterActsUptoRow.holds Tryz.pinned (OpenSpec.upto clusterActsSpec)

/-- 'berthlaw06.ClusterWalks', WHERE WHAT IT READS IS OF BULK AT MOST 1048576: true; the input reads as it did. -/
def clusterWalksUptoRow : OpenClaim := { program := "ytdceflgemhcgcaagreatdoor", sum := "9044095c0f3f7e372069c9fbcd927d40ca03dbc0590718e42e0c2584b0e2b4ae", func := "berth/berthlaw06.ClusterWalks", spec := "clusterWalks", inPlace := ["internal/bytealg.CountString", "internal/bytealg.IndexByteString", "internal/bytealg.IndexString", "internal/reflectlite.ValueOf", "internal/reflectlite.Swapper", "(internal/reflectlite.Value).Len", "internal/bytealg.abigen_runtime_cmpstring"], unfollowed := true, recurses := true, named := ["unicode/utf8.first", "unicode/utf8.acceptRanges", "internal/bytealg.MaxLen"], apart := false, laid := [("unicode/utf8.acceptRanges", laid_unicode_utf8_acceptRanges), ("unicode/utf8.first", laid_unicode_utf8_first)], narrowed := true }
def ClusterWalksUptoSaid : Prop := clusterWalksUptoRow.holds Tryz.pinned (OpenSpec.upto clusterWalksSpec)

/-- 'berthlaw06.ClusterTold', WHERE WHAT IT READS IS OF BULK AT MOST 1048576: true; the input reads as it did. -/
def clusterToldUptoRow : OpenClaim := { program := "ytdceflgemhcgcaagreatdoor", sum := "9044095c0f3f7e372069c9fbcd927d40ca03dbc0590718e42e0c2584b0e2b4ae", func := "berth/berthlaw06.ClusterTold", spec := "clusterTold", inPlace := ["internal/bytealg.CountString", "internal/bytealg.IndexByteString", "internal/bytealg.IndexString", "internal/reflectlite.ValueOf", "internal/reflectlite.Swapper", "(internal/reflectlite.Value).Len", "internal/bytealg.abigen_runtime_cmpstring"], unfollowed := true, recurses := true, named := ["unicode/utf8.first", "unicode/utf8.acceptRanges", "internal/bytealg.MaxLen"], apart := false, laid := [("unicode/utf8.acceptRanges", laid_unicode_utf8_acceptRanges), ("unicode/utf8.first", laid_unicode_utf8_first)], narrowed := true }
def ClusterToldUptoSaid : Prop := clusterToldUptoRow.holds Tryz.pinned (OpenSpec.upto clusterToldSpec)

/-- 'berthlaw06.ClusterRefused', WHERE WHAT IT READS IS OF BULK AT MOST 1048576: true; the input reads as it did. -/
def clusterRefusedUptoRow : OpenClaim := { program := "ytdceflgemhcgcaagreatdoor", sum := "9044095c0f3f7e372069c9fbcd927d40ca03dbc0590718e42e0c2584b0e2b4ae", func := "berth/berthlaw06.ClusterRefused", spec := "clusterRefused", inPlace := ["internal/bytealg.CountString", "internal/bytealg.IndexByteString", "internal/bytealg.IndexString", "internal/reflectlite.ValueOf", "internal/reflectlite.Swapper", "(internal/reflectlite.Value).Len", "internal/bytealg.abigen_runtime_cmpstring"], unfollowed := true, recurses := true, named := ["unicode/utf8.first", "unicode/utf8.acceptRanges", "internal/bytealg.MaxLen"], apart := false, laid := [("unicode/utf8.acceptRanges", laid_unicode_utf8_acceptRanges), ("unicode/utf8.first", laid_unicode_utf8_first)], narrowed := true }
def ClusterRefusedUptoSaid : Prop := clusterRefusedUptoRow.holds Tryz.pinned (OpenSpec.upto clusterRefusedSpec)

/-- 'berthlaw06.ClusterAll', WHERE WHAT IT READS IS OF BULK AT MOST 1048576: true; the input reads as it did. -/
def clusterAllUptoRow : OpenClaim := { program := "ytdceflgemhcgcaagreatdoor", sum := "9044095c0f3f7e372069c9fbcd927d40ca03dbc0590718e42e0c2584b0e2b4ae", func := "berth/berthlaw06.ClusterAll", spec := "clusterAll", inPlace := ["internal/bytealg.CountString", "internal/bytealg.IndexByteString", "internal/bytealg.IndexString", "internal/reflectlite.ValueOf", "internal/reflectlite.Swapper", "(internal/reflectlite.Value).Len", "internal/bytealg.abigen_runtime_cmpstring"], unfollowed := true, recurses := true, named := ["unicode/utf8.first", "unicode/utf8.acceptRanges", "internal/bytealg.MaxLen"], apart := false, laid := [("unicode/utf8.acceptRanges", laid_unicode_utf8_acceptRanges), ("unicode/utf8.first", laid_unicode_utf8_first)], narrowed := true }
def ClusterAllUptoSaid : Prop := clusterAllUptoRow.holds Tryz.pinned (OpenSpec.upto clusterAllSpec)

end Rows
end Go.Proofs.YtdceflgemhcgcaaGreatDoor
