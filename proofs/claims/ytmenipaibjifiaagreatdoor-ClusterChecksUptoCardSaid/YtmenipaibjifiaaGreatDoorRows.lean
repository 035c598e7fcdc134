/-
  NARROWER THAN 'FOR EVERY INPUT', by the rows' own cells (each row's printed sentence says how): DomainAll: laid · DomainSame: laid · DomainRefused: laid · DomainNil: laid · ClusterChecks: laid · ClusterCopies: laid.
  DERIVED. THE GIVEN ROWS OF THIS SEAT. 6 by the template 'for every input the law returns true; each argument reads behind the call as it read before'; 0 by the template 'total and deterministic' (their statements: YtmenipaibjifiaaGreatDoorTotals.lean).
  GIVEN WITH THE SEED: the statements are not yours to turn. If you find one false, say at which input.
  Laid BY PROGRAM, IN A SANDBOX (cutbox-rows.mjs): the forced cells as the released guide's own fill.sh prints them over the translation d5b848dd3253044d… (all of the seat's roots in one cut). By AI agents, Wed Nov 11 2026. No macro, syntax, notation, axiom, sorry.
-/
import Derived.Test.YtmenipaibjifiaaGreatDoorChecked
import GoSem.PinnedTables
import GoSem.Claim
import GoSem.ClaimJoined
import GoSem.ClaimMapViews
import Derived.JoinedTies
import Derived.KernelRfl
namespace Go.Proofs.YtmenipaibjifiaaGreatDoor
/- THE CELL 'sum', in the pinned program and in every row, IS THE sha256 OF THE DUMP (.gsa) THAT YtmenipaibjifiaaGreatDoorProg.lean LOADS. Nothing in Lean hashes anything: it is a label: what it is worth is what the hold of that sum in a sandbox is worth. -/
noncomputable def Tryz.pinned : Pinned := { name := "ytmenipaibjifiaagreatdoor", sum := "d5b848dd3253044da53d0fc5f77aee151b6e29b951699720beb9a7db230edc26", checked := Tryz.checked }
namespace Rows
def none {H : Type} : Left H := { results := [], args := [] }

/- WHAT THE LISTED PACKAGE-LEVEL VARIABLES READ AS WHEN THE CALL BEGINS. Each datum BY PROGRAM (the guide's laid-datum.mjs) off the statement by which the dump's own 'gosem.cut.vars' lays the variable. In a bare row this is a premise. The card (YtmenipaibjifiaaGreatDoorCards.lean) ties it to the program's text. -/
def laid_unicode_utf8_acceptRanges {H : Type} : DataW H := .agg [.agg [.lit (.int .u8 128), .lit (.int .u8 191)], .agg [.lit (.int .u8 160), .lit (.int .u8 191)], .agg [.lit (.int .u8 128), .lit (.int .u8 159)], .agg [.lit (.int .u8 144), .lit (.int .u8 191)], .agg [.lit (.int .u8 128), .lit (.int .u8 143)], .agg [.lit (.int .u8 0), .lit (.int .u8 0)], .agg [.lit (.int .u8 0), .lit (.int .u8 0)], .agg [.lit (.int .u8 0), .lit (.int .u8 0)], .agg [.lit (.int .u8 0), .lit (.int .u8 0)], .agg [.lit (.int .u8 0), .lit (.int .u8 0)], .agg [.lit (.int .u8 0), .lit (.int .u8 0)], .agg [.lit (.int .u8 0), .lit (.int .u8 0)], .agg [.lit (.int .u8 0), .lit (.int .u8 0)], .agg [.lit (.int .u8 0), .lit (.int .u8 0)], .agg [.lit (.int .u8 0), .lit (.int .u8 0)], .agg [.lit (.int .u8 0), .lit (.int .u8 0)]]
/-- One of Go's own tables, pinned by name: the form's constant. -/
def laid_unicode_utf8_first : DataW Unit := Go.Pinned.utf8First

/-- 'berthlaw09.DomainAll': WHATEVER THE INPUT: true; the input reads as it did. -/
def domainAllSpec : ChangeSpec := { name := "domainAll", fn := fun _ => fun
  | [d] => { results := [.lit (.bool true)], args := [d] }
  | _ => none }
def domainAllRow : OpenClaim := { program := "ytmenipaibjifiaagreatdoor", sum := "d5b848dd3253044da53d0fc5f77aee151b6e29b951699720beb9a7db230edc26", func := "berth/berthlaw09.DomainAll", spec := "domainAll", inPlace := ["internal/bytealg.IndexByteString", "internal/bytealg.IndexString", "internal/bytealg.CountString"], unfollowed := true, recurses := true, named := ["internal/bytealg.MaxLen", "unicode/utf8.first", "unicode/utf8.acceptRanges"], plainKeys := false, apart := false, laid := [("unicode/utf8.acceptRanges", laid_unicode_utf8_acceptRanges), ("unicode/utf8.first", laid_unicode_utf8_first)] }
def DomainAllSaid : Prop := domainAllRow.holds Tryz.pinned (OpenSpec.ofChange domainAllSpec)

/-- ITS FALSE NEIGHBOUR: 'it returns false'. Refute it at one input. -/
def domainAllWrong : ChangeSpec := { name := "domainAll", fn := fun _ => fun
  | [d] => { results := [.lit (.bool false)], args := [d] }
  | _ => none }
def DomainAllWrongFalsely : Prop := domainAllRow.holds Tryz.pinned (OpenSpec.ofChange domainAllWrong)

/-- 'berthlaw09.DomainSame': WHATEVER THE INPUT: true; the input reads as it did. -/
def domainSameSpec : ChangeSpec := { name := "domainSame", fn := fun _ => fun
  | [d1, d2] => { results := [.lit (.bool true)], args := [d1, d2] }
  | _ => none }
def domainSameRow : OpenClaim := { program := "ytmenipaibjifiaagreatdoor", sum := "d5b848dd3253044da53d0fc5f77aee151b6e29b951699720beb9a7db230edc26", func := "berth/berthlaw09.DomainSame", spec := "domainSame", inPlace := ["internal/bytealg.IndexByteString", "internal/bytealg.IndexString", "internal/bytealg.CountString"], unfollowed := true, recurses := true, named := ["internal/bytealg.MaxLen", "unicode/utf8.first", "unicode/utf8.acceptRanges"], plainKeys := false, apart := false, laid := [("unicode/utf8.acceptRanges", laid_unicode_utf8_acceptRanges), ("unicode/utf8.first", laid_unicode_utf8_first)] }
def DomainSameSaid : Prop := domainSameRow.holds Tryz.pinned (OpenSpec.ofChange domainSameSpec)

/-- ITS FALSE NEIGHBOUR: 'it returns false'. Refute it at one input. -/
def domainSameWrong : ChangeSpec := { name := "domainSame", fn := fun _ => fun
  | [d1, d2] => { results := [.lit (.bool false)], args := [d1, d2] }
  | _ => none }
def DomainSameWrongFalsely : Prop := domainSameRow.holds Tryz.pinned (OpenSpec.ofChange domainSameWrong)

/-- 'berthlaw09.DomainRefused': WHATEVER THE INPUT: true; the input reads as it did. -/
def domainRefusedSpec : ChangeSpec := { name := "domainRefused", fn := fun _ => fun
  | [d] => { results := [.lit (.bool true)], args := [d] }
  | _ => none }
def domainRefusedRow : OpenClaim := { program := "ytmenipaibjifiaagreatdoor", sum := "d5b848dd3253044da53d0fc5f77aee151b6e29b951699720beb9a7db230edc26", func := "berth/berthlaw09.DomainRefused", spec := "domainRefused", inPlace := ["internal/bytealg.IndexByteString", "internal/bytealg.IndexString", "internal/bytealg.CountString"], unfollowed := true, recurses := true, named := ["internal/bytealg.MaxLen", "unicode/utf8.first", "unicode/utf8.acceptRanges"], plainKeys := false, apart := false, laid := [("unicode/utf8.acceptRanges", laid_unicode_utf8_acceptRanges), ("unicode/utf8.first", laid_unicode_utf8_first)] }
def DomainRefusedSaid : Prop := domainRefusedRow.holds Tryz.pinned (OpenSpec.ofChange domainRefusedSpec)

/-- ITS FALSE NEIGHBOUR: 'it returns false'. Refute it at one input. -/
def domainRefusedWrong : ChangeSpec := { name := "domainRefused", fn := fun _ => fun
  | [d] => { results := [.lit (.bool false)], args := [d] }
  | _ => none }
def DomainRefusedWrongFalsely : Prop := domainRefusedRow.holds Tryz.pinned (OpenSpec.ofChange domainRefusedWrong)

/-- 'berthlaw09.DomainNil': WHATEVER THE INPUT: true; the input reads as it did. -/
def domainNilSpec : ChangeSpec := { name := "domainNil", fn := fun _ => fun
  | [d1, d2] => { results := [.lit (.bool true)], args := [d1, d2] }
  | _ => none }
def domainNilRow : OpenClaim := { program := "ytmenipaibjifiaagreatdoor", sum := "d5b848dd3253044da53d0fc5f77aee151b6e29b951699720beb9a7db230edc26", func := "berth/berthlaw09.DomainNil", spec := "domainNil", inPlace := ["internal/bytealg.IndexByteString", "internal/bytealg.IndexString", "internal/bytealg.CountString"], unfollowed := true, recurses := true, named := ["internal/bytealg.MaxLen", "unicode/utf8.first", "unicode/utf8.acceptRanges"], plainKeys := false, apart := false, laid := [("unicode/utf8.acceptRanges", laid_unicode_utf8_acceptRanges), ("unicode/utf8.first", laid_unicode_utf8_first)] }
def DomainNilSaid : Prop := domainNilRow.holds Tryz.pinned (OpenSpec.ofChange domainNilSpec)

/-- ITS FALSE NEIGHBOUR: 'it returns false'. Refute it at one input. -/
def domainNilWrong : ChangeSpec := { name := "domainNil", fn := fun _ => fun
  | [d1, d2] => { results := [.lit (.bool false)], args := [d1, d2] }
  | _ => none }
def DomainNilWrongFalsely : Prop := domainNilRow.holds Tryz.pinned (OpenSpec.ofChange domainNilWrong)

/-- 'berthlaw06.ClusterChecks': WHATEVER THE INPUT: true; the input reads as it did. -/
def clusterChecksSpec : ChangeSpec := { name := "clusterChecks", fn := fun _ => fun
  | [d1, d2] => { results := [.lit (.bool true)], args := [d1, d2] }
  | _ => none }
def clusterChecksRow : OpenClaim := { program := "ytmenipaibjifiaagreatdoor", sum := "d5b848dd3253044da53d0fc5f77aee151b6e29b951699720beb9a7db230edc26", func := "berth/berthlaw06.ClusterChecks", spec := "clusterChecks", inPlace := ["internal/bytealg.CountString", "internal/bytealg.IndexByteString", "internal/bytealg.IndexString", "internal/reflectlite.ValueOf", "internal/reflectlite.Swapper", "(internal/reflectlite.Value).Len", "internal/bytealg.abigen_runtime_cmpstring"], unfollowed := true, recurses := true, named := ["unicode/utf8.first", "unicode/utf8.acceptRanges", "internal/bytealg.MaxLen"], plainKeys := false, apart := false, laid := [("unicode/utf8.acceptRanges", laid_unicode_utf8_acceptRanges), ("unicode/utf8.first", laid_unicode_utf8_first)] }
def ClusterChecksSaid : Prop := clusterChecksRow.holds Tryz.pinned (OpenSpec.ofChange clusterChecksSpec)

/-- ITS FALSE NEIGHBOUR: 'it returns false'. Refute it at one input. -/
def clusterChecksWrong : ChangeSpec := { name := "clusterChecks", fn := fun _ => fun
  | [d1, d2] => { results := [.lit (.bool false)], args := [d1, d2] }
  | _ => none }
def ClusterChecksWrongFalsely : Prop := clusterChecksRow.holds Tryz.pinned (OpenSpec.ofChange clusterChecksWrong)

/-- 'berthlaw06.ClusterCopies': WHATEVER THE INPUT: true; the input reads as it did. -/
def clusterCopiesSpec : ChangeSpec := { name := "clusterCopies", fn := fun _ => fun
  | [d1, d2] => { results := [.lit (.bool true)], args := [d1, d2] }
  | _ => none }
def clusterCopiesRow : OpenClaim := { program := "ytmenipaibjifiaagreatdoor", sum := "d5b848dd3253044da53d0fc5f77aee151b6e29b951699720beb9a7db230edc26", func := "berth/berthlaw06.ClusterCopies", spec := "clusterCopies", inPlace := ["internal/bytealg.CountString", "internal/bytealg.IndexByteString", "internal/bytealg.IndexString", "internal/reflectlite.ValueOf", "internal/reflectlite.Swapper", "(internal/reflectlite.Value).Len", "internal/bytealg.abigen_runtime_cmpstring"], unfollowed := true, recurses := true, named := ["unicode/utf8.first", "unicode/utf8.acceptRanges", "internal/bytealg.MaxLen"], plainKeys := false, apart := false, laid := [("unicode/utf8.acceptRanges", laid_unicode_utf8_acceptRanges), ("unicode/utf8.first", laid_unicode_utf8_first)] }
def ClusterCopiesSaid : Prop := clusterCopiesRow.holds Tryz.pinned (OpenSpec.ofChange clusterCopiesSpec)

/-- ITS FALSE NEIGHBOUR: 'it returns false'. Refute it at one input. -/
def clusterCopiesWrong : ChangeSpec := { name := "clusterCopies", fn := fun _ => fun
  | [d1, d2] => { results := [.lit (.bool false)], args := [d1, d2] }
  | _ => none }
def ClusterCopiesWrongFalsely : Prop := clusterCopiesRow.holds Tryz.pinned (OpenSpec.ofChange clusterCopiesWrong)

/- THE SECOND FORM. 'bulk': how many values and letters a reading holds, each counted each time it is reached (what is shared counts as often as it is met; a slice's spare places count too). A statement '..UptoSaid' is the law's where the arguments, and the package variables that the reading takes, are together of bulk at most 1048576: NARROWER than '..Said'. Prove '..Said' where nothing that the law and all that it calls make is longer than what came in: it says more and counts as full. Else prove '..UptoSaid'. A law counts once. -/
mutual
def uptoBulk {H : Type} : DataW H → Nat
  | .lit (.string bytes) => bytes.length + 1
  | .lit _ => 1
  | .nil => 1
  | .ptr d => uptoBulk d + 1
  | .slice elems spare => uptoBulkAll elems + uptoBulkAll spare + 1
  | .agg parts => uptoBulkAll parts + 1
  | .iface _ d => uptoBulk d + 1
  | .map entries => uptoBulkEntries entries + 1
  | .held _ => 1
def uptoBulkAll {H : Type} : List (DataW H) → Nat
  | [] => 0
  | d :: r => uptoBulk d + uptoBulkAll r
def uptoBulkEntries {H : Type} : List (Lit × DataW H) → Nat
  | [] => 0
  | x :: r => uptoBulkEntry x + uptoBulkEntries r
def uptoBulkEntry {H : Type} : Lit × DataW H → Nat
  | (.string bytes, d) => bytes.length + uptoBulk d + 1
  | (_, d) => uptoBulk d + 1
 end
def uptoSmall : (H : Type) → List (DataW H) → Bool := fun _ ds => decide (uptoBulkAll ds ≤ 1048576)
def OpenSpec.upto (s : _root_.Go.ChangeSpec) : _root_.Go.OpenSpec := { _root_.Go.OpenSpec.ofChange s with cond := some uptoSmall }

/-- 'berthlaw09.DomainAll', WHERE WHAT IT READS IS OF BULK AT MOST 1048576: true; the input reads as it did. -/
def domainAllUptoRow : OpenClaim := { program := "ytmenipaibjifiaagreatdoor", sum := "d5b848dd3253044da53d0fc5f77aee151b6e29b951699720beb9a7db230edc26", func := "berth/berthlaw09.DomainAll", spec := "domainAll", inPlace := ["internal/bytealg.IndexByteString", "internal/bytealg.IndexString", "internal/bytealg.CountString"], unfollowed := true, recurses := true, named := ["internal/bytealg.MaxLen", "unicode/utf8.first", "unicode/utf8.acceptRanges"], plainKeys := false, apart := false, laid := [("unicode/utf8.acceptRanges", laid_unicode_utf8_acceptRanges), ("unicode/utf8.first", laid_unicode_utf8_first)], narrowed := true }
def DomainAllUptoSaid : Prop := domainAllUptoRow.holds Tryz.pinned (OpenSpec.upto domainAllSpec)

/-- 'berthlaw09.DomainSame', WHERE WHAT IT READS IS OF BULK AT MOST 1048576: true; the input reads as it did. -/
def domainSameUptoRow : OpenClaim := { program := "ytmenipaibjifiaagreatdoor", sum := "d5b848dd3253044da53d0fc5f77aee151b6e29b951699720beb9a7db230edc26", func := "berth/berthlaw09.DomainSame", spec := "domainSame", inPlace := ["internal/bytealg.IndexByteString", "internal/bytealg.IndexString", "internal/bytealg.CountString"], unfollowed := true, recurses := true, named := ["internal/bytealg.MaxLen", "unicode/utf8.first", "unicode/utf8.acceptRanges"], plainKeys := false, apart := false, laid := [("unicode/utf8.acceptRanges", laid_unicode_utf8_acceptRanges), ("unicode/utf8.first", laid_unicode_utf8_first)], narrowed := true }
def DomainSameUptoSaid : Prop := domainSameUptoRow.holds Tryz.pinned (OpenSpec.upto domainSameSpec)

/-- 'berthlaw09.DomainRefused', WHERE WHAT IT READS IS OF BULK AT MOST 1048576: true; the input reads as it did. -/
def domainRefusedUptoRow : OpenClaim := { program := "ytmenipaibjifiaagreatdoor", sum := "d5b848dd3253044da53d0fc5f77aee151b6e29b951699720beb9a7db230edc26", func := "berth/berthlaw09.DomainRefused", spec := "domainRefused", inPlace := ["internal/bytealg.IndexByteString", "internal/bytealg.IndexString", "internal/bytealg.CountString"], unfollowed := true, recurses := true, named := ["internal/bytealg.MaxLen", "unicode/utf8.first", "unicode/utf8.acceptRanges"], plainKeys := false, apart := false, laid := [("unicode/utf8.acceptRanges", laid_unicode_utf8_acceptRanges), ("unicode/utf8.first", laid_unicode_utf8_first)], narrowed := true }
def DomainRefusedUptoSaid : Prop := domainRefusedUptoRow.holds Tryz.pinned (OpenSpec.upto domainRefusedSpec)

/-- 'berthlaw09.DomainNil', WHERE WHAT IT READS IS OF BULK AT MOST 1048576: true; the input reads as it did. -/
def domainNilUptoRow : OpenClaim := { program := "ytmenipaibjifiaagreatdoor", sum := "d5b848dd3253044da53d0fc5f77aee151b6e29b951699720beb9a7db230edc26", func := "berth/berthlaw09.DomainNil", spec := "domainNil", inPlace := ["internal/bytealg.IndexByteString", "internal/bytealg.IndexString", "internal/bytealg.CountString"], unfollowed := true, recurses := true, named := ["internal/bytealg.MaxLen", "unicode/utf8.first", "unicode/utf8.acceptRanges"], plainKeys := false, apart := false, laid := [("unicode/utf8.acceptRanges", laid_unicode_utf8_acceptRanges), ("unicode/utf8.first", laid_unicode_utf8_first)], narrowed := true }
def DomainNilUptoSaid : Prop := domainNilUptoRow.holds Tryz.pinned (OpenSpec.upto domainNilSpec)

/-- 'berthlaw06.ClusterChecks', WHERE WHAT IT READS IS OF BULK AT MOST 1048576: true; the input reads as it did. -/
def clusterChecksUptoRow : OpenClaim := { program := "ytmenipaibjifiaagreatdoor", sum := "d5b848dd3253044da53d0fc5f77aee151b6e29b951699720beb9a7db230edc26", func := "berth/berthlaw06.ClusterChecks", spec := "clusterChecks", inPlace := ["internal/bytealg.CountString", "internal/bytealg.IndexByteString", "internal/bytealg.IndexString", "internal/reflectlite.ValueOf", "internal/reflectlite.Swapper", "(internal/reflectlite.Value).Len", "internal/bytealg.abigen_runtime_cmpstring"], unfollowed := true, recurses := true, named := ["unicode/utf8.first", "unicode/utf8.acceptRanges", "internal/bytealg.MaxLen"], plainKeys := false, apart := false, laid := [("unicode/utf8.acceptRanges", laid_unicode_utf8_acceptRanges), ("unicode/utf8.first", laid_unicode_utf8_first)], narrowed := true }
def ClusterChecksUptoSaid : Prop := clusterChecksUptoRow.holds Tryz.pinned (OpenSpec.upto clusterChecksSpec)

/-- 'berthlaw06.ClusterCopies', WHERE WHAT IT READS IS OF BULK AT MOST 1048576: true; the input reads as it did. -/
def clusterCopiesUptoRow : OpenClaim := { program := "ytmenipaibjifiaagreatdoor", sum := "d5b848dd3253044da53d0fc5f77aee151b6e29b951699720beb9a7db230edc26", func := "berth/berthlaw06.ClusterCopies", spec := "clusterCopies", inPlace := ["internal/bytealg.CountString", "internal/bytealg.IndexByteString", "internal/bytealg.IndexString", "internal/reflectlite.ValueOf", "internal/reflectlite.Swapper", "(internal/reflectlite.Value).Len", "internal/bytealg.abigen_runtime_cmpstring"], unfollowed := true, recurses := true, named := ["unicode/utf8.first", "unicode/utf8.acceptRanges", "internal/bytealg.MaxLen"], plainKeys := false, apart := false, laid := [("unicode/utf8.acceptRanges", laid_unicode_utf8_acceptRanges), ("unicode/utf8.first", laid_unicode_utf8_first)], narrowed := true }
def ClusterCopiesUptoSaid : Prop := clusterCopiesUptoRow.holds Tryz.pinned (OpenSpec.upto clusterCopiesSpec)

end Rows
end Go.Proofs.YtmenipaibjifiaaGreatDoor
