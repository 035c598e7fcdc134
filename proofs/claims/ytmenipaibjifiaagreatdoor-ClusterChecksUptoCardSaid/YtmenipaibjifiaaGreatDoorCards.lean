/-
  DERIVED. GIVEN WITH THE SEED: THE CARDS: each row of YtmenipaibjifiaaGreatDoorRows.lean that lists a variable, with what it lists TIED to the program's text (the seventh form; the later family's looks); each row that meets fmt, with fmt's text TOLD by the authors' own Lean function (tested against real Go, not proved from fmt's source: count such statements apart). THE CARD IS WHAT COUNTS. Prove the row's statement (the work); the ties are given (YtmenipaibjifiaaGreatDoorTie.lean); close each card by the builder's one call (the guide's Derived/Test/ToyasCard.lean, 'card_holds'). Laid BY PROGRAM, IN A SANDBOX (cutbox-door.mjs). By AI agents, Wed Nov 11 2026. No macro, syntax, notation, axiom, sorry.
-/
import Derived.Test.YtmenipaibjifiaaGreatDoorRows
import GoSem.ClaimSeven
namespace Go.Proofs.YtmenipaibjifiaaGreatDoor
namespace Rows

/-- THE TIED CARD OF 'berthlaw09.DomainAll'. -/
def domainAllCard : Claim7 := { stood := { row := domainAllRow, standIns := [], harness := (true, "e537c1451ef550d080f45a5b61b468f7fb75197741d080b446fb1ed7288f84e4"), looks := true }, kinds := [], alts := [], laidByText := true, laidKinds := [.data, .pinned], laidTests := true, laidLooks := .later }
def DomainAllCardSaid : Prop := Claim7.holds Tryz.pinned (.plain (OpenSpec.ofChange domainAllSpec)) domainAllCard

/-- THE TIED CARD OF 'berthlaw09.DomainSame'. -/
def domainSameCard : Claim7 := { stood := { row := domainSameRow, standIns := [], harness := (true, "e537c1451ef550d080f45a5b61b468f7fb75197741d080b446fb1ed7288f84e4"), looks := true }, kinds := [], alts := [], laidByText := true, laidKinds := [.data, .pinned], laidTests := true, laidLooks := .later }
def DomainSameCardSaid : Prop := Claim7.holds Tryz.pinned (.plain (OpenSpec.ofChange domainSameSpec)) domainSameCard

/-- THE TIED CARD OF 'berthlaw09.DomainRefused'. -/
def domainRefusedCard : Claim7 := { stood := { row := domainRefusedRow, standIns := [], harness := (true, "e537c1451ef550d080f45a5b61b468f7fb75197741d080b446fb1ed7288f84e4"), looks := true }, kinds := [], alts := [], laidByText := true, laidKinds := [.data, .pinned], laidTests := true, laidLooks := .later }
def DomainRefusedCardSaid : Prop := Claim7.holds Tryz.pinned (.plain (OpenSpec.ofChange domainRefusedSpec)) domainRefusedCard

/-- THE TIED CARD OF 'berthlaw09.DomainNil'. -/
def domainNilCard : Claim7 := { stood := { row := domainNilRow, standIns := [], harness := (true, "e537c1451ef550d080f45a5b61b468f7fb75197741d080b446fb1ed7288f84e4"), looks := true }, kinds := [], alts := [], laidByText := true, laidKinds := [.data, .pinned], laidTests := true, laidLooks := .later }
def DomainNilCardSaid : Prop := Claim7.holds Tryz.pinned (.plain (OpenSpec.ofChange domainNilSpec)) domainNilCard

/-- THE TIED CARD OF 'berthlaw06.ClusterChecks'. -/
def clusterChecksCard : Claim7 := { stood := { row := clusterChecksRow, standIns := [], harness := (true, "e537c1451ef550d080f45a5b61b468f7fb75197741d080b446fb1ed7288f84e4"), looks := true }, kinds := [], alts := [], laidByText := true, laidKinds := [.data, .pinned], laidTests := true, laidLooks := .later }
def ClusterChecksCardSaid : Prop := Claim7.holds Tryz.pinned (.plain (OpenSpec.ofChange clusterChecksSpec)) clusterChecksCard

/-- THE TIED CARD OF 'berthlaw06.ClusterCopies'. -/
def clusterCopiesCard : Claim7 := { stood := { row := clusterCopiesRow, standIns := [], harness := (true, "e537c1451ef550d080f45a5b61b468f7fb75197741d080b446fb1ed7288f84e4"), looks := true }, kinds := [], alts := [], laidByText := true, laidKinds := [.data, .pinned], laidTests := true, laidLooks := .later }
def ClusterCopiesCardSaid : Prop := Claim7.holds Tryz.pinned (.plain (OpenSpec.ofChange clusterCopiesSpec)) clusterCopiesCard

/-- THE SECOND FORM's CARD OF 'berthlaw09.DomainAll'. -/
def domainAllUptoCard : Claim7 := { stood := { row := domainAllUptoRow, standIns := [], harness := (true, "e537c1451ef550d080f45a5b61b468f7fb75197741d080b446fb1ed7288f84e4"), looks := true }, kinds := [], alts := [], laidByText := true, laidKinds := [.data, .pinned], laidTests := true, laidLooks := .later }
def DomainAllUptoCardSaid : Prop := Claim7.holds Tryz.pinned (.plain (OpenSpec.upto domainAllSpec)) domainAllUptoCard

/-- THE SECOND FORM's CARD OF 'berthlaw09.DomainSame'. -/
def domainSameUptoCard : Claim7 := { stood := { row := domainSameUptoRow, standIns := [], harness := (true, "e537c1451ef550d080f45a5b61b468f7fb75197741d080b446fb1ed7288f84e4"), looks := true }, kinds := [], alts := [], laidByText := true, laidKinds := [.data, .pinned], laidTests := true, laidLooks := .later }
def DomainSameUptoCardSaid : Prop := Claim7.holds Tryz.pinned (.plain (OpenSpec.upto domainSameSpec)) domainSameUptoCard

/-- THE SECOND FORM's CARD OF 'berthlaw09.DomainRefused'. -/
def domainRefusedUptoCard : Claim7 := { stood := { row := domainRefusedUptoRow, standIns := [], harness := (true, "e537c1451ef550d080f45a5b61b468f7fb75197741d080b446fb1ed7288f84e4"), looks := true }, kinds := [], alts := [], laidByText := true, laidKinds := [.data, .pinned], laidTests := true, laidLooks := .later }
def DomainRefusedUptoCardSaid : Prop := Claim7.holds Tryz.pinned (.plain (OpenSpec.upto domainRefusedSpec)) domainRefusedUptoCard

/-- THE SECOND FORM's CARD OF 'berthlaw09.DomainNil'. -/
def domainNilUptoCard : Claim7 := { stood := { row := domainNilUptoRow, standIns := [], harness := (true, "e537c1451ef550d080f45a5b61b468f7fb75197741d080b446fb1ed7288f84e4"), looks := true }, kinds := [], alts := [], laidByText := true, laidKinds := [.data, .pinned], laidTests := true, laidLooks := .later }
def DomainNilUptoCardSaid : Prop := Claim7.holds Tryz.pinned (.plain (OpenSpec.upto domainNilSpec)) domainNilUptoCard

/-- THE SECOND FORM's CARD OF 'berthlaw06.ClusterChecks'. -/
def clusterChecksUptoCard : Claim7 := { stood := { row := clusterChecksUptoRow, standIns := [], harness := (true, "e537c1451ef550d080f45a5b61b468f7fb75197741d080b446fb1ed7288f84e4"), looks := true }, kinds := [], alts := [], laidByText := true, laidKinds := [.data, .pinned], laidTests := true, laidLooks := .later }
def ClusterChecksUptoCardSaid : Prop := Claim7.holds Tryz.pinned (.plain (OpenSpec.upto clusterChecksSpec)) clusterChecksUptoCard

/-- THE SECOND FORM's CARD OF 'berthlaw06.ClusterCopies'. -/
def clusterCopiesUptoCard : Claim7 := { stood := { row := clusterCopiesUptoRow, standIns := [], harness := (true, "e537c1451ef550d080f45a5b61b468f7fb75197741d080b446fb1ed7288f84e4"), looks := true }, kinds := [], alts := [], laidByText := true, laidKinds := [.data, .pinned], laidTests := true, laidLooks := .later }
def ClusterCopiesUptoCardSaid : Prop := Claim7.holds Tryz.pinned (.plain (OpenSpec.upto clusterCopiesSpec)) clusterCopiesUptoCard
end Rows
end Go.Proofs.YtmenipaibjifiaaGreatDoor
