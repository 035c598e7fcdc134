/-
  DERIVED. GIVEN WITH THE SEED: THE CARDS: each row of YtdceflgemhcgcaaGreatDoorRows.lean that lists a variable, with what it lists TIED to the program's text (the seventh form; the later family's looks); each row that meets fmt, with fmt's text TOLD by the authors' own Lean function (tested against real Go, not proved from fmt's source: count such statements apart). THE CARD IS WHAT COUNTS. Prove the row's statement (the work); the ties are given (YtdceflgemhcgcaaGreatDoorTie.lean); close each card by the builder's one call (the guide's Derived/Test/ToyasCard.lean, 'card_holds'). Laid BY PROGRAM, IN A SANDBOX (cutbox-door.mjs). By AI agents, Wed Nov 11 2026. No macro, syntax, notation, axiom, sorry.
-/
import Derived.Test.YtdceflgemhcgcaaGreatDoorRows
import GoSem.ClaimSeven
namespace Go.Proofs.YtdceflgemhcgcaaGreatDoor
namespace Rows

/-- THE TIED CARD OF 'berthlaw06.ClusterCopies'. -/
def clusterCopiesCard : Claim7 := { stood := { row := clusterCopiesRow, standIns := [], harness := (true, "f8a7efdd88822147037dd14c2a7582979f0fb4208287b288c9490e7be0b673e4"), looks := true }, kinds := [], alts := [], laidByText := true, laidKinds := [.data, .pinned], laidTests := true, laidLooks := .later }
def ClusterCopiesCardSaid : Prop := Claim7.holds Tryz.pinned (.plain (OpenSpec.ofChange clusterCopiesSpec)) clusterCopiesCard

/-- THE TIED CARD OF 'berthlaw06.ClusterActs'. -/
def clusterActsCard : Claim7 := { stood := { row := clusterActsRow, standIns := [], harness := (true, "f8a7efdd88822147037dd14c2a7582979f0fb4208287b288c9490e7be0b673e4"), looks := true }, kinds := [], alts := [], laidByText := true, laidKinds := [.data, .pinned], laidTests := true, laidLooks := .later }
def ClusterActsCardSaid : Prop := Claim7.holds Tryz.pinned (.plain (OpenSpec.ofChange clusterActsSpec)) clusterActsCard

/-- THE TIED CARD OF 'berthlaw06.ClusterWalks'. -/
def clusterWalksCard : Claim7 := { stood := { row := clusterWalksRow, standIns := [], harness := (true, "f8a7efdd88822147037dd14c2a7582979f0fb4208287b288c9490e7be0b673e4"), looks := true }, kinds := [], alts := [], laidByText := true, laidKinds := [.data, .pinned], laidTests := true, laidLooks := .later }
def ClusterWalksCardSaid : Prop := Claim7.holds Tryz.pinned (.plain (OpenSpec.ofChange clusterWalksSpec)) clusterWalksCard

/-- THE TIED CARD OF 'berthlaw06.ClusterTold'. -/
def clusterToldCard : Claim7 := { stood := { row := clusterToldRow, standIns := [], harness := (true, "f8a7efdd88822147037dd14c2a7582979f0fb4208287b288c9490e7be0b673e4"), looks := true }, kinds := [], alts := [], laidByText := true, laidKinds := [.data, .pinned], laidTests := true, laidLooks := .later }
def ClusterToldCardSaid : Prop := Claim7.holds Tryz.pinned (.plain (OpenSpec.ofChange clusterToldSpec)) clusterToldCard

/-- THE TIED CARD OF 'berthlaw06.ClusterRefused'. -/
def clusterRefusedCard : Claim7 := { stood := { row := clusterRefusedRow, standIns := [], harness := (true, "f8a7efdd88822147037dd14c2a7582979f0fb4208287b288c9490e7be0b673e4"), looks := true }, kinds := [], alts := [], laidByText := true, laidKinds := [.data, .pinned], laidTests := true, laidLooks := .later }
def ClusterRefusedCardSaid : Prop := Claim7.holds Tryz.pinned (.plain (OpenSpec.ofChange clusterRefusedSpec)) clusterRefusedCard

/-- THE TIED CARD OF 'berthlaw06.ClusterAll'. -/
def clusterAllCard : Claim7 := { stood := { row := clusterAllRow, standIns := [], harness := (true, "f8a7efdd88822147037dd14c2a7582979f0fb4208287b288c9490e7be0b673e4"), looks := true }, kinds := [], alts := [], laidByText := true, laidKinds := [.data, .pinned], laidTests := true, laidLooks := .later }
def ClusterAllCardSaid : Prop := Claim7.holds Tryz.pinned (.plain (OpenSpec.ofChange clusterAllSpec)) clusterAllCard

/-- THE SECOND FORM's CARD OF 'berthlaw06.ClusterCopies'. -/
def clusterCopiesUptoCard : Claim7 := { stood := { row := clusterCopiesUptoRow, standIns := [], harness := (true, "f8a7efdd88822147037dd14c2a7582979f0fb4208287b288c9490e7be0b673e4"), looks := true }, kinds := [], alts := [], laidByText := true, laidKinds := [.data, .pinned], laidTests := true, laidLooks := .later }
def ClusterCopiesUptoCardSaid : Prop := Claim7.holds Tryz.pinned (.plain (OpenSpec.upto clusterCopiesSpec)) clusterCopiesUptoCard

/-- THE SECOND FORM's CARD OF 'berthlaw06.ClusterActs'. -/
def clusterActsUptoCard : Claim7 := { stood := { row := clusterActsUptoRow, standIns := [], harness := (true, "f8a7efdd88822147037dd14c2a7582979f0fb4208287b288c9490e7be0b673e4"), looks := true }, kinds := [], alts := [], laidByText := true, laidKinds := [.data, .pinned], laidTests := true, laidLooks := .later }
def ClusterActsUptoCardSaid : Prop := Claim7.holds Tryz.pinned (.plain (OpenSpec.upto clusterActsSpec)) clusterActsUptoCard

/-- THE SECOND FORM's CARD OF 'berthlaw06.ClusterWalks'. -/
def clusterWalksUptoCard : Claim7 := { stood := { row := clusterWalksUptoRow, standIns := [], harness := (true, "f8a7efdd88822147037dd14c2a7582979f0fb4208287b288c9490e7be0b673e4"), looks := true }, kinds := [], alts := [], laidByText := true, laidKinds := [.data, .pinned], laidTests := true, laidLooks := .later }
def ClusterWalksUptoCardSaid : Prop := Claim7.holds Tryz.pinned (.plain (OpenSpec.upto clusterWalksSpec)) clusterWalksUptoCard

/-- THE SECOND FORM's CARD OF 'berthlaw06.ClusterTold'. -/
def clusterToldUptoCard : Claim7 := { stood := { row := clusterToldUptoRow, standIns := [], harness := (true, "f8a7efdd88822147037dd14c2a7582979f0fb4208287b288c9490e7be0b673e4"), looks := true }, kinds := [], alts := [], laidByText := true, laidKinds := [.data, .pinned], laidTests := true, laidLooks := .later }
def ClusterToldUptoCardSaid : Prop := Claim7.holds Tryz.pinned (.plain (OpenSpec.upto clusterToldSpec)) clusterToldUptoCard

/-- THE SECOND FORM's CARD OF 'berthlaw06.ClusterRefused'. -/
def clusterRefusedUptoCard : Claim7 := { stood := { row := clusterRefusedUptoRow, standIns := [], harness := (true, "f8a7efdd88822147037dd14c2a7582979f0fb4208287b288c9490e7be0b673e4"), looks := true }, kinds := [], alts := [], laidByText := true, laidKinds := [.data, .pinned], laidTests := true, laidLooks := .later }
def ClusterRefusedUptoCardSaid : Prop := Claim7.holds Tryz.pinned (.plain (OpenSpec.upto clusterRefusedSpec)) clusterRefusedUptoCard

/-- THE SECOND FORM's CARD OF 'berthlaw06.ClusterAll'. -/
def clusterAllUptoCard : Claim7 := { stood := { row := clusterAllUptoRow, standIns := [], harness := (true, "f8a7efdd88822147037dd14c2a7582979f0fb4208287b288c9490e7be0b673e4"), looks := true }, kinds := [], alts := [], laidByText := true, laidKinds := [.data, .pinned], laidTests := true, laidLooks := .later }
def ClusterAllUptoCardSaid : Prop := Claim7.holds Tryz.pinned (.plain (OpenSpec.upto clusterAllSpec)) clusterAllUptoCard
end Rows
end Go.Proofs.YtdceflgemhcgcaaGreatDoor
