/-
  DERIVED. GIVEN WITH THE SEED: THE CARDS: each row of YtjmlohfldkbbaaaDoorRows.lean that lists a variable, with what it lists TIED to the program's text (the seventh form; the later family's looks); each row that meets fmt, with fmt's text TOLD by the authors' own Lean function (tested against real Go, not proved from fmt's source: count such statements apart). THE CARD IS WHAT COUNTS. Prove the row's statement (the work); the ties are given (YtjmlohfldkbbaaaDoorTie.lean); close each card by the builder's one call (the guide's Derived/Test/ToyasCard.lean, 'card_holds'). Laid BY PROGRAM, IN A SANDBOX (cutbox-door.mjs). By AI agents, Wed Nov 11 2026. No macro, syntax, notation, axiom, sorry.
-/
import Derived.Test.YtjmlohfldkbbaaaDoorRows
import GoSem.ClaimSeven
namespace Go.Proofs.YtjmlohfldkbbaaaDoor
namespace Rows

/-- THE TIED CARD OF 'tantaluslaw11.MerkleProofs'. -/
def merkleProofsCard : Claim7 := { stood := { row := merkleProofsRow, standIns := [], harness := (true, "30ec03efe8a07f1cb3db62628e6dc8d932887b69c8cd2d33b029df29167b3ee1"), looks := false }, kinds := [], alts := [], laidByText := true, laidKinds := [.data, .data], laidTests := true, laidLooks := .later }
def MerkleProofsCardSaid : Prop := Claim7.holds Tryd.pinned (.plain (OpenSpec.ofChange merkleProofsSpec)) merkleProofsCard

/-- THE TIED CARD OF 'tantaluslaw11.MerkleChecks'. -/
def merkleChecksCard : Claim7 := { stood := { row := merkleChecksRow, standIns := [], harness := (true, "30ec03efe8a07f1cb3db62628e6dc8d932887b69c8cd2d33b029df29167b3ee1"), looks := false }, kinds := [], alts := [], laidByText := true, laidKinds := [.data, .data], laidTests := true, laidLooks := .later }
def MerkleChecksCardSaid : Prop := Claim7.holds Tryd.pinned (.plain (OpenSpec.ofChange merkleChecksSpec)) merkleChecksCard

/-- THE TIED CARD OF 'tantaluslaw11.MerkleHeld'. -/
def merkleHeldCard : Claim7 := { stood := { row := merkleHeldRow, standIns := [], harness := (true, "30ec03efe8a07f1cb3db62628e6dc8d932887b69c8cd2d33b029df29167b3ee1"), looks := false }, kinds := [], alts := [], laidByText := true, laidKinds := [.data], laidTests := true, laidLooks := .later }
def MerkleHeldCardSaid : Prop := Claim7.holds Tryd.pinned (.plain (OpenSpec.ofChange merkleHeldSpec)) merkleHeldCard

/-- THE TIED CARD OF 'tantaluslaw11.MerkleApart'. -/
def merkleApartCard : Claim7 := { stood := { row := merkleApartRow, standIns := [], harness := (true, "30ec03efe8a07f1cb3db62628e6dc8d932887b69c8cd2d33b029df29167b3ee1"), looks := false }, kinds := [], alts := [], laidByText := true, laidKinds := [.data], laidTests := true, laidLooks := .later }
def MerkleApartCardSaid : Prop := Claim7.holds Tryd.pinned (.plain (OpenSpec.ofChange merkleApartSpec)) merkleApartCard

/-- THE TIED CARD OF 'tantaluslaw11.MerklePlaces'. -/
def merklePlacesCard : Claim7 := { stood := { row := merklePlacesRow, standIns := [], harness := (true, "30ec03efe8a07f1cb3db62628e6dc8d932887b69c8cd2d33b029df29167b3ee1"), looks := false }, kinds := [], alts := [], laidByText := true, laidKinds := [.data], laidTests := true, laidLooks := .later }
def MerklePlacesCardSaid : Prop := Claim7.holds Tryd.pinned (.plain (OpenSpec.ofChange merklePlacesSpec)) merklePlacesCard

/-- THE TIED CARD OF 'tantaluslaw11.MerkleRoots'. -/
def merkleRootsCard : Claim7 := { stood := { row := merkleRootsRow, standIns := [], harness := (true, "30ec03efe8a07f1cb3db62628e6dc8d932887b69c8cd2d33b029df29167b3ee1"), looks := false }, kinds := [], alts := [], laidByText := true, laidKinds := [.data, .data], laidTests := true, laidLooks := .later }
def MerkleRootsCardSaid : Prop := Claim7.holds Tryd.pinned (.plain (OpenSpec.ofChange merkleRootsSpec)) merkleRootsCard

/-- THE SECOND FORM's CARD OF 'tantaluslaw11.MerkleProofs'. -/
def merkleProofsUptoCard : Claim7 := { stood := { row := merkleProofsUptoRow, standIns := [], harness := (true, "30ec03efe8a07f1cb3db62628e6dc8d932887b69c8cd2d33b029df29167b3ee1"), looks := false }, kinds := [], alts := [], laidByText := true, laidKinds := [.data, .data], laidTests := true, laidLooks := .later }
def MerkleProofsUptoCardSaid : Prop := Claim7.holds Tryd.pinned (.plain (OpenSpec.upto merkleProofsSpec)) merkleProofsUptoCard

/-- THE SECOND FORM's CARD OF 'tantaluslaw11.MerkleChecks'. -/
def merkleChecksUptoCard : Claim7 := { stood := { row := merkleChecksUptoRow, standIns := [], harness := (true, "30ec03efe8a07f1cb3db62628e6dc8d932887b69c8cd2d33b029df29167b3ee1"), looks := false }, kinds := [], alts := [], laidByText := true, laidKinds := [.data, .data], laidTests := true, laidLooks := .later }
def MerkleChecksUptoCardSaid : Prop := Claim7.holds Tryd.pinned (.plain (OpenSpec.upto merkleChecksSpec)) merkleChecksUptoCard

/-- THE SECOND FORM's CARD OF 'tantaluslaw11.MerkleHeld'. -/
def merkleHeldUptoCard : Claim7 := { stood := { row := merkleHeldUptoRow, standIns := [], harness := (true, "30ec03efe8a07f1cb3db62628e6dc8d932887b69c8cd2d33b029df29167b3ee1"), looks := false }, kinds := [], alts := [], laidByText := true, laidKinds := [.data], laidTests := true, laidLooks := .later }
def MerkleHeldUptoCardSaid : Prop := Claim7.holds Tryd.pinned (.plain (OpenSpec.upto merkleHeldSpec)) merkleHeldUptoCard

/-- THE SECOND FORM's CARD OF 'tantaluslaw11.MerkleApart'. -/
def merkleApartUptoCard : Claim7 := { stood := { row := merkleApartUptoRow, standIns := [], harness := (true, "30ec03efe8a07f1cb3db62628e6dc8d932887b69c8cd2d33b029df29167b3ee1"), looks := false }, kinds := [], alts := [], laidByText := true, laidKinds := [.data], laidTests := true, laidLooks := .later }
def MerkleApartUptoCardSaid : Prop := Claim7.holds Tryd.pinned (.plain (OpenSpec.upto merkleApartSpec)) merkleApartUptoCard

/-- THE SECOND FORM's CARD OF 'tantaluslaw11.MerklePlaces'. -/
def merklePlacesUptoCard : Claim7 := { stood := { row := merklePlacesUptoRow, standIns := [], harness := (true, "30ec03efe8a07f1cb3db62628e6dc8d932887b69c8cd2d33b029df29167b3ee1"), looks := false }, kinds := [], alts := [], laidByText := true, laidKinds := [.data], laidTests := true, laidLooks := .later }
def MerklePlacesUptoCardSaid : Prop := Claim7.holds Tryd.pinned (.plain (OpenSpec.upto merklePlacesSpec)) merklePlacesUptoCard

/-- THE SECOND FORM's CARD OF 'tantaluslaw11.MerkleRoots'. -/
def merkleRootsUptoCard : Claim7 := { stood := { row := merkleRootsUptoRow, standIns := [], harness := (true, "30ec03efe8a07f1cb3db62628e6dc8d932887b69c8cd2d33b029df29167b3ee1"), looks := false }, kinds := [], alts := [], laidByText := true, laidKinds := [.data, .data], laidTests := true, laidLooks := .later }
def MerkleRootsUptoCardSaid : Prop := Claim7.holds Tryd.pinned (.plain (OpenSpec.upto merkleRootsSpec)) merkleRootsUptoCard
end Rows
end Go.Proofs.YtjmlohfldkbbaaaDoor
