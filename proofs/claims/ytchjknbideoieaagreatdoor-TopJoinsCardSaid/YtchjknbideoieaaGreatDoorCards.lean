/-
  DERIVED. GIVEN WITH THE SEED: THE CARDS: each row of YtchjknbideoieaaGreatDoorRows.lean that lists a variable, with what it lists TIED to the program's text (the seventh form; the later family's looks); each row that meets fmt, with fmt's text TOLD by the authors' own Lean function (tested against real Go, not proved from fmt's source: count such statements apart). THE CARD IS WHAT COUNTS. Prove the row's statement (the work); the ties are given (YtchjknbideoieaaGreatDoorTie.lean); close each card by the builder's one call (the guide's Derived/Test/ToyasCard.lean, 'card_holds'). Laid BY PROGRAM, IN A SANDBOX (cutbox-door.mjs). By AI agents, Wed Nov 11 2026. No macro, syntax, notation, axiom, sorry.
-/
import Derived.Test.YtchjknbideoieaaGreatDoorRows
import GoSem.ClaimSeven
namespace Go.Proofs.YtchjknbideoieaaGreatDoor
namespace Rows

/-- THE TIED CARD OF 'tantalustop.TopLevels'. -/
def topLevelsCard : Claim7 := { stood := { row := topLevelsRow, standIns := [], harness := (true, "cb152b7e90c9dfd9343b11b85a80960a9d414a5a93ec073e16f0c18f234a4cde"), looks := true }, kinds := [], alts := [], laidByText := true, laidKinds := [.data], laidTests := true, laidLooks := .later }
def TopLevelsCardSaid : Prop := Claim7.holds Tryz.pinned (.plain (OpenSpec.ofChange topLevelsSpec)) topLevelsCard

/-- THE TIED CARD OF 'tantalustop.TopJoins'. -/
def topJoinsCard : Claim7 := { stood := { row := topJoinsRow, standIns := [], harness := (true, "cb152b7e90c9dfd9343b11b85a80960a9d414a5a93ec073e16f0c18f234a4cde"), looks := true }, kinds := [], alts := [], laidByText := true, laidKinds := [.data], laidTests := true, laidLooks := .later }
def TopJoinsCardSaid : Prop := Claim7.holds Tryz.pinned (.plain (OpenSpec.ofChange topJoinsSpec)) topJoinsCard

/-- THE SECOND FORM's CARD OF 'tantalustop.TopLevels'. -/
def topLevelsUptoCard : Claim7 := { stood := { row := topLevelsUptoRow, standIns := [], harness := (true, "cb152b7e90c9dfd9343b11b85a80960a9d414a5a93ec073e16f0c18f234a4cde"), looks := true }, kinds := [], alts := [], laidByText := true, laidKinds := [.data], laidTests := true, laidLooks := .later }
def TopLevelsUptoCardSaid : Prop := Claim7.holds Tryz.pinned (.plain (OpenSpec.upto topLevelsSpec)) topLevelsUptoCard

/-- THE SECOND FORM's CARD OF 'tantalustop.TopJoins'. -/
def topJoinsUptoCard : Claim7 := { stood := { row := topJoinsUptoRow, standIns := [], harness := (true, "cb152b7e90c9dfd9343b11b85a80960a9d414a5a93ec073e16f0c18f234a4cde"), looks := true }, kinds := [], alts := [], laidByText := true, laidKinds := [.data], laidTests := true, laidLooks := .later }
def TopJoinsUptoCardSaid : Prop := Claim7.holds Tryz.pinned (.plain (OpenSpec.upto topJoinsSpec)) topJoinsUptoCard
end Rows
end Go.Proofs.YtchjknbideoieaaGreatDoor
