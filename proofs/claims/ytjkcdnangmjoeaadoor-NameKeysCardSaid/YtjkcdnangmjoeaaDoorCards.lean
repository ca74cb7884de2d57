/-
  DERIVED. GIVEN WITH THE SEED: THE CARDS: each row of YtjkcdnangmjoeaaDoorRows.lean that lists a variable, with what it lists TIED to the program's text (the seventh form; the later family's looks); each row that meets fmt, with fmt's text TOLD by the authors' own Lean function (tested against real Go, not proved from fmt's source: count such statements apart). THE CARD IS WHAT COUNTS. Prove the row's statement (the work); the ties are given (YtjkcdnangmjoeaaDoorTie.lean); close each card by the builder's one call (the guide's Derived/Test/ToyasCard.lean, 'card_holds'). Laid BY PROGRAM, IN A SANDBOX (cutbox-door.mjs). By AI agents, Wed Nov 11 2026. No macro, syntax, notation, axiom, sorry.
-/
import Derived.Test.YtjkcdnangmjoeaaDoorRows
import GoSem.ClaimSeven
namespace Go.Proofs.YtjkcdnangmjoeaaDoor
namespace Rows

/-- THE TIED CARD OF 'tantaluslaw07.NameKeys'. -/
def nameKeysCard : Claim7 := { stood := { row := nameKeysRow, standIns := [], harness := (true, "7049f0676608f41cb7da3250b080c7a91eeaa2384dca69aa8dd8bc34a27512dc"), looks := false }, kinds := [], alts := [], laidByText := true, laidKinds := [.data, .data], laidTests := true, laidLooks := .later }
def NameKeysCardSaid : Prop := Claim7.holds Tryd.pinned (.plain (OpenSpec.ofChange nameKeysSpec)) nameKeysCard

/-- THE SECOND FORM's CARD OF 'tantaluslaw07.NameKeys'. -/
def nameKeysUptoCard : Claim7 := { stood := { row := nameKeysUptoRow, standIns := [], harness := (true, "7049f0676608f41cb7da3250b080c7a91eeaa2384dca69aa8dd8bc34a27512dc"), looks := false }, kinds := [], alts := [], laidByText := true, laidKinds := [.data, .data], laidTests := true, laidLooks := .later }
def NameKeysUptoCardSaid : Prop := Claim7.holds Tryd.pinned (.plain (OpenSpec.upto nameKeysSpec)) nameKeysUptoCard
end Rows
end Go.Proofs.YtjkcdnangmjoeaaDoor
