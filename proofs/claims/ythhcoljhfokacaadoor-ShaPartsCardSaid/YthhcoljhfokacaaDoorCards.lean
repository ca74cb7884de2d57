/-
  DERIVED. GIVEN WITH THE SEED: THE CARDS: each row of YthhcoljhfokacaaDoorRows.lean that lists a variable, with what it lists TIED to the program's text (the seventh form; the later family's looks); each row that meets fmt, with fmt's text TOLD by the authors' own Lean function (tested against real Go, not proved from fmt's source: count such statements apart). THE CARD IS WHAT COUNTS. Prove the row's statement (the work); the ties are given (YthhcoljhfokacaaDoorTie.lean); close each card by the builder's one call (the guide's Derived/Test/ToyasCard.lean, 'card_holds'). Laid BY PROGRAM, IN A SANDBOX (cutbox-door.mjs). By AI agents, Wed Nov 11 2026. No macro, syntax, notation, axiom, sorry.
-/
import Derived.Test.YthhcoljhfokacaaDoorRows
import GoSem.ClaimSeven
namespace Go.Proofs.YthhcoljhfokacaaDoor
namespace Rows

/-- THE TIED CARD OF 'tantaluslaw03.ShaSums'. -/
def shaSumsCard : Claim7 := { stood := { row := shaSumsRow, standIns := [], harness := (true, "2b25853bbe21de466146c0ddd5823d2a4b97b1266c909cfc183abcc46ee0af2e"), looks := false }, kinds := [], alts := [], laidByText := true, laidKinds := [.data, .data], laidTests := true, laidLooks := .later }
def ShaSumsCardSaid : Prop := Claim7.holds Tryd.pinned (.plain (OpenSpec.ofChange shaSumsSpec)) shaSumsCard

/-- THE TIED CARD OF 'tantaluslaw03.ShaNil'. -/
def shaNilCard : Claim7 := { stood := { row := shaNilRow, standIns := [], harness := (true, "2b25853bbe21de466146c0ddd5823d2a4b97b1266c909cfc183abcc46ee0af2e"), looks := false }, kinds := [], alts := [], laidByText := true, laidKinds := [.data], laidTests := true, laidLooks := .later }
def ShaNilCardSaid : Prop := Claim7.holds Tryd.pinned (.plain (OpenSpec.ofChange shaNilSpec)) shaNilCard

/-- THE TIED CARD OF 'tantaluslaw03.ShaStates'. -/
def shaStatesCard : Claim7 := { stood := { row := shaStatesRow, standIns := [], harness := (true, "2b25853bbe21de466146c0ddd5823d2a4b97b1266c909cfc183abcc46ee0af2e"), looks := false }, kinds := [], alts := [], laidByText := true, laidKinds := [.data, .data], laidTests := true, laidLooks := .later }
def ShaStatesCardSaid : Prop := Claim7.holds Tryd.pinned (.plain (OpenSpec.ofChange shaStatesSpec)) shaStatesCard

/-- THE TIED CARD OF 'tantaluslaw03.ShaParts'. -/
def shaPartsCard : Claim7 := { stood := { row := shaPartsRow, standIns := [], harness := (true, "2b25853bbe21de466146c0ddd5823d2a4b97b1266c909cfc183abcc46ee0af2e"), looks := false }, kinds := [], alts := [], laidByText := true, laidKinds := [.data], laidTests := true, laidLooks := .later }
def ShaPartsCardSaid : Prop := Claim7.holds Tryd.pinned (.plain (OpenSpec.ofChange shaPartsSpec)) shaPartsCard

/-- THE TIED CARD OF 'tantaluslaw03.ShaApart'. -/
def shaApartCard : Claim7 := { stood := { row := shaApartRow, standIns := [], harness := (true, "2b25853bbe21de466146c0ddd5823d2a4b97b1266c909cfc183abcc46ee0af2e"), looks := false }, kinds := [], alts := [], laidByText := true, laidKinds := [.data], laidTests := true, laidLooks := .later }
def ShaApartCardSaid : Prop := Claim7.holds Tryd.pinned (.plain (OpenSpec.ofChange shaApartSpec)) shaApartCard

/-- THE SECOND FORM's CARD OF 'tantaluslaw03.ShaSums'. -/
def shaSumsUptoCard : Claim7 := { stood := { row := shaSumsUptoRow, standIns := [], harness := (true, "2b25853bbe21de466146c0ddd5823d2a4b97b1266c909cfc183abcc46ee0af2e"), looks := false }, kinds := [], alts := [], laidByText := true, laidKinds := [.data, .data], laidTests := true, laidLooks := .later }
def ShaSumsUptoCardSaid : Prop := Claim7.holds Tryd.pinned (.plain (OpenSpec.upto shaSumsSpec)) shaSumsUptoCard

/-- THE SECOND FORM's CARD OF 'tantaluslaw03.ShaNil'. -/
def shaNilUptoCard : Claim7 := { stood := { row := shaNilUptoRow, standIns := [], harness := (true, "2b25853bbe21de466146c0ddd5823d2a4b97b1266c909cfc183abcc46ee0af2e"), looks := false }, kinds := [], alts := [], laidByText := true, laidKinds := [.data], laidTests := true, laidLooks := .later }
def ShaNilUptoCardSaid : Prop := Claim7.holds Tryd.pinned (.plain (OpenSpec.upto shaNilSpec)) shaNilUptoCard

/-- THE SECOND FORM's CARD OF 'tantaluslaw03.ShaStates'. -/
def shaStatesUptoCard : Claim7 := { stood := { row := shaStatesUptoRow, standIns := [], harness := (true, "2b25853bbe21de466146c0ddd5823d2a4b97b1266c909cfc183abcc46ee0af2e"), looks := false }, kinds := [], alts := [], laidByText := true, laidKinds := [.data, .data], laidTests := true, laidLooks := .later }
def ShaStatesUptoCardSaid : Prop := Claim7.holds Tryd.pinned (.plain (OpenSpec.upto shaStatesSpec)) shaStatesUptoCard

/-- THE SECOND FORM's CARD OF 'tantaluslaw03.ShaParts'. -/
def shaPartsUptoCard : Claim7 := { stood := { row := shaPartsUptoRow, standIns := [], harness := (true, "2b25853bbe21de466146c0ddd5823d2a4b97b1266c909cfc183abcc46ee0af2e"), looks := false }, kinds := [], alts := [], laidByText := true, laidKinds := [.data], laidTests := true, laidLooks := .later }
def ShaPartsUptoCardSaid : Prop := Claim7.holds Tryd.pinned (.plain (OpenSpec.upto shaPartsSpec)) shaPartsUptoCard

/-- THE SECOND FORM's CARD OF 'tantaluslaw03.ShaApart'. -/
def shaApartUptoCard : Claim7 := { stood := { row := shaApartUptoRow, standIns := [], harness := (true, "2b25853bbe21de466146c0ddd5823d2a4b97b1266c909cfc183abcc46ee0af2e"), looks := false }, kinds := [], alts := [], laidByText := true, laidKinds := [.data], laidTests := true, laidLooks := .later }
def ShaApartUptoCardSaid : Prop := Claim7.holds Tryd.pinned (.plain (OpenSpec.upto shaApartSpec)) shaApartUptoCard
end Rows
end Go.Proofs.YthhcoljhfokacaaDoor
