/-
  DERIVED. GIVEN WITH THE SEED: THE CARDS: each row of YtlkogeccmcmilaaDoorRows.lean that lists a variable, with what it lists TIED to the program's text (the seventh form; the later family's looks); each row that meets fmt, with fmt's text TOLD by the authors' own Lean function (tested against real Go, not proved from fmt's source: count such statements apart). THE CARD IS WHAT COUNTS. Prove the row's statement (the work); the ties are given (YtlkogeccmcmilaaDoorTie.lean); close each card by the builder's one call (the guide's Derived/Test/ToyasCard.lean, 'card_holds'). Laid BY PROGRAM, IN A SANDBOX (cutbox-door.mjs). By AI agents, Wed Nov 11 2026. No macro, syntax, notation, axiom, sorry.
-/
import Derived.Test.YtlkogeccmcmilaaDoorRows
import GoSem.ClaimSeven
namespace Go.Proofs.YtlkogeccmcmilaaDoor
namespace Rows

/-- THE TIED CARD OF 'tantaluslaw04.MacExpands'. -/
def macExpandsCard : Claim7 := { stood := { row := macExpandsRow, standIns := [], harness := (true, "9151413f0e5c34607099231c7c7c55cd281906aa052e365d267ec1e14d9ec2e3"), looks := false }, kinds := [], alts := [], laidByText := true, laidKinds := [.data, .data], laidTests := true, laidLooks := .later }
def MacExpandsCardSaid : Prop := Claim7.holds Tryd.pinned (.plain (OpenSpec.ofChange macExpandsSpec)) macExpandsCard

/-- THE TIED CARD OF 'tantaluslaw04.MacEquals'. -/
def macEqualsCard : Claim7 := { stood := { row := macEqualsRow, standIns := [], harness := (true, "9151413f0e5c34607099231c7c7c55cd281906aa052e365d267ec1e14d9ec2e3"), looks := false }, kinds := [], alts := [], laidByText := true, laidKinds := [.data], laidTests := true, laidLooks := .later }
def MacEqualsCardSaid : Prop := Claim7.holds Tryd.pinned (.plain (OpenSpec.ofChange macEqualsSpec)) macEqualsCard

/-- THE TIED CARD OF 'tantaluslaw04.MacLess'. -/
def macLessCard : Claim7 := { stood := { row := macLessRow, standIns := [], harness := (true, "9151413f0e5c34607099231c7c7c55cd281906aa052e365d267ec1e14d9ec2e3"), looks := false }, kinds := [], alts := [], laidByText := true, laidKinds := [.data], laidTests := true, laidLooks := .later }
def MacLessCardSaid : Prop := Claim7.holds Tryd.pinned (.plain (OpenSpec.ofChange macLessSpec)) macLessCard

/-- THE TIED CARD OF 'tantaluslaw04.MacKeys'. -/
def macKeysCard : Claim7 := { stood := { row := macKeysRow, standIns := [], harness := (true, "9151413f0e5c34607099231c7c7c55cd281906aa052e365d267ec1e14d9ec2e3"), looks := false }, kinds := [], alts := [], laidByText := true, laidKinds := [.data], laidTests := true, laidLooks := .later }
def MacKeysCardSaid : Prop := Claim7.holds Tryd.pinned (.plain (OpenSpec.ofChange macKeysSpec)) macKeysCard

/-- THE TIED CARD OF 'tantaluslaw04.MacTells'. -/
def macTellsCard : Claim7 := { stood := { row := macTellsRow, standIns := [], harness := (true, "9151413f0e5c34607099231c7c7c55cd281906aa052e365d267ec1e14d9ec2e3"), looks := false }, kinds := [], alts := [], laidByText := true, laidKinds := [.data], laidTests := true, laidLooks := .later }
def MacTellsCardSaid : Prop := Claim7.holds Tryd.pinned (.plain (OpenSpec.ofChange macTellsSpec)) macTellsCard

/-- THE TIED CARD OF 'tantaluslaw04.MacSums'. -/
def macSumsCard : Claim7 := { stood := { row := macSumsRow, standIns := [], harness := (true, "9151413f0e5c34607099231c7c7c55cd281906aa052e365d267ec1e14d9ec2e3"), looks := false }, kinds := [], alts := [], laidByText := true, laidKinds := [.data, .data], laidTests := true, laidLooks := .later }
def MacSumsCardSaid : Prop := Claim7.holds Tryd.pinned (.plain (OpenSpec.ofChange macSumsSpec)) macSumsCard

/-- THE TIED CARD OF 'tantaluslaw04.MacDerives'. -/
def macDerivesCard : Claim7 := { stood := { row := macDerivesRow, standIns := [], harness := (true, "9151413f0e5c34607099231c7c7c55cd281906aa052e365d267ec1e14d9ec2e3"), looks := false }, kinds := [], alts := [], laidByText := true, laidKinds := [.data, .data], laidTests := true, laidLooks := .later }
def MacDerivesCardSaid : Prop := Claim7.holds Tryd.pinned (.plain (OpenSpec.ofChange macDerivesSpec)) macDerivesCard

/-- THE SECOND FORM's CARD OF 'tantaluslaw04.MacExpands'. -/
def macExpandsUptoCard : Claim7 := { stood := { row := macExpandsUptoRow, standIns := [], harness := (true, "9151413f0e5c34607099231c7c7c55cd281906aa052e365d267ec1e14d9ec2e3"), looks := false }, kinds := [], alts := [], laidByText := true, laidKinds := [.data, .data], laidTests := true, laidLooks := .later }
def MacExpandsUptoCardSaid : Prop := Claim7.holds Tryd.pinned (.plain (OpenSpec.upto macExpandsSpec)) macExpandsUptoCard

/-- THE SECOND FORM's CARD OF 'tantaluslaw04.MacEquals'. -/
def macEqualsUptoCard : Claim7 := { stood := { row := macEqualsUptoRow, standIns := [], harness := (true, "9151413f0e5c34607099231c7c7c55cd281906aa052e365d267ec1e14d9ec2e3"), looks := false }, kinds := [], alts := [], laidByText := true, laidKinds := [.data], laidTests := true, laidLooks := .later }
def MacEqualsUptoCardSaid : Prop := Claim7.holds Tryd.pinned (.plain (OpenSpec.upto macEqualsSpec)) macEqualsUptoCard

/-- THE SECOND FORM's CARD OF 'tantaluslaw04.MacLess'. -/
def macLessUptoCard : Claim7 := { stood := { row := macLessUptoRow, standIns := [], harness := (true, "9151413f0e5c34607099231c7c7c55cd281906aa052e365d267ec1e14d9ec2e3"), looks := false }, kinds := [], alts := [], laidByText := true, laidKinds := [.data], laidTests := true, laidLooks := .later }
def MacLessUptoCardSaid : Prop := Claim7.holds Tryd.pinned (.plain (OpenSpec.upto macLessSpec)) macLessUptoCard

/-- THE SECOND FORM's CARD OF 'tantaluslaw04.MacKeys'. -/
def macKeysUptoCard : Claim7 := { stood := { row := macKeysUptoRow, standIns := [], harness := (true, "9151413f0e5c34607099231c7c7c55cd281906aa052e365d267ec1e14d9ec2e3"), looks := false }, kinds := [], alts := [], laidByText := true, laidKinds := [.data], laidTests := true, laidLooks := .later }
def MacKeysUptoCardSaid : Prop := Claim7.holds Tryd.pinned (.plain (OpenSpec.upto macKeysSpec)) macKeysUptoCard

/-- THE SECOND FORM's CARD OF 'tantaluslaw04.MacTells'. -/
def macTellsUptoCard : Claim7 := { stood := { row := macTellsUptoRow, standIns := [], harness := (true, "9151413f0e5c34607099231c7c7c55cd281906aa052e365d267ec1e14d9ec2e3"), looks := false }, kinds := [], alts := [], laidByText := true, laidKinds := [.data], laidTests := true, laidLooks := .later }
def MacTellsUptoCardSaid : Prop := Claim7.holds Tryd.pinned (.plain (OpenSpec.upto macTellsSpec)) macTellsUptoCard

/-- THE SECOND FORM's CARD OF 'tantaluslaw04.MacSums'. -/
def macSumsUptoCard : Claim7 := { stood := { row := macSumsUptoRow, standIns := [], harness := (true, "9151413f0e5c34607099231c7c7c55cd281906aa052e365d267ec1e14d9ec2e3"), looks := false }, kinds := [], alts := [], laidByText := true, laidKinds := [.data, .data], laidTests := true, laidLooks := .later }
def MacSumsUptoCardSaid : Prop := Claim7.holds Tryd.pinned (.plain (OpenSpec.upto macSumsSpec)) macSumsUptoCard

/-- THE SECOND FORM's CARD OF 'tantaluslaw04.MacDerives'. -/
def macDerivesUptoCard : Claim7 := { stood := { row := macDerivesUptoRow, standIns := [], harness := (true, "9151413f0e5c34607099231c7c7c55cd281906aa052e365d267ec1e14d9ec2e3"), looks := false }, kinds := [], alts := [], laidByText := true, laidKinds := [.data, .data], laidTests := true, laidLooks := .later }
def MacDerivesUptoCardSaid : Prop := Claim7.holds Tryd.pinned (.plain (OpenSpec.upto macDerivesSpec)) macDerivesUptoCard
end Rows
end Go.Proofs.YtlkogeccmcmilaaDoor
