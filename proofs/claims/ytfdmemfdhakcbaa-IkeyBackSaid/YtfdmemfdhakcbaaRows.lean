/-
  No cell of these rows narrows 'for every input' (looked for: loops, veiled, ifaces, maps, wideKeys, modest, calm, conditions, laid).
  DERIVED. THE GIVEN ROWS OF THIS SEAT. 7 by the template 'for every input the law returns true; each argument reads behind the call as it read before'; 0 by the template 'total and deterministic' (their statements: YtfdmemfdhakcbaaTotals.lean).
  GIVEN WITH THE SEED: the statements are not yours to turn. If you find one false, say at which input.
  Laid BY PROGRAM, IN A SANDBOX (cutbox-rows.mjs): the forced cells as the released guide's own fill.sh prints them over the translation f7d4cdd8377ba36f… (all of the seat's roots in one cut). By AI agents, Wed Nov 11 2026. No macro, syntax, notation, axiom, sorry.
-/
import Derived.Test.YtfdmemfdhakcbaaChecked
import GoSem.Claim
import GoSem.ClaimJoined
import GoSem.ClaimMapViews
import Derived.JoinedTies
import Derived.KernelRfl
namespace Go.Proofs.Ytfdmemfdhakcbaa
/- THE CELL 'sum', in the pinned program and in every row, IS THE sha256 OF THE DUMP (.gsa) THAT YtfdmemfdhakcbaaProg.lean LOADS. Nothing in Lean hashes anything: it is a label: what it is worth is what the hold of that sum in a sandbox is worth. -/
noncomputable def Try.pinned : Pinned := { name := "ytfdmemfdhakcbaa", sum := "f7d4cdd8377ba36f4ae58e5d978b8c2fb2bd00d78645ae6cb89a6dbf9b2fb53a", checked := Try.checked }
namespace Rows
def none {H : Type} : Left H := { results := [], args := [] }

/-- 'tantaluslaw08.IkeyCompares': WHATEVER THE INPUT: true; the input reads as it did. -/
def ikeyComparesSpec : ChangeSpec := { name := "ikeyCompares", fn := fun _ => fun
  | [d1, d2] => { results := [.lit (.bool true)], args := [d1, d2] }
  | _ => none }
def ikeyComparesRow : OpenClaim := { program := "ytfdmemfdhakcbaa", sum := "f7d4cdd8377ba36f4ae58e5d978b8c2fb2bd00d78645ae6cb89a6dbf9b2fb53a", func := "tantalus/tantaluslaw08.IkeyCompares", spec := "ikeyCompares", inPlace := ["internal/bytealg.abigen_runtime_cmpstring"], apart := false }
def IkeyComparesSaid : Prop := ikeyComparesRow.holds Try.pinned (OpenSpec.ofChange ikeyComparesSpec)

/-- ITS FALSE NEIGHBOUR: 'it returns false'. Refute it at one input. -/
def ikeyComparesWrong : ChangeSpec := { name := "ikeyCompares", fn := fun _ => fun
  | [d1, d2] => { results := [.lit (.bool false)], args := [d1, d2] }
  | _ => none }
def IkeyComparesWrongFalsely : Prop := ikeyComparesRow.holds Try.pinned (OpenSpec.ofChange ikeyComparesWrong)

/-- 'tantaluslaw08.IkeyTakes': WHATEVER THE INPUT: true; the input reads as it did. -/
def ikeyTakesSpec : ChangeSpec := { name := "ikeyTakes", fn := fun _ => fun
  | [d] => { results := [.lit (.bool true)], args := [d] }
  | _ => none }
def ikeyTakesRow : OpenClaim := { program := "ytfdmemfdhakcbaa", sum := "f7d4cdd8377ba36f4ae58e5d978b8c2fb2bd00d78645ae6cb89a6dbf9b2fb53a", func := "tantalus/tantaluslaw08.IkeyTakes", spec := "ikeyTakes", inPlace := ["internal/bytealg.abigen_runtime_cmpstring"], apart := false }
def IkeyTakesSaid : Prop := ikeyTakesRow.holds Try.pinned (OpenSpec.ofChange ikeyTakesSpec)

/-- ITS FALSE NEIGHBOUR: 'it returns false'. Refute it at one input. -/
def ikeyTakesWrong : ChangeSpec := { name := "ikeyTakes", fn := fun _ => fun
  | [d] => { results := [.lit (.bool false)], args := [d] }
  | _ => none }
def IkeyTakesWrongFalsely : Prop := ikeyTakesRow.holds Try.pinned (OpenSpec.ofChange ikeyTakesWrong)

/-- 'tantaluslaw08.IkeyBetween': WHATEVER THE INPUT: true; the input reads as it did. -/
def ikeyBetweenSpec : ChangeSpec := { name := "ikeyBetween", fn := fun _ => fun
  | [d1, d2] => { results := [.lit (.bool true)], args := [d1, d2] }
  | _ => none }
def ikeyBetweenRow : OpenClaim := { program := "ytfdmemfdhakcbaa", sum := "f7d4cdd8377ba36f4ae58e5d978b8c2fb2bd00d78645ae6cb89a6dbf9b2fb53a", func := "tantalus/tantaluslaw08.IkeyBetween", spec := "ikeyBetween", inPlace := ["internal/bytealg.abigen_runtime_cmpstring"], apart := false }
def IkeyBetweenSaid : Prop := ikeyBetweenRow.holds Try.pinned (OpenSpec.ofChange ikeyBetweenSpec)

/-- ITS FALSE NEIGHBOUR: 'it returns false'. Refute it at one input. -/
def ikeyBetweenWrong : ChangeSpec := { name := "ikeyBetween", fn := fun _ => fun
  | [d1, d2] => { results := [.lit (.bool false)], args := [d1, d2] }
  | _ => none }
def IkeyBetweenWrongFalsely : Prop := ikeyBetweenRow.holds Try.pinned (OpenSpec.ofChange ikeyBetweenWrong)

/-- 'tantaluslaw08.IkeyOrder': WHATEVER THE INPUT: true; the input reads as it did. -/
def ikeyOrderSpec : ChangeSpec := { name := "ikeyOrder", fn := fun _ => fun
  | [d1, d2, d3] => { results := [.lit (.bool true)], args := [d1, d2, d3] }
  | _ => none }
def ikeyOrderRow : OpenClaim := { program := "ytfdmemfdhakcbaa", sum := "f7d4cdd8377ba36f4ae58e5d978b8c2fb2bd00d78645ae6cb89a6dbf9b2fb53a", func := "tantalus/tantaluslaw08.IkeyOrder", spec := "ikeyOrder", inPlace := ["internal/bytealg.abigen_runtime_cmpstring"], apart := false }
def IkeyOrderSaid : Prop := ikeyOrderRow.holds Try.pinned (OpenSpec.ofChange ikeyOrderSpec)

/-- ITS FALSE NEIGHBOUR: 'it returns false'. Refute it at one input. -/
def ikeyOrderWrong : ChangeSpec := { name := "ikeyOrder", fn := fun _ => fun
  | [d1, d2, d3] => { results := [.lit (.bool false)], args := [d1, d2, d3] }
  | _ => none }
def IkeyOrderWrongFalsely : Prop := ikeyOrderRow.holds Try.pinned (OpenSpec.ofChange ikeyOrderWrong)

/-- 'tantaluslaw08.IkeyBack': WHATEVER THE INPUT: true; the input reads as it did. -/
def ikeyBackSpec : ChangeSpec := { name := "ikeyBack", fn := fun _ => fun
  | [d1, d2] => { results := [.lit (.bool true)], args := [d1, d2] }
  | _ => none }
def ikeyBackRow : OpenClaim := { program := "ytfdmemfdhakcbaa", sum := "f7d4cdd8377ba36f4ae58e5d978b8c2fb2bd00d78645ae6cb89a6dbf9b2fb53a", func := "tantalus/tantaluslaw08.IkeyBack", spec := "ikeyBack", inPlace := ["internal/bytealg.abigen_runtime_cmpstring"], apart := false }
def IkeyBackSaid : Prop := ikeyBackRow.holds Try.pinned (OpenSpec.ofChange ikeyBackSpec)

/-- ITS FALSE NEIGHBOUR: 'it returns false'. Refute it at one input. -/
def ikeyBackWrong : ChangeSpec := { name := "ikeyBack", fn := fun _ => fun
  | [d1, d2] => { results := [.lit (.bool false)], args := [d1, d2] }
  | _ => none }
def IkeyBackWrongFalsely : Prop := ikeyBackRow.holds Try.pinned (OpenSpec.ofChange ikeyBackWrong)

/-- 'tantaluslaw08.IkeyShort': WHATEVER THE INPUT: true; the input reads as it did. -/
def ikeyShortSpec : ChangeSpec := { name := "ikeyShort", fn := fun _ => fun
  | [d1, d2] => { results := [.lit (.bool true)], args := [d1, d2] }
  | _ => none }
def ikeyShortRow : OpenClaim := { program := "ytfdmemfdhakcbaa", sum := "f7d4cdd8377ba36f4ae58e5d978b8c2fb2bd00d78645ae6cb89a6dbf9b2fb53a", func := "tantalus/tantaluslaw08.IkeyShort", spec := "ikeyShort", inPlace := ["internal/bytealg.abigen_runtime_cmpstring"], apart := false }
def IkeyShortSaid : Prop := ikeyShortRow.holds Try.pinned (OpenSpec.ofChange ikeyShortSpec)

/-- ITS FALSE NEIGHBOUR: 'it returns false'. Refute it at one input. -/
def ikeyShortWrong : ChangeSpec := { name := "ikeyShort", fn := fun _ => fun
  | [d1, d2] => { results := [.lit (.bool false)], args := [d1, d2] }
  | _ => none }
def IkeyShortWrongFalsely : Prop := ikeyShortRow.holds Try.pinned (OpenSpec.ofChange ikeyShortWrong)

/-- 'tantaluslaw08.IkeyRises': WHATEVER THE INPUT: true; the input reads as it did. -/
def ikeyRisesSpec : ChangeSpec := { name := "ikeyRises", fn := fun _ => fun
  | [d] => { results := [.lit (.bool true)], args := [d] }
  | _ => none }
def ikeyRisesRow : OpenClaim := { program := "ytfdmemfdhakcbaa", sum := "f7d4cdd8377ba36f4ae58e5d978b8c2fb2bd00d78645ae6cb89a6dbf9b2fb53a", func := "tantalus/tantaluslaw08.IkeyRises", spec := "ikeyRises", inPlace := ["internal/bytealg.abigen_runtime_cmpstring"], apart := false }
def IkeyRisesSaid : Prop := ikeyRisesRow.holds Try.pinned (OpenSpec.ofChange ikeyRisesSpec)

/-- ITS FALSE NEIGHBOUR: 'it returns false'. Refute it at one input. -/
def ikeyRisesWrong : ChangeSpec := { name := "ikeyRises", fn := fun _ => fun
  | [d] => { results := [.lit (.bool false)], args := [d] }
  | _ => none }
def IkeyRisesWrongFalsely : Prop := ikeyRisesRow.holds Try.pinned (OpenSpec.ofChange ikeyRisesWrong)

/- THE SECOND FORM. 'bulk': how many values and letters a reading holds, each counted each time it is reached (what is shared counts as often as it is met; a slice's spare places count too). A statement '..UptoSaid' is the law's where the arguments, and the package variables that the reading takes, are together of bulk at most 1048576: NARROWER than '..Said'. Prove '..Said' where nothing that the law and all that it calls make is longer than what came in: it says more and counts as full. Else prove '..UptoSaid'. A law counts once. -/
mutual
def uptoBulk {H : Type} : DataW H → Nat
  | .lit (.string bytes) => bytes.length + 1
  | .lit _ => 1
  | .nil => 1
  | .ptr d => uptoBulk d + 1
  | .slice elems spare => uptoBulkAll elems + uptoBulkAll spare + 1
  | .agg parts => uptoBulkAll parts + 1
  | .iface _ d => uptoBulk d + 1
  | .map entries => uptoBulkEntries entries + 1
  | .held _ => 1
def uptoBulkAll {H : Type} : List (DataW H) → Nat
  | [] => 0
  | d :: r => uptoBulk d + uptoBulkAll r
def uptoBulkEntries {H : Type} : List (Lit × DataW H) → Nat
  | [] => 0
  | x :: r => uptoBulkEntry x + uptoBulkEntries r
def uptoBulkEntry {H : Type} : Lit × DataW H → Nat
  | (.string bytes, d) => bytes.length + uptoBulk d + 1
  | (_, d) => uptoBulk d + 1
 end
def uptoSmall : (H : Type) → List (DataW H) → Bool := fun _ ds => decide (uptoBulkAll ds ≤ 1048576)
def OpenSpec.upto (s : _root_.Go.ChangeSpec) : _root_.Go.OpenSpec := { _root_.Go.OpenSpec.ofChange s with cond := some uptoSmall }

/-- 'tantaluslaw08.IkeyCompares', WHERE WHAT IT READS IS OF BULK AT MOST 1048576: true; the input reads as it did. -/
def ikeyComparesUptoRow : OpenClaim := { program := "ytfdmemfdhakcbaa", sum := "f7d4cdd8377ba36f4ae58e5d978b8c2fb2bd00d78645ae6cb89a6dbf9b2fb53a", func := "tantalus/tantaluslaw08.IkeyCompares", spec := "ikeyCompares", inPlace := ["internal/bytealg.abigen_runtime_cmpstring"], apart := false, narrowed := true }
def IkeyComparesUptoSaid : Prop := ikeyComparesUptoRow.holds Try.pinned (OpenSpec.upto ikeyComparesSpec)

/-- 'tantaluslaw08.IkeyTakes', WHERE WHAT IT READS IS OF BULK AT MOST 1048576: true; the input reads as it did. -/
def ikeyTakesUptoRow : OpenClaim := { program := "ytfdmemfdhakcbaa", sum := "f7d4cdd8377ba36f4ae58e5d978b8c2fb2bd00d78645ae6cb89a6dbf9b2fb53a", func := "tantalus/tantaluslaw08.IkeyTakes", spec := "ikeyTakes", inPlace := ["internal/bytealg.abigen_runtime_cmpstring"], apart := false, narrowed := true }
def IkeyTakesUptoSaid : Prop := ikeyTakesUptoRow.holds Try.pinned (OpenSpec.upto ikeyTakesSpec)

/-- 'tantaluslaw08.IkeyBetween', WHERE WHAT IT READS IS OF BULK AT MOST 1048576: true; the input reads as it did. -/
def ikeyBetweenUptoRow : OpenClaim := { program := "ytfdmemfdhakcbaa", sum := "f7d4cdd8377ba36f4ae58e5d978b8c2fb2bd00d78645ae6cb89a6dbf9b2fb53a", func := "tantalus/tantaluslaw08.IkeyBetween", spec := "ikeyBetween", inPlace := ["internal/bytealg.abigen_runtime_cmpstring"], apart := false, narrowed := true }
def IkeyBetweenUptoSaid : Prop := ikeyBetweenUptoRow.holds Try.pinned (OpenSpec.upto ikeyBetweenSpec)

/-- 'tantaluslaw08.IkeyOrder', WHERE WHAT IT READS IS OF BULK AT MOST 1048576: true; the input reads as it did. -/
def ikeyOrderUptoRow : OpenClaim := { program := "ytfdmemfdhakcbaa", sum := "f7d4cdd8377ba36f4ae58e5d978b8c2fb2bd00d78645ae6cb89a6dbf9b2fb53a", func := "tantalus/tantaluslaw08.IkeyOrder", spec := "ikeyOrder", inPlace := ["internal/bytealg.abigen_runtime_cmpstring"], apart := false, narrowed := true }
def IkeyOrderUptoSaid : Prop := ikeyOrderUptoRow.holds Try.pinned (OpenSpec.upto ikeyOrderSpec)

/-- 'tantaluslaw08.IkeyBack', WHERE WHAT IT READS IS OF BULK AT MOST 1048576: true; the input reads as it did. -/
def ikeyBackUptoRow : OpenClaim := { program := "ytfdmemfdhakcbaa", sum := "f7d4cdd8377ba36f4ae58e5d978b8c2fb2bd00d78645ae6cb89a6dbf9b2fb53a", func := "tantalus/tantaluslaw08.IkeyBack", spec := "ikeyBack", inPlace := ["internal/bytealg.abigen_runtime_cmpstring"], apart := false, narrowed := true }
def IkeyBackUptoSaid : Prop := ikeyBackUptoRow.holds Try.pinned (OpenSpec.upto ikeyBackSpec)

/-- 'tantaluslaw08.IkeyShort', WHERE WHAT IT READS IS OF BULK AT MOST 1048576: true; the input reads as it did. -/
def ikeyShortUptoRow : OpenClaim := { program := "ytfdmemfdhakcbaa", sum := "f7d4cdd8377ba36f4ae58e5d978b8c2fb2bd00d78645ae6cb89a6dbf9b2fb53a", func := "tantalus/tantaluslaw08.IkeyShort", spec := "ikeyShort", inPlace := ["internal/bytealg.abigen_runtime_cmpstring"], apart := false, narrowed := true }
def IkeyShortUptoSaid : Prop := ikeyShortUptoRow.holds Try.pinned (OpenSpec.upto ikeyShortSpec)

/-- 'tantaluslaw08.IkeyRises', WHERE WHAT IT READS IS OF BULK AT MOST 1048576: true; the input reads as it did. -/
def ikeyRisesUptoRow : OpenClaim := { program := "ytfdmemfdhakcbaa", sum := "f7d4cdd8377ba36f4ae58e5d978b8c2fb2bd00d78645ae6cb89a6dbf9b2fb53a", func := "tantalus/tantaluslaw08.IkeyRises", spec := "ikeyRises", inPlace := ["internal/bytealg.abigen_runtime_cmpstring"], apart := false, narrowed := true }
def IkeyRisesUptoSaid : Prop := ikeyRisesUptoRow.holds Try.pinned (OpenSpec.upto ikeyRisesSpec)

end Rows
end Go.Proofs.Ytfdmemfdhakcbaa
