/-
  No cell of these rows narrows 'for every input' (looked for: loops, veiled, ifaces, maps, wideKeys, modest, calm, conditions, laid).
  DERIVED. THE GIVEN ROWS OF THIS SEAT. 6 by the template 'for every input the law returns true; each argument reads behind the call as it read before'; 0 by the template 'total and deterministic' (their statements: YtjkcdnangmjoeaaTotals.lean).
  GIVEN WITH THE SEED: the statements are not yours to turn. If you find one false, say at which input.
  Laid BY PROGRAM, IN A SANDBOX (cutbox-rows.mjs): the forced cells as the released guide's own fill.sh prints them over the translation 1cdb110a5191f0b8… (all of the seat's roots in one cut). By AI agents, Wed Nov 11 2026. No macro, syntax, notation, axiom, sorry.
-/
import Derived.Test.YtjkcdnangmjoeaaChecked
import GoSem.Claim
import GoSem.ClaimJoined
import GoSem.ClaimMapViews
import Derived.JoinedTies
import Derived.KernelRfl
namespace Go.Proofs.Ytjkcdnangmjoeaa
/- THE CELL 'sum', in the pinned program and in every row, IS THE sha256 OF THE DUMP (.gsa) THAT YtjkcdnangmjoeaaProg.lean LOADS. Nothing in Lean hashes anything: it is a label: what it is worth is what the hold of that sum in a sandbox is worth. -/
noncomputable def Try.pinned : Pinned := { name := "ytjkcdnangmjoeaa", sum := "1cdb110a5191f0b8b3b8bf91ae6d27b81b216ee9782ed2c9b9bfcc834cda7299", checked := Try.checked }
namespace Rows
def none {H : Type} : Left H := { results := [], args := [] }

/-- 'tantaluslaw07.NameNames': WHATEVER THE INPUT: true; the input reads as it did. -/
def nameNamesSpec : ChangeSpec := { name := "nameNames", fn := fun _ => fun
  | [d1, d2] => { results := [.lit (.bool true)], args := [d1, d2] }
  | _ => none }
def nameNamesRow : OpenClaim := { program := "ytjkcdnangmjoeaa", sum := "1cdb110a5191f0b8b3b8bf91ae6d27b81b216ee9782ed2c9b9bfcc834cda7299", func := "tantalus/tantaluslaw07.NameNames", spec := "nameNames", apart := false }
def NameNamesSaid : Prop := nameNamesRow.holds Try.pinned (OpenSpec.ofChange nameNamesSpec)

/-- ITS FALSE NEIGHBOUR: 'it returns false'. Refute it at one input. -/
def nameNamesWrong : ChangeSpec := { name := "nameNames", fn := fun _ => fun
  | [d1, d2] => { results := [.lit (.bool false)], args := [d1, d2] }
  | _ => none }
def NameNamesWrongFalsely : Prop := nameNamesRow.holds Try.pinned (OpenSpec.ofChange nameNamesWrong)

/-- 'tantaluslaw07.NameParses': WHATEVER THE INPUT: true; the input reads as it did. -/
def nameParsesSpec : ChangeSpec := { name := "nameParses", fn := fun _ => fun
  | [d] => { results := [.lit (.bool true)], args := [d] }
  | _ => none }
def nameParsesRow : OpenClaim := { program := "ytjkcdnangmjoeaa", sum := "1cdb110a5191f0b8b3b8bf91ae6d27b81b216ee9782ed2c9b9bfcc834cda7299", func := "tantalus/tantaluslaw07.NameParses", spec := "nameParses", apart := false }
def NameParsesSaid : Prop := nameParsesRow.holds Try.pinned (OpenSpec.ofChange nameParsesSpec)

/-- ITS FALSE NEIGHBOUR: 'it returns false'. Refute it at one input. -/
def nameParsesWrong : ChangeSpec := { name := "nameParses", fn := fun _ => fun
  | [d] => { results := [.lit (.bool false)], args := [d] }
  | _ => none }
def NameParsesWrongFalsely : Prop := nameParsesRow.holds Try.pinned (OpenSpec.ofChange nameParsesWrong)

/-- 'tantaluslaw07.NameBack': WHATEVER THE INPUT: true; the input reads as it did. -/
def nameBackSpec : ChangeSpec := { name := "nameBack", fn := fun _ => fun
  | [d1, d2, d3] => { results := [.lit (.bool true)], args := [d1, d2, d3] }
  | _ => none }
def nameBackRow : OpenClaim := { program := "ytjkcdnangmjoeaa", sum := "1cdb110a5191f0b8b3b8bf91ae6d27b81b216ee9782ed2c9b9bfcc834cda7299", func := "tantalus/tantaluslaw07.NameBack", spec := "nameBack", apart := false }
def NameBackSaid : Prop := nameBackRow.holds Try.pinned (OpenSpec.ofChange nameBackSpec)

/-- ITS FALSE NEIGHBOUR: 'it returns false'. Refute it at one input. -/
def nameBackWrong : ChangeSpec := { name := "nameBack", fn := fun _ => fun
  | [d1, d2, d3] => { results := [.lit (.bool false)], args := [d1, d2, d3] }
  | _ => none }
def NameBackWrongFalsely : Prop := nameBackRow.holds Try.pinned (OpenSpec.ofChange nameBackWrong)

/-- 'tantaluslaw07.NameNonces': WHATEVER THE INPUT: true; the input reads as it did. -/
def nameNoncesSpec : ChangeSpec := { name := "nameNonces", fn := fun _ => fun
  | [d1, d2] => { results := [.lit (.bool true)], args := [d1, d2] }
  | _ => none }
def nameNoncesRow : OpenClaim := { program := "ytjkcdnangmjoeaa", sum := "1cdb110a5191f0b8b3b8bf91ae6d27b81b216ee9782ed2c9b9bfcc834cda7299", func := "tantalus/tantaluslaw07.NameNonces", spec := "nameNonces", apart := false }
def NameNoncesSaid : Prop := nameNoncesRow.holds Try.pinned (OpenSpec.ofChange nameNoncesSpec)

/-- ITS FALSE NEIGHBOUR: 'it returns false'. Refute it at one input. -/
def nameNoncesWrong : ChangeSpec := { name := "nameNonces", fn := fun _ => fun
  | [d1, d2] => { results := [.lit (.bool false)], args := [d1, d2] }
  | _ => none }
def NameNoncesWrongFalsely : Prop := nameNoncesRow.holds Try.pinned (OpenSpec.ofChange nameNoncesWrong)

/-- 'tantaluslaw07.NameHeads': WHATEVER THE INPUT: true; the input reads as it did. -/
def nameHeadsSpec : ChangeSpec := { name := "nameHeads", fn := fun _ => fun
  | [d1, d2] => { results := [.lit (.bool true)], args := [d1, d2] }
  | _ => none }
def nameHeadsRow : OpenClaim := { program := "ytjkcdnangmjoeaa", sum := "1cdb110a5191f0b8b3b8bf91ae6d27b81b216ee9782ed2c9b9bfcc834cda7299", func := "tantalus/tantaluslaw07.NameHeads", spec := "nameHeads", apart := false }
def NameHeadsSaid : Prop := nameHeadsRow.holds Try.pinned (OpenSpec.ofChange nameHeadsSpec)

/-- ITS FALSE NEIGHBOUR: 'it returns false'. Refute it at one input. -/
def nameHeadsWrong : ChangeSpec := { name := "nameHeads", fn := fun _ => fun
  | [d1, d2] => { results := [.lit (.bool false)], args := [d1, d2] }
  | _ => none }
def NameHeadsWrongFalsely : Prop := nameHeadsRow.holds Try.pinned (OpenSpec.ofChange nameHeadsWrong)

/-- 'tantaluslaw07.NameHeadBack': WHATEVER THE INPUT: true; the input reads as it did. -/
def nameHeadBackSpec : ChangeSpec := { name := "nameHeadBack", fn := fun _ => fun
  | [d1, d2, d3] => { results := [.lit (.bool true)], args := [d1, d2, d3] }
  | _ => none }
def nameHeadBackRow : OpenClaim := { program := "ytjkcdnangmjoeaa", sum := "1cdb110a5191f0b8b3b8bf91ae6d27b81b216ee9782ed2c9b9bfcc834cda7299", func := "tantalus/tantaluslaw07.NameHeadBack", spec := "nameHeadBack", apart := false }
def NameHeadBackSaid : Prop := nameHeadBackRow.holds Try.pinned (OpenSpec.ofChange nameHeadBackSpec)

/-- ITS FALSE NEIGHBOUR: 'it returns false'. Refute it at one input. -/
def nameHeadBackWrong : ChangeSpec := { name := "nameHeadBack", fn := fun _ => fun
  | [d1, d2, d3] => { results := [.lit (.bool false)], args := [d1, d2, d3] }
  | _ => none }
def NameHeadBackWrongFalsely : Prop := nameHeadBackRow.holds Try.pinned (OpenSpec.ofChange nameHeadBackWrong)

/- THE SECOND FORM. 'bulk': how many values and letters a reading holds, each counted each time it is reached (what is shared counts as often as it is met; a slice's spare places count too). A statement '..UptoSaid' is the law's where the arguments, and the package variables that the reading takes, are together of bulk at most 1048576: NARROWER than '..Said'. Prove '..Said' where nothing that the law and all that it calls make is longer than what came in: it says more and counts as full. Else prove '..UptoSaid'. A law counts once. -/
mutual
def uptoBulk {H : Type} : DataW H → Nat
  | .lit (.string bytes) => bytes.length + 1
  | .lit _ => 1
  | .nil => 1
  | .ptr d => uptoBulk d + 1
  | .slice elems spare => uptoBulkAll elems + uptoBulkAll spare + 1
  | .agg parts => uptoBulkAll parts + 1
  | .iface _ d => uptoBulk d + 1
  | .map entries => uptoBulkEntries entries + 1
  | .held _ => 1
def uptoBulkAll {H : Type} : List (DataW H) → Nat
  | [] => 0
  | d :: r => uptoBulk d + uptoBulkAll r
def uptoBulkEntries {H : Type} : List (Lit × DataW H) → Nat
  | [] => 0
  | x :: r => uptoBulkEntry x + uptoBulkEntries r
def uptoBulkEntry {H : Type} : Lit × DataW H → Nat
  | (.string bytes, d) => bytes.length + uptoBulk d + 1
  | (_, d) => uptoBulk d + 1
 end
def uptoSmall : (H : Type) → List (DataW H) → Bool := fun _ ds => decide (uptoBulkAll ds ≤ 1048576)
def OpenSpec.upto (s : _root_.Go.ChangeSpec) : _root_.Go.OpenSpec := { _root_.Go.OpenSpec.ofChange s with cond := some uptoSmall }

/-- 'tantaluslaw07.NameNames', WHERE WHAT IT READS IS OF BULK AT MOST 1048576: true; the input reads as it did. -/
def nameNamesUptoRow : OpenClaim := { program := "ytjkcdnangmjoeaa", sum := "1cdb110a5191f0b8b3b8bf91ae6d27b81b216ee9782ed2c9b9bfcc834cda7299", func := "tantalus/tantaluslaw07.NameNames", spec := "nameNames", apart := false, narrowed := true }
def NameNamesUptoSaid : Prop := nameNamesUptoRow.holds Try.pinned (OpenSpec.upto nameNamesSpec)

/-- 'tantaluslaw07.NameParses', WHERE WHAT IT READS IS OF BULK AT MOST 1048576: true; the input reads as it did. -/
def nameParsesUptoRow : OpenClaim := { program := "ytjkcdnangmjoeaa", sum := "1cdb110a5191f0b8b3b8bf91ae6d27b81b216ee9782ed2c9b9bfcc834cda7299", func := "tantalus/tantaluslaw07.NameParses", spec := "nameParses", apart := false, narrowed := true }
def NameParsesUptoSaid : Prop := nameParsesUptoRow.holds Try.pinned (OpenSpec.upto nameParsesSpec)

/-- 'tantaluslaw07.NameBack', WHERE WHAT IT READS IS OF BULK AT MOST 1048576: true; the input reads as it did. -/
def nameBackUptoRow : OpenClaim := { program := "ytjkcdnangmjoeaa", sum := "1cdb110a5191f0b8b3b8bf91ae6d27b81b216ee9782ed2c9b9bfcc834cda7299", func := "tantalus/tantaluslaw07.NameBack", spec := "nameBack", apart := false, narrowed := true }
def NameBackUptoSaid : Prop := nameBackUptoRow.holds Try.pinned (OpenSpec.upto nameBackSpec)

/-- 'tantaluslaw07.NameNonces', WHERE WHAT IT READS IS OF BULK AT MOST 1048576: true; the input reads as it did. -/
def nameNoncesUptoRow : OpenClaim := { program := "ytjkcdnangmjoeaa", sum := "1cdb110a5191f0b8b3b8bf91ae6d27b81b216ee9782ed2c9b9bfcc834cda7299", func := "tantalus/tantaluslaw07.NameNonces", spec := "nameNonces", apart := false, narrowed := true }
def NameNoncesUptoSaid : Prop := nameNoncesUptoRow.holds Try.pinned (OpenSpec.upto nameNoncesSpec)

/-- 'tantaluslaw07.NameHeads', WHERE WHAT IT READS IS OF BULK AT MOST 1048576: true; the input reads as it did. -/
def nameHeadsUptoRow : OpenClaim := { program := "ytjkcdnangmjoeaa", sum := "1cdb110a5191f0b8b3b8bf91ae6d27b81b216ee9782ed2c9b9bfcc834cda7299", func := "tantalus/tantaluslaw07.NameHeads", spec := "nameHeads", apart := false, narrowed := true }
def NameHeadsUptoSaid : Prop := nameHeadsUptoRow.holds Try.pinned (OpenSpec.upto nameHeadsSpec)

/-- 'tantaluslaw07.NameHeadBack', WHERE WHAT IT READS IS OF BULK AT MOST 1048576: true; the input reads as it did. -/
def nameHeadBackUptoRow : OpenClaim := { program := "ytjkcdnangmjoeaa", sum := "1cdb110a5191f0b8b3b8bf91ae6d27b81b216ee9782ed2c9b9bfcc834cda7299", func := "tantalus/tantaluslaw07.NameHeadBack", spec := "nameHeadBack", apart := false, narrowed := true }
def NameHeadBackUptoSaid : Prop := nameHeadBackUptoRow.holds Try.pinned (OpenSpec.upto nameHeadBackSpec)

end Rows
end Go.Proofs.Ytjkcdnangmjoeaa
