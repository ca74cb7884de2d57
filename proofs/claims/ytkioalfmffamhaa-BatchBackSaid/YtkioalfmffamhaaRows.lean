/-
  No cell of these rows narrows 'for every input' (looked for: loops, veiled, ifaces, maps, wideKeys, modest, calm, conditions, laid).
  DERIVED. THE GIVEN ROWS OF THIS SEAT. 6 by the template 'for every input the law returns true; each argument reads behind the call as it read before'; 0 by the template 'total and deterministic' (their statements: YtkioalfmffamhaaTotals.lean).
  GIVEN WITH THE SEED: the statements are not yours to turn. If you find one false, say at which input.
  Laid BY PROGRAM, IN A SANDBOX (cutbox-rows.mjs): the forced cells as the released guide's own fill.sh prints them over the translation 275b41f91ce5c0fa… (all of the seat's roots in one cut). By AI agents, Wed Nov 11 2026. No macro, syntax, notation, axiom, sorry.
-/
import Derived.Test.YtkioalfmffamhaaChecked
import GoSem.Claim
import GoSem.ClaimJoined
import GoSem.ClaimMapViews
import Derived.JoinedTies
import Derived.KernelRfl
namespace Go.Proofs.Ytkioalfmffamhaa
/- THE CELL 'sum', in the pinned program and in every row, IS THE sha256 OF THE DUMP (.gsa) THAT YtkioalfmffamhaaProg.lean LOADS. Nothing in Lean hashes anything: it is a label: what it is worth is what the hold of that sum in a sandbox is worth. -/
noncomputable def Try.pinned : Pinned := { name := "ytkioalfmffamhaa", sum := "275b41f91ce5c0fadc453d80524832ae4c8f7f844089f763e602eb7a54f98b46", checked := Try.checked }
namespace Rows
def none {H : Type} : Left H := { results := [], args := [] }

/-- 'tantaluslaw12.BatchEncodes': WHATEVER THE INPUT: true; the input reads as it did. -/
def batchEncodesSpec : ChangeSpec := { name := "batchEncodes", fn := fun _ => fun
  | [d1, d2] => { results := [.lit (.bool true)], args := [d1, d2] }
  | _ => none }
def batchEncodesRow : OpenClaim := { program := "ytkioalfmffamhaa", sum := "275b41f91ce5c0fadc453d80524832ae4c8f7f844089f763e602eb7a54f98b46", func := "tantalus/tantaluslaw12.BatchEncodes", spec := "batchEncodes", apart := false }
def BatchEncodesSaid : Prop := batchEncodesRow.holds Try.pinned (OpenSpec.ofChange batchEncodesSpec)

/-- ITS FALSE NEIGHBOUR: 'it returns false'. Refute it at one input. -/
def batchEncodesWrong : ChangeSpec := { name := "batchEncodes", fn := fun _ => fun
  | [d1, d2] => { results := [.lit (.bool false)], args := [d1, d2] }
  | _ => none }
def BatchEncodesWrongFalsely : Prop := batchEncodesRow.holds Try.pinned (OpenSpec.ofChange batchEncodesWrong)

/-- 'tantaluslaw12.BatchEntries': WHATEVER THE INPUT: true; the input reads as it did. -/
def batchEntriesSpec : ChangeSpec := { name := "batchEntries", fn := fun _ => fun
  | [d1, d2] => { results := [.lit (.bool true)], args := [d1, d2] }
  | _ => none }
def batchEntriesRow : OpenClaim := { program := "ytkioalfmffamhaa", sum := "275b41f91ce5c0fadc453d80524832ae4c8f7f844089f763e602eb7a54f98b46", func := "tantalus/tantaluslaw12.BatchEntries", spec := "batchEntries", apart := false }
def BatchEntriesSaid : Prop := batchEntriesRow.holds Try.pinned (OpenSpec.ofChange batchEntriesSpec)

/-- ITS FALSE NEIGHBOUR: 'it returns false'. Refute it at one input. -/
def batchEntriesWrong : ChangeSpec := { name := "batchEntries", fn := fun _ => fun
  | [d1, d2] => { results := [.lit (.bool false)], args := [d1, d2] }
  | _ => none }
def BatchEntriesWrongFalsely : Prop := batchEntriesRow.holds Try.pinned (OpenSpec.ofChange batchEntriesWrong)

/-- 'tantaluslaw12.BatchJoins': WHATEVER THE INPUT: true; the input reads as it did. -/
def batchJoinsSpec : ChangeSpec := { name := "batchJoins", fn := fun _ => fun
  | [d1, d2, d3] => { results := [.lit (.bool true)], args := [d1, d2, d3] }
  | _ => none }
def batchJoinsRow : OpenClaim := { program := "ytkioalfmffamhaa", sum := "275b41f91ce5c0fadc453d80524832ae4c8f7f844089f763e602eb7a54f98b46", func := "tantalus/tantaluslaw12.BatchJoins", spec := "batchJoins", apart := false }
def BatchJoinsSaid : Prop := batchJoinsRow.holds Try.pinned (OpenSpec.ofChange batchJoinsSpec)

/-- ITS FALSE NEIGHBOUR: 'it returns false'. Refute it at one input. -/
def batchJoinsWrong : ChangeSpec := { name := "batchJoins", fn := fun _ => fun
  | [d1, d2, d3] => { results := [.lit (.bool false)], args := [d1, d2, d3] }
  | _ => none }
def BatchJoinsWrongFalsely : Prop := batchJoinsRow.holds Try.pinned (OpenSpec.ofChange batchJoinsWrong)

/-- 'tantaluslaw12.BatchDecodes': WHATEVER THE INPUT: true; the input reads as it did. -/
def batchDecodesSpec : ChangeSpec := { name := "batchDecodes", fn := fun _ => fun
  | [d] => { results := [.lit (.bool true)], args := [d] }
  | _ => none }
def batchDecodesRow : OpenClaim := { program := "ytkioalfmffamhaa", sum := "275b41f91ce5c0fadc453d80524832ae4c8f7f844089f763e602eb7a54f98b46", func := "tantalus/tantaluslaw12.BatchDecodes", spec := "batchDecodes", apart := false }
def BatchDecodesSaid : Prop := batchDecodesRow.holds Try.pinned (OpenSpec.ofChange batchDecodesSpec)

/-- ITS FALSE NEIGHBOUR: 'it returns false'. Refute it at one input. -/
def batchDecodesWrong : ChangeSpec := { name := "batchDecodes", fn := fun _ => fun
  | [d] => { results := [.lit (.bool false)], args := [d] }
  | _ => none }
def BatchDecodesWrongFalsely : Prop := batchDecodesRow.holds Try.pinned (OpenSpec.ofChange batchDecodesWrong)

/-- 'tantaluslaw12.BatchBack': WHATEVER THE INPUT: true; the input reads as it did. -/
def batchBackSpec : ChangeSpec := { name := "batchBack", fn := fun _ => fun
  | [d1, d2] => { results := [.lit (.bool true)], args := [d1, d2] }
  | _ => none }
def batchBackRow : OpenClaim := { program := "ytkioalfmffamhaa", sum := "275b41f91ce5c0fadc453d80524832ae4c8f7f844089f763e602eb7a54f98b46", func := "tantalus/tantaluslaw12.BatchBack", spec := "batchBack", apart := false }
def BatchBackSaid : Prop := batchBackRow.holds Try.pinned (OpenSpec.ofChange batchBackSpec)

/-- ITS FALSE NEIGHBOUR: 'it returns false'. Refute it at one input. -/
def batchBackWrong : ChangeSpec := { name := "batchBack", fn := fun _ => fun
  | [d1, d2] => { results := [.lit (.bool false)], args := [d1, d2] }
  | _ => none }
def BatchBackWrongFalsely : Prop := batchBackRow.holds Try.pinned (OpenSpec.ofChange batchBackWrong)

/-- 'tantaluslaw12.BatchOnce': WHATEVER THE INPUT: true; the input reads as it did. -/
def batchOnceSpec : ChangeSpec := { name := "batchOnce", fn := fun _ => fun
  | [d] => { results := [.lit (.bool true)], args := [d] }
  | _ => none }
def batchOnceRow : OpenClaim := { program := "ytkioalfmffamhaa", sum := "275b41f91ce5c0fadc453d80524832ae4c8f7f844089f763e602eb7a54f98b46", func := "tantalus/tantaluslaw12.BatchOnce", spec := "batchOnce", apart := false }
def BatchOnceSaid : Prop := batchOnceRow.holds Try.pinned (OpenSpec.ofChange batchOnceSpec)

/-- ITS FALSE NEIGHBOUR: 'it returns false'. Refute it at one input. -/
def batchOnceWrong : ChangeSpec := { name := "batchOnce", fn := fun _ => fun
  | [d] => { results := [.lit (.bool false)], args := [d] }
  | _ => none }
def BatchOnceWrongFalsely : Prop := batchOnceRow.holds Try.pinned (OpenSpec.ofChange batchOnceWrong)

/- THE SECOND FORM. 'bulk': how many values and letters a reading holds, each counted each time it is reached (what is shared counts as often as it is met; a slice's spare places count too). A statement '..UptoSaid' is the law's where the arguments, and the package variables that the reading takes, are together of bulk at most 1048576: NARROWER than '..Said'. Prove '..Said' where nothing that the law and all that it calls make is longer than what came in: it says more and counts as full. Else prove '..UptoSaid'. A law counts once. -/
mutual
def uptoBulk {H : Type} : DataW H → Nat
  | .lit (.string bytes) => bytes.length + 1
  | .lit _ => 1
  | .nil => 1
  | .ptr d => uptoBulk d + 1
  | .slice elems spare => uptoBulkAll elems + uptoBulkAll spare + 1
  | .agg parts => uptoBulkAll parts + 1
  | .iface _ d => uptoBulk d + 1
  | .map entries => uptoBulkEntries entries + 1
  | .held _ => 1
def uptoBulkAll {H : Type} : List (DataW H) → Nat
  | [] => 0
  | d :: r => uptoBulk d + uptoBulkAll r
def uptoBulkEntries {H : Type} : List (Lit × DataW H) → Nat
  | [] => 0
  | x :: r => uptoBulkEntry x + uptoBulkEntries r
def uptoBulkEntry {H : Type} : Lit × DataW H → Nat
  | (.string bytes, d) => bytes.length + uptoBulk d + 1
  | (_, d) => uptoBulk d + 1
 end
def uptoSmall : (H : Type) → List (DataW H) → Bool := fun _ ds => decide (uptoBulkAll ds ≤ 1048576)
def OpenSpec.upto (s : _root_.Go.ChangeSpec) : _root_.Go.OpenSpec := { _root_.Go.OpenSpec.ofChange s with cond := some uptoSmall }

/-- 'tantaluslaw12.BatchEncodes', WHERE WHAT IT READS IS OF BULK AT MOST 1048576: true; the input reads as it did. -/
def batchEncodesUptoRow : OpenClaim := { program := "ytkioalfmffamhaa", sum := "275b41f91ce5c0fadc453d80524832ae4c8f7f844089f763e602eb7a54f98b46", func := "tantalus/tantaluslaw12.BatchEncodes", spec := "batchEncodes", apart := false, narrowed := true }
def BatchEncodesUptoSaid : Prop := batchEncodesUptoRow.holds Try.pinned (OpenSpec.upto batchEncodesSpec)

/-- 'tantaluslaw12.BatchEntries', WHERE WHAT IT READS IS OF BULK AT MOST 1048576: true; the input reads as it did. -/
def batchEntriesUptoRow : OpenClaim := { program := "ytkioalfmffamhaa", sum := "275b41f91ce5c0fadc453d80524832ae4c8f7f844089f763e602eb7a54f98b46", func := "tantalus/tantaluslaw12.BatchEntries", spec := "batchEntries", apart := false, narrowed := true }
def BatchEntriesUptoSaid : Prop := batchEntriesUptoRow.holds Try.pinned (OpenSpec.upto batchEntriesSpec)

/-- 'tantaluslaw12.BatchJoins', WHERE WHAT IT READS IS OF BULK AT MOST 1048576: true; the input reads as it did. -/
def batchJoinsUptoRow : OpenClaim := { program := "ytkioalfmffamhaa", sum := "275b41f91ce5c0fadc453d80524832ae4c8f7f844089f763e602eb7a54f98b46", func := "tantalus/tantaluslaw12.BatchJoins", spec := "batchJoins", apart := false, narrowed := true }
def BatchJoinsUptoSaid : Prop := batchJoinsUptoRow.holds Try.pinned (OpenSpec.upto batchJoinsSpec)

/-- 'tantaluslaw12.BatchDecodes', WHERE WHAT IT READS IS OF BULK AT MOST 1048576: true; the input reads as it did. -/
def batchDecodesUptoRow : OpenClaim := { program := "ytkioalfmffamhaa", sum := "275b41f91ce5c0fadc453d80524832ae4c8f7f844089f763e602eb7a54f98b46", func := "tantalus/tantaluslaw12.BatchDecodes", spec := "batchDecodes", apart := false, narrowed := true }
def BatchDecodesUptoSaid : Prop := batchDecodesUptoRow.holds Try.pinned (OpenSpec.upto batchDecodesSpec)

/-- 'tantaluslaw12.BatchBack', WHERE WHAT IT READS IS OF BULK AT MOST 1048576: true; the input reads as it did. -/
def batchBackUptoRow : OpenClaim := { program := "ytkioalfmffamhaa", sum := "275b41f91ce5c0fadc453d80524832ae4c8f7f844089f763e602eb7a54f98b46", func := "tantalus/tantaluslaw12.BatchBack", spec := "batchBack", apart := false, narrowed := true }
def BatchBackUptoSaid : Prop := batchBackUptoRow.holds Try.pinned (OpenSpec.upto batchBackSpec)

/-- 'tantaluslaw12.BatchOnce', WHERE WHAT IT READS IS OF BULK AT MOST 1048576: true; the input reads as it did. -/
def batchOnceUptoRow : OpenClaim := { program := "ytkioalfmffamhaa", sum := "275b41f91ce5c0fadc453d80524832ae4c8f7f844089f763e602eb7a54f98b46", func := "tantalus/tantaluslaw12.BatchOnce", spec := "batchOnce", apart := false, narrowed := true }
def BatchOnceUptoSaid : Prop := batchOnceUptoRow.holds Try.pinned (OpenSpec.upto batchOnceSpec)

end Rows
end Go.Proofs.Ytkioalfmffamhaa
