/-
  No cell of these rows narrows 'for every input' (looked for: loops, veiled, ifaces, maps, wideKeys, modest, calm, conditions, laid).
  DERIVED. THE GIVEN ROWS OF THIS SEAT. 5 by the template 'for every input the law returns true; each argument reads behind the call as it read before'; 0 by the template 'total and deterministic' (their statements: YtlphbkhcdnbbnaaTotals.lean).
  GIVEN WITH THE SEED: the statements are not yours to turn. If you find one false, say at which input.
  Laid BY PROGRAM, IN A SANDBOX (cutbox-rows.mjs): the forced cells as the released guide's own fill.sh prints them over the translation 6f8b47996c35b45b… (all of the seat's roots in one cut). By AI agents, Wed Nov 11 2026. No macro, syntax, notation, axiom, sorry.
-/
import Derived.Test.YtlphbkhcdnbbnaaChecked
import GoSem.Claim
import GoSem.ClaimJoined
import GoSem.ClaimMapViews
import Derived.JoinedTies
import Derived.KernelRfl
namespace Go.Proofs.Ytlphbkhcdnbbnaa
/- THE CELL 'sum', in the pinned program and in every row, IS THE sha256 OF THE DUMP (.gsa) THAT YtlphbkhcdnbbnaaProg.lean LOADS. Nothing in Lean hashes anything: it is a label: what it is worth is what the hold of that sum in a sandbox is worth. -/
noncomputable def Try.pinned : Pinned := { name := "ytlphbkhcdnbbnaa", sum := "6f8b47996c35b45bb30260e8fa57a41ca9a74e9d1e307485fd9bc1185e268e25", checked := Try.checked }
namespace Rows
def none {H : Type} : Left H := { results := [], args := [] }

/-- 'tantaluslaw13.SkipNewest': WHATEVER THE INPUT: true; the input reads as it did. -/
def skipNewestSpec : ChangeSpec := { name := "skipNewest", fn := fun _ => fun
  | [d1, d2, d3] => { results := [.lit (.bool true)], args := [d1, d2, d3] }
  | _ => none }
def skipNewestRow : OpenClaim := { program := "ytlphbkhcdnbbnaa", sum := "6f8b47996c35b45bb30260e8fa57a41ca9a74e9d1e307485fd9bc1185e268e25", func := "tantalus/tantaluslaw13.SkipNewest", spec := "skipNewest", apart := false }
def SkipNewestSaid : Prop := skipNewestRow.holds Try.pinned (OpenSpec.ofChange skipNewestSpec)

/-- ITS FALSE NEIGHBOUR: 'it returns false'. Refute it at one input. -/
def skipNewestWrong : ChangeSpec := { name := "skipNewest", fn := fun _ => fun
  | [d1, d2, d3] => { results := [.lit (.bool false)], args := [d1, d2, d3] }
  | _ => none }
def SkipNewestWrongFalsely : Prop := skipNewestRow.holds Try.pinned (OpenSpec.ofChange skipNewestWrong)

/-- 'tantaluslaw13.SkipPlays': WHATEVER THE INPUT: true; the input reads as it did. -/
def skipPlaysSpec : ChangeSpec := { name := "skipPlays", fn := fun _ => fun
  | [d1, d2] => { results := [.lit (.bool true)], args := [d1, d2] }
  | _ => none }
def skipPlaysRow : OpenClaim := { program := "ytlphbkhcdnbbnaa", sum := "6f8b47996c35b45bb30260e8fa57a41ca9a74e9d1e307485fd9bc1185e268e25", func := "tantalus/tantaluslaw13.SkipPlays", spec := "skipPlays", apart := false }
def SkipPlaysSaid : Prop := skipPlaysRow.holds Try.pinned (OpenSpec.ofChange skipPlaysSpec)

/-- ITS FALSE NEIGHBOUR: 'it returns false'. Refute it at one input. -/
def skipPlaysWrong : ChangeSpec := { name := "skipPlays", fn := fun _ => fun
  | [d1, d2] => { results := [.lit (.bool false)], args := [d1, d2] }
  | _ => none }
def SkipPlaysWrongFalsely : Prop := skipPlaysRow.holds Try.pinned (OpenSpec.ofChange skipPlaysWrong)

/-- 'tantaluslaw13.SkipHeights': WHATEVER THE INPUT: true; the input reads as it did. -/
def skipHeightsSpec : ChangeSpec := { name := "skipHeights", fn := fun _ => fun
  | [d] => { results := [.lit (.bool true)], args := [d] }
  | _ => none }
def skipHeightsRow : OpenClaim := { program := "ytlphbkhcdnbbnaa", sum := "6f8b47996c35b45bb30260e8fa57a41ca9a74e9d1e307485fd9bc1185e268e25", func := "tantalus/tantaluslaw13.SkipHeights", spec := "skipHeights", apart := false }
def SkipHeightsSaid : Prop := skipHeightsRow.holds Try.pinned (OpenSpec.ofChange skipHeightsSpec)

/-- ITS FALSE NEIGHBOUR: 'it returns false'. Refute it at one input. -/
def skipHeightsWrong : ChangeSpec := { name := "skipHeights", fn := fun _ => fun
  | [d] => { results := [.lit (.bool false)], args := [d] }
  | _ => none }
def SkipHeightsWrongFalsely : Prop := skipHeightsRow.holds Try.pinned (OpenSpec.ofChange skipHeightsWrong)

/-- 'tantaluslaw13.SkipNil': WHATEVER THE INPUT: true; the input reads as it did. -/
def skipNilSpec : ChangeSpec := { name := "skipNil", fn := fun _ => fun
  | [d1, d2] => { results := [.lit (.bool true)], args := [d1, d2] }
  | _ => none }
def skipNilRow : OpenClaim := { program := "ytlphbkhcdnbbnaa", sum := "6f8b47996c35b45bb30260e8fa57a41ca9a74e9d1e307485fd9bc1185e268e25", func := "tantalus/tantaluslaw13.SkipNil", spec := "skipNil", apart := false }
def SkipNilSaid : Prop := skipNilRow.holds Try.pinned (OpenSpec.ofChange skipNilSpec)

/-- ITS FALSE NEIGHBOUR: 'it returns false'. Refute it at one input. -/
def skipNilWrong : ChangeSpec := { name := "skipNil", fn := fun _ => fun
  | [d1, d2] => { results := [.lit (.bool false)], args := [d1, d2] }
  | _ => none }
def SkipNilWrongFalsely : Prop := skipNilRow.holds Try.pinned (OpenSpec.ofChange skipNilWrong)

/-- 'tantaluslaw13.SkipOrder': WHATEVER THE INPUT: true; the input reads as it did. -/
def skipOrderSpec : ChangeSpec := { name := "skipOrder", fn := fun _ => fun
  | [d1, d2] => { results := [.lit (.bool true)], args := [d1, d2] }
  | _ => none }
def skipOrderRow : OpenClaim := { program := "ytlphbkhcdnbbnaa", sum := "6f8b47996c35b45bb30260e8fa57a41ca9a74e9d1e307485fd9bc1185e268e25", func := "tantalus/tantaluslaw13.SkipOrder", spec := "skipOrder", apart := false }
def SkipOrderSaid : Prop := skipOrderRow.holds Try.pinned (OpenSpec.ofChange skipOrderSpec)

/-- ITS FALSE NEIGHBOUR: 'it returns false'. Refute it at one input. -/
def skipOrderWrong : ChangeSpec := { name := "skipOrder", fn := fun _ => fun
  | [d1, d2] => { results := [.lit (.bool false)], args := [d1, d2] }
  | _ => none }
def SkipOrderWrongFalsely : Prop := skipOrderRow.holds Try.pinned (OpenSpec.ofChange skipOrderWrong)

/- THE SECOND FORM. 'bulk': how many values and letters a reading holds, each counted each time it is reached (what is shared counts as often as it is met; a slice's spare places count too). A statement '..UptoSaid' is the law's where the arguments, and the package variables that the reading takes, are together of bulk at most 1048576: NARROWER than '..Said'. Prove '..Said' where nothing that the law and all that it calls make is longer than what came in: it says more and counts as full. Else prove '..UptoSaid'. A law counts once. -/
mutual
def uptoBulk {H : Type} : DataW H → Nat
  | .lit (.string bytes) => bytes.length + 1
  | .lit _ => 1
  | .nil => 1
  | .ptr d => uptoBulk d + 1
  | .slice elems spare => uptoBulkAll elems + uptoBulkAll spare + 1
  | .agg parts => uptoBulkAll parts + 1
  | .iface _ d => uptoBulk d + 1
  | .map entries => uptoBulkEntries entries + 1
  | .held _ => 1
def uptoBulkAll {H : Type} : List (DataW H) → Nat
  | [] => 0
  | d :: r => uptoBulk d + uptoBulkAll r
def uptoBulkEntries {H : Type} : List (Lit × DataW H) → Nat
  | [] => 0
  | x :: r => uptoBulkEntry x + uptoBulkEntries r
def uptoBulkEntry {H : Type} : Lit × DataW H → Nat
  | (.string bytes, d) => bytes.length + uptoBulk d + 1
  | (_, d) => uptoBulk d + 1
 end
def uptoSmall : (H : Type) → List (DataW H) → Bool := fun _ ds => decide (uptoBulkAll ds ≤ 1048576)
def OpenSpec.upto (s : _root_.Go.ChangeSpec) : _root_.Go.OpenSpec := { _root_.Go.OpenSpec.ofChange s with cond := some uptoSmall }

/-- 'tantaluslaw13.SkipNewest', WHERE WHAT IT READS IS OF BULK AT MOST 1048576: true; the input reads as it did. -/
def skipNewestUptoRow : OpenClaim := { program := "ytlphbkhcdnbbnaa", sum := "6f8b47996c35b45bb30260e8fa57a41ca9a74e9d1e307485fd9bc1185e268e25", func := "tantalus/tantaluslaw13.SkipNewest", spec := "skipNewest", apart := false, narrowed := true }
def SkipNewestUptoSaid : Prop := skipNewestUptoRow.holds Try.pinned (OpenSpec.upto skipNewestSpec)

/-- 'tantaluslaw13.SkipPlays', WHERE WHAT IT READS IS OF BULK AT MOST 1048576: true; the input reads as it did. -/
def skipPlaysUptoRow : OpenClaim := { program := "ytlphbkhcdnbbnaa", sum := "6f8b47996c35b45bb30260e8fa57a41ca9a74e9d1e307485fd9bc1185e268e25", func := "tantalus/tantaluslaw13.SkipPlays", spec := "skipPlays", apart := false, narrowed := true }
def SkipPlaysUptoSaid : Prop := skipPlaysUptoRow.holds Try.pinned (OpenSpec.upto skipPlaysSpec)

/-- 'tantaluslaw13.SkipHeights', WHERE WHAT IT READS IS OF BULK AT MOST 1048576: true; the input reads as it did. -/
def skipHeightsUptoRow : OpenClaim := { program := "ytlphbkhcdnbbnaa", sum := "6f8b47996c35b45bb30260e8fa57a41ca9a74e9d1e307485fd9bc1185e268e25", func := "tantalus/tantaluslaw13.SkipHeights", spec := "skipHeights", apart := false, narrowed := true }
def SkipHeightsUptoSaid : Prop := skipHeightsUptoRow.holds Try.pinned (OpenSpec.upto skipHeightsSpec)

/-- 'tantaluslaw13.SkipNil', WHERE WHAT IT READS IS OF BULK AT MOST 1048576: true; the input reads as it did. -/
def skipNilUptoRow : OpenClaim := { program := "ytlphbkhcdnbbnaa", sum := "6f8b47996c35b45bb30260e8fa57a41ca9a74e9d1e307485fd9bc1185e268e25", func := "tantalus/tantaluslaw13.SkipNil", spec := "skipNil", apart := false, narrowed := true }
def SkipNilUptoSaid : Prop := skipNilUptoRow.holds Try.pinned (OpenSpec.upto skipNilSpec)

/-- 'tantaluslaw13.SkipOrder', WHERE WHAT IT READS IS OF BULK AT MOST 1048576: true; the input reads as it did. -/
def skipOrderUptoRow : OpenClaim := { program := "ytlphbkhcdnbbnaa", sum := "6f8b47996c35b45bb30260e8fa57a41ca9a74e9d1e307485fd9bc1185e268e25", func := "tantalus/tantaluslaw13.SkipOrder", spec := "skipOrder", apart := false, narrowed := true }
def SkipOrderUptoSaid : Prop := skipOrderUptoRow.holds Try.pinned (OpenSpec.upto skipOrderSpec)

end Rows
end Go.Proofs.Ytlphbkhcdnbbnaa
