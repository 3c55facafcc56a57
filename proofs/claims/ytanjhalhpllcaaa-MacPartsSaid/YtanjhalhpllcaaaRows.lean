/-
  No cell of these rows narrows 'for every input' (looked for: loops, veiled, ifaces, maps, wideKeys, modest, calm, conditions, laid).
  DERIVED. THE GIVEN ROWS OF THIS SEAT. 8 by the template 'for every input the law returns true; each argument reads behind the call as it read before'; 0 by the template 'total and deterministic' (their statements: YtanjhalhpllcaaaTotals.lean).
  GIVEN WITH THE SEED: the statements are not yours to turn. If you find one false, say at which input.
  Laid BY PROGRAM, IN A SANDBOX (cutbox-rows.mjs): the forced cells as the released guide's own fill.sh prints them over the translation fd5addc7bf1de391… (all of the seat's roots in one cut). By AI agents, Wed Nov 11 2026. No macro, syntax, notation, axiom, sorry.
-/
import Derived.Test.YtanjhalhpllcaaaChecked
import GoSem.Claim
import GoSem.ClaimJoined
import GoSem.ClaimMapViews
import Derived.JoinedTies
import Derived.KernelRfl
namespace Go.Proofs.Ytanjhalhpllcaaa
/- THE CELL 'sum', in the pinned program and in every row, IS THE sha256 OF THE DUMP (.gsa) THAT YtanjhalhpllcaaaProg.lean LOADS. Nothing in Lean hashes anything: it is a label: what it is worth is what the hold of that sum in a sandbox is worth. -/
noncomputable def Try.pinned : Pinned := { name := "ytanjhalhpllcaaa", sum := "fd5addc7bf1de39135fa7a31a692306a3b886bf20bb779fad1f4a429158d62e4", checked := Try.checked }
namespace Rows
def none {H : Type} : Left H := { results := [], args := [] }

/-- 'nightjarlaw02.DigestTells': WHATEVER THE INPUT: true; the input reads as it did. -/
def digestTellsSpec : ChangeSpec := { name := "digestTells", fn := fun _ => fun
  | [d] => { results := [.lit (.bool true)], args := [d] }
  | _ => none }
def digestTellsRow : OpenClaim := { program := "ytanjhalhpllcaaa", sum := "fd5addc7bf1de39135fa7a31a692306a3b886bf20bb779fad1f4a429158d62e4", func := "nightjar/nightjarlaw02.DigestTells", spec := "digestTells", apart := false }
def DigestTellsSaid : Prop := digestTellsRow.holds Try.pinned (OpenSpec.ofChange digestTellsSpec)

/-- ITS FALSE NEIGHBOUR: 'it returns false'. Refute it at one input. -/
def digestTellsWrong : ChangeSpec := { name := "digestTells", fn := fun _ => fun
  | [d] => { results := [.lit (.bool false)], args := [d] }
  | _ => none }
def DigestTellsWrongFalsely : Prop := digestTellsRow.holds Try.pinned (OpenSpec.ofChange digestTellsWrong)

/-- 'nightjarlaw02.DigestParts': WHATEVER THE INPUT: true; the input reads as it did. -/
def digestPartsSpec : ChangeSpec := { name := "digestParts", fn := fun _ => fun
  | [d1, d2, d3] => { results := [.lit (.bool true)], args := [d1, d2, d3] }
  | _ => none }
def digestPartsRow : OpenClaim := { program := "ytanjhalhpllcaaa", sum := "fd5addc7bf1de39135fa7a31a692306a3b886bf20bb779fad1f4a429158d62e4", func := "nightjar/nightjarlaw02.DigestParts", spec := "digestParts", apart := false }
def DigestPartsSaid : Prop := digestPartsRow.holds Try.pinned (OpenSpec.ofChange digestPartsSpec)

/-- ITS FALSE NEIGHBOUR: 'it returns false'. Refute it at one input. -/
def digestPartsWrong : ChangeSpec := { name := "digestParts", fn := fun _ => fun
  | [d1, d2, d3] => { results := [.lit (.bool false)], args := [d1, d2, d3] }
  | _ => none }
def DigestPartsWrongFalsely : Prop := digestPartsRow.holds Try.pinned (OpenSpec.ofChange digestPartsWrong)

/-- 'nightjarlaw02.DigestRows': WHATEVER THE INPUT: true; the input reads as it did. -/
def digestRowsSpec : ChangeSpec := { name := "digestRows", fn := fun _ => fun
  | [d] => { results := [.lit (.bool true)], args := [d] }
  | _ => none }
def digestRowsRow : OpenClaim := { program := "ytanjhalhpllcaaa", sum := "fd5addc7bf1de39135fa7a31a692306a3b886bf20bb779fad1f4a429158d62e4", func := "nightjar/nightjarlaw02.DigestRows", spec := "digestRows", apart := false }
def DigestRowsSaid : Prop := digestRowsRow.holds Try.pinned (OpenSpec.ofChange digestRowsSpec)

/-- ITS FALSE NEIGHBOUR: 'it returns false'. Refute it at one input. -/
def digestRowsWrong : ChangeSpec := { name := "digestRows", fn := fun _ => fun
  | [d] => { results := [.lit (.bool false)], args := [d] }
  | _ => none }
def DigestRowsWrongFalsely : Prop := digestRowsRow.holds Try.pinned (OpenSpec.ofChange digestRowsWrong)

/-- 'nightjarlaw03.MacTells': WHATEVER THE INPUT: true; the input reads as it did. -/
def macTellsSpec : ChangeSpec := { name := "macTells", fn := fun _ => fun
  | [d1, d2, d3] => { results := [.lit (.bool true)], args := [d1, d2, d3] }
  | _ => none }
def macTellsRow : OpenClaim := { program := "ytanjhalhpllcaaa", sum := "fd5addc7bf1de39135fa7a31a692306a3b886bf20bb779fad1f4a429158d62e4", func := "nightjar/nightjarlaw03.MacTells", spec := "macTells", apart := false }
def MacTellsSaid : Prop := macTellsRow.holds Try.pinned (OpenSpec.ofChange macTellsSpec)

/-- ITS FALSE NEIGHBOUR: 'it returns false'. Refute it at one input. -/
def macTellsWrong : ChangeSpec := { name := "macTells", fn := fun _ => fun
  | [d1, d2, d3] => { results := [.lit (.bool false)], args := [d1, d2, d3] }
  | _ => none }
def MacTellsWrongFalsely : Prop := macTellsRow.holds Try.pinned (OpenSpec.ofChange macTellsWrong)

/-- 'nightjarlaw03.MacParts': WHATEVER THE INPUT: true; the input reads as it did. -/
def macPartsSpec : ChangeSpec := { name := "macParts", fn := fun _ => fun
  | [d1, d2, d3, d4] => { results := [.lit (.bool true)], args := [d1, d2, d3, d4] }
  | _ => none }
def macPartsRow : OpenClaim := { program := "ytanjhalhpllcaaa", sum := "fd5addc7bf1de39135fa7a31a692306a3b886bf20bb779fad1f4a429158d62e4", func := "nightjar/nightjarlaw03.MacParts", spec := "macParts", apart := false }
def MacPartsSaid : Prop := macPartsRow.holds Try.pinned (OpenSpec.ofChange macPartsSpec)

/-- ITS FALSE NEIGHBOUR: 'it returns false'. Refute it at one input. -/
def macPartsWrong : ChangeSpec := { name := "macParts", fn := fun _ => fun
  | [d1, d2, d3, d4] => { results := [.lit (.bool false)], args := [d1, d2, d3, d4] }
  | _ => none }
def MacPartsWrongFalsely : Prop := macPartsRow.holds Try.pinned (OpenSpec.ofChange macPartsWrong)

/-- 'nightjarlaw03.MacEqual': WHATEVER THE INPUT: true; the input reads as it did. -/
def macEqualSpec : ChangeSpec := { name := "macEqual", fn := fun _ => fun
  | [d1, d2, d3, d4] => { results := [.lit (.bool true)], args := [d1, d2, d3, d4] }
  | _ => none }
def macEqualRow : OpenClaim := { program := "ytanjhalhpllcaaa", sum := "fd5addc7bf1de39135fa7a31a692306a3b886bf20bb779fad1f4a429158d62e4", func := "nightjar/nightjarlaw03.MacEqual", spec := "macEqual", apart := false }
def MacEqualSaid : Prop := macEqualRow.holds Try.pinned (OpenSpec.ofChange macEqualSpec)

/-- ITS FALSE NEIGHBOUR: 'it returns false'. Refute it at one input. -/
def macEqualWrong : ChangeSpec := { name := "macEqual", fn := fun _ => fun
  | [d1, d2, d3, d4] => { results := [.lit (.bool false)], args := [d1, d2, d3, d4] }
  | _ => none }
def MacEqualWrongFalsely : Prop := macEqualRow.holds Try.pinned (OpenSpec.ofChange macEqualWrong)

/-- 'nightjarlaw03.MacNested': WHATEVER THE INPUT: true; the input reads as it did. -/
def macNestedSpec : ChangeSpec := { name := "macNested", fn := fun _ => fun
  | [d1, d2] => { results := [.lit (.bool true)], args := [d1, d2] }
  | _ => none }
def macNestedRow : OpenClaim := { program := "ytanjhalhpllcaaa", sum := "fd5addc7bf1de39135fa7a31a692306a3b886bf20bb779fad1f4a429158d62e4", func := "nightjar/nightjarlaw03.MacNested", spec := "macNested", apart := false }
def MacNestedSaid : Prop := macNestedRow.holds Try.pinned (OpenSpec.ofChange macNestedSpec)

/-- ITS FALSE NEIGHBOUR: 'it returns false'. Refute it at one input. -/
def macNestedWrong : ChangeSpec := { name := "macNested", fn := fun _ => fun
  | [d1, d2] => { results := [.lit (.bool false)], args := [d1, d2] }
  | _ => none }
def MacNestedWrongFalsely : Prop := macNestedRow.holds Try.pinned (OpenSpec.ofChange macNestedWrong)

/-- 'nightjarlaw03.MacRows': WHATEVER THE INPUT: true; the input reads as it did. -/
def macRowsSpec : ChangeSpec := { name := "macRows", fn := fun _ => fun
  | [d1, d2] => { results := [.lit (.bool true)], args := [d1, d2] }
  | _ => none }
def macRowsRow : OpenClaim := { program := "ytanjhalhpllcaaa", sum := "fd5addc7bf1de39135fa7a31a692306a3b886bf20bb779fad1f4a429158d62e4", func := "nightjar/nightjarlaw03.MacRows", spec := "macRows", apart := false }
def MacRowsSaid : Prop := macRowsRow.holds Try.pinned (OpenSpec.ofChange macRowsSpec)

/-- ITS FALSE NEIGHBOUR: 'it returns false'. Refute it at one input. -/
def macRowsWrong : ChangeSpec := { name := "macRows", fn := fun _ => fun
  | [d1, d2] => { results := [.lit (.bool false)], args := [d1, d2] }
  | _ => none }
def MacRowsWrongFalsely : Prop := macRowsRow.holds Try.pinned (OpenSpec.ofChange macRowsWrong)

/- THE SECOND FORM. 'bulk': how many values and letters a reading holds, each counted each time it is reached (what is shared counts as often as it is met; a slice's spare places count too). A statement '..UptoSaid' is the law's where the arguments, and the package variables that the reading takes, are together of bulk at most 1048576: NARROWER than '..Said'. Prove '..Said' where nothing that the law and all that it calls make is longer than what came in: it says more and counts as full. Else prove '..UptoSaid'. A law counts once. -/
mutual
def uptoBulk {H : Type} : DataW H → Nat
  | .lit (.string bytes) => bytes.length + 1
  | .lit _ => 1
  | .nil => 1
  | .ptr d => uptoBulk d + 1
  | .slice elems spare => uptoBulkAll elems + uptoBulkAll spare + 1
  | .agg parts => uptoBulkAll parts + 1
  | .iface _ d => uptoBulk d + 1
  | .map entries => uptoBulkEntries entries + 1
  | .held _ => 1
def uptoBulkAll {H : Type} : List (DataW H) → Nat
  | [] => 0
  | d :: r => uptoBulk d + uptoBulkAll r
def uptoBulkEntries {H : Type} : List (Lit × DataW H) → Nat
  | [] => 0
  | x :: r => uptoBulkEntry x + uptoBulkEntries r
def uptoBulkEntry {H : Type} : Lit × DataW H → Nat
  | (.string bytes, d) => bytes.length + uptoBulk d + 1
  | (_, d) => uptoBulk d + 1
 end
def uptoSmall : (H : Type) → List (DataW H) → Bool := fun _ ds => decide (uptoBulkAll ds ≤ 1048576)
def OpenSpec.upto (s : _root_.Go.ChangeSpec) : _root_.Go.OpenSpec := { _root_.Go.OpenSpec.ofChange s with cond := some uptoSmall }

/-- 'nightjarlaw02.DigestTells', WHERE WHAT IT READS IS OF BULK AT MOST 1048576: true; the input reads as it did. -/
def digestTellsUptoRow : OpenClaim := { program := "ytanjhalhpllcaaa", sum := "fd5addc7bf1de39135fa7a31a692306a3b886bf20bb779fad1f4a429158d62e4", func := "nightjar/nightjarlaw02.DigestTells", spec := "digestTells", apart := false, narrowed := true }
def DigestTellsUptoSaid : Prop := digestTellsUptoRow.holds Try.pinned (OpenSpec.upto digestTellsSpec)

/-- 'nightjarlaw02.DigestParts', WHERE WHAT IT READS IS OF BULK AT MOST 1048576: true; the input reads as it did. -/
def digestPartsUptoRow : OpenClaim := { program := "ytanjhalhpllcaaa", sum := "fd5addc7bf1de39135fa7a31a692306a3b886bf20bb779fad1f4a429158d62e4", func := "nightjar/nightjarlaw02.DigestParts", spec := "digestParts", apart := false, narrowed := true }
def DigestPartsUptoSaid : Prop := digestPartsUptoRow.holds Try.pinned (OpenSpec.upto digestPartsSpec)

/-- 'nightjarlaw02.DigestRows', WHERE WHAT IT READS IS OF BULK AT MOST 1048576: true; the input reads as it did. -/
def digestRowsUptoRow : OpenClaim := { program := "ytanjhalhpllcaaa", sum := "fd5addc7bf1de39135fa7a31a692306a3b886bf20bb779fad1f4a429158d62e4", func := "nightjar/nightjarlaw02.DigestRows", spec := "digestRows", apart := false, narrowed := true }
def DigestRowsUptoSaid : Prop := digestRowsUptoRow.holds Try.pinned (OpenSpec.upto digestRowsSpec)

/-- 'nightjarlaw03.MacTells', WHERE WHAT IT READS IS OF BULK AT MOST 1048576: true; the input reads as it did. -/
def macTellsUptoRow : OpenClaim := { program := "ytanjhalhpllcaaa", sum := "fd5addc7bf1de39135fa7a31a692306a3b886bf20bb779fad1f4a429158d62e4", func := "nightjar/nightjarlaw03.MacTells", spec := "macTells", apart := false, narrowed := true }
def MacTellsUptoSaid : Prop := macTellsUptoRow.holds Try.pinned (OpenSpec.upto macTellsSpec)

/-- 'nightjarlaw03.MacParts', WHERE WHAT IT READS IS OF BULK AT MOST 1048576: true; the input reads as it did. -/
def macPartsUptoRow : OpenClaim := { program := "ytanjhalhpllcaaa", sum := "fd5addc7bf1de39135fa7a31a692306a3b886bf20bb779fad1f4a429158d62e4", func := "nightjar/nightjarlaw03.MacParts", spec := "macParts", apart := false, narrowed := true }
def MacPartsUptoSaid : Prop := macPartsUptoRow.holds Try.pinned (OpenSpec.upto macPartsSpec)

/-- 'nightjarlaw03.MacEqual', WHERE WHAT IT READS IS OF BULK AT MOST 1048576: true; the input reads as it did. -/
def macEqualUptoRow : OpenClaim := { program := "ytanjhalhpllcaaa", sum := "fd5addc7bf1de39135fa7a31a692306a3b886bf20bb779fad1f4a429158d62e4", func := "nightjar/nightjarlaw03.MacEqual", spec := "macEqual", apart := false, narrowed := true }
def MacEqualUptoSaid : Prop := macEqualUptoRow.holds Try.pinned (OpenSpec.upto macEqualSpec)

/-- 'nightjarlaw03.MacNested', WHERE WHAT IT READS IS OF BULK AT MOST 1048576: true; the input reads as it did. -/
def macNestedUptoRow : OpenClaim := { program := "ytanjhalhpllcaaa", sum := "fd5addc7bf1de39135fa7a31a692306a3b886bf20bb779fad1f4a429158d62e4", func := "nightjar/nightjarlaw03.MacNested", spec := "macNested", apart := false, narrowed := true }
def MacNestedUptoSaid : Prop := macNestedUptoRow.holds Try.pinned (OpenSpec.upto macNestedSpec)

/-- 'nightjarlaw03.MacRows', WHERE WHAT IT READS IS OF BULK AT MOST 1048576: true; the input reads as it did. -/
def macRowsUptoRow : OpenClaim := { program := "ytanjhalhpllcaaa", sum := "fd5addc7bf1de39135fa7a31a692306a3b886bf20bb779fad1f4a429158d62e4", func := "nightjar/nightjarlaw03.MacRows", spec := "macRows", apart := false, narrowed := true }
def MacRowsUptoSaid : Prop := macRowsUptoRow.holds Try.pinned (OpenSpec.upto macRowsSpec)

end Rows
end Go.Proofs.Ytanjhalhpllcaaa
