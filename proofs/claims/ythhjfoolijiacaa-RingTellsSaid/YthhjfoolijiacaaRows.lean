/-
  No cell of these rows narrows 'for every input' (looked for: loops, veiled, ifaces, maps, wideKeys, modest, calm, conditions, laid).
  DERIVED. THE GIVEN ROWS OF THIS SEAT. 4 by the template 'for every input the law returns true; each argument reads behind the call as it read before'; 0 by the template 'total and deterministic' (their statements: YthhjfoolijiacaaTotals.lean).
  GIVEN WITH THE SEED: the statements are not yours to turn. If you find one false, say at which input.
  Laid BY PROGRAM, IN A SANDBOX (cutbox-rows.mjs): the forced cells as the released guide's own fill.sh prints them over the translation b7b038d6796393e0… (all of the seat's roots in one cut). By AI agents, Wed Nov 11 2026. No macro, syntax, notation, axiom, sorry.
-/
import Derived.Test.YthhjfoolijiacaaChecked
import GoSem.Claim
import GoSem.ClaimJoined
import GoSem.ClaimMapViews
import Derived.JoinedTies
import Derived.KernelRfl
namespace Go.Proofs.Ythhjfoolijiacaa
/- THE CELL 'sum', in the pinned program and in every row, IS THE sha256 OF THE DUMP (.gsa) THAT YthhjfoolijiacaaProg.lean LOADS. Nothing in Lean hashes anything: it is a label: what it is worth is what the hold of that sum in a sandbox is worth. -/
noncomputable def Try.pinned : Pinned := { name := "ythhjfoolijiacaa", sum := "b7b038d6796393e045aebbbf34c6170eb6b028e0bbcf2279eee9e86af20ee89d", checked := Try.checked }
namespace Rows
def none {H : Type} : Left H := { results := [], args := [] }

/-- 'nightjarlaw08.RingTells': WHATEVER THE INPUT: true; the input reads as it did. -/
def ringTellsSpec : ChangeSpec := { name := "ringTells", fn := fun _ => fun
  | [d1, d2] => { results := [.lit (.bool true)], args := [d1, d2] }
  | _ => none }
def ringTellsRow : OpenClaim := { program := "ythhjfoolijiacaa", sum := "b7b038d6796393e045aebbbf34c6170eb6b028e0bbcf2279eee9e86af20ee89d", func := "nightjar/nightjarlaw08.RingTells", spec := "ringTells", apart := false }
def RingTellsSaid : Prop := ringTellsRow.holds Try.pinned (OpenSpec.ofChange ringTellsSpec)

/-- ITS FALSE NEIGHBOUR: 'it returns false'. Refute it at one input. -/
def ringTellsWrong : ChangeSpec := { name := "ringTells", fn := fun _ => fun
  | [d1, d2] => { results := [.lit (.bool false)], args := [d1, d2] }
  | _ => none }
def RingTellsWrongFalsely : Prop := ringTellsRow.holds Try.pinned (OpenSpec.ofChange ringTellsWrong)

/-- 'nightjarlaw08.RingLast': WHATEVER THE INPUT: true; the input reads as it did. -/
def ringLastSpec : ChangeSpec := { name := "ringLast", fn := fun _ => fun
  | [d1, d2, d3] => { results := [.lit (.bool true)], args := [d1, d2, d3] }
  | _ => none }
def ringLastRow : OpenClaim := { program := "ythhjfoolijiacaa", sum := "b7b038d6796393e045aebbbf34c6170eb6b028e0bbcf2279eee9e86af20ee89d", func := "nightjar/nightjarlaw08.RingLast", spec := "ringLast", apart := false }
def RingLastSaid : Prop := ringLastRow.holds Try.pinned (OpenSpec.ofChange ringLastSpec)

/-- ITS FALSE NEIGHBOUR: 'it returns false'. Refute it at one input. -/
def ringLastWrong : ChangeSpec := { name := "ringLast", fn := fun _ => fun
  | [d1, d2, d3] => { results := [.lit (.bool false)], args := [d1, d2, d3] }
  | _ => none }
def RingLastWrongFalsely : Prop := ringLastRow.holds Try.pinned (OpenSpec.ofChange ringLastWrong)

/-- 'nightjarlaw08.RingStep': WHATEVER THE INPUT: true; the input reads as it did. -/
def ringStepSpec : ChangeSpec := { name := "ringStep", fn := fun _ => fun
  | [d1, d2, d3] => { results := [.lit (.bool true)], args := [d1, d2, d3] }
  | _ => none }
def ringStepRow : OpenClaim := { program := "ythhjfoolijiacaa", sum := "b7b038d6796393e045aebbbf34c6170eb6b028e0bbcf2279eee9e86af20ee89d", func := "nightjar/nightjarlaw08.RingStep", spec := "ringStep", apart := false }
def RingStepSaid : Prop := ringStepRow.holds Try.pinned (OpenSpec.ofChange ringStepSpec)

/-- ITS FALSE NEIGHBOUR: 'it returns false'. Refute it at one input. -/
def ringStepWrong : ChangeSpec := { name := "ringStep", fn := fun _ => fun
  | [d1, d2, d3] => { results := [.lit (.bool false)], args := [d1, d2, d3] }
  | _ => none }
def RingStepWrongFalsely : Prop := ringStepRow.holds Try.pinned (OpenSpec.ofChange ringStepWrong)

/-- 'nightjarlaw08.RingRoom': WHATEVER THE INPUT: true; the input reads as it did. -/
def ringRoomSpec : ChangeSpec := { name := "ringRoom", fn := fun _ => fun
  | [d1, d2] => { results := [.lit (.bool true)], args := [d1, d2] }
  | _ => none }
def ringRoomRow : OpenClaim := { program := "ythhjfoolijiacaa", sum := "b7b038d6796393e045aebbbf34c6170eb6b028e0bbcf2279eee9e86af20ee89d", func := "nightjar/nightjarlaw08.RingRoom", spec := "ringRoom", apart := false }
def RingRoomSaid : Prop := ringRoomRow.holds Try.pinned (OpenSpec.ofChange ringRoomSpec)

/-- ITS FALSE NEIGHBOUR: 'it returns false'. Refute it at one input. -/
def ringRoomWrong : ChangeSpec := { name := "ringRoom", fn := fun _ => fun
  | [d1, d2] => { results := [.lit (.bool false)], args := [d1, d2] }
  | _ => none }
def RingRoomWrongFalsely : Prop := ringRoomRow.holds Try.pinned (OpenSpec.ofChange ringRoomWrong)

/- THE SECOND FORM. 'bulk': how many values and letters a reading holds, each counted each time it is reached (what is shared counts as often as it is met; a slice's spare places count too). A statement '..UptoSaid' is the law's where the arguments, and the package variables that the reading takes, are together of bulk at most 1048576: NARROWER than '..Said'. Prove '..Said' where nothing that the law and all that it calls make is longer than what came in: it says more and counts as full. Else prove '..UptoSaid'. A law counts once. -/
mutual
def uptoBulk {H : Type} : DataW H → Nat
  | .lit (.string bytes) => bytes.length + 1
  | .lit _ => 1
  | .nil => 1
  | .ptr d => uptoBulk d + 1
  | .slice elems spare => uptoBulkAll elems + uptoBulkAll spare + 1
  | .agg parts => uptoBulkAll parts + 1
  | .iface _ d => uptoBulk d + 1
  | .map entries => uptoBulkEntries entries + 1
  | .held _ => 1
def uptoBulkAll {H : Type} : List (DataW H) → Nat
  | [] => 0
  | d :: r => uptoBulk d + uptoBulkAll r
def uptoBulkEntries {H : Type} : List (Lit × DataW H) → Nat
  | [] => 0
  | x :: r => uptoBulkEntry x + uptoBulkEntries r
def uptoBulkEntry {H : Type} : Lit × DataW H → Nat
  | (.string bytes, d) => bytes.length + uptoBulk d + 1
  | (_, d) => uptoBulk d + 1
 end
def uptoSmall : (H : Type) → List (DataW H) → Bool := fun _ ds => decide (uptoBulkAll ds ≤ 1048576)
def OpenSpec.upto (s : _root_.Go.ChangeSpec) : _root_.Go.OpenSpec := { _root_.Go.OpenSpec.ofChange s with cond := some uptoSmall }

/-- 'nightjarlaw08.RingTells', WHERE WHAT IT READS IS OF BULK AT MOST 1048576: true; the input reads as it did. -/
def ringTellsUptoRow : OpenClaim := { program := "ythhjfoolijiacaa", sum := "b7b038d6796393e045aebbbf34c6170eb6b028e0bbcf2279eee9e86af20ee89d", func := "nightjar/nightjarlaw08.RingTells", spec := "ringTells", apart := false, narrowed := true }
def RingTellsUptoSaid : Prop := ringTellsUptoRow.holds Try.pinned (OpenSpec.upto ringTellsSpec)

/-- 'nightjarlaw08.RingLast', WHERE WHAT IT READS IS OF BULK AT MOST 1048576: true; the input reads as it did. -/
def ringLastUptoRow : OpenClaim := { program := "ythhjfoolijiacaa", sum := "b7b038d6796393e045aebbbf34c6170eb6b028e0bbcf2279eee9e86af20ee89d", func := "nightjar/nightjarlaw08.RingLast", spec := "ringLast", apart := false, narrowed := true }
def RingLastUptoSaid : Prop := ringLastUptoRow.holds Try.pinned (OpenSpec.upto ringLastSpec)

/-- 'nightjarlaw08.RingStep', WHERE WHAT IT READS IS OF BULK AT MOST 1048576: true; the input reads as it did. -/
def ringStepUptoRow : OpenClaim := { program := "ythhjfoolijiacaa", sum := "b7b038d6796393e045aebbbf34c6170eb6b028e0bbcf2279eee9e86af20ee89d", func := "nightjar/nightjarlaw08.RingStep", spec := "ringStep", apart := false, narrowed := true }
def RingStepUptoSaid : Prop := ringStepUptoRow.holds Try.pinned (OpenSpec.upto ringStepSpec)

/-- 'nightjarlaw08.RingRoom', WHERE WHAT IT READS IS OF BULK AT MOST 1048576: true; the input reads as it did. -/
def ringRoomUptoRow : OpenClaim := { program := "ythhjfoolijiacaa", sum := "b7b038d6796393e045aebbbf34c6170eb6b028e0bbcf2279eee9e86af20ee89d", func := "nightjar/nightjarlaw08.RingRoom", spec := "ringRoom", apart := false, narrowed := true }
def RingRoomUptoSaid : Prop := ringRoomUptoRow.holds Try.pinned (OpenSpec.upto ringRoomSpec)

end Rows
end Go.Proofs.Ythhjfoolijiacaa
