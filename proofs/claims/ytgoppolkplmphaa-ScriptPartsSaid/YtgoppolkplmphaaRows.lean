/-
  No cell of these rows narrows 'for every input' (looked for: loops, veiled, ifaces, maps, wideKeys, modest, calm, conditions, laid).
  DERIVED. THE GIVEN ROWS OF THIS SEAT. 12 by the template 'for every input the law returns true; each argument reads behind the call as it read before'; 0 by the template 'total and deterministic' (their statements: YtgoppolkplmphaaTotals.lean).
  GIVEN WITH THE SEED: the statements are not yours to turn. If you find one false, say at which input.
  Laid BY PROGRAM, IN A SANDBOX (cutbox-rows.mjs): the forced cells as the released guide's own fill.sh prints them over the translation ef338d22e484745a… (all of the seat's roots in one cut). By AI agents, Wed Nov 11 2026. No macro, syntax, notation, axiom, sorry.
-/
import Derived.Test.YtgoppolkplmphaaChecked
import GoSem.Claim
import GoSem.ClaimJoined
import GoSem.ClaimMapViews
import Derived.JoinedTies
import Derived.KernelRfl
namespace Go.Proofs.Ytgoppolkplmphaa
/- THE CELL 'sum', in the pinned program and in every row, IS THE sha256 OF THE DUMP (.gsa) THAT YtgoppolkplmphaaProg.lean LOADS. Nothing in Lean hashes anything: it is a label: what it is worth is what the hold of that sum in a sandbox is worth. -/
noncomputable def Try.pinned : Pinned := { name := "ytgoppolkplmphaa", sum := "ef338d22e484745af8895e97605a8bba187616c48bec63e9214e8cdc28e6cbdf", checked := Try.checked }
namespace Rows
def none {H : Type} : Left H := { results := [], args := [] }

/-- 'nightjarlaw16.SubTells': WHATEVER THE INPUT: true; the input reads as it did. -/
def subTellsSpec : ChangeSpec := { name := "subTells", fn := fun _ => fun
  | [d1, d2] => { results := [.lit (.bool true)], args := [d1, d2] }
  | _ => none }
def subTellsRow : OpenClaim := { program := "ytgoppolkplmphaa", sum := "ef338d22e484745af8895e97605a8bba187616c48bec63e9214e8cdc28e6cbdf", func := "nightjar/nightjarlaw16.SubTells", spec := "subTells", apart := false }
def SubTellsSaid : Prop := subTellsRow.holds Try.pinned (OpenSpec.ofChange subTellsSpec)

/-- ITS FALSE NEIGHBOUR: 'it returns false'. Refute it at one input. -/
def subTellsWrong : ChangeSpec := { name := "subTells", fn := fun _ => fun
  | [d1, d2] => { results := [.lit (.bool false)], args := [d1, d2] }
  | _ => none }
def SubTellsWrongFalsely : Prop := subTellsRow.holds Try.pinned (OpenSpec.ofChange subTellsWrong)

/-- 'nightjarlaw16.SubMay': WHATEVER THE INPUT: true; the input reads as it did. -/
def subMaySpec : ChangeSpec := { name := "subMay", fn := fun _ => fun
  | [d] => { results := [.lit (.bool true)], args := [d] }
  | _ => none }
def subMayRow : OpenClaim := { program := "ytgoppolkplmphaa", sum := "ef338d22e484745af8895e97605a8bba187616c48bec63e9214e8cdc28e6cbdf", func := "nightjar/nightjarlaw16.SubMay", spec := "subMay", apart := false }
def SubMaySaid : Prop := subMayRow.holds Try.pinned (OpenSpec.ofChange subMaySpec)

/-- ITS FALSE NEIGHBOUR: 'it returns false'. Refute it at one input. -/
def subMayWrong : ChangeSpec := { name := "subMay", fn := fun _ => fun
  | [d] => { results := [.lit (.bool false)], args := [d] }
  | _ => none }
def SubMayWrongFalsely : Prop := subMayRow.holds Try.pinned (OpenSpec.ofChange subMayWrong)

/-- 'nightjarlaw16.SubChanges': WHATEVER THE INPUT: true; the input reads as it did. -/
def subChangesSpec : ChangeSpec := { name := "subChanges", fn := fun _ => fun
  | [d1, d2] => { results := [.lit (.bool true)], args := [d1, d2] }
  | _ => none }
def subChangesRow : OpenClaim := { program := "ytgoppolkplmphaa", sum := "ef338d22e484745af8895e97605a8bba187616c48bec63e9214e8cdc28e6cbdf", func := "nightjar/nightjarlaw16.SubChanges", spec := "subChanges", apart := false }
def SubChangesSaid : Prop := subChangesRow.holds Try.pinned (OpenSpec.ofChange subChangesSpec)

/-- ITS FALSE NEIGHBOUR: 'it returns false'. Refute it at one input. -/
def subChangesWrong : ChangeSpec := { name := "subChanges", fn := fun _ => fun
  | [d1, d2] => { results := [.lit (.bool false)], args := [d1, d2] }
  | _ => none }
def SubChangesWrongFalsely : Prop := subChangesRow.holds Try.pinned (OpenSpec.ofChange subChangesWrong)

/-- 'nightjarlaw16.SubBlocks': WHATEVER THE INPUT: true; the input reads as it did. -/
def subBlocksSpec : ChangeSpec := { name := "subBlocks", fn := fun _ => fun
  | [d1, d2] => { results := [.lit (.bool true)], args := [d1, d2] }
  | _ => none }
def subBlocksRow : OpenClaim := { program := "ytgoppolkplmphaa", sum := "ef338d22e484745af8895e97605a8bba187616c48bec63e9214e8cdc28e6cbdf", func := "nightjar/nightjarlaw16.SubBlocks", spec := "subBlocks", apart := false }
def SubBlocksSaid : Prop := subBlocksRow.holds Try.pinned (OpenSpec.ofChange subBlocksSpec)

/-- ITS FALSE NEIGHBOUR: 'it returns false'. Refute it at one input. -/
def subBlocksWrong : ChangeSpec := { name := "subBlocks", fn := fun _ => fun
  | [d1, d2] => { results := [.lit (.bool false)], args := [d1, d2] }
  | _ => none }
def SubBlocksWrongFalsely : Prop := subBlocksRow.holds Try.pinned (OpenSpec.ofChange subBlocksWrong)

/-- 'nightjarlaw04.FieldTells': WHATEVER THE INPUT: true; the input reads as it did. -/
def fieldTellsSpec : ChangeSpec := { name := "fieldTells", fn := fun _ => fun
  | [d1, d2, d3, d4] => { results := [.lit (.bool true)], args := [d1, d2, d3, d4] }
  | _ => none }
def fieldTellsRow : OpenClaim := { program := "ytgoppolkplmphaa", sum := "ef338d22e484745af8895e97605a8bba187616c48bec63e9214e8cdc28e6cbdf", func := "nightjar/nightjarlaw04.FieldTells", spec := "fieldTells", apart := false }
def FieldTellsSaid : Prop := fieldTellsRow.holds Try.pinned (OpenSpec.ofChange fieldTellsSpec)

/-- ITS FALSE NEIGHBOUR: 'it returns false'. Refute it at one input. -/
def fieldTellsWrong : ChangeSpec := { name := "fieldTells", fn := fun _ => fun
  | [d1, d2, d3, d4] => { results := [.lit (.bool false)], args := [d1, d2, d3, d4] }
  | _ => none }
def FieldTellsWrongFalsely : Prop := fieldTellsRow.holds Try.pinned (OpenSpec.ofChange fieldTellsWrong)

/-- 'nightjarlaw04.FieldBack': WHATEVER THE INPUT: true; the input reads as it did. -/
def fieldBackSpec : ChangeSpec := { name := "fieldBack", fn := fun _ => fun
  | [d] => { results := [.lit (.bool true)], args := [d] }
  | _ => none }
def fieldBackRow : OpenClaim := { program := "ytgoppolkplmphaa", sum := "ef338d22e484745af8895e97605a8bba187616c48bec63e9214e8cdc28e6cbdf", func := "nightjar/nightjarlaw04.FieldBack", spec := "fieldBack", apart := false }
def FieldBackSaid : Prop := fieldBackRow.holds Try.pinned (OpenSpec.ofChange fieldBackSpec)

/-- ITS FALSE NEIGHBOUR: 'it returns false'. Refute it at one input. -/
def fieldBackWrong : ChangeSpec := { name := "fieldBack", fn := fun _ => fun
  | [d] => { results := [.lit (.bool false)], args := [d] }
  | _ => none }
def FieldBackWrongFalsely : Prop := fieldBackRow.holds Try.pinned (OpenSpec.ofChange fieldBackWrong)

/-- 'nightjarlaw04.FieldFails': WHATEVER THE INPUT: true; the input reads as it did. -/
def fieldFailsSpec : ChangeSpec := { name := "fieldFails", fn := fun _ => fun
  | [d1, d2] => { results := [.lit (.bool true)], args := [d1, d2] }
  | _ => none }
def fieldFailsRow : OpenClaim := { program := "ytgoppolkplmphaa", sum := "ef338d22e484745af8895e97605a8bba187616c48bec63e9214e8cdc28e6cbdf", func := "nightjar/nightjarlaw04.FieldFails", spec := "fieldFails", apart := false }
def FieldFailsSaid : Prop := fieldFailsRow.holds Try.pinned (OpenSpec.ofChange fieldFailsSpec)

/-- ITS FALSE NEIGHBOUR: 'it returns false'. Refute it at one input. -/
def fieldFailsWrong : ChangeSpec := { name := "fieldFails", fn := fun _ => fun
  | [d1, d2] => { results := [.lit (.bool false)], args := [d1, d2] }
  | _ => none }
def FieldFailsWrongFalsely : Prop := fieldFailsRow.holds Try.pinned (OpenSpec.ofChange fieldFailsWrong)

/-- 'nightjarlaw04.FieldWraps': WHATEVER THE INPUT: true; the input reads as it did. -/
def fieldWrapsSpec : ChangeSpec := { name := "fieldWraps", fn := fun _ => fun
  | [d1, d2] => { results := [.lit (.bool true)], args := [d1, d2] }
  | _ => none }
def fieldWrapsRow : OpenClaim := { program := "ytgoppolkplmphaa", sum := "ef338d22e484745af8895e97605a8bba187616c48bec63e9214e8cdc28e6cbdf", func := "nightjar/nightjarlaw04.FieldWraps", spec := "fieldWraps", apart := false }
def FieldWrapsSaid : Prop := fieldWrapsRow.holds Try.pinned (OpenSpec.ofChange fieldWrapsSpec)

/-- ITS FALSE NEIGHBOUR: 'it returns false'. Refute it at one input. -/
def fieldWrapsWrong : ChangeSpec := { name := "fieldWraps", fn := fun _ => fun
  | [d1, d2] => { results := [.lit (.bool false)], args := [d1, d2] }
  | _ => none }
def FieldWrapsWrongFalsely : Prop := fieldWrapsRow.holds Try.pinned (OpenSpec.ofChange fieldWrapsWrong)

/-- 'nightjarlaw04.FieldCuts': WHATEVER THE INPUT: true; the input reads as it did. -/
def fieldCutsSpec : ChangeSpec := { name := "fieldCuts", fn := fun _ => fun
  | [d1, d2, d3] => { results := [.lit (.bool true)], args := [d1, d2, d3] }
  | _ => none }
def fieldCutsRow : OpenClaim := { program := "ytgoppolkplmphaa", sum := "ef338d22e484745af8895e97605a8bba187616c48bec63e9214e8cdc28e6cbdf", func := "nightjar/nightjarlaw04.FieldCuts", spec := "fieldCuts", apart := false }
def FieldCutsSaid : Prop := fieldCutsRow.holds Try.pinned (OpenSpec.ofChange fieldCutsSpec)

/-- ITS FALSE NEIGHBOUR: 'it returns false'. Refute it at one input. -/
def fieldCutsWrong : ChangeSpec := { name := "fieldCuts", fn := fun _ => fun
  | [d1, d2, d3] => { results := [.lit (.bool false)], args := [d1, d2, d3] }
  | _ => none }
def FieldCutsWrongFalsely : Prop := fieldCutsRow.holds Try.pinned (OpenSpec.ofChange fieldCutsWrong)

/-- 'nightjarlaw26.ScriptTells': WHATEVER THE INPUT: true; the input reads as it did. -/
def scriptTellsSpec : ChangeSpec := { name := "scriptTells", fn := fun _ => fun
  | [d1, d2, d3] => { results := [.lit (.bool true)], args := [d1, d2, d3] }
  | _ => none }
def scriptTellsRow : OpenClaim := { program := "ytgoppolkplmphaa", sum := "ef338d22e484745af8895e97605a8bba187616c48bec63e9214e8cdc28e6cbdf", func := "nightjar/nightjarlaw26.ScriptTells", spec := "scriptTells", apart := false }
def ScriptTellsSaid : Prop := scriptTellsRow.holds Try.pinned (OpenSpec.ofChange scriptTellsSpec)

/-- ITS FALSE NEIGHBOUR: 'it returns false'. Refute it at one input. -/
def scriptTellsWrong : ChangeSpec := { name := "scriptTells", fn := fun _ => fun
  | [d1, d2, d3] => { results := [.lit (.bool false)], args := [d1, d2, d3] }
  | _ => none }
def ScriptTellsWrongFalsely : Prop := scriptTellsRow.holds Try.pinned (OpenSpec.ofChange scriptTellsWrong)

/-- 'nightjarlaw26.ScriptParts': WHATEVER THE INPUT: true; the input reads as it did. -/
def scriptPartsSpec : ChangeSpec := { name := "scriptParts", fn := fun _ => fun
  | [d1, d2] => { results := [.lit (.bool true)], args := [d1, d2] }
  | _ => none }
def scriptPartsRow : OpenClaim := { program := "ytgoppolkplmphaa", sum := "ef338d22e484745af8895e97605a8bba187616c48bec63e9214e8cdc28e6cbdf", func := "nightjar/nightjarlaw26.ScriptParts", spec := "scriptParts", apart := false }
def ScriptPartsSaid : Prop := scriptPartsRow.holds Try.pinned (OpenSpec.ofChange scriptPartsSpec)

/-- ITS FALSE NEIGHBOUR: 'it returns false'. Refute it at one input. -/
def scriptPartsWrong : ChangeSpec := { name := "scriptParts", fn := fun _ => fun
  | [d1, d2] => { results := [.lit (.bool false)], args := [d1, d2] }
  | _ => none }
def ScriptPartsWrongFalsely : Prop := scriptPartsRow.holds Try.pinned (OpenSpec.ofChange scriptPartsWrong)

/-- 'nightjarlaw26.ScriptOnes': WHATEVER THE INPUT: true; the input reads as it did. -/
def scriptOnesSpec : ChangeSpec := { name := "scriptOnes", fn := fun _ => fun
  | [d] => { results := [.lit (.bool true)], args := [d] }
  | _ => none }
def scriptOnesRow : OpenClaim := { program := "ytgoppolkplmphaa", sum := "ef338d22e484745af8895e97605a8bba187616c48bec63e9214e8cdc28e6cbdf", func := "nightjar/nightjarlaw26.ScriptOnes", spec := "scriptOnes", apart := false }
def ScriptOnesSaid : Prop := scriptOnesRow.holds Try.pinned (OpenSpec.ofChange scriptOnesSpec)

/-- ITS FALSE NEIGHBOUR: 'it returns false'. Refute it at one input. -/
def scriptOnesWrong : ChangeSpec := { name := "scriptOnes", fn := fun _ => fun
  | [d] => { results := [.lit (.bool false)], args := [d] }
  | _ => none }
def ScriptOnesWrongFalsely : Prop := scriptOnesRow.holds Try.pinned (OpenSpec.ofChange scriptOnesWrong)

/- THE SECOND FORM. 'bulk': how many values and letters a reading holds, each counted each time it is reached (what is shared counts as often as it is met; a slice's spare places count too). A statement '..UptoSaid' is the law's where the arguments, and the package variables that the reading takes, are together of bulk at most 1048576: NARROWER than '..Said'. Prove '..Said' where nothing that the law and all that it calls make is longer than what came in: it says more and counts as full. Else prove '..UptoSaid'. A law counts once. -/
mutual
def uptoBulk {H : Type} : DataW H → Nat
  | .lit (.string bytes) => bytes.length + 1
  | .lit _ => 1
  | .nil => 1
  | .ptr d => uptoBulk d + 1
  | .slice elems spare => uptoBulkAll elems + uptoBulkAll spare + 1
  | .agg parts => uptoBulkAll parts + 1
  | .iface _ d => uptoBulk d + 1
  | .map entries => uptoBulkEntries entries + 1
  | .held _ => 1
def uptoBulkAll {H : Type} : List (DataW H) → Nat
  | [] => 0
  | d :: r => uptoBulk d + uptoBulkAll r
def uptoBulkEntries {H : Type} : List (Lit × DataW H) → Nat
  | [] => 0
  | x :: r => uptoBulkEntry x + uptoBulkEntries r
def uptoBulkEntry {H : Type} : Lit × DataW H → Nat
  | (.string bytes, d) => bytes.length + uptoBulk d + 1
  | (_, d) => uptoBulk d + 1
 end
def uptoSmall : (H : Type) → List (DataW H) → Bool := fun _ ds => decide (uptoBulkAll ds ≤ 1048576)
def OpenSpec.upto (s : _root_.Go.ChangeSpec) : _root_.Go.OpenSpec := { _root_.Go.OpenSpec.ofChange s with cond := some uptoSmall }

/-- 'nightjarlaw16.SubTells', WHERE WHAT IT READS IS OF BULK AT MOST 1048576: true; the input reads as it did. -/
def subTellsUptoRow : OpenClaim := { program := "ytgoppolkplmphaa", sum := "ef338d22e484745af8895e97605a8bba187616c48bec63e9214e8cdc28e6cbdf", func := "nightjar/nightjarlaw16.SubTells", spec := "subTells", apart := false, narrowed := true }
def SubTellsUptoSaid : Prop := subTellsUptoRow.holds Try.pinned (OpenSpec.upto subTellsSpec)

/-- 'nightjarlaw16.SubMay', WHERE WHAT IT READS IS OF BULK AT MOST 1048576: true; the input reads as it did. -/
def subMayUptoRow : OpenClaim := { program := "ytgoppolkplmphaa", sum := "ef338d22e484745af8895e97605a8bba187616c48bec63e9214e8cdc28e6cbdf", func := "nightjar/nightjarlaw16.SubMay", spec := "subMay", apart := false, narrowed := true }
def SubMayUptoSaid : Prop := subMayUptoRow.holds Try.pinned (OpenSpec.upto subMaySpec)

/-- 'nightjarlaw16.SubChanges', WHERE WHAT IT READS IS OF BULK AT MOST 1048576: true; the input reads as it did. -/
def subChangesUptoRow : OpenClaim := { program := "ytgoppolkplmphaa", sum := "ef338d22e484745af8895e97605a8bba187616c48bec63e9214e8cdc28e6cbdf", func := "nightjar/nightjarlaw16.SubChanges", spec := "subChanges", apart := false, narrowed := true }
def SubChangesUptoSaid : Prop := subChangesUptoRow.holds Try.pinned (OpenSpec.upto subChangesSpec)

/-- 'nightjarlaw16.SubBlocks', WHERE WHAT IT READS IS OF BULK AT MOST 1048576: true; the input reads as it did. -/
def subBlocksUptoRow : OpenClaim := { program := "ytgoppolkplmphaa", sum := "ef338d22e484745af8895e97605a8bba187616c48bec63e9214e8cdc28e6cbdf", func := "nightjar/nightjarlaw16.SubBlocks", spec := "subBlocks", apart := false, narrowed := true }
def SubBlocksUptoSaid : Prop := subBlocksUptoRow.holds Try.pinned (OpenSpec.upto subBlocksSpec)

/-- 'nightjarlaw04.FieldTells', WHERE WHAT IT READS IS OF BULK AT MOST 1048576: true; the input reads as it did. -/
def fieldTellsUptoRow : OpenClaim := { program := "ytgoppolkplmphaa", sum := "ef338d22e484745af8895e97605a8bba187616c48bec63e9214e8cdc28e6cbdf", func := "nightjar/nightjarlaw04.FieldTells", spec := "fieldTells", apart := false, narrowed := true }
def FieldTellsUptoSaid : Prop := fieldTellsUptoRow.holds Try.pinned (OpenSpec.upto fieldTellsSpec)

/-- 'nightjarlaw04.FieldBack', WHERE WHAT IT READS IS OF BULK AT MOST 1048576: true; the input reads as it did. -/
def fieldBackUptoRow : OpenClaim := { program := "ytgoppolkplmphaa", sum := "ef338d22e484745af8895e97605a8bba187616c48bec63e9214e8cdc28e6cbdf", func := "nightjar/nightjarlaw04.FieldBack", spec := "fieldBack", apart := false, narrowed := true }
def FieldBackUptoSaid : Prop := fieldBackUptoRow.holds Try.pinned (OpenSpec.upto fieldBackSpec)

/-- 'nightjarlaw04.FieldFails', WHERE WHAT IT READS IS OF BULK AT MOST 1048576: true; the input reads as it did. -/
def fieldFailsUptoRow : OpenClaim := { program := "ytgoppolkplmphaa", sum := "ef338d22e484745af8895e97605a8bba187616c48bec63e9214e8cdc28e6cbdf", func := "nightjar/nightjarlaw04.FieldFails", spec := "fieldFails", apart := false, narrowed := true }
def FieldFailsUptoSaid : Prop := fieldFailsUptoRow.holds Try.pinned (OpenSpec.upto fieldFailsSpec)

/-- 'nightjarlaw04.FieldWraps', WHERE WHAT IT READS IS OF BULK AT MOST 1048576: true; the input reads as it did. -/
def fieldWrapsUptoRow : OpenClaim := { program := "ytgoppolkplmphaa", sum := "ef338d22e484745af8895e97605a8bba187616c48bec63e9214e8cdc28e6cbdf", func := "nightjar/nightjarlaw04.FieldWraps", spec := "fieldWraps", apart := false, narrowed := true }
def FieldWrapsUptoSaid : Prop := fieldWrapsUptoRow.holds Try.pinned (OpenSpec.upto fieldWrapsSpec)

/-- 'nightjarlaw04.FieldCuts', WHERE WHAT IT READS IS OF BULK AT MOST 1048576: true; the input reads as it did. -/
def fieldCutsUptoRow : OpenClaim := { program := "ytgoppolkplmphaa", sum := "ef338d22e484745af8895e97605a8bba187616c48bec63e9214e8cdc28e6cbdf", func := "nightjar/nightjarlaw04.FieldCuts", spec := "fieldCuts", apart := false, narrowed := true }
def FieldCutsUptoSaid : Prop := fieldCutsUptoRow.holds Try.pinned (OpenSpec.upto fieldCutsSpec)

/-- 'nightjarlaw26.ScriptTells', WHERE WHAT IT READS IS OF BULK AT MOST 1048576: true; the input reads as it did. -/
def scriptTellsUptoRow : OpenClaim := { program := "ytgoppolkplmphaa", sum := "ef338d22e484745af8895e97605a8bba187616c48bec63e9214e8cdc28e6cbdf", func := "nightjar/nightjarlaw26.ScriptTells", spec := "scriptTells", apart := false, narrowed := true }
def ScriptTellsUptoSaid : Prop := scriptTellsUptoRow.holds Try.pinned (OpenSpec.upto scriptTellsSpec)

/-- 'nightjarlaw26.ScriptParts', WHERE WHAT IT READS IS OF BULK AT MOST 1048576: true; the input reads as it did. -/
def scriptPartsUptoRow : OpenClaim := { program := "ytgoppolkplmphaa", sum := "ef338d22e484745af8895e97605a8bba187616c48bec63e9214e8cdc28e6cbdf", func := "nightjar/nightjarlaw26.ScriptParts", spec := "scriptParts", apart := false, narrowed := true }
def ScriptPartsUptoSaid : Prop := scriptPartsUptoRow.holds Try.pinned (OpenSpec.upto scriptPartsSpec)

/-- 'nightjarlaw26.ScriptOnes', WHERE WHAT IT READS IS OF BULK AT MOST 1048576: true; the input reads as it did. -/
def scriptOnesUptoRow : OpenClaim := { program := "ytgoppolkplmphaa", sum := "ef338d22e484745af8895e97605a8bba187616c48bec63e9214e8cdc28e6cbdf", func := "nightjar/nightjarlaw26.ScriptOnes", spec := "scriptOnes", apart := false, narrowed := true }
def ScriptOnesUptoSaid : Prop := scriptOnesUptoRow.holds Try.pinned (OpenSpec.upto scriptOnesSpec)

end Rows
end Go.Proofs.Ytgoppolkplmphaa
