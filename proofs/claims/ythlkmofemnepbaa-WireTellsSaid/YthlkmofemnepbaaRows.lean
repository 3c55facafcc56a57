/-
  No cell of these rows narrows 'for every input' (looked for: loops, veiled, ifaces, maps, wideKeys, modest, calm, conditions, laid).
  DERIVED. THE GIVEN ROWS OF THIS SEAT. 17 by the template 'for every input the law returns true; each argument reads behind the call as it read before'; 0 by the template 'total and deterministic' (their statements: YthlkmofemnepbaaTotals.lean).
  GIVEN WITH THE SEED: the statements are not yours to turn. If you find one false, say at which input.
  Laid BY PROGRAM, IN A SANDBOX (cutbox-rows.mjs): the forced cells as the released guide's own fill.sh prints them over the translation 12999287beb85708… (all of the seat's roots in one cut). By AI agents, Wed Nov 11 2026. No macro, syntax, notation, axiom, sorry.
-/
import Derived.Test.YthlkmofemnepbaaChecked
import GoSem.Claim
import GoSem.ClaimJoined
import GoSem.ClaimMapViews
import Derived.JoinedTies
import Derived.KernelRfl
namespace Go.Proofs.Ythlkmofemnepbaa
/- THE CELL 'sum', in the pinned program and in every row, IS THE sha256 OF THE DUMP (.gsa) THAT YthlkmofemnepbaaProg.lean LOADS. Nothing in Lean hashes anything: it is a label: what it is worth is what the hold of that sum in a sandbox is worth. -/
noncomputable def Try.pinned : Pinned := { name := "ythlkmofemnepbaa", sum := "12999287beb857086cb33bb02afeef1f47b84682f9e00d65a37a296c25d76039", checked := Try.checked }
namespace Rows
def none {H : Type} : Left H := { results := [], args := [] }

/-- 'nightjarlaw05.WireTells': WHATEVER THE INPUT: true; the input reads as it did. -/
def wireTellsSpec : ChangeSpec := { name := "wireTells", fn := fun _ => fun
  | [d1, d2, d3] => { results := [.lit (.bool true)], args := [d1, d2, d3] }
  | _ => none }
def wireTellsRow : OpenClaim := { program := "ythlkmofemnepbaa", sum := "12999287beb857086cb33bb02afeef1f47b84682f9e00d65a37a296c25d76039", func := "nightjar/nightjarlaw05.WireTells", spec := "wireTells", unfollowed := true, recurses := true, apart := false }
def WireTellsSaid : Prop := wireTellsRow.holds Try.pinned (OpenSpec.ofChange wireTellsSpec)

/-- ITS FALSE NEIGHBOUR: 'it returns false'. Refute it at one input. -/
def wireTellsWrong : ChangeSpec := { name := "wireTells", fn := fun _ => fun
  | [d1, d2, d3] => { results := [.lit (.bool false)], args := [d1, d2, d3] }
  | _ => none }
def WireTellsWrongFalsely : Prop := wireTellsRow.holds Try.pinned (OpenSpec.ofChange wireTellsWrong)

/-- 'nightjarlaw05.WireBack': WHATEVER THE INPUT: true; the input reads as it did. -/
def wireBackSpec : ChangeSpec := { name := "wireBack", fn := fun _ => fun
  | [d] => { results := [.lit (.bool true)], args := [d] }
  | _ => none }
def wireBackRow : OpenClaim := { program := "ythlkmofemnepbaa", sum := "12999287beb857086cb33bb02afeef1f47b84682f9e00d65a37a296c25d76039", func := "nightjar/nightjarlaw05.WireBack", spec := "wireBack", unfollowed := true, recurses := true, apart := false }
def WireBackSaid : Prop := wireBackRow.holds Try.pinned (OpenSpec.ofChange wireBackSpec)

/-- ITS FALSE NEIGHBOUR: 'it returns false'. Refute it at one input. -/
def wireBackWrong : ChangeSpec := { name := "wireBack", fn := fun _ => fun
  | [d] => { results := [.lit (.bool false)], args := [d] }
  | _ => none }
def WireBackWrongFalsely : Prop := wireBackRow.holds Try.pinned (OpenSpec.ofChange wireBackWrong)

/-- 'nightjarlaw05.WireOnce': WHATEVER THE INPUT: true; the input reads as it did. -/
def wireOnceSpec : ChangeSpec := { name := "wireOnce", fn := fun _ => fun
  | [d1, d2] => { results := [.lit (.bool true)], args := [d1, d2] }
  | _ => none }
def wireOnceRow : OpenClaim := { program := "ythlkmofemnepbaa", sum := "12999287beb857086cb33bb02afeef1f47b84682f9e00d65a37a296c25d76039", func := "nightjar/nightjarlaw05.WireOnce", spec := "wireOnce", unfollowed := true, recurses := true, apart := false }
def WireOnceSaid : Prop := wireOnceRow.holds Try.pinned (OpenSpec.ofChange wireOnceSpec)

/-- ITS FALSE NEIGHBOUR: 'it returns false'. Refute it at one input. -/
def wireOnceWrong : ChangeSpec := { name := "wireOnce", fn := fun _ => fun
  | [d1, d2] => { results := [.lit (.bool false)], args := [d1, d2] }
  | _ => none }
def WireOnceWrongFalsely : Prop := wireOnceRow.holds Try.pinned (OpenSpec.ofChange wireOnceWrong)

/-- 'nightjarlaw05.WireTags': WHATEVER THE INPUT: true; the input reads as it did. -/
def wireTagsSpec : ChangeSpec := { name := "wireTags", fn := fun _ => fun
  | [d1, d2] => { results := [.lit (.bool true)], args := [d1, d2] }
  | _ => none }
def wireTagsRow : OpenClaim := { program := "ythlkmofemnepbaa", sum := "12999287beb857086cb33bb02afeef1f47b84682f9e00d65a37a296c25d76039", func := "nightjar/nightjarlaw05.WireTags", spec := "wireTags", unfollowed := true, recurses := true, apart := false }
def WireTagsSaid : Prop := wireTagsRow.holds Try.pinned (OpenSpec.ofChange wireTagsSpec)

/-- ITS FALSE NEIGHBOUR: 'it returns false'. Refute it at one input. -/
def wireTagsWrong : ChangeSpec := { name := "wireTags", fn := fun _ => fun
  | [d1, d2] => { results := [.lit (.bool false)], args := [d1, d2] }
  | _ => none }
def WireTagsWrongFalsely : Prop := wireTagsRow.holds Try.pinned (OpenSpec.ofChange wireTagsWrong)

/-- 'nightjarlaw05.WireSizes': WHATEVER THE INPUT: true; the input reads as it did. -/
def wireSizesSpec : ChangeSpec := { name := "wireSizes", fn := fun _ => fun
  | [d] => { results := [.lit (.bool true)], args := [d] }
  | _ => none }
def wireSizesRow : OpenClaim := { program := "ythlkmofemnepbaa", sum := "12999287beb857086cb33bb02afeef1f47b84682f9e00d65a37a296c25d76039", func := "nightjar/nightjarlaw05.WireSizes", spec := "wireSizes", unfollowed := true, recurses := true, apart := false }
def WireSizesSaid : Prop := wireSizesRow.holds Try.pinned (OpenSpec.ofChange wireSizesSpec)

/-- ITS FALSE NEIGHBOUR: 'it returns false'. Refute it at one input. -/
def wireSizesWrong : ChangeSpec := { name := "wireSizes", fn := fun _ => fun
  | [d] => { results := [.lit (.bool false)], args := [d] }
  | _ => none }
def WireSizesWrongFalsely : Prop := wireSizesRow.holds Try.pinned (OpenSpec.ofChange wireSizesWrong)

/-- 'nightjarlaw05.WireApart': WHATEVER THE INPUT: true; the input reads as it did. -/
def wireApartSpec : ChangeSpec := { name := "wireApart", fn := fun _ => fun
  | [d1, d2] => { results := [.lit (.bool true)], args := [d1, d2] }
  | _ => none }
def wireApartRow : OpenClaim := { program := "ythlkmofemnepbaa", sum := "12999287beb857086cb33bb02afeef1f47b84682f9e00d65a37a296c25d76039", func := "nightjar/nightjarlaw05.WireApart", spec := "wireApart", unfollowed := true, recurses := true, apart := false }
def WireApartSaid : Prop := wireApartRow.holds Try.pinned (OpenSpec.ofChange wireApartSpec)

/-- ITS FALSE NEIGHBOUR: 'it returns false'. Refute it at one input. -/
def wireApartWrong : ChangeSpec := { name := "wireApart", fn := fun _ => fun
  | [d1, d2] => { results := [.lit (.bool false)], args := [d1, d2] }
  | _ => none }
def WireApartWrongFalsely : Prop := wireApartRow.holds Try.pinned (OpenSpec.ofChange wireApartWrong)

/-- 'nightjarlaw05.WireRanges': WHATEVER THE INPUT: true; the input reads as it did. -/
def wireRangesSpec : ChangeSpec := { name := "wireRanges", fn := fun _ => fun
  | [d] => { results := [.lit (.bool true)], args := [d] }
  | _ => none }
def wireRangesRow : OpenClaim := { program := "ythlkmofemnepbaa", sum := "12999287beb857086cb33bb02afeef1f47b84682f9e00d65a37a296c25d76039", func := "nightjar/nightjarlaw05.WireRanges", spec := "wireRanges", unfollowed := true, recurses := true, apart := false }
def WireRangesSaid : Prop := wireRangesRow.holds Try.pinned (OpenSpec.ofChange wireRangesSpec)

/-- ITS FALSE NEIGHBOUR: 'it returns false'. Refute it at one input. -/
def wireRangesWrong : ChangeSpec := { name := "wireRanges", fn := fun _ => fun
  | [d] => { results := [.lit (.bool false)], args := [d] }
  | _ => none }
def WireRangesWrongFalsely : Prop := wireRangesRow.holds Try.pinned (OpenSpec.ofChange wireRangesWrong)

/-- 'nightjarlaw06.CookieTells': WHATEVER THE INPUT: true; the input reads as it did. -/
def cookieTellsSpec : ChangeSpec := { name := "cookieTells", fn := fun _ => fun
  | [d1, d2, d3, d4, d5, d6] => { results := [.lit (.bool true)], args := [d1, d2, d3, d4, d5, d6] }
  | _ => none }
def cookieTellsRow : OpenClaim := { program := "ythlkmofemnepbaa", sum := "12999287beb857086cb33bb02afeef1f47b84682f9e00d65a37a296c25d76039", func := "nightjar/nightjarlaw06.CookieTells", spec := "cookieTells", apart := false }
def CookieTellsSaid : Prop := cookieTellsRow.holds Try.pinned (OpenSpec.ofChange cookieTellsSpec)

/-- ITS FALSE NEIGHBOUR: 'it returns false'. Refute it at one input. -/
def cookieTellsWrong : ChangeSpec := { name := "cookieTells", fn := fun _ => fun
  | [d1, d2, d3, d4, d5, d6] => { results := [.lit (.bool false)], args := [d1, d2, d3, d4, d5, d6] }
  | _ => none }
def CookieTellsWrongFalsely : Prop := cookieTellsRow.holds Try.pinned (OpenSpec.ofChange cookieTellsWrong)

/-- 'nightjarlaw06.CookieBack': WHATEVER THE INPUT: true; the input reads as it did. -/
def cookieBackSpec : ChangeSpec := { name := "cookieBack", fn := fun _ => fun
  | [d1, d2, d3, d4, d5] => { results := [.lit (.bool true)], args := [d1, d2, d3, d4, d5] }
  | _ => none }
def cookieBackRow : OpenClaim := { program := "ythlkmofemnepbaa", sum := "12999287beb857086cb33bb02afeef1f47b84682f9e00d65a37a296c25d76039", func := "nightjar/nightjarlaw06.CookieBack", spec := "cookieBack", apart := false }
def CookieBackSaid : Prop := cookieBackRow.holds Try.pinned (OpenSpec.ofChange cookieBackSpec)

/-- ITS FALSE NEIGHBOUR: 'it returns false'. Refute it at one input. -/
def cookieBackWrong : ChangeSpec := { name := "cookieBack", fn := fun _ => fun
  | [d1, d2, d3, d4, d5] => { results := [.lit (.bool false)], args := [d1, d2, d3, d4, d5] }
  | _ => none }
def CookieBackWrongFalsely : Prop := cookieBackRow.holds Try.pinned (OpenSpec.ofChange cookieBackWrong)

/-- 'nightjarlaw06.CookieOnce': WHATEVER THE INPUT: true; the input reads as it did. -/
def cookieOnceSpec : ChangeSpec := { name := "cookieOnce", fn := fun _ => fun
  | [d1, d2, d3, d4, d5, d6] => { results := [.lit (.bool true)], args := [d1, d2, d3, d4, d5, d6] }
  | _ => none }
def cookieOnceRow : OpenClaim := { program := "ythlkmofemnepbaa", sum := "12999287beb857086cb33bb02afeef1f47b84682f9e00d65a37a296c25d76039", func := "nightjar/nightjarlaw06.CookieOnce", spec := "cookieOnce", apart := false }
def CookieOnceSaid : Prop := cookieOnceRow.holds Try.pinned (OpenSpec.ofChange cookieOnceSpec)

/-- ITS FALSE NEIGHBOUR: 'it returns false'. Refute it at one input. -/
def cookieOnceWrong : ChangeSpec := { name := "cookieOnce", fn := fun _ => fun
  | [d1, d2, d3, d4, d5, d6] => { results := [.lit (.bool false)], args := [d1, d2, d3, d4, d5, d6] }
  | _ => none }
def CookieOnceWrongFalsely : Prop := cookieOnceRow.holds Try.pinned (OpenSpec.ofChange cookieOnceWrong)

/-- 'nightjarlaw06.CookieWraps': WHATEVER THE INPUT: true; the input reads as it did. -/
def cookieWrapsSpec : ChangeSpec := { name := "cookieWraps", fn := fun _ => fun
  | [d1, d2, d3, d4] => { results := [.lit (.bool true)], args := [d1, d2, d3, d4] }
  | _ => none }
def cookieWrapsRow : OpenClaim := { program := "ythlkmofemnepbaa", sum := "12999287beb857086cb33bb02afeef1f47b84682f9e00d65a37a296c25d76039", func := "nightjar/nightjarlaw06.CookieWraps", spec := "cookieWraps", apart := false }
def CookieWrapsSaid : Prop := cookieWrapsRow.holds Try.pinned (OpenSpec.ofChange cookieWrapsSpec)

/-- ITS FALSE NEIGHBOUR: 'it returns false'. Refute it at one input. -/
def cookieWrapsWrong : ChangeSpec := { name := "cookieWraps", fn := fun _ => fun
  | [d1, d2, d3, d4] => { results := [.lit (.bool false)], args := [d1, d2, d3, d4] }
  | _ => none }
def CookieWrapsWrongFalsely : Prop := cookieWrapsRow.holds Try.pinned (OpenSpec.ofChange cookieWrapsWrong)

/-- 'nightjarlaw06.CookieAges': WHATEVER THE INPUT: true; the input reads as it did. -/
def cookieAgesSpec : ChangeSpec := { name := "cookieAges", fn := fun _ => fun
  | [d1, d2, d3, d4, d5, d6, d7] => { results := [.lit (.bool true)], args := [d1, d2, d3, d4, d5, d6, d7] }
  | _ => none }
def cookieAgesRow : OpenClaim := { program := "ythlkmofemnepbaa", sum := "12999287beb857086cb33bb02afeef1f47b84682f9e00d65a37a296c25d76039", func := "nightjar/nightjarlaw06.CookieAges", spec := "cookieAges", apart := false }
def CookieAgesSaid : Prop := cookieAgesRow.holds Try.pinned (OpenSpec.ofChange cookieAgesSpec)

/-- ITS FALSE NEIGHBOUR: 'it returns false'. Refute it at one input. -/
def cookieAgesWrong : ChangeSpec := { name := "cookieAges", fn := fun _ => fun
  | [d1, d2, d3, d4, d5, d6, d7] => { results := [.lit (.bool false)], args := [d1, d2, d3, d4, d5, d6, d7] }
  | _ => none }
def CookieAgesWrongFalsely : Prop := cookieAgesRow.holds Try.pinned (OpenSpec.ofChange cookieAgesWrong)

/-- 'nightjarlaw07.TagTells': WHATEVER THE INPUT: true; the input reads as it did. -/
def tagTellsSpec : ChangeSpec := { name := "tagTells", fn := fun _ => fun
  | [d1, d2, d3, d4, d5] => { results := [.lit (.bool true)], args := [d1, d2, d3, d4, d5] }
  | _ => none }
def tagTellsRow : OpenClaim := { program := "ythlkmofemnepbaa", sum := "12999287beb857086cb33bb02afeef1f47b84682f9e00d65a37a296c25d76039", func := "nightjar/nightjarlaw07.TagTells", spec := "tagTells", unfollowed := true, recurses := true, apart := false }
def TagTellsSaid : Prop := tagTellsRow.holds Try.pinned (OpenSpec.ofChange tagTellsSpec)

/-- ITS FALSE NEIGHBOUR: 'it returns false'. Refute it at one input. -/
def tagTellsWrong : ChangeSpec := { name := "tagTells", fn := fun _ => fun
  | [d1, d2, d3, d4, d5] => { results := [.lit (.bool false)], args := [d1, d2, d3, d4, d5] }
  | _ => none }
def TagTellsWrongFalsely : Prop := tagTellsRow.holds Try.pinned (OpenSpec.ofChange tagTellsWrong)

/-- 'nightjarlaw07.TagBack': WHATEVER THE INPUT: true; the input reads as it did. -/
def tagBackSpec : ChangeSpec := { name := "tagBack", fn := fun _ => fun
  | [d1, d2] => { results := [.lit (.bool true)], args := [d1, d2] }
  | _ => none }
def tagBackRow : OpenClaim := { program := "ythlkmofemnepbaa", sum := "12999287beb857086cb33bb02afeef1f47b84682f9e00d65a37a296c25d76039", func := "nightjar/nightjarlaw07.TagBack", spec := "tagBack", unfollowed := true, recurses := true, apart := false }
def TagBackSaid : Prop := tagBackRow.holds Try.pinned (OpenSpec.ofChange tagBackSpec)

/-- ITS FALSE NEIGHBOUR: 'it returns false'. Refute it at one input. -/
def tagBackWrong : ChangeSpec := { name := "tagBack", fn := fun _ => fun
  | [d1, d2] => { results := [.lit (.bool false)], args := [d1, d2] }
  | _ => none }
def TagBackWrongFalsely : Prop := tagBackRow.holds Try.pinned (OpenSpec.ofChange tagBackWrong)

/-- 'nightjarlaw07.TagOnce': WHATEVER THE INPUT: true; the input reads as it did. -/
def tagOnceSpec : ChangeSpec := { name := "tagOnce", fn := fun _ => fun
  | [d1, d2, d3] => { results := [.lit (.bool true)], args := [d1, d2, d3] }
  | _ => none }
def tagOnceRow : OpenClaim := { program := "ythlkmofemnepbaa", sum := "12999287beb857086cb33bb02afeef1f47b84682f9e00d65a37a296c25d76039", func := "nightjar/nightjarlaw07.TagOnce", spec := "tagOnce", unfollowed := true, recurses := true, apart := false }
def TagOnceSaid : Prop := tagOnceRow.holds Try.pinned (OpenSpec.ofChange tagOnceSpec)

/-- ITS FALSE NEIGHBOUR: 'it returns false'. Refute it at one input. -/
def tagOnceWrong : ChangeSpec := { name := "tagOnce", fn := fun _ => fun
  | [d1, d2, d3] => { results := [.lit (.bool false)], args := [d1, d2, d3] }
  | _ => none }
def TagOnceWrongFalsely : Prop := tagOnceRow.holds Try.pinned (OpenSpec.ofChange tagOnceWrong)

/-- 'nightjarlaw07.TagMay': WHATEVER THE INPUT: true; the input reads as it did. -/
def tagMaySpec : ChangeSpec := { name := "tagMay", fn := fun _ => fun
  | [d1, d2, d3] => { results := [.lit (.bool true)], args := [d1, d2, d3] }
  | _ => none }
def tagMayRow : OpenClaim := { program := "ythlkmofemnepbaa", sum := "12999287beb857086cb33bb02afeef1f47b84682f9e00d65a37a296c25d76039", func := "nightjar/nightjarlaw07.TagMay", spec := "tagMay", unfollowed := true, recurses := true, apart := false }
def TagMaySaid : Prop := tagMayRow.holds Try.pinned (OpenSpec.ofChange tagMaySpec)

/-- ITS FALSE NEIGHBOUR: 'it returns false'. Refute it at one input. -/
def tagMayWrong : ChangeSpec := { name := "tagMay", fn := fun _ => fun
  | [d1, d2, d3] => { results := [.lit (.bool false)], args := [d1, d2, d3] }
  | _ => none }
def TagMayWrongFalsely : Prop := tagMayRow.holds Try.pinned (OpenSpec.ofChange tagMayWrong)

/-- 'nightjarlaw07.TagKeys': WHATEVER THE INPUT: true; the input reads as it did. -/
def tagKeysSpec : ChangeSpec := { name := "tagKeys", fn := fun _ => fun
  | [d1, d2, d3] => { results := [.lit (.bool true)], args := [d1, d2, d3] }
  | _ => none }
def tagKeysRow : OpenClaim := { program := "ythlkmofemnepbaa", sum := "12999287beb857086cb33bb02afeef1f47b84682f9e00d65a37a296c25d76039", func := "nightjar/nightjarlaw07.TagKeys", spec := "tagKeys", unfollowed := true, recurses := true, apart := false }
def TagKeysSaid : Prop := tagKeysRow.holds Try.pinned (OpenSpec.ofChange tagKeysSpec)

/-- ITS FALSE NEIGHBOUR: 'it returns false'. Refute it at one input. -/
def tagKeysWrong : ChangeSpec := { name := "tagKeys", fn := fun _ => fun
  | [d1, d2, d3] => { results := [.lit (.bool false)], args := [d1, d2, d3] }
  | _ => none }
def TagKeysWrongFalsely : Prop := tagKeysRow.holds Try.pinned (OpenSpec.ofChange tagKeysWrong)

/- THE SECOND FORM. 'bulk': how many values and letters a reading holds, each counted each time it is reached (what is shared counts as often as it is met; a slice's spare places count too). A statement '..UptoSaid' is the law's where the arguments, and the package variables that the reading takes, are together of bulk at most 1048576: NARROWER than '..Said'. Prove '..Said' where nothing that the law and all that it calls make is longer than what came in: it says more and counts as full. Else prove '..UptoSaid'. A law counts once. -/
mutual
def uptoBulk {H : Type} : DataW H → Nat
  | .lit (.string bytes) => bytes.length + 1
  | .lit _ => 1
  | .nil => 1
  | .ptr d => uptoBulk d + 1
  | .slice elems spare => uptoBulkAll elems + uptoBulkAll spare + 1
  | .agg parts => uptoBulkAll parts + 1
  | .iface _ d => uptoBulk d + 1
  | .map entries => uptoBulkEntries entries + 1
  | .held _ => 1
def uptoBulkAll {H : Type} : List (DataW H) → Nat
  | [] => 0
  | d :: r => uptoBulk d + uptoBulkAll r
def uptoBulkEntries {H : Type} : List (Lit × DataW H) → Nat
  | [] => 0
  | x :: r => uptoBulkEntry x + uptoBulkEntries r
def uptoBulkEntry {H : Type} : Lit × DataW H → Nat
  | (.string bytes, d) => bytes.length + uptoBulk d + 1
  | (_, d) => uptoBulk d + 1
 end
def uptoSmall : (H : Type) → List (DataW H) → Bool := fun _ ds => decide (uptoBulkAll ds ≤ 1048576)
def OpenSpec.upto (s : _root_.Go.ChangeSpec) : _root_.Go.OpenSpec := { _root_.Go.OpenSpec.ofChange s with cond := some uptoSmall }

/-- 'nightjarlaw05.WireTells', WHERE WHAT IT READS IS OF BULK AT MOST 1048576: true; the input reads as it did. -/
def wireTellsUptoRow : OpenClaim := { program := "ythlkmofemnepbaa", sum := "12999287beb857086cb33bb02afeef1f47b84682f9e00d65a37a296c25d76039", func := "nightjar/nightjarlaw05.WireTells", spec := "wireTells", unfollowed := true, recurses := true, apart := false, narrowed := true }
def WireTellsUptoSaid : Prop := wireTellsUptoRow.holds Try.pinned (OpenSpec.upto wireTellsSpec)

/-- 'nightjarlaw05.WireBack', WHERE WHAT IT READS IS OF BULK AT MOST 1048576: true; the input reads as it did. -/
def wireBackUptoRow : OpenClaim := { program := "ythlkmofemnepbaa", sum := "12999287beb857086cb33bb02afeef1f47b84682f9e00d65a37a296c25d76039", func := "nightjar/nightjarlaw05.WireBack", spec := "wireBack", unfollowed := true, recurses := true, apart := false, narrowed := true }
def WireBackUptoSaid : Prop := wireBackUptoRow.holds Try.pinned (OpenSpec.upto wireBackSpec)

/-- 'nightjarlaw05.WireOnce', WHERE WHAT IT READS IS OF BULK AT MOST 1048576: true; the input reads as it did. -/
def wireOnceUptoRow : OpenClaim := { program := "ythlkmofemnepbaa", sum := "12999287beb857086cb33bb02afeef1f47b84682f9e00d65a37a296c25d76039", func := "nightjar/nightjarlaw05.WireOnce", spec := "wireOnce", unfollowed := true, recurses := true, apart := false, narrowed := true }
def WireOnceUptoSaid : Prop := wireOnceUptoRow.holds Try.pinned (OpenSpec.upto wireOnceSpec)

/-- 'nightjarlaw05.WireTags', WHERE WHAT IT READS IS OF BULK AT MOST 1048576: true; the input reads as it did. -/
def wireTagsUptoRow : OpenClaim := { program := "ythlkmofemnepbaa", sum := "12999287beb857086cb33bb02afeef1f47b84682f9e00d65a37a296c25d76039", func := "nightjar/nightjarlaw05.WireTags", spec := "wireTags", unfollowed := true, recurses := true, apart := false, narrowed := true }
def WireTagsUptoSaid : Prop := wireTagsUptoRow.holds Try.pinned (OpenSpec.upto wireTagsSpec)

/-- 'nightjarlaw05.WireSizes', WHERE WHAT IT READS IS OF BULK AT MOST 1048576: true; the input reads as it did. -/
def wireSizesUptoRow : OpenClaim := { program := "ythlkmofemnepbaa", sum := "12999287beb857086cb33bb02afeef1f47b84682f9e00d65a37a296c25d76039", func := "nightjar/nightjarlaw05.WireSizes", spec := "wireSizes", unfollowed := true, recurses := true, apart := false, narrowed := true }
def WireSizesUptoSaid : Prop := wireSizesUptoRow.holds Try.pinned (OpenSpec.upto wireSizesSpec)

/-- 'nightjarlaw05.WireApart', WHERE WHAT IT READS IS OF BULK AT MOST 1048576: true; the input reads as it did. -/
def wireApartUptoRow : OpenClaim := { program := "ythlkmofemnepbaa", sum := "12999287beb857086cb33bb02afeef1f47b84682f9e00d65a37a296c25d76039", func := "nightjar/nightjarlaw05.WireApart", spec := "wireApart", unfollowed := true, recurses := true, apart := false, narrowed := true }
def WireApartUptoSaid : Prop := wireApartUptoRow.holds Try.pinned (OpenSpec.upto wireApartSpec)

/-- 'nightjarlaw05.WireRanges', WHERE WHAT IT READS IS OF BULK AT MOST 1048576: true; the input reads as it did. -/
def wireRangesUptoRow : OpenClaim := { program := "ythlkmofemnepbaa", sum := "12999287beb857086cb33bb02afeef1f47b84682f9e00d65a37a296c25d76039", func := "nightjar/nightjarlaw05.WireRanges", spec := "wireRanges", unfollowed := true, recurses := true, apart := false, narrowed := true }
def WireRangesUptoSaid : Prop := wireRangesUptoRow.holds Try.pinned (OpenSpec.upto wireRangesSpec)

/-- 'nightjarlaw06.CookieTells', WHERE WHAT IT READS IS OF BULK AT MOST 1048576: true; the input reads as it did. -/
def cookieTellsUptoRow : OpenClaim := { program := "ythlkmofemnepbaa", sum := "12999287beb857086cb33bb02afeef1f47b84682f9e00d65a37a296c25d76039", func := "nightjar/nightjarlaw06.CookieTells", spec := "cookieTells", apart := false, narrowed := true }
def CookieTellsUptoSaid : Prop := cookieTellsUptoRow.holds Try.pinned (OpenSpec.upto cookieTellsSpec)

/-- 'nightjarlaw06.CookieBack', WHERE WHAT IT READS IS OF BULK AT MOST 1048576: true; the input reads as it did. -/
def cookieBackUptoRow : OpenClaim := { program := "ythlkmofemnepbaa", sum := "12999287beb857086cb33bb02afeef1f47b84682f9e00d65a37a296c25d76039", func := "nightjar/nightjarlaw06.CookieBack", spec := "cookieBack", apart := false, narrowed := true }
def CookieBackUptoSaid : Prop := cookieBackUptoRow.holds Try.pinned (OpenSpec.upto cookieBackSpec)

/-- 'nightjarlaw06.CookieOnce', WHERE WHAT IT READS IS OF BULK AT MOST 1048576: true; the input reads as it did. -/
def cookieOnceUptoRow : OpenClaim := { program := "ythlkmofemnepbaa", sum := "12999287beb857086cb33bb02afeef1f47b84682f9e00d65a37a296c25d76039", func := "nightjar/nightjarlaw06.CookieOnce", spec := "cookieOnce", apart := false, narrowed := true }
def CookieOnceUptoSaid : Prop := cookieOnceUptoRow.holds Try.pinned (OpenSpec.upto cookieOnceSpec)

/-- 'nightjarlaw06.CookieWraps', WHERE WHAT IT READS IS OF BULK AT MOST 1048576: true; the input reads as it did. -/
def cookieWrapsUptoRow : OpenClaim := { program := "ythlkmofemnepbaa", sum := "12999287beb857086cb33bb02afeef1f47b84682f9e00d65a37a296c25d76039", func := "nightjar/nightjarlaw06.CookieWraps", spec := "cookieWraps", apart := false, narrowed := true }
def CookieWrapsUptoSaid : Prop := cookieWrapsUptoRow.holds Try.pinned (OpenSpec.upto cookieWrapsSpec)

/-- 'nightjarlaw06.CookieAges', WHERE WHAT IT READS IS OF BULK AT MOST 1048576: true; the input reads as it did. -/
def cookieAgesUptoRow : OpenClaim := { program := "ythlkmofemnepbaa", sum := "12999287beb857086cb33bb02afeef1f47b84682f9e00d65a37a296c25d76039", func := "nightjar/nightjarlaw06.CookieAges", spec := "cookieAges", apart := false, narrowed := true }
def CookieAgesUptoSaid : Prop := cookieAgesUptoRow.holds Try.pinned (OpenSpec.upto cookieAgesSpec)

/-- 'nightjarlaw07.TagTells', WHERE WHAT IT READS IS OF BULK AT MOST 1048576: true; the input reads as it did. -/
def tagTellsUptoRow : OpenClaim := { program := "ythlkmofemnepbaa", sum := "12999287beb857086cb33bb02afeef1f47b84682f9e00d65a37a296c25d76039", func := "nightjar/nightjarlaw07.TagTells", spec := "tagTells", unfollowed := true, recurses := true, apart := false, narrowed := true }
def TagTellsUptoSaid : Prop := tagTellsUptoRow.holds Try.pinned (OpenSpec.upto tagTellsSpec)

/-- 'nightjarlaw07.TagBack', WHERE WHAT IT READS IS OF BULK AT MOST 1048576: true; the input reads as it did. -/
def tagBackUptoRow : OpenClaim := { program := "ythlkmofemnepbaa", sum := "12999287beb857086cb33bb02afeef1f47b84682f9e00d65a37a296c25d76039", func := "nightjar/nightjarlaw07.TagBack", spec := "tagBack", unfollowed := true, recurses := true, apart := false, narrowed := true }
def TagBackUptoSaid : Prop := tagBackUptoRow.holds Try.pinned (OpenSpec.upto tagBackSpec)

/-- 'nightjarlaw07.TagOnce', WHERE WHAT IT READS IS OF BULK AT MOST 1048576: true; the input reads as it did. -/
def tagOnceUptoRow : OpenClaim := { program := "ythlkmofemnepbaa", sum := "12999287beb857086cb33bb02afeef1f47b84682f9e00d65a37a296c25d76039", func := "nightjar/nightjarlaw07.TagOnce", spec := "tagOnce", unfollowed := true, recurses := true, apart := false, narrowed := true }
def TagOnceUptoSaid : Prop := tagOnceUptoRow.holds Try.pinned (OpenSpec.upto tagOnceSpec)

/-- 'nightjarlaw07.TagMay', WHERE WHAT IT READS IS OF BULK AT MOST 1048576: true; the input reads as it did. -/
def tagMayUptoRow : OpenClaim := { program := "ythlkmofemnepbaa", sum := "12999287beb857086cb33bb02afeef1f47b84682f9e00d65a37a296c25d76039", func := "nightjar/nightjarlaw07.TagMay", spec := "tagMay", unfollowed := true, recurses := true, apart := false, narrowed := true }
def TagMayUptoSaid : Prop := tagMayUptoRow.holds Try.pinned (OpenSpec.upto tagMaySpec)

/-- 'nightjarlaw07.TagKeys', WHERE WHAT IT READS IS OF BULK AT MOST 1048576: true; the input reads as it did. -/
def tagKeysUptoRow : OpenClaim := { program := "ythlkmofemnepbaa", sum := "12999287beb857086cb33bb02afeef1f47b84682f9e00d65a37a296c25d76039", func := "nightjar/nightjarlaw07.TagKeys", spec := "tagKeys", unfollowed := true, recurses := true, apart := false, narrowed := true }
def TagKeysUptoSaid : Prop := tagKeysUptoRow.holds Try.pinned (OpenSpec.upto tagKeysSpec)

end Rows
end Go.Proofs.Ythlkmofemnepbaa
