/-
  nightjarlaw05.WireRanges: for all inputs the law returns true. No conditions: for every input that can be read.
-/
import Derived.Test.YthlkmofemnepbaaRows
import Derived.Test.YthlkmofemnepbaaWSmall
import Derived.Test.YthlkmofemnepbaaWireLaw
import Derived.Test.YthlkmofemnepbaaPkArg
import Derived.Test.YthlkmofemnepbaaWRanges1
import Derived.Test.YthlkmofemnepbaaWRanges2
import Derived.Test.YthlkmofemnepbaaWRanges3
import Derived.Test.YthlkmofemnepbaaWRanges4
import Derived.Test.YthlkmofemnepbaaWRanges5
namespace Go.Proofs.Ythlkmofemnepbaa
open Go.ChangeShapes Go.WideShapes Go.ChangeAt Go.RowKit

theorem wireRanges_walk (n : Int) (_w0 : (Lit.int .i64 n).wf = true) (w : World) :
    Calls Try.prog 9 #[.int .i64 n] w fun e w' => e = .returned (.bool true) ∧ Below w.heap.size w w' := by
  have hcc : n < 0 ∨ n = 0 ∨ (1 ≤ n ∧ n ≤ 3) ∨ n = 4 ∨ (5 ≤ n ∧ n ≤ 7) ∨ (8 ≤ n ∧ n ≤ 15) ∨ n = 16 ∨ (17 ≤ n ∧ n ≤ 255) ∨ (256 ≤ n ∧ n ≤ 1073741824) ∨ 1073741824 < n := by omega
  rcases hcc with h | rfl | h | rfl | h | h | rfl | h | h | h
  · exact wireRanges_neg w n h
  · exact wireRanges_zero w
  · exact wireRanges_low w n h
  · exact wireRanges_four w
  · exact wireRanges_seven w n h
  · exact wireRanges_mid w n h
  · exact wireRanges_sixteen w
  · exact wireRanges_byte w n h
  · exact wireRanges_big w n h
  · exact wireRanges_above w n h

/-! ### the row's step, and the row -/
theorem wireRanges_own : ownKnob Try.prog.godebug = none := by kernel_rfl
theorem wireRanges_laidOut : laidOutB Try.prog = true := by kernel_rfl

set_option linter.unusedVariables false in
set_option maxRecDepth 100000 in
theorem wireRanges_lifted (os : Os) (started : os.Started) (H : Type) (enc : TypeId × Value → H) :
    ReturnsInHanded {} Try.checked os 9 .any (Rows.wireRangesSpec.pre6 enc Try.prog Try.f9 Rows.wireRangesRow.domain false) (Rows.wireRangesSpec.post enc Try.prog Try.f9 false true false false) := by
  refine returnsInHanded_of_change (C := Try.checked) wireRanges_own started (by kernel_rfl) Try.func9
    (ChangeSpec.witness6 (enc := enc) (C := Try.checked) false ⟨#[], #[.int .i64 0], []⟩ 8 (by kernel_rfl) (by kernel_rfl) (by kernel_rfl) (by kernel_rfl)) ?_
  intro W base args ds gs before hval0 hW hcnd _
  have hval : ∀ (j : Nat) t v, Try.f9.params[j]? = some t → args[j]? = some v → Value.okWide Try.prog W .any base t v := hval0
  have hW' := hW
  obtain ⟨p, q, hA0, hV, rfl, hfz, hnd⟩ := hW
  have hA : DataW.TrodAll enc Try.prog W 0 (fun _ => true) true Try.f9.params.toList args.toList ds p := hA0
  rw [Try.params9] at hA hval
  obtain ⟨v0, vs0, d0, ds0, p0, q0, hargs, rfl, rfl, h0, r0⟩ := trodAll_cons hA
  obtain ⟨rfl, rfl, rfl⟩ := trodAll_nil r0
  obtain rfl : args = #[v0] := by cases args; simp_all
  obtain ⟨rfl, rfl⟩ := trodVars_none hV
  obtain ⟨a0, rfl, rfl, rfl, w0⟩ := open_int Try.underlying3 (hval 0 3 v0 rfl rfl) h0
  clear hA0 hval0
  refine (wireRanges_walk a0 w0 W).mono fun e W' ⟨he, bel⟩ => ?_
  subst he
  exact ⟨_, rfl, _, _, _, [], _, [], hW', trodAll_mk1 (shut_bool Try.underlying4 _), (trodAll_cons_mk (shut_int Try.underlying3 w0) trodAll_mk0), rfl, bel.frame _, fun h => by cases h⟩

theorem wireRanges_over : Rows.wireRangesRow.holds Try.pinned (OpenSpec.ofChange Rows.wireRangesSpec) :=
  OpenClaim.holds_of_wide 9 Try.f9 rfl rfl rfl rfl rfl rfl rfl ⟨rfl, rfl, rfl, rfl, rfl⟩ rfl rfl rfl rfl rfl (by kernel_rfl) Try.func9 (by kernel_rfl)
    (of_decide_eq_true (by kernel_rfl)) (by unfold Func.isWrapper; first | (rw [if_pos (by decide +kernel)]; kernel_rfl) | (rw [if_neg (by decide +kernel)]; exact ⟨rfl, rfl⟩))
    (fun os started H enc _ => wireRanges_lifted os started H enc)

/-- THE STATEMENT. -/
theorem wireRanges_proved : Rows.WireRangesSaid := wireRanges_over
#print axioms wireRanges_proved
end Go.Proofs.Ythlkmofemnepbaa
