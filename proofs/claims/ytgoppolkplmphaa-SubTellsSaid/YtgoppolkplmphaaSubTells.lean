/-
  nightjarlaw16.SubTells: for every state and every op the law returns true. No conditions: for every input that can be read.
-/
import Derived.Test.YtgoppolkplmphaaRows
import Derived.Test.YtgoppolkplmphaaSubSmall
import Derived.Test.YtgoppolkplmphaaOpen
namespace Go.Proofs.Ytgoppolkplmphaa
open Go.ChangeShapes Go.WideShapes Go.ChangeAt Go.RowKit

theorem below_of {w w' : World} (h : Touch (fun _ => False) w w') : Below w.heap.size w w' := h.below (Nat.le_refl _) (fun _ _ h => h)

set_option maxHeartbeats 1000000 in
theorem subTells_walk (s : Int) (_w0 : (Lit.int .i64 s).wf = true) (p : Int) (_w1 : (Lit.int .i64 p).wf = true) (w : World) :
    Calls Try.prog 3 #[.int .i64 s, .int .i64 p] w fun e w' => e = .returned (.bool true) ∧ Below w.heap.size w w' := by
  go_enter Try.func3, Try.ntmps3
  go_wp2_with fail
  refine (subSmall_any w).mono ?_
  rintro e w1 ⟨rfl, t1⟩
  go_wp2_with fail
  refine (step_any s p w1).mono ?_
  rintro e w2 ⟨rfl, t2⟩
  go_wp2_with fail
  refine (refStep_any s p w2).mono ?_
  rintro e w3 ⟨rfl, rfl⟩
  generalize subStep s p = r
  go_wp2_with fail
  refine (mine_any p w2).mono ?_
  rintro e w3 ⟨rfl, rfl⟩
  go_wp2_with fail
  refine (refMine_any p w2).mono ?_
  rintro e w3 ⟨rfl, rfl⟩
  generalize subMine p = m
  go_wp2_with fail
  refine (named_any s w2).mono ?_
  rintro e w3 ⟨rfl, t3⟩
  go_wp2_with fail
  refine (refNamed_any s w3).mono ?_
  rintro e w4 ⟨rfl, t4⟩
  generalize subNamed s = n
  go_wp2_with fail
  go_ret
  exact ⟨by simp, below_of (((t1.trans t2).trans t3).trans t4)⟩

/-! ### the row's step, and the row -/
theorem subTells_own : ownKnob Try.prog.godebug = none := by kernel_rfl
theorem subTells_laidOut : laidOutB Try.prog = true := by kernel_rfl

set_option linter.unusedVariables false in
set_option maxRecDepth 100000 in
theorem subTells_lifted (os : Os) (started : os.Started) (H : Type) (enc : TypeId × Value → H) :
    ReturnsInHanded {} Try.checked os 3 .any (Rows.subTellsSpec.pre6 enc Try.prog Try.f3 Rows.subTellsRow.domain false) (Rows.subTellsSpec.post enc Try.prog Try.f3 false true false false) := by
  refine returnsInHanded_of_change (C := Try.checked) subTells_own started (by kernel_rfl) Try.func3
    (ChangeSpec.witness6 (enc := enc) (C := Try.checked) false ⟨#[], #[.int .i64 0, .int .i64 0], []⟩ 8 (by kernel_rfl) (by kernel_rfl) (by kernel_rfl) (by kernel_rfl)) ?_
  intro W base args ds gs before hval0 hW hcnd _
  have hval : ∀ (j : Nat) t v, Try.f3.params[j]? = some t → args[j]? = some v → Value.okWide Try.prog W .any base t v := hval0
  have hW' := hW
  obtain ⟨p, q, hA0, hV, rfl, hfz, hnd⟩ := hW
  have hA : DataW.TrodAll enc Try.prog W 0 (fun _ => true) true Try.f3.params.toList args.toList ds p := hA0
  rw [Try.params3] at hA hval
  obtain ⟨v0, vs0, d0, ds0, p0, q0, hargs, rfl, rfl, h0, r0⟩ := trodAll_cons hA
  obtain ⟨v1, vs1, d1, ds1, p1, q1, rfl, rfl, rfl, h1, r1⟩ := trodAll_cons r0
  obtain ⟨rfl, rfl, rfl⟩ := trodAll_nil r1
  obtain rfl : args = #[v0, v1] := by cases args; simp_all
  obtain ⟨rfl, rfl⟩ := trodVars_none hV
  obtain ⟨a0, rfl, rfl, rfl, w0⟩ := open_int Try.underlying3 (hval 0 3 v0 rfl rfl) h0
  obtain ⟨a1, rfl, rfl, rfl, w1⟩ := open_int Try.underlying3 (hval 1 3 v1 rfl rfl) h1
  clear hA0 hval0
  refine (subTells_walk a0 w0 a1 w1 W).mono fun e W' ⟨he, bel⟩ => ?_
  subst he
  exact ⟨_, rfl, _, _, _, [], _, [], hW', trodAll_mk1 (shut_bool Try.underlying4 _), (trodAll_cons_mk (shut_int Try.underlying3 w0) (trodAll_cons_mk (shut_int Try.underlying3 w1) trodAll_mk0)), rfl, bel.frame _, fun h => by cases h⟩

theorem subTells_over : Rows.subTellsRow.holds Try.pinned (OpenSpec.ofChange Rows.subTellsSpec) :=
  OpenClaim.holds_of_wide 3 Try.f3 rfl rfl rfl rfl rfl rfl rfl ⟨rfl, rfl, rfl, rfl, rfl⟩ rfl rfl rfl rfl rfl (by kernel_rfl) Try.func3 (by kernel_rfl)
    (of_decide_eq_true (by kernel_rfl)) (by unfold Func.isWrapper; first | (rw [if_pos (by decide +kernel)]; kernel_rfl) | (rw [if_neg (by decide +kernel)]; exact ⟨rfl, rfl⟩))
    (fun os started H enc _ => subTells_lifted os started H enc)

/-- THE STATEMENT. -/
theorem subTells_proved : Rows.SubTellsSaid := subTells_over
#print axioms subTells_proved
end Go.Proofs.Ytgoppolkplmphaa
