/-
  nightjarlaw16.SubBlocks: for every state and every op the law returns true. No conditions: for every input that can be read.
-/
import Derived.Test.YtgoppolkplmphaaRows
import Derived.Test.YtgoppolkplmphaaSubSmall
import Derived.Test.YtgoppolkplmphaaOpen
namespace Go.Proofs.Ytgoppolkplmphaa
open Go.ChangeShapes Go.WideShapes Go.ChangeAt Go.RowKit

set_option maxHeartbeats 1000000 in
theorem subBlocks_walk (s : Int) (_w0 : (Lit.int .i64 s).wf = true) (p : Int) (_w1 : (Lit.int .i64 p).wf = true) (w : World) :
    Calls Try.prog 6 #[.int .i64 s, .int .i64 p] w fun e w' => e = .returned (.bool true) ∧ Below w.heap.size w w' := by
  have h1 : (s < 0) ∨ (0 ≤ s ∧ 3 < s) ∨ (0 ≤ s ∧ s ≤ 3 ∧ subStep s 6 = (4, 0)) := by
    by_cases a : s < 0
    · exact .inl a
    · by_cases b : 3 < s
      · exact .inr (.inl ⟨by omega, b⟩)
      · have e1 : s = 0 ∨ s = 1 ∨ s = 2 ∨ s = 3 := by omega
        refine .inr (.inr ⟨by omega, by omega, ?_⟩)
        rcases e1 with rfl | rfl | rfl | rfl <;> rfl
  have h2 : (p < 1) ∨ (1 ≤ p ∧ 7 < p) ∨ (1 ≤ p ∧ p < 7 ∧ (p == 7) = false ∧ subStep 4 p = (0, 8)) ∨ (p = 7 ∧ subStep 4 p = (0, 0)) := by
    by_cases a : p < 1
    · exact .inl a
    · by_cases b : 7 < p
      · exact .inr (.inl ⟨by omega, b⟩)
      · have e1 : p = 1 ∨ p = 2 ∨ p = 3 ∨ p = 4 ∨ p = 5 ∨ p = 6 ∨ p = 7 := by omega
        clear a b h1
        rcases e1 with rfl | rfl | rfl | rfl | rfl | rfl | rfl <;> first | exact .inr (.inr (.inl ⟨by omega, by omega, by decide, by decide⟩)) | exact .inr (.inr (.inr ⟨rfl, by decide⟩))
  rcases h1 with k1 | ⟨k1, k2⟩ | ⟨k1, k2, k3⟩
  all_goals
    try have HK := Lib.hid k3
    try clear k3
    rcases h2 with j1 | ⟨j1, j2⟩ | ⟨j1, j2, j4, j3⟩ | ⟨rfl, j3⟩
    all_goals
      try have HJ := Lib.hid j3
      try clear j3
      go_enter Try.func6, Try.ntmps6
      go_wp2_with fail
      refine (subSmall_any w).mono ?_
      rintro e w1 ⟨rfl, t1⟩
      go_wp2_with fail
      refine (step_any s 6 w1).mono ?_
      rintro e w2 ⟨rfl, t2⟩
      try rw [HK.out]
      go_wp2_with fail
      refine (step_any 4 _ w2).mono ?_
      rintro e w3 ⟨rfl, t3⟩
      try rw [HJ.out]
      go_wp2_with fail
      go_ret
      exact ⟨by simp, ((t1.trans t2).trans t3).below (Nat.le_refl _) (fun _ _ h => h)⟩

/-! ### the row's step, and the row -/
theorem subBlocks_own : ownKnob Try.prog.godebug = none := by kernel_rfl
theorem subBlocks_laidOut : laidOutB Try.prog = true := by kernel_rfl

set_option linter.unusedVariables false in
set_option maxRecDepth 100000 in
theorem subBlocks_lifted (os : Os) (started : os.Started) (H : Type) (enc : TypeId × Value → H) :
    ReturnsInHanded {} Try.checked os 6 .any (Rows.subBlocksSpec.pre6 enc Try.prog Try.f6 Rows.subBlocksRow.domain false) (Rows.subBlocksSpec.post enc Try.prog Try.f6 false true false false) := by
  refine returnsInHanded_of_change (C := Try.checked) subBlocks_own started (by kernel_rfl) Try.func6
    (ChangeSpec.witness6 (enc := enc) (C := Try.checked) false ⟨#[], #[.int .i64 0, .int .i64 0], []⟩ 8 (by kernel_rfl) (by kernel_rfl) (by kernel_rfl) (by kernel_rfl)) ?_
  intro W base args ds gs before hval0 hW hcnd _
  have hval : ∀ (j : Nat) t v, Try.f6.params[j]? = some t → args[j]? = some v → Value.okWide Try.prog W .any base t v := hval0
  have hW' := hW
  obtain ⟨p, q, hA0, hV, rfl, hfz, hnd⟩ := hW
  have hA : DataW.TrodAll enc Try.prog W 0 (fun _ => true) true Try.f6.params.toList args.toList ds p := hA0
  rw [Try.params6] at hA hval
  obtain ⟨v0, vs0, d0, ds0, p0, q0, hargs, rfl, rfl, h0, r0⟩ := trodAll_cons hA
  obtain ⟨v1, vs1, d1, ds1, p1, q1, rfl, rfl, rfl, h1, r1⟩ := trodAll_cons r0
  obtain ⟨rfl, rfl, rfl⟩ := trodAll_nil r1
  obtain rfl : args = #[v0, v1] := by cases args; simp_all
  obtain ⟨rfl, rfl⟩ := trodVars_none hV
  obtain ⟨a0, rfl, rfl, rfl, w0⟩ := open_int Try.underlying3 (hval 0 3 v0 rfl rfl) h0
  obtain ⟨a1, rfl, rfl, rfl, w1⟩ := open_int Try.underlying3 (hval 1 3 v1 rfl rfl) h1
  clear hA0 hval0
  refine (subBlocks_walk a0 w0 a1 w1 W).mono fun e W' ⟨he, bel⟩ => ?_
  subst he
  exact ⟨_, rfl, _, _, _, [], _, [], hW', trodAll_mk1 (shut_bool Try.underlying4 _), (trodAll_cons_mk (shut_int Try.underlying3 w0) (trodAll_cons_mk (shut_int Try.underlying3 w1) trodAll_mk0)), rfl, bel.frame _, fun h => by cases h⟩

theorem subBlocks_over : Rows.subBlocksRow.holds Try.pinned (OpenSpec.ofChange Rows.subBlocksSpec) :=
  OpenClaim.holds_of_wide 6 Try.f6 rfl rfl rfl rfl rfl rfl rfl ⟨rfl, rfl, rfl, rfl, rfl⟩ rfl rfl rfl rfl rfl (by kernel_rfl) Try.func6 (by kernel_rfl)
    (of_decide_eq_true (by kernel_rfl)) (by unfold Func.isWrapper; first | (rw [if_pos (by decide +kernel)]; kernel_rfl) | (rw [if_neg (by decide +kernel)]; exact ⟨rfl, rfl⟩))
    (fun os started H enc _ => subBlocks_lifted os started H enc)

/-- THE STATEMENT. -/
theorem subBlocks_proved : Rows.SubBlocksSaid := subBlocks_over
#print axioms subBlocks_proved
end Go.Proofs.Ytgoppolkplmphaa
