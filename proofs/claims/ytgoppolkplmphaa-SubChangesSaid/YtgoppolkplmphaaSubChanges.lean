/-
  nightjarlaw16.SubChanges: for every state and every op the law returns true. No conditions: for every input that can be read.
-/
import Derived.Test.YtgoppolkplmphaaRows
import Derived.Test.YtgoppolkplmphaaSubSmall
import Derived.Test.YtgoppolkplmphaaOpen
namespace Go.Proofs.Ytgoppolkplmphaa
open Go.ChangeShapes Go.WideShapes Go.ChangeAt Go.RowKit

theorem subStep_cases (s p : Int) : ((s < 0 ∨ 4 < s ∨ p < 1 ∨ 7 < p) ∧ subStep s p = (0, 1)) ∨
    (∃ v, (0 ≤ s ∧ s ≤ 4 ∧ 1 ≤ p ∧ p ≤ 7) ∧ ((subStep s p = (0, 8)) ∨ (subStep s p = (v, 0) ∧ 0 ≤ v ∧ v ≤ 4 ∧ (v < s ∨ s < v)))) := by
  by_cases h : s < 0 ∨ 4 < s ∨ p < 1 ∨ 7 < p
  · exact .inl ⟨h, sub_out s p h⟩
  · right
    have e1 : s = 0 ∨ s = 1 ∨ s = 2 ∨ s = 3 ∨ s = 4 := by omega
    have e2 : p = 1 ∨ p = 2 ∨ p = 3 ∨ p = 4 ∨ p = 5 ∨ p = 6 ∨ p = 7 := by omega
    refine ⟨(subStep s p).1, by omega, ?_⟩
    clear h
    rcases e1 with rfl | rfl | rfl | rfl | rfl <;> rcases e2 with rfl | rfl | rfl | rfl | rfl | rfl | rfl <;> decide

set_option maxHeartbeats 1000000 in
theorem subChanges_walk (s : Int) (_w0 : (Lit.int .i64 s).wf = true) (p : Int) (_w1 : (Lit.int .i64 p).wf = true) (w : World) :
    Calls Try.prog 5 #[.int .i64 s, .int .i64 p] w fun e w' => e = .returned (.bool true) ∧ Below w.heap.size w w' := by
  have hc : (s < 0 ∧ subStep s p = (0, 1)) ∨ (0 ≤ s ∧ 4 < s ∧ subStep s p = (0, 1)) ∨ (0 ≤ s ∧ s ≤ 4 ∧ p < 1 ∧ subStep s p = (0, 1)) ∨ (0 ≤ s ∧ s ≤ 4 ∧ 1 ≤ p ∧ 7 < p ∧ subStep s p = (0, 1)) ∨
      (0 ≤ s ∧ s ≤ 4 ∧ 1 ≤ p ∧ p ≤ 7 ∧ subStep s p = (0, 8)) ∨ (0 ≤ s ∧ s ≤ 4 ∧ 1 ≤ p ∧ p ≤ 7 ∧ ∃ v, subStep s p = (v, 0) ∧ 0 ≤ v ∧ v ≤ 4 ∧ (v != s) = true) := by
    rcases subStep_cases s p with ⟨h, e⟩ | ⟨v, ⟨h1, h2, h3, h4⟩, e | ⟨e, h5, h6, h7⟩⟩
    · rcases h with h | h | h | h
      · exact .inl ⟨h, e⟩
      · exact .inr (.inl ⟨by omega, h, e⟩)
      · by_cases a : s < 0
        · exact .inl ⟨a, e⟩
        · by_cases b : 4 < s
          · exact .inr (.inl ⟨by omega, b, e⟩)
          · exact .inr (.inr (.inl ⟨by omega, by omega, h, e⟩))
      · by_cases a : s < 0
        · exact .inl ⟨a, e⟩
        · by_cases b : 4 < s
          · exact .inr (.inl ⟨by omega, b, e⟩)
          · exact .inr (.inr (.inr (.inl ⟨by omega, by omega, by omega, h, e⟩)))
    · exact .inr (.inr (.inr (.inr (.inl ⟨h1, h2, h3, h4, e⟩))))
    · exact .inr (.inr (.inr (.inr (.inr ⟨h1, h2, h3, h4, v, e, h5, h6, by simp; omega⟩))))
  rcases hc with ⟨h1, e⟩ | ⟨h1, h2, e⟩ | ⟨h1, h2, h3, e⟩ | ⟨h1, h2, h3, h4, e⟩ | ⟨h1, h2, h3, h4, e⟩ | ⟨h1, h2, h3, h4, v, e, h5, h6, h7⟩
  all_goals
    have HE := Lib.hid e
    clear e
    go_enter Try.func5, Try.ntmps5
    go_wp2_with fail
    refine (subSmall_any w).mono ?_
    rintro e w1 ⟨rfl, t1⟩
    go_wp2_with fail
    refine (step_any s p w1).mono ?_
    rintro e w2 ⟨rfl, t2⟩
    rw [HE.out]
    go_wp2_with fail
    go_ret
    exact ⟨by (simp; try omega), (t1.trans t2).below (Nat.le_refl _) (fun _ _ h => h)⟩

/-! ### the row's step, and the row -/
theorem subChanges_own : ownKnob Try.prog.godebug = none := by kernel_rfl
theorem subChanges_laidOut : laidOutB Try.prog = true := by kernel_rfl

set_option linter.unusedVariables false in
set_option maxRecDepth 100000 in
theorem subChanges_lifted (os : Os) (started : os.Started) (H : Type) (enc : TypeId × Value → H) :
    ReturnsInHanded {} Try.checked os 5 .any (Rows.subChangesSpec.pre6 enc Try.prog Try.f5 Rows.subChangesRow.domain false) (Rows.subChangesSpec.post enc Try.prog Try.f5 false true false false) := by
  refine returnsInHanded_of_change (C := Try.checked) subChanges_own started (by kernel_rfl) Try.func5
    (ChangeSpec.witness6 (enc := enc) (C := Try.checked) false ⟨#[], #[.int .i64 0, .int .i64 0], []⟩ 8 (by kernel_rfl) (by kernel_rfl) (by kernel_rfl) (by kernel_rfl)) ?_
  intro W base args ds gs before hval0 hW hcnd _
  have hval : ∀ (j : Nat) t v, Try.f5.params[j]? = some t → args[j]? = some v → Value.okWide Try.prog W .any base t v := hval0
  have hW' := hW
  obtain ⟨p, q, hA0, hV, rfl, hfz, hnd⟩ := hW
  have hA : DataW.TrodAll enc Try.prog W 0 (fun _ => true) true Try.f5.params.toList args.toList ds p := hA0
  rw [Try.params5] at hA hval
  obtain ⟨v0, vs0, d0, ds0, p0, q0, hargs, rfl, rfl, h0, r0⟩ := trodAll_cons hA
  obtain ⟨v1, vs1, d1, ds1, p1, q1, rfl, rfl, rfl, h1, r1⟩ := trodAll_cons r0
  obtain ⟨rfl, rfl, rfl⟩ := trodAll_nil r1
  obtain rfl : args = #[v0, v1] := by cases args; simp_all
  obtain ⟨rfl, rfl⟩ := trodVars_none hV
  obtain ⟨a0, rfl, rfl, rfl, w0⟩ := open_int Try.underlying3 (hval 0 3 v0 rfl rfl) h0
  obtain ⟨a1, rfl, rfl, rfl, w1⟩ := open_int Try.underlying3 (hval 1 3 v1 rfl rfl) h1
  clear hA0 hval0
  refine (subChanges_walk a0 w0 a1 w1 W).mono fun e W' ⟨he, bel⟩ => ?_
  subst he
  exact ⟨_, rfl, _, _, _, [], _, [], hW', trodAll_mk1 (shut_bool Try.underlying4 _), (trodAll_cons_mk (shut_int Try.underlying3 w0) (trodAll_cons_mk (shut_int Try.underlying3 w1) trodAll_mk0)), rfl, bel.frame _, fun h => by cases h⟩

theorem subChanges_over : Rows.subChangesRow.holds Try.pinned (OpenSpec.ofChange Rows.subChangesSpec) :=
  OpenClaim.holds_of_wide 5 Try.f5 rfl rfl rfl rfl rfl rfl rfl ⟨rfl, rfl, rfl, rfl, rfl⟩ rfl rfl rfl rfl rfl (by kernel_rfl) Try.func5 (by kernel_rfl)
    (of_decide_eq_true (by kernel_rfl)) (by unfold Func.isWrapper; first | (rw [if_pos (by decide +kernel)]; kernel_rfl) | (rw [if_neg (by decide +kernel)]; exact ⟨rfl, rfl⟩))
    (fun os started H enc _ => subChanges_lifted os started H enc)

/-- THE STATEMENT. -/
theorem subChanges_proved : Rows.SubChangesSaid := subChanges_over
#print axioms subChanges_proved
end Go.Proofs.Ytgoppolkplmphaa
