/-
  nightjarlaw16.SubMay: for all rows of ops the law returns true. No conditions: for every input that can be read.
-/
import Derived.Test.YtgoppolkplmphaaRows
import Derived.Test.YtgoppolkplmphaaSubSmall
import Derived.Test.YtgoppolkplmphaaOpen
namespace Go.Proofs.Ytgoppolkplmphaa
open Go.ChangeShapes Go.WideShapes Go.ChangeAt Go.RowKit

/-- What an op does: nothing (an error), or one of thirteen turns. -/
theorem subStep_turns (s p : Int) (h : s = 0 ∨ s = 1 ∨ s = 2 ∨ s = 3 ∨ s = 4) :
    (∃ c, subStep s p = (0, c) ∧ (c != 0) = true) ∨
    (s = 0 ∧ p = 1) ∨ (s = 0 ∧ p = 6) ∨ (s = 1 ∧ p = 2) ∨ (s = 1 ∧ p = 3) ∨ (s = 1 ∧ p = 4) ∨ (s = 1 ∧ p = 6) ∨ (s = 2 ∧ p = 2) ∨ (s = 2 ∧ p = 5) ∨ (s = 2 ∧ p = 6) ∨ (s = 3 ∧ p = 1) ∨ (s = 3 ∧ p = 2) ∨ (s = 3 ∧ p = 6) ∨ (s = 4 ∧ p = 7) := by
  by_cases ho : p < 1 ∨ 7 < p
  · exact .inl ⟨1, sub_out s p (by omega), by decide⟩
  · have e2 : p = 1 ∨ p = 2 ∨ p = 3 ∨ p = 4 ∨ p = 5 ∨ p = 6 ∨ p = 7 := by omega
    clear ho
    rcases h with rfl | rfl | rfl | rfl | rfl <;> rcases e2 with rfl | rfl | rfl | rfl | rfl | rfl | rfl <;> first | exact .inl ⟨8, by decide, by decide⟩ | (right; omega)

set_option maxRecDepth 100000 in
set_option maxHeartbeats 4000000 in
theorem subMay_walk (w : World) (a : Option Addr) (len cap : Nat) (zs : List Int) (hin : RowIn .i64 w a len cap zs) :
    Calls Try.prog 4 #[.slice a len cap] w fun e w' => e = .returned (.bool true) ∧ Below w.heap.size w w' := by
  have hlen := hin.hlen
  subst hlen
  by_cases hn : 500 < zs.length
  · go_enter Try.func4, Try.ntmps4
    go_wp2_with fail
    refine (subSmall_any w).mono ?_
    rintro e w1 ⟨rfl, t1⟩
    go_wp2_with fail
    go_ret
    exact ⟨rfl, t1.below (Nat.le_refl _) (fun _ _ h => h)⟩
  have HIN := Lib.hid hin; clear hin
  go_enter Try.func4, Try.ntmps4
  go_wp2_with fail
  refine (subSmall_any w).mono ?_
  rintro e w1 ⟨rfl, t1⟩
  have T1 := Lib.hid t1
  clear t1
  go_wp2_with fail
  go_loopw [4, 5, 6, 7] (fun st ma bl i wr => ∃ (k : Nat) (s : Int), k ≤ zs.length ∧ i = .int .i64 k ∧ st = .int .i64 s ∧ (s = 0 ∨ s = 1 ∨ s = 2 ∨ s = 3 ∨ s = 4) ∧ ma = .bool (decide (s = 2)) ∧ bl = .bool (decide (s = 4)) ∧ Touch (fun _ => False) w wr) (fun _ _ _ i _ => zs.length - (intOf i).toNat)
  case atStart => exact ⟨0, 0, Nat.zero_le _, rfl, rfl, .inl rfl, rfl, rfl, T1.out⟩
  case round =>
    obtain ⟨k, s, hk, rfl, rfl, hs, rfl, rfl, ht⟩ := hrel
    by_cases hlt : k < zs.length
    · obtain ⟨b, o, ea, hc⟩ := (HIN.out.ints.touch ht (fun _ _ _ h => h)).get (ints_at zs hlt)
      subst ea
      generalize zs.getD k 0 = p at hc
      have hturn := subStep_turns s p hs
      have HT := Lib.hid (And.intro ht hs)
      clear ht hs
      rcases hturn with ⟨c, hce, hcn⟩ | ⟨rfl, rfl⟩ | ⟨rfl, rfl⟩ | ⟨rfl, rfl⟩ | ⟨rfl, rfl⟩ | ⟨rfl, rfl⟩ | ⟨rfl, rfl⟩ | ⟨rfl, rfl⟩ | ⟨rfl, rfl⟩ | ⟨rfl, rfl⟩ | ⟨rfl, rfl⟩ | ⟨rfl, rfl⟩ | ⟨rfl, rfl⟩ | ⟨rfl, rfl⟩
      · have HE := Lib.hid hce
        clear hce
        go_wp2_with fail
        refine (step_any s p wr).mono ?_
        rintro e w2 ⟨rfl, t2⟩
        rw [HE.out]
        have HT2 := Lib.hid t2
        clear t2
        go_wp2_with fail
        go_roundw
        case rel => exact ⟨k + 1, s, by omega, by go_num, rfl, HT.out.2, rfl, rfl, HT.out.1.trans HT2.out⟩
        case measure => simp [intOf]; omega
      all_goals
        go_wp2_with fail
        refine (step_any _ _ wr).mono ?_
        rintro e w2 ⟨rfl, t2⟩
        have hc2 := hc
        rw [← World.cell?_of_block (w := wr) (w' := w2) (a := ⟨b, o + k, none⟩) (t2.block b (World.block_lt_of_cell? wr ⟨b, o + k, none⟩ hc) (fun h => h))] at hc2
        have HT2 := Lib.hid t2
        clear t2
        first
          | rw [show subStep 0 1 = (1, 0) from rfl] | rw [show subStep 0 6 = (4, 0) from rfl] | rw [show subStep 1 2 = (0, 0) from rfl] | rw [show subStep 1 3 = (2, 0) from rfl] | rw [show subStep 1 4 = (3, 0) from rfl] | rw [show subStep 1 6 = (4, 0) from rfl]
          | rw [show subStep 2 2 = (0, 0) from rfl] | rw [show subStep 2 5 = (0, 0) from rfl] | rw [show subStep 2 6 = (4, 0) from rfl] | rw [show subStep 3 1 = (1, 0) from rfl] | rw [show subStep 3 2 = (0, 0) from rfl] | rw [show subStep 3 6 = (4, 0) from rfl] | rw [show subStep 4 7 = (0, 0) from rfl]
        go_wp2_with fail
        refine (named_any _ w2).mono ?_
        rintro e w3 ⟨rfl, t3⟩
        have HT3 := Lib.hid t3
        clear t3
        first
          | rw [show subNamed 0 = ⟨#[110, 111, 110, 101]⟩ from rfl] | rw [show subNamed 1 = ⟨#[97, 115, 107, 101, 100]⟩ from rfl] | rw [show subNamed 2 = ⟨#[109, 97, 121]⟩ from rfl] | rw [show subNamed 3 = ⟨#[100, 101, 110, 105, 101, 100]⟩ from rfl] | rw [show subNamed 4 = ⟨#[98, 108, 111, 99, 107, 101, 100]⟩ from rfl]
        go_wp2_with fail
        go_roundw
        case rel =>
          have T := (HT.out.1.trans HT2.out).trans HT3.out
          first
            | exact ⟨k + 1, 0, by omega, by go_num, rfl, by decide, rfl, rfl, T⟩
            | exact ⟨k + 1, 1, by omega, by go_num, rfl, by decide, rfl, rfl, T⟩
            | exact ⟨k + 1, 2, by omega, by go_num, rfl, by decide, rfl, rfl, T⟩
            | exact ⟨k + 1, 3, by omega, by go_num, rfl, by decide, rfl, rfl, T⟩
            | exact ⟨k + 1, 4, by omega, by go_num, rfl, by decide, rfl, rfl, T⟩
        case measure => simp [intOf]; omega
    · go_wp2_with fail
      go_ret
      exact ⟨rfl, ht.below (Nat.le_refl _) (fun _ _ h => h)⟩

/-! ### the row's step, and the row -/
theorem subMay_own : ownKnob Try.prog.godebug = none := by kernel_rfl
theorem subMay_laidOut : laidOutB Try.prog = true := by kernel_rfl

set_option linter.unusedVariables false in
set_option maxRecDepth 100000 in
theorem subMay_lifted (os : Os) (started : os.Started) (H : Type) (enc : TypeId × Value → H) :
    ReturnsInHanded {} Try.checked os 4 .any (Rows.subMaySpec.pre6 enc Try.prog Try.f4 Rows.subMayRow.domain false) (Rows.subMaySpec.post enc Try.prog Try.f4 false true false false) := by
  refine returnsInHanded_of_change (C := Try.checked) subMay_own started (by kernel_rfl) Try.func4
    (ChangeSpec.witness6 (enc := enc) (C := Try.checked) false ⟨#[], #[.slice none 0 0], []⟩ 8 (by kernel_rfl) (by kernel_rfl) (by kernel_rfl) (by kernel_rfl)) ?_
  intro W base args ds gs before hval0 hW hcnd _
  have hval : ∀ (j : Nat) t v, Try.f4.params[j]? = some t → args[j]? = some v → Value.okWide Try.prog W .any base t v := hval0
  have hW' := hW
  obtain ⟨p, q, hA0, hV, rfl, hfz, hnd⟩ := hW
  have hA : DataW.TrodAll enc Try.prog W 0 (fun _ => true) true Try.f4.params.toList args.toList ds p := hA0
  rw [Try.params4] at hA hval
  obtain ⟨v0, vs0, d0, ds0, p0, q0, hargs, rfl, rfl, h0, r0⟩ := trodAll_cons hA
  obtain ⟨rfl, rfl, rfl⟩ := trodAll_nil r0
  obtain rfl : args = #[v0] := by cases args; simp_all
  obtain ⟨rfl, rfl⟩ := trodVars_none hV
  have k0 := h0
  have lt0 : ∀ x ∈ p0, x.block < W.heap.size := by obtain ⟨m, hm⟩ := k0; exact DataW.trod_lt m _ _ _ hm
  obtain ⟨a0, len0, cap0, rfl⟩ := okWide_slice Try.underlying29 (hval 0 29 v0 rfl rfl)
  obtain ⟨z0, w0⟩ := row_of (k := .i64) Try.underlying29 Try.underlying3 (by kernel_rfl) h0
  clear hA0 hval0
  refine (subMay_walk W a0 len0 cap0 z0 w0).mono fun e W' ⟨he, bel⟩ => ?_
  subst he
  exact ⟨_, rfl, _, _, _, [], _, [], hW', trodAll_mk1 (shut_bool Try.underlying4 _), (trodAll_cons_mk (Below.trod subMay_laidOut (by kernel_rfl) (of_decide_eq_true (by kernel_rfl)) k0 bel lt0) trodAll_mk0), rfl, bel.frame _, fun h => by cases h⟩

theorem subMay_over : Rows.subMayRow.holds Try.pinned (OpenSpec.ofChange Rows.subMaySpec) :=
  OpenClaim.holds_of_wide 4 Try.f4 rfl rfl rfl rfl rfl rfl rfl ⟨rfl, rfl, rfl, rfl, rfl⟩ rfl rfl rfl rfl rfl (by kernel_rfl) Try.func4 (by kernel_rfl)
    (of_decide_eq_true (by kernel_rfl)) (by unfold Func.isWrapper; first | (rw [if_pos (by decide +kernel)]; kernel_rfl) | (rw [if_neg (by decide +kernel)]; exact ⟨rfl, rfl⟩))
    (fun os started H enc _ => subMay_lifted os started H enc)

/-- THE STATEMENT. -/
theorem subMay_proved : Rows.SubMaySaid := subMay_over
#print axioms subMay_proved
end Go.Proofs.Ytgoppolkplmphaa
