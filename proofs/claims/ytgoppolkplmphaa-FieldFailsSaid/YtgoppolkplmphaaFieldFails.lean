/-
  nightjarlaw04.FieldFails: for all bytes and every number the law returns true. No conditions: for every input that can be read.
-/
import Derived.Test.YtgoppolkplmphaaRows
import Derived.Test.YtgoppolkplmphaaFieldLib
import Derived.Test.YtgoppolkplmphaaOpen
namespace Go.Proofs.Ytgoppolkplmphaa
open Go.ChangeShapes Go.WideShapes Go.ChangeAt Go.RowKit

set_option maxHeartbeats 2000000 in
theorem fieldFails_walk (w : World) (a : Option Addr) (len cap : Nat) (zs : List Int) (hin : RowIn .u8 w a len cap zs) (n : Int) (_w1 : (Lit.int .i64 n).wf = true) :
    Calls Try.prog 9 #[.slice a len cap, .int .i64 n] w fun e w' => e = .returned (.bool true) ∧ Below w.heap.size w w' := by
  have hlen := hin.hlen
  subst hlen
  by_cases hn : 500 < zs.length
  · go_enter Try.func9, Try.ntmps9
    go_wp2_with fail
    refine (fieldSmall_any w).mono ?_
    rintro e w1 ⟨rfl, hb⟩
    go_wp2_with fail
    go_ret
    exact ⟨rfl, hb⟩
  have hlec := hin.le
  have hr0 := hin.range
  have HIN := Lib.hid (And.intro hin hr0); clear hin hr0
  go_enter Try.func9, Try.ntmps9
  go_wp2_with fail
  refine (fieldSmall_any w).mono ?_
  rintro e wa ⟨rfl, hb⟩
  have hsl := HIN.out.1.bys.touch (Touch.of_below (S := fun _ => False) hb) (fun _ _ _ h => h)
  have hold : ∀ x, a = some x → zs ≠ [] → x.block < wa.heap.size := fun x hx hne => Nat.lt_of_lt_of_le (HIN.out.1.old x hx hne) hb.size
  have HB := Lib.hid (And.intro hb (And.intro hsl hold)); clear hb hold
  go_wp2_with fail
  refine (open_rd a zs.length cap zs wa rfl hsl HIN.out.1.nil (by omega)).mono ?_
  rintro e wb ⟨rb, rfl, hrb, hr, hbb⟩
  have HBB := Lib.hid (And.intro hrb hbb)
  clear hsl hrb hbb
  go_wp2_with fail
  refine (take_rd rb _ zs false n wb hr (by omega)).mono ?_
  rintro e wc ⟨v, rfl, hown, hrd, ht⟩
  have htc : Touch (fun k => k = rb) wa wc := (Touch.of_below HBB.out.2).trans ht
  have hslc : SlAt wc a (bys zs) := HB.out.2.1.touch htc (fun x hx hne h => by have := HB.out.2.2 x hx (by rintro rfl; exact hne rfl); have := HBB.out.1; omega)
  have fin : ∀ wz, Touch (fun k => k = rb) wa wz → Below w.heap.size w wz := fun wz hz => HB.out.1.trans (hz.below HB.out.1.size (fun k hk => by have := HB.out.1.size; have := HBB.out.1; omega))
  have HF := Lib.hid (And.intro htc fin)
  clear ht htc fin hr
  by_cases hq : 0 ≤ n ∧ n ≤ zs.length
  · obtain ⟨hq1, hq2⟩ := hq
    obtain ⟨m, rfl⟩ : ∃ m : Nat, n = m := ⟨n.toNat, by omega⟩
    rw [show rdTake zs false m = (zs.take m, zs.drop m, false) by unfold rdTake; rw [if_neg (by simp; omega)]; rfl] at hown hrd
    obtain ⟨ax, cx, rfl, _, _, _, _⟩ := owns_form hown
    rw [show (zs.take m).length = m by simp; omega] at hown ⊢
    have q1 : ∀ k, (convert 31 9 (.slice ax m cx)).run Try.prog (wc.drewN k) = .ok (.string (strOfNums (zs.take m))) (wc.drewN k) := fun k => str_of (owns_touch hown ((Touch.refl (fun _ => False) _).drewN k) (fun _ _ h => h))
    have hsm : SlAt wc a (bys (zs.take m)) := by have h := hslc.take m; rw [show (bys zs).take m = bys (zs.take m) by simp [bys]] at h; exact h
    have q2 : ∀ k, (convert 31 9 (.slice a m cap)).run Try.prog (wc.drewN k) = .ok (.string (strOfNums (zs.take m))) (wc.drewN k) := fun k => run_str _ _ _ _ Try.underlying31 Try.underlying5 Try.underlying9 a m cap _ (by simp; omega) (hsm.touch ((Touch.refl (fun _ => False) _).drewN k) (fun _ _ _ h => h))
    have HR := Lib.hid hrd
    clear hown hrd hslc hsm
    have hmc : (m : Int) ≤ cap := by omega
    obtain ⟨L, hL⟩ : ∃ L : Nat, (zs.drop m).length = L := ⟨_, rfl⟩
    have hw : IntKind.i64.wrap ((zs.length : Int) - m) = (L : Int) := by rw [IntWalk.i64_in _ (by omega)]; rw [List.length_drop] at hL; omega
    have HL := Lib.hid hL
    clear hL
    go_wp2_with fail
    go_quiet (first
      | exact Calls.quiet_of_same ((left_rd rb _ (zs.drop m) false (wc.drewN _) (HR.out.touch ((Touch.refl (fun _ => False) _).drewN _) (fun h => h) (fun _ _ _ h => h))).mono fun _ _ h => ⟨by rw [h.1, HL.out], h.2.symm⟩)
      | exact Calls.quiet_of_same ((done_rd rb _ (zs.drop m) false (wc.drewN _) (HR.out.touch ((Touch.refl (fun _ => False) _).drewN _) (fun h => h) (fun _ _ _ h => h))).mono fun _ _ h => ⟨h.1, h.2.symm⟩))
    go_wp2
    go_ret
    refine ⟨?_, HF.out.2 _ (HF.out.1.drewN _)⟩
    have e0 : (zs.drop m).isEmpty = ((m : Int) == zs.length) := by
      by_cases e : m = zs.length
      · subst e; simp
      · have e1 : ((m : Int) == zs.length) = false := by simp; omega
        rw [e1]
        cases h : zs.drop m with
        | nil => have := congrArg List.length h; simp at this; omega
        | cons _ _ => rfl
    simp [e0]
  · have hq' : n < 0 ∨ (zs.length : Int) < n := by omega
    rw [show rdTake zs false n = ([], [], true) by unfold rdTake; rw [if_pos (.inr hq')]] at hown hrd
    obtain ⟨ax, cx, rfl, _, _, _, _⟩ := owns_form hown
    clear hown hslc hq
    have HR := Lib.hid hrd
    clear hrd
    rcases hq' with h1 | h1
    all_goals
      go_wp2_with fail
      refine (take_rd rb _ [] true 0 wc HR.out (by decide)).mono ?_
      rintro e wd ⟨v, rfl, hown, hrd, ht⟩
      rw [show rdTake [] true 0 = ([], [], true) from rfl] at hown hrd
      obtain ⟨ay, cy, rfl, _, _, _, _⟩ := owns_form hown
      have HT := Lib.hid ht
      clear hown ht
      go_wp2_with fail
      refine (num_rd rb _ [] true 1 wd hrd (by decide) (by decide)).mono ?_
      rintro e we ⟨rfl, hre, ht⟩
      rw [show rdTake [] true (fitN 1) = ([], [], true) from rfl] at hre ⊢
      rw [show numOf ((([] : List Int), ([] : List Int), true).1) = 0 from rfl]
      have HT2 := Lib.hid ht
      clear ht hrd
      go_wp2_with fail
      refine (left_rd rb _ [] true we hre).mono ?_
      rintro e w5 ⟨rfl, rfl⟩
      go_wp2_with fail
      refine (done_rd rb _ [] true we hre).mono ?_
      rintro e w5 ⟨rfl, rfl⟩
      go_wp2_with fail
      go_ret
      exact ⟨rfl, HF.out.2 _ ((HF.out.1.trans HT.out).trans HT2.out)⟩

/-! ### the row's step, and the row -/
theorem fieldFails_own : ownKnob Try.prog.godebug = none := by kernel_rfl
theorem fieldFails_laidOut : laidOutB Try.prog = true := by kernel_rfl

set_option linter.unusedVariables false in
set_option maxRecDepth 100000 in
theorem fieldFails_lifted (os : Os) (started : os.Started) (H : Type) (enc : TypeId × Value → H) :
    ReturnsInHanded {} Try.checked os 9 .any (Rows.fieldFailsSpec.pre6 enc Try.prog Try.f9 Rows.fieldFailsRow.domain false) (Rows.fieldFailsSpec.post enc Try.prog Try.f9 false true false false) := by
  refine returnsInHanded_of_change (C := Try.checked) fieldFails_own started (by kernel_rfl) Try.func9
    (ChangeSpec.witness6 (enc := enc) (C := Try.checked) false ⟨#[], #[.slice none 0 0, .int .i64 0], []⟩ 8 (by kernel_rfl) (by kernel_rfl) (by kernel_rfl) (by kernel_rfl)) ?_
  intro W base args ds gs before hval0 hW hcnd _
  have hval : ∀ (j : Nat) t v, Try.f9.params[j]? = some t → args[j]? = some v → Value.okWide Try.prog W .any base t v := hval0
  have hW' := hW
  obtain ⟨p, q, hA0, hV, rfl, hfz, hnd⟩ := hW
  have hA : DataW.TrodAll enc Try.prog W 0 (fun _ => true) true Try.f9.params.toList args.toList ds p := hA0
  rw [Try.params9] at hA hval
  obtain ⟨v0, vs0, d0, ds0, p0, q0, hargs, rfl, rfl, h0, r0⟩ := trodAll_cons hA
  obtain ⟨v1, vs1, d1, ds1, p1, q1, rfl, rfl, rfl, h1, r1⟩ := trodAll_cons r0
  obtain ⟨rfl, rfl, rfl⟩ := trodAll_nil r1
  obtain rfl : args = #[v0, v1] := by cases args; simp_all
  obtain ⟨rfl, rfl⟩ := trodVars_none hV
  have k0 := h0
  have lt0 : ∀ x ∈ p0, x.block < W.heap.size := by obtain ⟨m, hm⟩ := k0; exact DataW.trod_lt m _ _ _ hm
  obtain ⟨a0, len0, cap0, rfl⟩ := okWide_slice Try.underlying31 (hval 0 31 v0 rfl rfl)
  obtain ⟨z0, w0⟩ := row_of (k := .u8) Try.underlying31 Try.underlying5 (by kernel_rfl) h0
  obtain ⟨a1, rfl, rfl, rfl, w1⟩ := open_int Try.underlying3 (hval 1 3 v1 rfl rfl) h1
  clear hA0 hval0
  refine (fieldFails_walk W a0 len0 cap0 z0 w0 a1 w1).mono fun e W' ⟨he, bel⟩ => ?_
  subst he
  exact ⟨_, rfl, _, _, _, [], _, [], hW', trodAll_mk1 (shut_bool Try.underlying4 _), (trodAll_cons_mk (Below.trod fieldFails_laidOut (by kernel_rfl) (of_decide_eq_true (by kernel_rfl)) k0 bel lt0) (trodAll_cons_mk (shut_int Try.underlying3 w1) trodAll_mk0)), rfl, bel.frame _, fun h => by cases h⟩

theorem fieldFails_over : Rows.fieldFailsRow.holds Try.pinned (OpenSpec.ofChange Rows.fieldFailsSpec) :=
  OpenClaim.holds_of_wide 9 Try.f9 rfl rfl rfl rfl rfl rfl rfl ⟨rfl, rfl, rfl, rfl, rfl⟩ rfl rfl rfl rfl rfl (by kernel_rfl) Try.func9 (by kernel_rfl)
    (of_decide_eq_true (by kernel_rfl)) (by unfold Func.isWrapper; first | (rw [if_pos (by decide +kernel)]; kernel_rfl) | (rw [if_neg (by decide +kernel)]; exact ⟨rfl, rfl⟩))
    (fun os started H enc _ => fieldFails_lifted os started H enc)

/-- THE STATEMENT. -/
theorem fieldFails_proved : Rows.FieldFailsSaid := fieldFails_over
#print axioms fieldFails_proved
end Go.Proofs.Ytgoppolkplmphaa
