/-
  nightjarlaw08.RingStep: for every room, all numbers and one more the law returns true. No conditions: for every input that can be read.
-/
import Derived.Test.YthhjfoolijiacaaRows
import Derived.Test.YthhjfoolijiacaaRingSmall
import Derived.Test.YthhjfoolijiacaaRingPlain
import Derived.Test.YthhjfoolijiacaaOpen
namespace Go.Proofs.Ythhjfoolijiacaa
open Go.ChangeShapes Go.WideShapes Go.ChangeAt Go.RowKit

set_option maxHeartbeats 2000000 in
theorem ringStep_walk (w : World) (room : Int) (_w0 : (Lit.int .i64 room).wf = true) (a : Option Addr) (len cap : Nat) (zs : List Int) (hin : RowIn .i64 w a len cap zs) (n : Int) (_w1 : (Lit.int .i64 n).wf = true) :
    Calls Try.prog 5 #[.int .i64 room, .slice a len cap, .int .i64 n] w fun e w' => e = .returned (.bool true) ∧ Below w.heap.size w w' := by
  have hlen := hin.hlen
  subst hlen
  obtain ⟨i0, hi, hz0, hz1, hz2⟩ := info_parts Try.info3
  have hlec := hin.le
  have hcm := hin.hcap
  unfold maxLen at hcm
  by_cases hn : 500 < zs.length
  · go_enter Try.func5, Try.ntmps5
    go_wp2_with fail
    refine (small_any w).mono ?_
    rintro e w1 ⟨rfl, hb⟩
    go_wp2_with fail
    go_ret
    exact ⟨rfl, hb⟩
  have HIN := Lib.hid hin; clear hin
  go_enter Try.func5, Try.ntmps5
  go_wp2_with fail
  refine (small_any w).mono ?_
  rintro e wa ⟨rfl, hb⟩
  have hsl := HIN.out.ints.touch (Touch.of_below (S := fun _ => False) hb) (fun _ _ _ h => h)
  have hold : ∀ x, a = some x → zs ≠ [] → x.block < wa.heap.size := fun x hx hne => Nat.lt_of_lt_of_le (HIN.out.old x hx hne) hb.size
  have HB := Lib.hid hb; clear hb
  go_wp2_with fail
  refine (new_any room wa).mono ?_
  rintro e wb ⟨rb, sb, rfl, hb1, hb2, hr, hbl⟩
  obtain ⟨r, hrr⟩ : ∃ r, r = (min (max room 1) 64).toNat := ⟨_, rfl⟩
  rw [← hrr] at hr
  have hsl2 := hsl.touch (Touch.of_below (S := fun _ => False) hbl) (fun _ _ _ h => h)
  have HBL := Lib.hid (And.intro hrr hbl); clear hbl hrr
  go_wp2_with fail
  refine (push_ext rb sb r [] 0 a cap zs wb hr hsl2 (fun x hx hne => by have := hold x hx hne; omega) (by omega) (by simp)).mono ?_
  rintro e wc ⟨rfl, hrc, htc⟩
  have hl1 : 1 ≤ r := by obtain ⟨_, _, h⟩ := hr; exact h.room1
  have hl64 : r ≤ 64 := by obtain ⟨_, _, h⟩ := hr; exact h.room64
  have hpl := pushAll_len r zs ([], 0) (by simp) hl1
  generalize hS : pushAll r ([], 0) zs = S at hrc hpl
  have HS := Lib.hid (And.intro hS hpl)
  simp at hpl
  have hSl : S.1.length ≤ r := by omega
  have hS2 : S.2 ≤ 500 := by omega
  clear hS hpl hr hsl hsl2
  go_wp2_with fail
  refine (all_any rb sb r _ _ wc hrc).mono ?_
  rintro e wd ⟨v, rfl, hown, hbd⟩
  have hrd := hrc.touch (Touch.of_below (S := fun _ => False) hbd) (fun h => h) (fun h => h)
  obtain ⟨av, cv, ev, hvn, _, _, hvb⟩ := owns_form hown
  subst ev
  have hrlt := ring_lt hrc
  clear hrc
  go_wp2_with fail
  refine (lost_any rb sb r _ _ wd hrd).mono ?_
  rintro e w5 ⟨rfl, rfl⟩
  go_wp2_with fail
  refine (push_any rb sb r S.1 S.2 (some ⟨wd.heap.size, 0, none⟩) 1 [n] _ (hrd.touch ((Touch.refl (fun _ => False) _).alloc _) (fun h => h) (fun h => h)) (sl_new1 _ _ _) ?_ (by simp) (by omega)).mono ?_
  · intro x hx _
    cases hx
    have := ring_lt hrd
    simp
    omega
  rintro e wf ⟨rfl, hrf, htf⟩
  have hownf := owns_touch (hown.alloc (.cells #[.int .i64 n] 3)) htf (fun k hk => by
    cases av with
    | none => cases hk
    | some x => simp [Value.ownBlock] at hk; subst hk; have := (hvb x rfl).1; omega)
  have htf' : Touch (fun k => k = rb ∨ k = sb) wd wf := ((Touch.refl _ _).alloc _).trans htf
  have hlf := ring_lt hrf
  have HT := Lib.hid (And.intro htc (And.intro hbd htf'))
  have hs1 := hbd.size
  have hs2 := htf'.size
  clear hown htf htc htf' hbd hrd
  rw [ints_length] at hownf
  -- the new state, and what is awaited
  obtain ⟨rI, hrI⟩ : ∃ rI : Int, rI = (r : Int) := ⟨_, rfl⟩
  have hrc : room ≤ 1 ∧ (r : Int) = 1 ∨ 1 < room ∧ room ≤ 64 ∧ (r : Int) = room ∨ 64 < room ∧ (r : Int) = 64 := by have := HBL.out.1; omega
  have hfull : (S.1.length = r ∧ (pushAll r (S.1, S.2) [n]) = (S.1.drop 1 ++ [n], S.2 + 1)) ∨ (S.1.length < r ∧ (pushAll r (S.1, S.2) [n]) = (S.1 ++ [n], S.2)) := by
    by_cases e : S.1.length = r
    · exact .inl ⟨e, by simp [pushAll, push1, e]⟩
    · exact .inr ⟨by omega, by simp [pushAll, push1, e]⟩
  clear hrI
  have hsv : SlAt (wf.alloc (.cells #[] 3)) av (ints S.1) := SlAt.of_owns (hownf.alloc _)
  clear hownf
  have hrlt0 := hrlt
  clear hrlt
  rcases hfull with ⟨e1, e2⟩ | ⟨e1, e2⟩
  · rw [e2] at hrf
    clear e2
    have hpos : 1 ≤ S.1.length := by omega
    rcases hrc with ⟨c1, c2⟩ | ⟨c1, c3, c2⟩ | ⟨c1, c2⟩
    all_goals
      have f1 : (S.1.length : Int) ≤ r := by omega
      have f2 : (r : Int) ≤ S.1.length := by omega
      rw [c2] at f1 f2
      have HE := Lib.hid (And.intro e1 c2)
      clear e1 c2
      go_wp2_with (first
        | (at_builtin; refine wpList_append_any rfl (.tmp 41) (.tmp 42) 28 rfl wf.heap.size 3 i0 (.int .i64 0) 8 Try.underlying28 hi hz0 hz1 hz2 rfl _ 0 [] rfl (World.ownsRow_made wf #[] 0 (Nat.le_refl _) (Nat.zero_le _) rfl) av S.1.length cv (ints S.1) rfl (ints_length _) hsv (fun h => (hvn h).2) (ints_one _) (by unfold maxLen; omega) (by omega) (by simp) ?_; intro v1 w1 ho1 hg1 _)
        | (at_builtin; refine wpList_append_one rfl (.tmp 43) (.tmp 45) 28 rfl wf.heap.size 3 i0 (.int .i64 0) 8 Try.underlying28 hi hz0 hz1 hz2 rfl _ _ _ rfl (ho1.alloc _) w1.heap.size (.int .i64 n) rfl (by simp) rfl (by unfold maxLen; omega) (by omega) (by have := hg1.size; simp at this ⊢; omega) ?_; intro v2 w2 ho2 hg2; obtain ⟨g2, cap2, ev2, hg2b, hle2, hcm2⟩ := owns_some ho2 (by omega); subst ev2))
      have t2 : Touch (fun _ => False) wf w2 := (((Touch.refl _ _).alloc (.cells #[] 3)).grown hg1 (fun k hk h => by cases hk; exact Nat.lt_irrefl _ h)).alloc (.cells #[.int .i64 n] 3) |>.grown hg2 (fun k hk h => by have := (ho1.lt k hk).1; omega)
      have hr2 := hrf.touch t2 (fun h => h) (fun h => h)
      refine (last_any rb sb r _ _ w2 hr2).mono ?_
      rintro e w3 ⟨rfl, ht3⟩
      rw [lastOf_snoc]
      have hne : (!(S.1.drop 1 ++ [n]).isEmpty) = true := by simp
      rw [hne]
      have hr3 := hr2.touch ht3 (fun h => h) (fun h => h)
      clear hr2 hne
      go_wp2_with fail
      refine (all_any rb sb r _ _ w3 hr3).mono ?_
      rintro e w4 ⟨v4, rfl, hown4, hb4⟩
      have hr4 := hr3.touch (Touch.of_below (S := fun _ => False) hb4) (fun h => h) (fun h => h)
      have ho4 := hown4
      obtain ⟨g4, cap4, ev4, hg4b, hle4, hcm4⟩ := owns_some ho4 (by simp)
      subst ev4
      have t4 : Touch (fun _ => False) w2 w4 := ht3.trans (Touch.of_below hb4)
      go_wp2_with fail
      refine (same_len (some ⟨g4, 0, none⟩) (some ⟨g2, 1, none⟩) _ _ cap4 _ (S.1.drop 1 ++ [n]) (S.1.drop 1 ++ [n]) w4 (by simp; try omega) (by simp; try omega) (SlAt.of_owns hown4) ?_ (by simp; omega) (by simp; omega)).mono ?_
      · refine SlAt.touch ?_ t4 (fun _ _ _ h => h)
        have h := (SlAt.of_owns ho2).drop 1
        have e : (List.drop 1 ([] ++ ints S.1 ++ [Value.int .i64 n])) = ints (S.1.drop 1 ++ [n]) := by
          rw [List.nil_append, List.drop_append_of_le_length (by simp; omega), ints_append, ints_drop]; rfl
        rw [e] at h
        exact h
      rintro e w5 ⟨rfl, ht5⟩
      have hd : (decide (S.1.drop 1 ++ [n] = S.1.drop 1 ++ [n])) = true := by simp
      rw [hd]
      have hr5 := hr4.touch ht5 (fun h => h) (fun h => h)
      clear hr4 hr3 hd
      go_wp2_with fail
      refine (lost_any rb sb r _ _ w5 hr5).mono ?_
      rintro e w6 ⟨rfl, rfl⟩
      go_wp2_with fail
      refine (len_any rb sb r _ _ w5 hr5).mono ?_
      rintro e w6 ⟨rfl, rfl⟩
      have hlen5 : ((S.1.drop 1 ++ [n]).length : Int) = ((S.1.length : Nat) : Int) := by simp; try omega
      rw [hlen5]
      clear hlen5
      go_wp2_with fail
      go_ret
      refine ⟨by simp, ?_⟩
      obtain ⟨q1, q2, q3⟩ := HT.out
      have H := HB.out
      have H2 := HBL.out.2
      have T : Touch (fun k => k = rb ∨ k = sb) wb w5 := ((((q1.trans (Touch.of_below q2)).trans q3).trans (t2.mono (fun _ _ h => h.elim))).trans (t4.mono (fun _ _ h => h.elim))).trans (ht5.mono (fun _ _ h => h.elim))
      exact (H.trans (H2.mono H.size)).trans (T.below (Nat.le_trans H.size H2.size) (fun k hk => by have := H.size; omega))
  · rw [e2] at hrf
    clear e2
    rcases hrc with ⟨c1, c2⟩ | ⟨c1, c3, c2⟩ | ⟨c1, c2⟩
    all_goals
      have f1 : (S.1.length : Int) < r := by omega
      rw [c2] at f1
      have HE := Lib.hid (And.intro e1 c2)
      clear e1 c2
      go_wp2_with (first
        | (at_builtin; refine wpList_append_any rfl (.tmp 41) (.tmp 42) 28 rfl wf.heap.size 3 i0 (.int .i64 0) 8 Try.underlying28 hi hz0 hz1 hz2 rfl _ 0 [] rfl (World.ownsRow_made wf #[] 0 (Nat.le_refl _) (Nat.zero_le _) rfl) av S.1.length cv (ints S.1) rfl (ints_length _) hsv (fun h => (hvn h).2) (ints_one _) (by unfold maxLen; omega) (by omega) (by simp) ?_; intro v1 w1 ho1 hg1 _)
        | (at_builtin; refine wpList_append_one rfl (.tmp 43) (.tmp 45) 28 rfl wf.heap.size 3 i0 (.int .i64 0) 8 Try.underlying28 hi hz0 hz1 hz2 rfl _ _ _ rfl (ho1.alloc _) w1.heap.size (.int .i64 n) rfl (by simp) rfl (by unfold maxLen; omega) (by omega) (by have := hg1.size; simp at this ⊢; omega) ?_; intro v2 w2 ho2 hg2; obtain ⟨g2, cap2, ev2, hg2b, hle2, hcm2⟩ := owns_some ho2 (by omega); subst ev2))
      have t2 : Touch (fun _ => False) wf w2 := (((Touch.refl _ _).alloc (.cells #[] 3)).grown hg1 (fun k hk h => by cases hk; exact Nat.lt_irrefl _ h)).alloc (.cells #[.int .i64 n] 3) |>.grown hg2 (fun k hk h => by have := (ho1.lt k hk).1; omega)
      have hr2 := hrf.touch t2 (fun h => h) (fun h => h)
      refine (last_any rb sb r _ _ w2 hr2).mono ?_
      rintro e w3 ⟨rfl, ht3⟩
      rw [lastOf_snoc]
      have hne : (!(S.1 ++ [n]).isEmpty) = true := by simp
      rw [hne]
      have hr3 := hr2.touch ht3 (fun h => h) (fun h => h)
      clear hr2 hne
      go_wp2_with fail
      refine (all_any rb sb r _ _ w3 hr3).mono ?_
      rintro e w4 ⟨v4, rfl, hown4, hb4⟩
      have hr4 := hr3.touch (Touch.of_below (S := fun _ => False) hb4) (fun h => h) (fun h => h)
      have ho4 := hown4
      obtain ⟨g4, cap4, ev4, hg4b, hle4, hcm4⟩ := owns_some ho4 (by simp)
      subst ev4
      have t4 : Touch (fun _ => False) w2 w4 := ht3.trans (Touch.of_below hb4)
      go_wp2_with fail
      refine (same_len (some ⟨g4, 0, none⟩) (some ⟨g2, 0, none⟩) _ _ cap4 _ (S.1 ++ [n]) (S.1 ++ [n]) w4 (by simp; try omega) (by simp; try omega) (SlAt.of_owns hown4) ?_ (by simp; omega) (by simp; omega)).mono ?_
      · refine SlAt.touch ?_ t4 (fun _ _ _ h => h)
        have h := SlAt.of_owns ho2
        have e : ([] ++ ints S.1 ++ [Value.int .i64 n]) = ints (S.1 ++ [n]) := by
          rw [List.nil_append, ints_append]; rfl
        rw [e] at h
        exact h
      rintro e w5 ⟨rfl, ht5⟩
      have hd : (decide (S.1 ++ [n] = S.1 ++ [n])) = true := by simp
      rw [hd]
      have hr5 := hr4.touch ht5 (fun h => h) (fun h => h)
      clear hr4 hr3 hd
      go_wp2_with fail
      refine (lost_any rb sb r _ _ w5 hr5).mono ?_
      rintro e w6 ⟨rfl, rfl⟩
      go_wp2_with fail
      refine (len_any rb sb r _ _ w5 hr5).mono ?_
      rintro e w6 ⟨rfl, rfl⟩
      have hlen5 : ((S.1 ++ [n]).length : Int) = ((S.1.length : Nat) : Int) + 1 := by simp; try omega
      rw [hlen5]
      clear hlen5
      go_wp2_with fail
      go_ret
      refine ⟨by simp, ?_⟩
      obtain ⟨q1, q2, q3⟩ := HT.out
      have H := HB.out
      have H2 := HBL.out.2
      have T : Touch (fun k => k = rb ∨ k = sb) wb w5 := ((((q1.trans (Touch.of_below q2)).trans q3).trans (t2.mono (fun _ _ h => h.elim))).trans (t4.mono (fun _ _ h => h.elim))).trans (ht5.mono (fun _ _ h => h.elim))
      exact (H.trans (H2.mono H.size)).trans (T.below (Nat.le_trans H.size H2.size) (fun k hk => by have := H.size; omega))

/-! ### the row's step, and the row -/
theorem ringStep_own : ownKnob Try.prog.godebug = none := by kernel_rfl
theorem ringStep_laidOut : laidOutB Try.prog = true := by kernel_rfl

set_option linter.unusedVariables false in
set_option maxRecDepth 100000 in
theorem ringStep_lifted (os : Os) (started : os.Started) (H : Type) (enc : TypeId × Value → H) :
    ReturnsInHanded {} Try.checked os 5 .any (Rows.ringStepSpec.pre6 enc Try.prog Try.f5 Rows.ringStepRow.domain false) (Rows.ringStepSpec.post enc Try.prog Try.f5 false true false false) := by
  refine returnsInHanded_of_change (C := Try.checked) ringStep_own started (by kernel_rfl) Try.func5
    (ChangeSpec.witness6 (enc := enc) (C := Try.checked) false ⟨#[], #[.int .i64 0, .slice none 0 0, .int .i64 0], []⟩ 8 (by kernel_rfl) (by kernel_rfl) (by kernel_rfl) (by kernel_rfl)) ?_
  intro W base args ds gs before hval0 hW hcnd _
  have hval : ∀ (j : Nat) t v, Try.f5.params[j]? = some t → args[j]? = some v → Value.okWide Try.prog W .any base t v := hval0
  have hW' := hW
  obtain ⟨p, q, hA0, hV, rfl, hfz, hnd⟩ := hW
  have hA : DataW.TrodAll enc Try.prog W 0 (fun _ => true) true Try.f5.params.toList args.toList ds p := hA0
  rw [Try.params5] at hA hval
  obtain ⟨v0, vs0, d0, ds0, p0, q0, hargs, rfl, rfl, h0, r0⟩ := trodAll_cons hA
  obtain ⟨v1, vs1, d1, ds1, p1, q1, rfl, rfl, rfl, h1, r1⟩ := trodAll_cons r0
  obtain ⟨v2, vs2, d2, ds2, p2, q2, rfl, rfl, rfl, h2, r2⟩ := trodAll_cons r1
  obtain ⟨rfl, rfl, rfl⟩ := trodAll_nil r2
  obtain rfl : args = #[v0, v1, v2] := by cases args; simp_all
  obtain ⟨rfl, rfl⟩ := trodVars_none hV
  obtain ⟨a0, rfl, rfl, rfl, w0⟩ := open_int Try.underlying3 (hval 0 3 v0 rfl rfl) h0
  have k1 := h1
  have lt1 : ∀ x ∈ p1, x.block < W.heap.size := by obtain ⟨m, hm⟩ := k1; exact DataW.trod_lt m _ _ _ hm
  obtain ⟨a1, len1, cap1, rfl⟩ := okWide_slice Try.underlying28 (hval 1 28 v1 rfl rfl)
  obtain ⟨z1, w1⟩ := row_of (k := .i64) Try.underlying28 Try.underlying3 (by kernel_rfl) h1
  obtain ⟨a2, rfl, rfl, rfl, w2⟩ := open_int Try.underlying3 (hval 2 3 v2 rfl rfl) h2
  clear hA0 hval0
  refine (ringStep_walk W a0 w0 a1 len1 cap1 z1 w1 a2 w2).mono fun e W' ⟨he, bel⟩ => ?_
  subst he
  exact ⟨_, rfl, _, _, _, [], _, [], hW', trodAll_mk1 (shut_bool Try.underlying4 _), (trodAll_cons_mk (shut_int Try.underlying3 w0) (trodAll_cons_mk (Below.trod ringStep_laidOut (by kernel_rfl) (of_decide_eq_true (by kernel_rfl)) k1 bel lt1) (trodAll_cons_mk (shut_int Try.underlying3 w2) trodAll_mk0))), rfl, bel.frame _, fun h => by cases h⟩

theorem ringStep_over : Rows.ringStepRow.holds Try.pinned (OpenSpec.ofChange Rows.ringStepSpec) :=
  OpenClaim.holds_of_wide 5 Try.f5 rfl rfl rfl rfl rfl rfl rfl ⟨rfl, rfl, rfl, rfl, rfl⟩ rfl rfl rfl rfl rfl (by kernel_rfl) Try.func5 (by kernel_rfl)
    (of_decide_eq_true (by kernel_rfl)) (by unfold Func.isWrapper; first | (rw [if_pos (by decide +kernel)]; kernel_rfl) | (rw [if_neg (by decide +kernel)]; exact ⟨rfl, rfl⟩))
    (fun os started H enc _ => ringStep_lifted os started H enc)

/-- THE STATEMENT. -/
theorem ringStep_proved : Rows.RingStepSaid := ringStep_over
#print axioms ringStep_proved
end Go.Proofs.Ythhjfoolijiacaa
