/-
  nightjarlaw07.TagOnce: for all keys, packets and tags the law returns true. No conditions: for every input that can be read.
-/
import Derived.Test.YthlkmofemnepbaaRows
import Derived.Test.YthlkmofemnepbaaTSmall
import Derived.Test.YthlkmofemnepbaaPkArg
namespace Go.Proofs.Ythlkmofemnepbaa
open Go.ChangeShapes Go.WideShapes Go.ChangeAt Go.RowKit

set_option maxRecDepth 100000 in
set_option maxHeartbeats 8000000 in
theorem tagOnce_yes (w : World) (key : List Nat) (hk : key.length = 16) (hkr : ∀ y ∈ key, y < 256) (p : Pk) (hp : p.Ok) (t : List Nat) (ht : t.length = 8) (htr : ∀ y ∈ t, y < 256) (hM : MayN p) :
    Calls Try.prog 17 #[.agg (bn key).toArray, .agg (pkV p), .agg (bn t).toArray] w fun e w' => e = .returned (.bool true) ∧ Below w.heap.size w w' := by
  have HQ : Hid (({ p with tag := tagOf key p } : Pk).Ok ∧ signN key p = { p with tag := tagOf key p } ∧ decide (MayN p) = true) := Lib.hid ⟨hp.setTag (tagOf_len key p) (tagOf_lt key p), by unfold signN; rw [if_pos hM], decide_eq_true hM⟩
  obtain ⟨b, hb⟩ : ∃ b, decide (tagOf key p = t) = b := ⟨_, rfl⟩
  have HG : Hid (decide (GoodN key { p with tag := t }) = b) := Lib.hid (by
    rw [← hb]
    by_cases h : tagOf key p = t
    · rw [decide_eq_true h]
      exact decide_eq_true ⟨hM, h⟩
    · rw [decide_eq_false h]
      exact decide_eq_false (fun e => h e.2))
  have HE : Hid (∀ w, (binOp .eql 23 (.agg (bn (tagOf key p)).toArray) (.agg (bn t).toArray)).run Try.prog w = .ok (.bool b) w) := Lib.hid (fun w => run_eql8 w _ _ b hb (tagOf_len key p) ht (tagOf_lt key p) htr)
  clear hb
  have HP := Lib.hid (And.intro hp (And.intro hk (And.intro hkr (And.intro ht htr))))
  clear hp hk hkr hM ht htr
  go_enter Try.func17, Try.ntmps17
  go_wp2_with fail
  (with_reducible refine (tagSmall_any _).mono ?_)
  rintro e wa ⟨rfl, hba⟩
  have HA : Hid (Touch (fun _ => False) w wa ∧ Blk wa w.heap.size 22 (bn key).toArray ∧ Blk wa (w.heap.size + 1) 25 (pkV p) ∧ Blk wa (w.heap.size + 1 + 1) 23 (bn t).toArray) := Lib.hid (by
    have tt : Touch (fun _ => False) (((w.alloc (.cells (bn key).toArray 22)).alloc (.cells (pkV p) 25)).alloc (.cells (bn t).toArray 23)) wa := Touch.of_below hba
    exact ⟨((((Touch.refl (fun _ => False) w).alloc _).alloc _).alloc _).trans tt, (((Blk.new w (bn key).toArray 22).alloc _).alloc _).touch tt (fun h => h), ((blk_new_at (w := w.alloc (.cells (bn key).toArray 22)) (by simp) rfl).alloc _).touch tt (fun h => h), (blk_new_at (w := (w.alloc (.cells (bn key).toArray 22)).alloc (.cells (pkV p) 25)) (by simp) rfl).touch tt (fun h => h)⟩)
  clear hba
  go_wp2_with (first
    | ((with_reducible refine at_op (.load 22 (.tmp 3)) rfl ?_); refine wpList_load_blk rfl 22 (.tmp 3) rfl w.heap.size 22 (bn key).toArray _ rfl (HA.out.2.1) Try.underlying22 rfl (by rw [bn_size, HP.out.2.1]; first | done | kernel_rfl) ?_)
    | ((with_reducible refine at_op (.load 25 (.tmp 4)) rfl ?_); refine wpList_load_blk rfl 25 (.tmp 4) rfl (w.heap.size + 1) 25 (pkV p) _ rfl (HA.out.2.2.1) Try.underlying25 rfl (by rw [pkV_size HP.out.1]; first | done | kernel_rfl) ?_))
  (with_reducible refine (sign_lit _ key p ({ p with tag := tagOf key p }) true rfl HP.out.2.1 HP.out.2.2.1 HP.out.1 HQ.out.2.1 HQ.out.2.2 _).mono ?_)
  rintro e w1 ⟨rfl, hb1⟩
  have H1 : Hid (Touch (fun _ => False) wa w1) := Lib.hid (Touch.of_below hb1)
  clear hb1
  go_wp2_with (first
    | ((with_reducible refine at_op (.store 25 (.tmp 8) (.tmp 15)) rfl ?_); refine wpList_store_blk rfl 25 (.tmp 8) (.tmp 15) rfl w1.heap.size 25 _ (pkV ({ p with tag := tagOf key p })) rfl rfl (Blk.new _ _ _) (by rw [pkV_size HQ.out.1]; first | done | kernel_rfl) (by rw [pkV_size HQ.out.1]; first | done | kernel_rfl) (pkV_one _) ?_; intro w2 hB ht hs; have H2 : Hid (Touch (fun _ => False) wa w2 ∧ Blk w2 w1.heap.size 25 (pkV ({ p with tag := tagOf key p }))) := Lib.hid (⟨H1.out.trans (touch_store ht), hB⟩); clear hB ht hs)
    | ((with_reducible refine at_op (.load 23 (.tmp 5)) rfl ?_); refine wpList_load_blk rfl 23 (.tmp 5) rfl (w.heap.size + 1 + 1) 23 (bn t).toArray _ rfl (HA.out.2.2.2.touch H2.out.1 (fun h => h)) Try.underlying23 rfl (by rw [bn_size, HP.out.2.2.2.1]; first | done | kernel_rfl) ?_)
    | ((with_reducible refine at_op (.store 23 (.tmp 18) (.tmp 17)) rfl ?_); refine wpList_store_tag rfl 23 (.tmp 18) (.tmp 17) rfl (w.heap.size + 1) 25 p t rfl rfl (HA.out.2.2.1.touch H2.out.1 (fun h => h)) HP.out.1 HP.out.2.2.2.1 (by kernel_rfl) ?_; intro w3 hB ht hs; have H3 : Hid (Blk w3 (w.heap.size + 1) 25 (pkV { p with tag := t }) ∧ Blk w3 w.heap.size 22 (bn key).toArray ∧ Blk w3 w1.heap.size 25 (pkV ({ p with tag := tagOf key p })) ∧ Blk w3 (w.heap.size + 1 + 1) 23 (bn t).toArray ∧ Touch (fun _ => False) w w3) := Lib.hid ⟨hB, (HA.out.2.1.touch H2.out.1 (fun h => h)).touch ht (by omega), H2.out.2.touch ht (by have := HA.out.2.2.2.lt; have := H1.out.size; omega), (HA.out.2.2.2.touch H2.out.1 (fun h => h)).touch ht (by omega), Touch.then (HA.out.1.trans H2.out.1) ht (fun i hi e => by omega)⟩; clear hB ht hs)
    | ((with_reducible refine at_op (.load 22 (.tmp 3)) rfl ?_); refine wpList_load_blk_g (by rfl) 22 (.tmp 3) rfl w.heap.size 22 (bn key).toArray _ rfl (H3.out.2.1) Try.underlying22 rfl (by rw [bn_size, HP.out.2.1]; first | done | kernel_rfl) ?_)
    | ((with_reducible refine at_op (.load 25 (.tmp 4)) rfl ?_); refine wpList_load_blk_g (by rfl) 25 (.tmp 4) rfl (w.heap.size + 1) 25 (pkV ({ p with tag := t } : Pk)) _ rfl (H3.out.1) Try.underlying25 rfl (by rw [pkV_size (HP.out.1.setTag HP.out.2.2.2.1 HP.out.2.2.2.2)]; first | done | kernel_rfl) ?_))
  (with_reducible refine (good_lit _ key { p with tag := t } _ rfl HP.out.2.1 HP.out.2.2.1 (HP.out.1.setTag HP.out.2.2.2.1 HP.out.2.2.2.2) HG.out _).mono ?_)
  rintro e w4 ⟨rfl, hb4⟩
  have H4 : Hid (Touch (fun _ => False) w3 w4 ∧ Touch (fun _ => False) w w4) := Lib.hid ⟨Touch.of_below hb4, H3.out.2.2.2.2.trans (Touch.of_below hb4)⟩
  clear hb4
  cases b
  · go_wp2_with (first
      | ((with_reducible refine at_op (.load 23 (.tmp 26)) rfl ?_); refine wpList_val_g (by rfl) _ (run_exec_load_mid _ 23 (.tmp 26) rfl w1.heap.size 28 rfl (bn (tagOf key p)) _ ((H3.out.2.2.1.touch H4.out.1 (fun h => h)).tag HQ.out.1) Try.underlying23 rfl (by rw [bn_len, tagOf_len]; first | done | kernel_rfl)) ?_)
      | ((with_reducible refine at_op (.load 23 (.tmp 5)) rfl ?_); refine wpList_load_blk_g (by rfl) 23 (.tmp 5) rfl (w.heap.size + 1 + 1) 23 (bn t).toArray _ rfl (H3.out.2.2.2.1.touch H4.out.1 (fun h => h)) Try.underlying23 rfl (by rw [bn_size, HP.out.2.2.2.1]; first | done | kernel_rfl) ?_)
      | ((with_reducible refine at_op (.binOp .eql 23 (.tmp 27) (.tmp 28) 23) rfl ?_); refine wpList_eql_g (by rfl) .eql 23 23 (.tmp 27) (.tmp 28) rfl (bn (tagOf key p)).toArray (bn t).toArray rfl rfl (by kernel_rfl) _ (HE.out _) ?_))
    go_ret
    exact ⟨by first | rfl | simp, H4.out.2.below (Nat.le_refl _) (fun _ _ h => h)⟩
  · go_wp2_with (first
      | ((with_reducible refine at_op (.load 23 (.tmp 26)) rfl ?_); refine wpList_val_g (by rfl) _ (run_exec_load_mid _ 23 (.tmp 26) rfl w1.heap.size 28 rfl (bn (tagOf key p)) _ ((H3.out.2.2.1.touch H4.out.1 (fun h => h)).tag HQ.out.1) Try.underlying23 rfl (by rw [bn_len, tagOf_len]; first | done | kernel_rfl)) ?_)
      | ((with_reducible refine at_op (.load 23 (.tmp 5)) rfl ?_); refine wpList_load_blk_g (by rfl) 23 (.tmp 5) rfl (w.heap.size + 1 + 1) 23 (bn t).toArray _ rfl (H3.out.2.2.2.1.touch H4.out.1 (fun h => h)) Try.underlying23 rfl (by rw [bn_size, HP.out.2.2.2.1]; first | done | kernel_rfl) ?_)
      | ((with_reducible refine at_op (.binOp .eql 23 (.tmp 27) (.tmp 28) 23) rfl ?_); refine wpList_eql_g (by rfl) .eql 23 23 (.tmp 27) (.tmp 28) rfl (bn (tagOf key p)).toArray (bn t).toArray rfl rfl (by kernel_rfl) _ (HE.out _) ?_))
    go_ret
    exact ⟨by first | rfl | simp, H4.out.2.below (Nat.le_refl _) (fun _ _ h => h)⟩

set_option maxRecDepth 100000 in
set_option maxHeartbeats 8000000 in
theorem tagOnce_no (w : World) (key : List Nat) (hk : key.length = 16) (hkr : ∀ y ∈ key, y < 256) (p : Pk) (hp : p.Ok) (t : List Nat) (ht : t.length = 8) (htr : ∀ y ∈ t, y < 256) (hM : ¬ MayN p) :
    Calls Try.prog 17 #[.agg (bn key).toArray, .agg (pkV p), .agg (bn t).toArray] w fun e w' => e = .returned (.bool true) ∧ Below w.heap.size w w' := by
  have HQ : Hid ((Pk.zero : Pk).Ok ∧ signN key p = Pk.zero ∧ decide (MayN p) = false) := Lib.hid ⟨zero_ok, by unfold signN; rw [if_neg hM], decide_eq_false hM⟩
  have HG : Hid (decide (GoodN key { p with tag := t }) = false) := Lib.hid (decide_eq_false (fun e => hM e.1))
  have HP := Lib.hid (And.intro hp (And.intro hk (And.intro hkr (And.intro ht htr))))
  clear hp hk hkr hM ht htr
  go_enter Try.func17, Try.ntmps17
  go_wp2_with fail
  (with_reducible refine (tagSmall_any _).mono ?_)
  rintro e wa ⟨rfl, hba⟩
  have HA : Hid (Touch (fun _ => False) w wa ∧ Blk wa w.heap.size 22 (bn key).toArray ∧ Blk wa (w.heap.size + 1) 25 (pkV p) ∧ Blk wa (w.heap.size + 1 + 1) 23 (bn t).toArray) := Lib.hid (by
    have tt : Touch (fun _ => False) (((w.alloc (.cells (bn key).toArray 22)).alloc (.cells (pkV p) 25)).alloc (.cells (bn t).toArray 23)) wa := Touch.of_below hba
    exact ⟨((((Touch.refl (fun _ => False) w).alloc _).alloc _).alloc _).trans tt, (((Blk.new w (bn key).toArray 22).alloc _).alloc _).touch tt (fun h => h), ((blk_new_at (w := w.alloc (.cells (bn key).toArray 22)) (by simp) rfl).alloc _).touch tt (fun h => h), (blk_new_at (w := (w.alloc (.cells (bn key).toArray 22)).alloc (.cells (pkV p) 25)) (by simp) rfl).touch tt (fun h => h)⟩)
  clear hba
  go_wp2_with (first
    | ((with_reducible refine at_op (.load 22 (.tmp 3)) rfl ?_); refine wpList_load_blk rfl 22 (.tmp 3) rfl w.heap.size 22 (bn key).toArray _ rfl (HA.out.2.1) Try.underlying22 rfl (by rw [bn_size, HP.out.2.1]; first | done | kernel_rfl) ?_)
    | ((with_reducible refine at_op (.load 25 (.tmp 4)) rfl ?_); refine wpList_load_blk rfl 25 (.tmp 4) rfl (w.heap.size + 1) 25 (pkV p) _ rfl (HA.out.2.2.1) Try.underlying25 rfl (by rw [pkV_size HP.out.1]; first | done | kernel_rfl) ?_))
  (with_reducible refine (sign_lit _ key p (Pk.zero) false rfl HP.out.2.1 HP.out.2.2.1 HP.out.1 HQ.out.2.1 HQ.out.2.2 _).mono ?_)
  rintro e w1 ⟨rfl, hb1⟩
  have H1 : Hid (Touch (fun _ => False) wa w1) := Lib.hid (Touch.of_below hb1)
  clear hb1
  go_wp2_with (first
    | ((with_reducible refine at_op (.store 25 (.tmp 8) (.tmp 15)) rfl ?_); refine wpList_store_blk rfl 25 (.tmp 8) (.tmp 15) rfl w1.heap.size 25 _ (pkV (Pk.zero)) rfl rfl (Blk.new _ _ _) (by rw [pkV_size HQ.out.1]; first | done | kernel_rfl) (by rw [pkV_size HQ.out.1]; first | done | kernel_rfl) (pkV_one _) ?_; intro w2 hB ht hs; have H2 : Hid (Touch (fun _ => False) wa w2 ∧ Blk w2 w1.heap.size 25 (pkV (Pk.zero))) := Lib.hid (⟨H1.out.trans (touch_store ht), hB⟩); clear hB ht hs)
    | ((with_reducible refine at_op (.load 23 (.tmp 5)) rfl ?_); refine wpList_load_blk rfl 23 (.tmp 5) rfl (w.heap.size + 1 + 1) 23 (bn t).toArray _ rfl (HA.out.2.2.2.touch H2.out.1 (fun h => h)) Try.underlying23 rfl (by rw [bn_size, HP.out.2.2.2.1]; first | done | kernel_rfl) ?_)
    | ((with_reducible refine at_op (.store 23 (.tmp 18) (.tmp 17)) rfl ?_); refine wpList_store_tag rfl 23 (.tmp 18) (.tmp 17) rfl (w.heap.size + 1) 25 p t rfl rfl (HA.out.2.2.1.touch H2.out.1 (fun h => h)) HP.out.1 HP.out.2.2.2.1 (by kernel_rfl) ?_; intro w3 hB ht hs; have H3 : Hid (Blk w3 (w.heap.size + 1) 25 (pkV { p with tag := t }) ∧ Blk w3 w.heap.size 22 (bn key).toArray ∧ Blk w3 w1.heap.size 25 (pkV (Pk.zero)) ∧ Blk w3 (w.heap.size + 1 + 1) 23 (bn t).toArray ∧ Touch (fun _ => False) w w3) := Lib.hid ⟨hB, (HA.out.2.1.touch H2.out.1 (fun h => h)).touch ht (by omega), H2.out.2.touch ht (by have := HA.out.2.2.2.lt; have := H1.out.size; omega), (HA.out.2.2.2.touch H2.out.1 (fun h => h)).touch ht (by omega), Touch.then (HA.out.1.trans H2.out.1) ht (fun i hi e => by omega)⟩; clear hB ht hs)
    | ((with_reducible refine at_op (.load 22 (.tmp 3)) rfl ?_); refine wpList_load_blk_g (by rfl) 22 (.tmp 3) rfl w.heap.size 22 (bn key).toArray _ rfl (H3.out.2.1) Try.underlying22 rfl (by rw [bn_size, HP.out.2.1]; first | done | kernel_rfl) ?_)
    | ((with_reducible refine at_op (.load 25 (.tmp 4)) rfl ?_); refine wpList_load_blk_g (by rfl) 25 (.tmp 4) rfl (w.heap.size + 1) 25 (pkV ({ p with tag := t } : Pk)) _ rfl (H3.out.1) Try.underlying25 rfl (by rw [pkV_size (HP.out.1.setTag HP.out.2.2.2.1 HP.out.2.2.2.2)]; first | done | kernel_rfl) ?_))
  (with_reducible refine (good_lit _ key { p with tag := t } _ rfl HP.out.2.1 HP.out.2.2.1 (HP.out.1.setTag HP.out.2.2.2.1 HP.out.2.2.2.2) HG.out _).mono ?_)
  rintro e w4 ⟨rfl, hb4⟩
  have H4 : Hid (Touch (fun _ => False) w3 w4 ∧ Touch (fun _ => False) w w4) := Lib.hid ⟨Touch.of_below hb4, H3.out.2.2.2.2.trans (Touch.of_below hb4)⟩
  clear hb4
  go_wp2_with fail
  go_ret
  exact ⟨by first | rfl | simp, H4.out.2.below (Nat.le_refl _) (fun _ _ h => h)⟩

theorem tagOnce_walk (w : World) (key : List Nat) (hk : key.length = 16) (hkr : ∀ y ∈ key, y < 256) (p : Pk) (hp : p.Ok) (t : List Nat) (ht : t.length = 8) (htr : ∀ y ∈ t, y < 256) :
    Calls Try.prog 17 #[.agg (bn key).toArray, .agg (pkV p), .agg (bn t).toArray] w fun e w' => e = .returned (.bool true) ∧ Below w.heap.size w w' := by
  by_cases hM : MayN p
  · exact tagOnce_yes w key hk hkr p hp t ht htr hM
  · exact tagOnce_no w key hk hkr p hp t ht htr hM

/-! ### the row's step, and the row -/
theorem tagOnce_own : ownKnob Try.prog.godebug = none := by kernel_rfl
theorem tagOnce_laidOut : laidOutB Try.prog = true := by kernel_rfl

set_option linter.unusedVariables false in
set_option maxRecDepth 100000 in
theorem tagOnce_lifted (os : Os) (started : os.Started) (H : Type) (enc : TypeId × Value → H) :
    ReturnsInHanded {} Try.checked os 17 .any (Rows.tagOnceSpec.pre6 enc Try.prog Try.f17 Rows.tagOnceRow.domain false) (Rows.tagOnceSpec.post enc Try.prog Try.f17 false true false false) := by
  refine returnsInHanded_of_change (C := Try.checked) tagOnce_own started (by kernel_rfl) Try.func17
    (ChangeSpec.witness6 (enc := enc) (C := Try.checked) false ⟨#[], #[.agg #[.int .u8 0, .int .u8 0, .int .u8 0, .int .u8 0, .int .u8 0, .int .u8 0, .int .u8 0, .int .u8 0, .int .u8 0, .int .u8 0, .int .u8 0, .int .u8 0, .int .u8 0, .int .u8 0, .int .u8 0, .int .u8 0], .agg #[.int .i64 0, .int .i64 0, .int .i64 0, .int .i64 0, .int .i64 0, .int .i64 0, .int .i64 0, .int .i64 0, .int .i64 0, .int .i64 0, .int .i64 0, .int .i64 0, .int .u8 0, .int .u8 0, .int .u8 0, .int .u8 0, .int .u8 0, .int .u8 0, .int .u8 0, .int .u8 0, .int .u8 0, .int .u8 0, .int .u8 0, .int .u8 0, .int .u8 0, .int .u8 0, .int .u8 0, .int .u8 0, .int .u8 0, .int .u8 0, .int .u8 0, .int .u8 0, .int .u8 0, .int .u8 0, .int .u8 0, .int .u8 0], .agg #[.int .u8 0, .int .u8 0, .int .u8 0, .int .u8 0, .int .u8 0, .int .u8 0, .int .u8 0, .int .u8 0]], []⟩ 8 (by kernel_rfl) (by kernel_rfl) (by kernel_rfl) (by kernel_rfl)) ?_
  intro W base args ds gs before hval0 hW hcnd _
  have hval : ∀ (j : Nat) t v, Try.f17.params[j]? = some t → args[j]? = some v → Value.okWide Try.prog W .any base t v := hval0
  have hW' := hW
  obtain ⟨p, q, hA0, hV, rfl, hfz, hnd⟩ := hW
  have hA : DataW.TrodAll enc Try.prog W 0 (fun _ => true) true Try.f17.params.toList args.toList ds p := hA0
  rw [Try.params17] at hA hval
  obtain ⟨v0, vs0, d0, ds0, p0, q0, hargs, rfl, rfl, h0, r0⟩ := trodAll_cons hA
  obtain ⟨v1, vs1, d1, ds1, p1, q1, rfl, rfl, rfl, h1, r1⟩ := trodAll_cons r0
  obtain ⟨v2, vs2, d2, ds2, p2, q2, rfl, rfl, rfl, h2, r2⟩ := trodAll_cons r1
  obtain ⟨rfl, rfl, rfl⟩ := trodAll_nil r2
  obtain rfl : args = #[v0, v1, v2] := by cases args; simp_all
  obtain ⟨rfl, rfl⟩ := trodVars_none hV
  have k0 := h0
  have lt0 : ∀ x ∈ p0, x.block < W.heap.size := by obtain ⟨m, hm⟩ := k0; exact DataW.trod_lt m _ _ _ hm
  have o0 := hval 0 22 v0 rfl rfl
  obtain ⟨a0, len0, lt80, rfl⟩ := array_of Try.underlying22 Try.underlying5 (by kernel_rfl) (by kernel_rfl) o0 h0
  have k1 := h1
  have lt1 : ∀ x ∈ p1, x.block < W.heap.size := by obtain ⟨m, hm⟩ := k1; exact DataW.trod_lt m _ _ _ hm
  have o1 := hval 1 25 v1 rfl rfl
  obtain ⟨a1, ok1, rfl⟩ := pk_of o1 h1
  have k2 := h2
  have lt2 : ∀ x ∈ p2, x.block < W.heap.size := by obtain ⟨m, hm⟩ := k2; exact DataW.trod_lt m _ _ _ hm
  have o2 := hval 2 23 v2 rfl rfl
  obtain ⟨a2, len2, lt82, rfl⟩ := array_of Try.underlying23 Try.underlying5 (by kernel_rfl) (by kernel_rfl) o2 h2
  clear hA0 hval0
  refine (tagOnce_walk W a0 len0 lt80 a1 ok1 a2 len2 lt82).mono fun e W' ⟨he, bel⟩ => ?_
  subst he
  exact ⟨_, rfl, _, _, _, [], _, [], hW', trodAll_mk1 (shut_bool Try.underlying4 _), (trodAll_cons_mk (Below.trod tagOnce_laidOut (by kernel_rfl) (of_decide_eq_true (by kernel_rfl)) k0 bel lt0) (trodAll_cons_mk (Below.trod tagOnce_laidOut (by kernel_rfl) (of_decide_eq_true (by kernel_rfl)) k1 bel lt1) (trodAll_cons_mk (Below.trod tagOnce_laidOut (by kernel_rfl) (of_decide_eq_true (by kernel_rfl)) k2 bel lt2) trodAll_mk0))), rfl, bel.frame _, fun h => by cases h⟩

theorem tagOnce_over : Rows.tagOnceRow.holds Try.pinned (OpenSpec.ofChange Rows.tagOnceSpec) :=
  OpenClaim.holds_of_wide 17 Try.f17 rfl rfl rfl rfl rfl rfl rfl ⟨rfl, rfl, rfl, rfl, rfl⟩ rfl rfl rfl rfl rfl (by kernel_rfl) Try.func17 (by kernel_rfl)
    (of_decide_eq_true (by kernel_rfl)) (by unfold Func.isWrapper; first | (rw [if_pos (by decide +kernel)]; kernel_rfl) | (rw [if_neg (by decide +kernel)]; exact ⟨rfl, rfl⟩))
    (fun os started H enc _ => tagOnce_lifted os started H enc)

/-- THE STATEMENT. -/
theorem tagOnce_proved : Rows.TagOnceSaid := tagOnce_over
#print axioms tagOnce_proved
end Go.Proofs.Ythlkmofemnepbaa
