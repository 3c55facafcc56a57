/-
  nightjarlaw07.TagMay: for all keys, packets and tags the law returns true. No conditions: for every input that can be read.
-/
import Derived.Test.YthlkmofemnepbaaRows
import Derived.Test.YthlkmofemnepbaaTSmall
import Derived.Test.YthlkmofemnepbaaPkArg
namespace Go.Proofs.Ythlkmofemnepbaa
open Go.ChangeShapes Go.WideShapes Go.ChangeAt Go.RowKit

set_option maxRecDepth 100000 in
set_option maxHeartbeats 8000000 in
theorem tagMay_yes (w : World) (key : List Nat) (hk : key.length = 16) (hkr : ∀ y ∈ key, y < 256) (p : Pk) (hp : p.Ok) (t : List Nat) (ht : t.length = 8) (htr : ∀ y ∈ t, y < 256) (hT : taggedN p.kind = true) (hR : RightN (bare0 p)) :
    Calls Try.prog 18 #[.agg (bn key).toArray, .agg (pkV p), .agg (bn t).toArray] w fun e w' => e = .returned (.bool true) ∧ Below w.heap.size w w' := by
  have hM : MayN p := ⟨hT, hR⟩
  have HQ : Hid (({ p with tag := tagOf key p } : Pk).Ok ∧ signN key p = { p with tag := tagOf key p } ∧ decide (MayN p) = true ∧ signN key { p with tag := t } = { p with tag := tagOf key p } ∧ decide (MayN { p with tag := t }) = true) := Lib.hid ⟨hp.setTag (tagOf_len key p) (tagOf_lt key p), by unfold signN; rw [if_pos hM], decide_eq_true hM, by unfold signN; rw [if_pos (show MayN { p with tag := t } from hM)]; rfl, decide_eq_true (show MayN { p with tag := t } from hM)⟩
  obtain ⟨k, hk0⟩ : ∃ k, k = p.kind := ⟨_, rfl⟩
  have HKD : Hid (k = p.n.getD 0 0 ∧ taggedN k = true) := Lib.hid ⟨hk0, by rw [hk0]; exact hT⟩
  have HRD : Hid (decide (RightN (bare0 p)) = true) := Lib.hid (decide_eq_true hR)
  have HEQ : Hid (∀ w, (binOp .eql 25 (.agg (pkV ({ p with tag := tagOf key p }))) (.agg (pkV ({ p with tag := tagOf key p })))).run Try.prog w = .ok (.bool true) w) := Lib.hid (fun w => run_eql_pk w _ _ HQ.out.1 HQ.out.1 true (by simp))
  have HP := Lib.hid (And.intro hp (And.intro hk (And.intro hkr (And.intro ht htr))))
  clear hp hk hkr hM ht htr hk0 hT hR
  go_enter Try.func18, Try.ntmps18
  go_wp2_with fail
  (with_reducible refine (tagSmall_any _).mono ?_)
  rintro e wa ⟨rfl, hba⟩
  have HA : Hid (Touch (fun _ => False) w wa ∧ Blk wa w.heap.size 22 (bn key).toArray ∧ Blk wa (w.heap.size + 1) 25 (pkV p) ∧ Blk wa (w.heap.size + 1 + 1) 23 (bn t).toArray) := Lib.hid (by
    have tt : Touch (fun _ => False) (((w.alloc (.cells (bn key).toArray 22)).alloc (.cells (pkV p) 25)).alloc (.cells (bn t).toArray 23)) wa := Touch.of_below hba
    exact ⟨((((Touch.refl (fun _ => False) w).alloc _).alloc _).alloc _).trans tt, (((Blk.new w (bn key).toArray 22).alloc _).alloc _).touch tt (fun h => h), ((blk_new_at (w := w.alloc (.cells (bn key).toArray 22)) (by simp) rfl).alloc _).touch tt (fun h => h), (blk_new_at (w := (w.alloc (.cells (bn key).toArray 22)).alloc (.cells (pkV p) 25)) (by simp) rfl).touch tt (fun h => h)⟩)
  clear hba
  go_wp2_with (first
    | ((with_reducible refine at_op (.load 22 (.tmp 3)) rfl ?_); refine wpList_load_blk rfl 22 (.tmp 3) rfl w.heap.size 22 (bn key).toArray _ rfl (HA.out.2.1) Try.underlying22 rfl (by rw [bn_size, HP.out.2.1]; first | done | kernel_rfl) ?_)
    | ((with_reducible refine at_op (.load 25 (.tmp 4)) rfl ?_); refine wpList_load_blk rfl 25 (.tmp 4) rfl (w.heap.size + 1) 25 (pkV p) _ rfl (HA.out.2.2.1) Try.underlying25 rfl (by rw [pkV_size HP.out.1]; first | done | kernel_rfl) ?_))
  (with_reducible refine (sign_lit _ key p ({ p with tag := tagOf key p }) true rfl HP.out.2.1 HP.out.2.2.1 HP.out.1 HQ.out.2.1 HQ.out.2.2.1 _).mono ?_)
  rintro e w1 ⟨rfl, hb1⟩
  have H1 : Hid (Touch (fun _ => False) wa w1) := Lib.hid (Touch.of_below hb1)
  clear hb1
  go_wp2_with (first
    | ((with_reducible refine at_op (.store 25 (.tmp 8) (.tmp 19)) rfl ?_); refine wpList_store_blk rfl 25 (.tmp 8) (.tmp 19) rfl w1.heap.size 25 _ (pkV ({ p with tag := tagOf key p })) rfl rfl (Blk.new _ _ _) (by rw [pkV_size HQ.out.1]; first | done | kernel_rfl) (by rw [pkV_size HQ.out.1]; first | done | kernel_rfl) (pkV_one _) ?_; intro w2 hB ht hs; have H2 : Hid (Touch (fun _ => False) wa w2 ∧ Blk w2 w1.heap.size 25 (pkV ({ p with tag := tagOf key p }))) := Lib.hid (⟨H1.out.trans (touch_store ht), hB⟩); clear hB ht hs)
    | ((with_reducible refine at_op (.store 25 (.tmp 10) (.tmp 21)) rfl ?_); refine wpList_store_blk rfl 25 (.tmp 10) (.tmp 21) rfl w2.heap.size 25 _ (pkV p) rfl rfl (Blk.new _ _ _) (by rw [pkV_size HP.out.1]; first | done | kernel_rfl) (by rw [pkV_size HP.out.1]; first | done | kernel_rfl) (pkV_one _) ?_; intro w3 hB ht hs; have H3 : Hid (Touch (fun _ => False) wa w3 ∧ Blk w3 w1.heap.size 25 (pkV ({ p with tag := tagOf key p })) ∧ Blk w3 w2.heap.size 25 (pkV p)) := Lib.hid ⟨H2.out.1.trans (touch_store ht), H2.out.2.touch (touch_store ht) (fun h => h), hB⟩; clear hB ht hs)
    | ((with_reducible refine at_op (.store 23 (.tmp 23) (.tmp 22)) rfl ?_); refine wpList_store_tag rfl 23 (.tmp 23) (.tmp 22) rfl w2.heap.size 25 p (List.replicate 8 0) rfl rfl H3.out.2.2 HP.out.1 rfl (by kernel_rfl) ?_; intro w4 hB ht hs; have H4 : Hid (Touch (fun _ => False) wa w4 ∧ Blk w4 w1.heap.size 25 (pkV ({ p with tag := tagOf key p })) ∧ Blk w4 w2.heap.size 25 (pkV (bare0 p))) := Lib.hid ⟨Touch.then H3.out.1 ht (fun i hi e => by have := H2.out.1.size; omega), H3.out.2.1.touch ht (by have := H2.out.2.lt; omega), hB⟩; clear hB ht hs)
    | ((with_reducible refine at_op (.store 25 (.tmp 11) (.tmp 24)) rfl ?_); refine wpList_store_blk rfl 25 (.tmp 11) (.tmp 24) rfl w4.heap.size 25 _ (pkV p) rfl rfl (Blk.new _ _ _) (by rw [pkV_size HP.out.1]; first | done | kernel_rfl) (by rw [pkV_size HP.out.1]; first | done | kernel_rfl) (pkV_one _) ?_; intro w5 hB ht hs; have H5 : Hid (Touch (fun _ => False) w4 w5 ∧ Blk w5 w4.heap.size 25 (pkV p)) := Lib.hid ⟨touch_store ht, hB⟩; clear hB ht hs)
    | ((with_reducible refine at_op (.load 23 (.tmp 5)) rfl ?_); refine wpList_load_blk rfl 23 (.tmp 5) rfl (w.heap.size + 1 + 1) 23 (bn t).toArray _ rfl (HA.out.2.2.2.touch (H4.out.1.trans H5.out.1) (fun h => h)) Try.underlying23 rfl (by rw [bn_size, HP.out.2.2.2.1]; first | done | kernel_rfl) ?_)
    | ((with_reducible refine at_op (.store 23 (.tmp 26) (.tmp 25)) rfl ?_); refine wpList_store_tag rfl 23 (.tmp 26) (.tmp 25) rfl w4.heap.size 25 p t rfl rfl H5.out.2 HP.out.1 HP.out.2.2.2.1 (by kernel_rfl) ?_; intro w6 hB ht hs; have H6 : Hid (Touch (fun _ => False) w4 w6 ∧ Blk w6 w4.heap.size 25 (pkV { p with tag := t })) := Lib.hid ⟨Touch.then H5.out.1 ht (fun i hi e => by omega), hB⟩; clear hB ht hs)
    | ((with_reducible refine at_op (.load 22 (.tmp 3)) rfl ?_); refine wpList_load_blk rfl 22 (.tmp 3) rfl w.heap.size 22 (bn key).toArray _ rfl (HA.out.2.1.touch (H4.out.1.trans H6.out.1) (fun h => h)) Try.underlying22 rfl (by rw [bn_size, HP.out.2.1]; first | done | kernel_rfl) ?_)
    | ((with_reducible refine at_op (.load 25 (.tmp 11)) rfl ?_); refine wpList_load_blk rfl 25 (.tmp 11) rfl w4.heap.size 25 (pkV ({ p with tag := t } : Pk)) _ rfl (H6.out.2) Try.underlying25 rfl (by rw [pkV_size (HP.out.1.setTag HP.out.2.2.2.1 HP.out.2.2.2.2)]; first | done | kernel_rfl) ?_)
    | ((with_reducible refine at_op (.load 25 (.tmp 4)) rfl ?_); first | (refine wpList_load_blk rfl 25 (.tmp 4) rfl (w.heap.size + 1) 25 (pkV p) _ rfl (HA.out.2.2.1.touch H4.out.1 (fun h => h)) Try.underlying25 rfl (by rw [pkV_size HP.out.1]; first | done | kernel_rfl) ?_) | (refine wpList_load_blk rfl 25 (.tmp 4) rfl (w.heap.size + 1) 25 (pkV p) _ rfl (HA.out.2.2.1.touch H2.out.1 (fun h => h)) Try.underlying25 rfl (by rw [pkV_size HP.out.1]; first | done | kernel_rfl) ?_)))
  (with_reducible refine (sign_lit _ key { p with tag := t } ({ p with tag := tagOf key p }) true rfl HP.out.2.1 HP.out.2.2.1 (HP.out.1.setTag HP.out.2.2.2.1 HP.out.2.2.2.2) HQ.out.2.2.2.1 HQ.out.2.2.2.2 _).mono ?_)
  rintro e w7 ⟨rfl, hb7⟩
  have H7 : Hid (Touch (fun _ => False) w4 w7) := Lib.hid (H6.out.1.trans (Touch.of_below hb7))
  clear hb7
  go_wp2_with ((with_reducible refine at_op (.store 25 (.tmp 12) (.tmp 31)) rfl ?_); refine wpList_store_blk rfl 25 (.tmp 12) (.tmp 31) rfl w7.heap.size 25 _ (pkV ({ p with tag := tagOf key p })) rfl rfl (Blk.new _ _ _) (by rw [pkV_size HQ.out.1]; first | done | kernel_rfl) (by rw [pkV_size HQ.out.1]; first | done | kernel_rfl) (pkV_one _) ?_; intro w8 hB ht hs; have H8 : Hid (Touch (fun _ => False) w4 w8 ∧ Blk w8 w7.heap.size 25 (pkV ({ p with tag := tagOf key p }))) := Lib.hid (⟨H7.out.trans (touch_store ht), hB⟩); clear hB ht hs; have d0 : w8.cell? ⟨w.heap.size + 1, 0, none⟩ = some (.int .i64 k) := (by rw [HKD.out.1]; exact (HA.out.2.2.1.touch (H4.out.1.trans H8.out.1) (fun h => h)).num HP.out.1 0 (by decide)))
  (with_reducible refine (tagged_any k _).mono ?_)
  rintro e _ ⟨rfl, rfl⟩
  rw [HKD.out.2]
  clear d0
  go_wp2_with ((with_reducible refine at_op (.load 25 (.tmp 10)) rfl ?_); refine wpList_load_blk_g (by rfl) 25 (.tmp 10) rfl w2.heap.size 25 (pkV (bare0 p)) _ rfl (H4.out.2.2.touch H8.out.1 (fun h => h)) Try.underlying25 rfl (by rw [pkV_size (bare0_ok HP.out.1)]; first | done | kernel_rfl) ?_)
  (with_reducible refine (right_lit _ (bare0 p) true rfl (bare0_ok HP.out.1) HRD.out _).mono ?_)
  rintro e w9 ⟨rfl, hb9⟩
  have H9 : Hid (Touch (fun _ => False) w8 w9) := Lib.hid (Touch.of_below hb9)
  clear hb9
  go_wp2_with (first
    | ((with_reducible refine at_op (.load 25 (.tmp 12)) rfl ?_); refine wpList_load_blk_g (by rfl) 25 (.tmp 12) rfl w7.heap.size 25 (pkV ({ p with tag := tagOf key p })) _ rfl (H8.out.2.touch H9.out (fun h => h)) Try.underlying25 rfl (by rw [pkV_size HQ.out.1]; first | done | kernel_rfl) ?_)
    | ((with_reducible refine at_op (.load 25 (.tmp 8)) rfl ?_); refine wpList_load_blk_g (by rfl) 25 (.tmp 8) rfl w1.heap.size 25 (pkV ({ p with tag := tagOf key p })) _ rfl ((H4.out.2.1.touch H8.out.1 (fun h => h)).touch H9.out (fun h => h)) Try.underlying25 rfl (by rw [pkV_size HQ.out.1]; first | done | kernel_rfl) ?_)
    | ((with_reducible refine at_op (.binOp .eql 25 (.tmp 51) (.tmp 52) 25) rfl ?_); refine wpList_eql_g (by rfl) .eql 25 25 (.tmp 51) (.tmp 52) rfl (pkV ({ p with tag := tagOf key p })) (pkV ({ p with tag := tagOf key p })) rfl rfl (by kernel_rfl) _ (HEQ.out _) ?_))
  go_ret
  exact ⟨by first | rfl | simp, (HA.out.1.trans (H4.out.1.trans (H8.out.1.trans H9.out))).below (Nat.le_refl _) (fun _ _ h => h)⟩

set_option maxRecDepth 100000 in
set_option maxHeartbeats 8000000 in
theorem tagMay_not (w : World) (key : List Nat) (hk : key.length = 16) (hkr : ∀ y ∈ key, y < 256) (p : Pk) (hp : p.Ok) (t : List Nat) (ht : t.length = 8) (htr : ∀ y ∈ t, y < 256) (hT : taggedN p.kind = false) :
    Calls Try.prog 18 #[.agg (bn key).toArray, .agg (pkV p), .agg (bn t).toArray] w fun e w' => e = .returned (.bool true) ∧ Below w.heap.size w w' := by
  have hM : ¬ MayN p := fun h => by have := h.1; rw [hT] at this; cases this
  have HQ : Hid ((Pk.zero : Pk).Ok ∧ signN key p = Pk.zero ∧ decide (MayN p) = false ∧ signN key { p with tag := t } = Pk.zero ∧ decide (MayN { p with tag := t }) = false) := Lib.hid ⟨zero_ok, by unfold signN; rw [if_neg hM], decide_eq_false hM, by unfold signN; rw [if_neg (show ¬ MayN { p with tag := t } from hM)], decide_eq_false (show ¬ MayN { p with tag := t } from hM)⟩
  obtain ⟨k, hk0⟩ : ∃ k, k = p.kind := ⟨_, rfl⟩
  have HKD : Hid (k = p.n.getD 0 0 ∧ taggedN k = false) := Lib.hid ⟨hk0, by rw [hk0]; exact hT⟩
  have HEQ : Hid (∀ w, (binOp .eql 25 (.agg (pkV (Pk.zero))) (.agg (pkV (Pk.zero)))).run Try.prog w = .ok (.bool true) w) := Lib.hid (fun w => run_eql_pk w _ _ HQ.out.1 HQ.out.1 true (by simp))
  have HP := Lib.hid (And.intro hp (And.intro hk (And.intro hkr (And.intro ht htr))))
  clear hp hk hkr hM ht htr hk0 hT
  go_enter Try.func18, Try.ntmps18
  go_wp2_with fail
  (with_reducible refine (tagSmall_any _).mono ?_)
  rintro e wa ⟨rfl, hba⟩
  have HA : Hid (Touch (fun _ => False) w wa ∧ Blk wa w.heap.size 22 (bn key).toArray ∧ Blk wa (w.heap.size + 1) 25 (pkV p) ∧ Blk wa (w.heap.size + 1 + 1) 23 (bn t).toArray) := Lib.hid (by
    have tt : Touch (fun _ => False) (((w.alloc (.cells (bn key).toArray 22)).alloc (.cells (pkV p) 25)).alloc (.cells (bn t).toArray 23)) wa := Touch.of_below hba
    exact ⟨((((Touch.refl (fun _ => False) w).alloc _).alloc _).alloc _).trans tt, (((Blk.new w (bn key).toArray 22).alloc _).alloc _).touch tt (fun h => h), ((blk_new_at (w := w.alloc (.cells (bn key).toArray 22)) (by simp) rfl).alloc _).touch tt (fun h => h), (blk_new_at (w := (w.alloc (.cells (bn key).toArray 22)).alloc (.cells (pkV p) 25)) (by simp) rfl).touch tt (fun h => h)⟩)
  clear hba
  go_wp2_with (first
    | ((with_reducible refine at_op (.load 22 (.tmp 3)) rfl ?_); refine wpList_load_blk rfl 22 (.tmp 3) rfl w.heap.size 22 (bn key).toArray _ rfl (HA.out.2.1) Try.underlying22 rfl (by rw [bn_size, HP.out.2.1]; first | done | kernel_rfl) ?_)
    | ((with_reducible refine at_op (.load 25 (.tmp 4)) rfl ?_); refine wpList_load_blk rfl 25 (.tmp 4) rfl (w.heap.size + 1) 25 (pkV p) _ rfl (HA.out.2.2.1) Try.underlying25 rfl (by rw [pkV_size HP.out.1]; first | done | kernel_rfl) ?_))
  (with_reducible refine (sign_lit _ key p (Pk.zero) false rfl HP.out.2.1 HP.out.2.2.1 HP.out.1 HQ.out.2.1 HQ.out.2.2.1 _).mono ?_)
  rintro e w1 ⟨rfl, hb1⟩
  have H1 : Hid (Touch (fun _ => False) wa w1) := Lib.hid (Touch.of_below hb1)
  clear hb1
  go_wp2_with (first
    | ((with_reducible refine at_op (.store 25 (.tmp 8) (.tmp 19)) rfl ?_); refine wpList_store_blk rfl 25 (.tmp 8) (.tmp 19) rfl w1.heap.size 25 _ (pkV (Pk.zero)) rfl rfl (Blk.new _ _ _) (by rw [pkV_size HQ.out.1]; first | done | kernel_rfl) (by rw [pkV_size HQ.out.1]; first | done | kernel_rfl) (pkV_one _) ?_; intro w2 hB ht hs; have H2 : Hid (Touch (fun _ => False) wa w2 ∧ Blk w2 w1.heap.size 25 (pkV (Pk.zero))) := Lib.hid (⟨H1.out.trans (touch_store ht), hB⟩); clear hB ht hs)
    | ((with_reducible refine at_op (.store 25 (.tmp 10) (.tmp 21)) rfl ?_); refine wpList_store_blk rfl 25 (.tmp 10) (.tmp 21) rfl w2.heap.size 25 _ (pkV p) rfl rfl (Blk.new _ _ _) (by rw [pkV_size HP.out.1]; first | done | kernel_rfl) (by rw [pkV_size HP.out.1]; first | done | kernel_rfl) (pkV_one _) ?_; intro w3 hB ht hs; have H3 : Hid (Touch (fun _ => False) wa w3 ∧ Blk w3 w1.heap.size 25 (pkV (Pk.zero)) ∧ Blk w3 w2.heap.size 25 (pkV p)) := Lib.hid ⟨H2.out.1.trans (touch_store ht), H2.out.2.touch (touch_store ht) (fun h => h), hB⟩; clear hB ht hs)
    | ((with_reducible refine at_op (.store 23 (.tmp 23) (.tmp 22)) rfl ?_); refine wpList_store_tag rfl 23 (.tmp 23) (.tmp 22) rfl w2.heap.size 25 p (List.replicate 8 0) rfl rfl H3.out.2.2 HP.out.1 rfl (by kernel_rfl) ?_; intro w4 hB ht hs; have H4 : Hid (Touch (fun _ => False) wa w4 ∧ Blk w4 w1.heap.size 25 (pkV (Pk.zero)) ∧ Blk w4 w2.heap.size 25 (pkV (bare0 p))) := Lib.hid ⟨Touch.then H3.out.1 ht (fun i hi e => by have := H2.out.1.size; omega), H3.out.2.1.touch ht (by have := H2.out.2.lt; omega), hB⟩; clear hB ht hs)
    | ((with_reducible refine at_op (.store 25 (.tmp 11) (.tmp 24)) rfl ?_); refine wpList_store_blk rfl 25 (.tmp 11) (.tmp 24) rfl w4.heap.size 25 _ (pkV p) rfl rfl (Blk.new _ _ _) (by rw [pkV_size HP.out.1]; first | done | kernel_rfl) (by rw [pkV_size HP.out.1]; first | done | kernel_rfl) (pkV_one _) ?_; intro w5 hB ht hs; have H5 : Hid (Touch (fun _ => False) w4 w5 ∧ Blk w5 w4.heap.size 25 (pkV p)) := Lib.hid ⟨touch_store ht, hB⟩; clear hB ht hs)
    | ((with_reducible refine at_op (.load 23 (.tmp 5)) rfl ?_); refine wpList_load_blk rfl 23 (.tmp 5) rfl (w.heap.size + 1 + 1) 23 (bn t).toArray _ rfl (HA.out.2.2.2.touch (H4.out.1.trans H5.out.1) (fun h => h)) Try.underlying23 rfl (by rw [bn_size, HP.out.2.2.2.1]; first | done | kernel_rfl) ?_)
    | ((with_reducible refine at_op (.store 23 (.tmp 26) (.tmp 25)) rfl ?_); refine wpList_store_tag rfl 23 (.tmp 26) (.tmp 25) rfl w4.heap.size 25 p t rfl rfl H5.out.2 HP.out.1 HP.out.2.2.2.1 (by kernel_rfl) ?_; intro w6 hB ht hs; have H6 : Hid (Touch (fun _ => False) w4 w6 ∧ Blk w6 w4.heap.size 25 (pkV { p with tag := t })) := Lib.hid ⟨Touch.then H5.out.1 ht (fun i hi e => by omega), hB⟩; clear hB ht hs)
    | ((with_reducible refine at_op (.load 22 (.tmp 3)) rfl ?_); refine wpList_load_blk rfl 22 (.tmp 3) rfl w.heap.size 22 (bn key).toArray _ rfl (HA.out.2.1.touch (H4.out.1.trans H6.out.1) (fun h => h)) Try.underlying22 rfl (by rw [bn_size, HP.out.2.1]; first | done | kernel_rfl) ?_)
    | ((with_reducible refine at_op (.load 25 (.tmp 11)) rfl ?_); refine wpList_load_blk rfl 25 (.tmp 11) rfl w4.heap.size 25 (pkV ({ p with tag := t } : Pk)) _ rfl (H6.out.2) Try.underlying25 rfl (by rw [pkV_size (HP.out.1.setTag HP.out.2.2.2.1 HP.out.2.2.2.2)]; first | done | kernel_rfl) ?_)
    | ((with_reducible refine at_op (.load 25 (.tmp 4)) rfl ?_); first | (refine wpList_load_blk rfl 25 (.tmp 4) rfl (w.heap.size + 1) 25 (pkV p) _ rfl (HA.out.2.2.1.touch H4.out.1 (fun h => h)) Try.underlying25 rfl (by rw [pkV_size HP.out.1]; first | done | kernel_rfl) ?_) | (refine wpList_load_blk rfl 25 (.tmp 4) rfl (w.heap.size + 1) 25 (pkV p) _ rfl (HA.out.2.2.1.touch H2.out.1 (fun h => h)) Try.underlying25 rfl (by rw [pkV_size HP.out.1]; first | done | kernel_rfl) ?_)))
  (with_reducible refine (sign_lit _ key { p with tag := t } (Pk.zero) false rfl HP.out.2.1 HP.out.2.2.1 (HP.out.1.setTag HP.out.2.2.2.1 HP.out.2.2.2.2) HQ.out.2.2.2.1 HQ.out.2.2.2.2 _).mono ?_)
  rintro e w7 ⟨rfl, hb7⟩
  have H7 : Hid (Touch (fun _ => False) w4 w7) := Lib.hid (H6.out.1.trans (Touch.of_below hb7))
  clear hb7
  go_wp2_with ((with_reducible refine at_op (.store 25 (.tmp 12) (.tmp 31)) rfl ?_); refine wpList_store_blk rfl 25 (.tmp 12) (.tmp 31) rfl w7.heap.size 25 _ (pkV (Pk.zero)) rfl rfl (Blk.new _ _ _) (by rw [pkV_size HQ.out.1]; first | done | kernel_rfl) (by rw [pkV_size HQ.out.1]; first | done | kernel_rfl) (pkV_one _) ?_; intro w8 hB ht hs; have H8 : Hid (Touch (fun _ => False) w4 w8 ∧ Blk w8 w7.heap.size 25 (pkV (Pk.zero))) := Lib.hid (⟨H7.out.trans (touch_store ht), hB⟩); clear hB ht hs; have d0 : w8.cell? ⟨w.heap.size + 1, 0, none⟩ = some (.int .i64 k) := (by rw [HKD.out.1]; exact (HA.out.2.2.1.touch (H4.out.1.trans H8.out.1) (fun h => h)).num HP.out.1 0 (by decide)))
  (with_reducible refine (tagged_any k _).mono ?_)
  rintro e _ ⟨rfl, rfl⟩
  rw [HKD.out.2]
  clear d0
  go_wp2_with (first
    | ((with_reducible refine at_op (.load 25 (.tmp 12)) rfl ?_); refine wpList_load_blk_g (by rfl) 25 (.tmp 12) rfl w7.heap.size 25 (pkV (Pk.zero)) _ rfl (H8.out.2) Try.underlying25 rfl (by rw [pkV_size HQ.out.1]; first | done | kernel_rfl) ?_)
    | ((with_reducible refine at_op (.load 25 (.tmp 8)) rfl ?_); refine wpList_load_blk_g (by rfl) 25 (.tmp 8) rfl w1.heap.size 25 (pkV (Pk.zero)) _ rfl ((H4.out.2.1.touch H8.out.1 (fun h => h))) Try.underlying25 rfl (by rw [pkV_size HQ.out.1]; first | done | kernel_rfl) ?_)
    | ((with_reducible refine at_op (.binOp .eql 25 (.tmp 51) (.tmp 52) 25) rfl ?_); refine wpList_eql_g (by rfl) .eql 25 25 (.tmp 51) (.tmp 52) rfl (pkV (Pk.zero)) (pkV (Pk.zero)) rfl rfl (by kernel_rfl) _ (HEQ.out _) ?_))
  go_ret
  exact ⟨by first | rfl | simp, (HA.out.1.trans (H4.out.1.trans H8.out.1)).below (Nat.le_refl _) (fun _ _ h => h)⟩

set_option maxRecDepth 100000 in
set_option maxHeartbeats 8000000 in
theorem tagMay_bad (w : World) (key : List Nat) (hk : key.length = 16) (hkr : ∀ y ∈ key, y < 256) (p : Pk) (hp : p.Ok) (t : List Nat) (ht : t.length = 8) (htr : ∀ y ∈ t, y < 256) (hT : taggedN p.kind = true) (hR : ¬ RightN (bare0 p)) :
    Calls Try.prog 18 #[.agg (bn key).toArray, .agg (pkV p), .agg (bn t).toArray] w fun e w' => e = .returned (.bool true) ∧ Below w.heap.size w w' := by
  have hM : ¬ MayN p := fun h => hR h.2
  have HQ : Hid ((Pk.zero : Pk).Ok ∧ signN key p = Pk.zero ∧ decide (MayN p) = false ∧ signN key { p with tag := t } = Pk.zero ∧ decide (MayN { p with tag := t }) = false) := Lib.hid ⟨zero_ok, by unfold signN; rw [if_neg hM], decide_eq_false hM, by unfold signN; rw [if_neg (show ¬ MayN { p with tag := t } from hM)], decide_eq_false (show ¬ MayN { p with tag := t } from hM)⟩
  obtain ⟨k, hk0⟩ : ∃ k, k = p.kind := ⟨_, rfl⟩
  have HKD : Hid (k = p.n.getD 0 0 ∧ taggedN k = true) := Lib.hid ⟨hk0, by rw [hk0]; exact hT⟩
  have HRD : Hid (decide (RightN (bare0 p)) = false) := Lib.hid (decide_eq_false hR)
  have HEQ : Hid (∀ w, (binOp .eql 25 (.agg (pkV (Pk.zero))) (.agg (pkV (Pk.zero)))).run Try.prog w = .ok (.bool true) w) := Lib.hid (fun w => run_eql_pk w _ _ HQ.out.1 HQ.out.1 true (by simp))
  have HP := Lib.hid (And.intro hp (And.intro hk (And.intro hkr (And.intro ht htr))))
  clear hp hk hkr hM ht htr hk0 hT hR
  go_enter Try.func18, Try.ntmps18
  go_wp2_with fail
  (with_reducible refine (tagSmall_any _).mono ?_)
  rintro e wa ⟨rfl, hba⟩
  have HA : Hid (Touch (fun _ => False) w wa ∧ Blk wa w.heap.size 22 (bn key).toArray ∧ Blk wa (w.heap.size + 1) 25 (pkV p) ∧ Blk wa (w.heap.size + 1 + 1) 23 (bn t).toArray) := Lib.hid (by
    have tt : Touch (fun _ => False) (((w.alloc (.cells (bn key).toArray 22)).alloc (.cells (pkV p) 25)).alloc (.cells (bn t).toArray 23)) wa := Touch.of_below hba
    exact ⟨((((Touch.refl (fun _ => False) w).alloc _).alloc _).alloc _).trans tt, (((Blk.new w (bn key).toArray 22).alloc _).alloc _).touch tt (fun h => h), ((blk_new_at (w := w.alloc (.cells (bn key).toArray 22)) (by simp) rfl).alloc _).touch tt (fun h => h), (blk_new_at (w := (w.alloc (.cells (bn key).toArray 22)).alloc (.cells (pkV p) 25)) (by simp) rfl).touch tt (fun h => h)⟩)
  clear hba
  go_wp2_with (first
    | ((with_reducible refine at_op (.load 22 (.tmp 3)) rfl ?_); refine wpList_load_blk rfl 22 (.tmp 3) rfl w.heap.size 22 (bn key).toArray _ rfl (HA.out.2.1) Try.underlying22 rfl (by rw [bn_size, HP.out.2.1]; first | done | kernel_rfl) ?_)
    | ((with_reducible refine at_op (.load 25 (.tmp 4)) rfl ?_); refine wpList_load_blk rfl 25 (.tmp 4) rfl (w.heap.size + 1) 25 (pkV p) _ rfl (HA.out.2.2.1) Try.underlying25 rfl (by rw [pkV_size HP.out.1]; first | done | kernel_rfl) ?_))
  (with_reducible refine (sign_lit _ key p (Pk.zero) false rfl HP.out.2.1 HP.out.2.2.1 HP.out.1 HQ.out.2.1 HQ.out.2.2.1 _).mono ?_)
  rintro e w1 ⟨rfl, hb1⟩
  have H1 : Hid (Touch (fun _ => False) wa w1) := Lib.hid (Touch.of_below hb1)
  clear hb1
  go_wp2_with (first
    | ((with_reducible refine at_op (.store 25 (.tmp 8) (.tmp 19)) rfl ?_); refine wpList_store_blk rfl 25 (.tmp 8) (.tmp 19) rfl w1.heap.size 25 _ (pkV (Pk.zero)) rfl rfl (Blk.new _ _ _) (by rw [pkV_size HQ.out.1]; first | done | kernel_rfl) (by rw [pkV_size HQ.out.1]; first | done | kernel_rfl) (pkV_one _) ?_; intro w2 hB ht hs; have H2 : Hid (Touch (fun _ => False) wa w2 ∧ Blk w2 w1.heap.size 25 (pkV (Pk.zero))) := Lib.hid (⟨H1.out.trans (touch_store ht), hB⟩); clear hB ht hs)
    | ((with_reducible refine at_op (.store 25 (.tmp 10) (.tmp 21)) rfl ?_); refine wpList_store_blk rfl 25 (.tmp 10) (.tmp 21) rfl w2.heap.size 25 _ (pkV p) rfl rfl (Blk.new _ _ _) (by rw [pkV_size HP.out.1]; first | done | kernel_rfl) (by rw [pkV_size HP.out.1]; first | done | kernel_rfl) (pkV_one _) ?_; intro w3 hB ht hs; have H3 : Hid (Touch (fun _ => False) wa w3 ∧ Blk w3 w1.heap.size 25 (pkV (Pk.zero)) ∧ Blk w3 w2.heap.size 25 (pkV p)) := Lib.hid ⟨H2.out.1.trans (touch_store ht), H2.out.2.touch (touch_store ht) (fun h => h), hB⟩; clear hB ht hs)
    | ((with_reducible refine at_op (.store 23 (.tmp 23) (.tmp 22)) rfl ?_); refine wpList_store_tag rfl 23 (.tmp 23) (.tmp 22) rfl w2.heap.size 25 p (List.replicate 8 0) rfl rfl H3.out.2.2 HP.out.1 rfl (by kernel_rfl) ?_; intro w4 hB ht hs; have H4 : Hid (Touch (fun _ => False) wa w4 ∧ Blk w4 w1.heap.size 25 (pkV (Pk.zero)) ∧ Blk w4 w2.heap.size 25 (pkV (bare0 p))) := Lib.hid ⟨Touch.then H3.out.1 ht (fun i hi e => by have := H2.out.1.size; omega), H3.out.2.1.touch ht (by have := H2.out.2.lt; omega), hB⟩; clear hB ht hs)
    | ((with_reducible refine at_op (.store 25 (.tmp 11) (.tmp 24)) rfl ?_); refine wpList_store_blk rfl 25 (.tmp 11) (.tmp 24) rfl w4.heap.size 25 _ (pkV p) rfl rfl (Blk.new _ _ _) (by rw [pkV_size HP.out.1]; first | done | kernel_rfl) (by rw [pkV_size HP.out.1]; first | done | kernel_rfl) (pkV_one _) ?_; intro w5 hB ht hs; have H5 : Hid (Touch (fun _ => False) w4 w5 ∧ Blk w5 w4.heap.size 25 (pkV p)) := Lib.hid ⟨touch_store ht, hB⟩; clear hB ht hs)
    | ((with_reducible refine at_op (.load 23 (.tmp 5)) rfl ?_); refine wpList_load_blk rfl 23 (.tmp 5) rfl (w.heap.size + 1 + 1) 23 (bn t).toArray _ rfl (HA.out.2.2.2.touch (H4.out.1.trans H5.out.1) (fun h => h)) Try.underlying23 rfl (by rw [bn_size, HP.out.2.2.2.1]; first | done | kernel_rfl) ?_)
    | ((with_reducible refine at_op (.store 23 (.tmp 26) (.tmp 25)) rfl ?_); refine wpList_store_tag rfl 23 (.tmp 26) (.tmp 25) rfl w4.heap.size 25 p t rfl rfl H5.out.2 HP.out.1 HP.out.2.2.2.1 (by kernel_rfl) ?_; intro w6 hB ht hs; have H6 : Hid (Touch (fun _ => False) w4 w6 ∧ Blk w6 w4.heap.size 25 (pkV { p with tag := t })) := Lib.hid ⟨Touch.then H5.out.1 ht (fun i hi e => by omega), hB⟩; clear hB ht hs)
    | ((with_reducible refine at_op (.load 22 (.tmp 3)) rfl ?_); refine wpList_load_blk rfl 22 (.tmp 3) rfl w.heap.size 22 (bn key).toArray _ rfl (HA.out.2.1.touch (H4.out.1.trans H6.out.1) (fun h => h)) Try.underlying22 rfl (by rw [bn_size, HP.out.2.1]; first | done | kernel_rfl) ?_)
    | ((with_reducible refine at_op (.load 25 (.tmp 11)) rfl ?_); refine wpList_load_blk rfl 25 (.tmp 11) rfl w4.heap.size 25 (pkV ({ p with tag := t } : Pk)) _ rfl (H6.out.2) Try.underlying25 rfl (by rw [pkV_size (HP.out.1.setTag HP.out.2.2.2.1 HP.out.2.2.2.2)]; first | done | kernel_rfl) ?_)
    | ((with_reducible refine at_op (.load 25 (.tmp 4)) rfl ?_); first | (refine wpList_load_blk rfl 25 (.tmp 4) rfl (w.heap.size + 1) 25 (pkV p) _ rfl (HA.out.2.2.1.touch H4.out.1 (fun h => h)) Try.underlying25 rfl (by rw [pkV_size HP.out.1]; first | done | kernel_rfl) ?_) | (refine wpList_load_blk rfl 25 (.tmp 4) rfl (w.heap.size + 1) 25 (pkV p) _ rfl (HA.out.2.2.1.touch H2.out.1 (fun h => h)) Try.underlying25 rfl (by rw [pkV_size HP.out.1]; first | done | kernel_rfl) ?_)))
  (with_reducible refine (sign_lit _ key { p with tag := t } (Pk.zero) false rfl HP.out.2.1 HP.out.2.2.1 (HP.out.1.setTag HP.out.2.2.2.1 HP.out.2.2.2.2) HQ.out.2.2.2.1 HQ.out.2.2.2.2 _).mono ?_)
  rintro e w7 ⟨rfl, hb7⟩
  have H7 : Hid (Touch (fun _ => False) w4 w7) := Lib.hid (H6.out.1.trans (Touch.of_below hb7))
  clear hb7
  go_wp2_with ((with_reducible refine at_op (.store 25 (.tmp 12) (.tmp 31)) rfl ?_); refine wpList_store_blk rfl 25 (.tmp 12) (.tmp 31) rfl w7.heap.size 25 _ (pkV (Pk.zero)) rfl rfl (Blk.new _ _ _) (by rw [pkV_size HQ.out.1]; first | done | kernel_rfl) (by rw [pkV_size HQ.out.1]; first | done | kernel_rfl) (pkV_one _) ?_; intro w8 hB ht hs; have H8 : Hid (Touch (fun _ => False) w4 w8 ∧ Blk w8 w7.heap.size 25 (pkV (Pk.zero))) := Lib.hid (⟨H7.out.trans (touch_store ht), hB⟩); clear hB ht hs; have d0 : w8.cell? ⟨w.heap.size + 1, 0, none⟩ = some (.int .i64 k) := (by rw [HKD.out.1]; exact (HA.out.2.2.1.touch (H4.out.1.trans H8.out.1) (fun h => h)).num HP.out.1 0 (by decide)))
  (with_reducible refine (tagged_any k _).mono ?_)
  rintro e _ ⟨rfl, rfl⟩
  rw [HKD.out.2]
  clear d0
  go_wp2_with ((with_reducible refine at_op (.load 25 (.tmp 10)) rfl ?_); refine wpList_load_blk_g (by rfl) 25 (.tmp 10) rfl w2.heap.size 25 (pkV (bare0 p)) _ rfl (H4.out.2.2.touch H8.out.1 (fun h => h)) Try.underlying25 rfl (by rw [pkV_size (bare0_ok HP.out.1)]; first | done | kernel_rfl) ?_)
  (with_reducible refine (right_lit _ (bare0 p) false rfl (bare0_ok HP.out.1) HRD.out _).mono ?_)
  rintro e w9 ⟨rfl, hb9⟩
  have H9 : Hid (Touch (fun _ => False) w8 w9) := Lib.hid (Touch.of_below hb9)
  clear hb9
  go_wp2_with (first
    | ((with_reducible refine at_op (.load 25 (.tmp 12)) rfl ?_); refine wpList_load_blk_g (by rfl) 25 (.tmp 12) rfl w7.heap.size 25 (pkV (Pk.zero)) _ rfl (H8.out.2.touch H9.out (fun h => h)) Try.underlying25 rfl (by rw [pkV_size HQ.out.1]; first | done | kernel_rfl) ?_)
    | ((with_reducible refine at_op (.load 25 (.tmp 8)) rfl ?_); refine wpList_load_blk_g (by rfl) 25 (.tmp 8) rfl w1.heap.size 25 (pkV (Pk.zero)) _ rfl ((H4.out.2.1.touch H8.out.1 (fun h => h)).touch H9.out (fun h => h)) Try.underlying25 rfl (by rw [pkV_size HQ.out.1]; first | done | kernel_rfl) ?_)
    | ((with_reducible refine at_op (.binOp .eql 25 (.tmp 51) (.tmp 52) 25) rfl ?_); refine wpList_eql_g (by rfl) .eql 25 25 (.tmp 51) (.tmp 52) rfl (pkV (Pk.zero)) (pkV (Pk.zero)) rfl rfl (by kernel_rfl) _ (HEQ.out _) ?_))
  go_ret
  exact ⟨by first | rfl | simp, (HA.out.1.trans (H4.out.1.trans (H8.out.1.trans H9.out))).below (Nat.le_refl _) (fun _ _ h => h)⟩

theorem tagMay_walk (w : World) (key : List Nat) (hk : key.length = 16) (hkr : ∀ y ∈ key, y < 256) (p : Pk) (hp : p.Ok) (t : List Nat) (ht : t.length = 8) (htr : ∀ y ∈ t, y < 256) :
    Calls Try.prog 18 #[.agg (bn key).toArray, .agg (pkV p), .agg (bn t).toArray] w fun e w' => e = .returned (.bool true) ∧ Below w.heap.size w w' := by
  cases hT : taggedN p.kind with
  | false => exact tagMay_not w key hk hkr p hp t ht htr hT
  | true =>
    by_cases hR : RightN (bare0 p)
    · exact tagMay_yes w key hk hkr p hp t ht htr hT hR
    · exact tagMay_bad w key hk hkr p hp t ht htr hT hR

/-! ### the row's step, and the row -/
theorem tagMay_own : ownKnob Try.prog.godebug = none := by kernel_rfl
theorem tagMay_laidOut : laidOutB Try.prog = true := by kernel_rfl

set_option linter.unusedVariables false in
set_option maxRecDepth 100000 in
theorem tagMay_lifted (os : Os) (started : os.Started) (H : Type) (enc : TypeId × Value → H) :
    ReturnsInHanded {} Try.checked os 18 .any (Rows.tagMaySpec.pre6 enc Try.prog Try.f18 Rows.tagMayRow.domain false) (Rows.tagMaySpec.post enc Try.prog Try.f18 false true false false) := by
  refine returnsInHanded_of_change (C := Try.checked) tagMay_own started (by kernel_rfl) Try.func18
    (ChangeSpec.witness6 (enc := enc) (C := Try.checked) false ⟨#[], #[.agg #[.int .u8 0, .int .u8 0, .int .u8 0, .int .u8 0, .int .u8 0, .int .u8 0, .int .u8 0, .int .u8 0, .int .u8 0, .int .u8 0, .int .u8 0, .int .u8 0, .int .u8 0, .int .u8 0, .int .u8 0, .int .u8 0], .agg #[.int .i64 0, .int .i64 0, .int .i64 0, .int .i64 0, .int .i64 0, .int .i64 0, .int .i64 0, .int .i64 0, .int .i64 0, .int .i64 0, .int .i64 0, .int .i64 0, .int .u8 0, .int .u8 0, .int .u8 0, .int .u8 0, .int .u8 0, .int .u8 0, .int .u8 0, .int .u8 0, .int .u8 0, .int .u8 0, .int .u8 0, .int .u8 0, .int .u8 0, .int .u8 0, .int .u8 0, .int .u8 0, .int .u8 0, .int .u8 0, .int .u8 0, .int .u8 0, .int .u8 0, .int .u8 0, .int .u8 0, .int .u8 0], .agg #[.int .u8 0, .int .u8 0, .int .u8 0, .int .u8 0, .int .u8 0, .int .u8 0, .int .u8 0, .int .u8 0]], []⟩ 8 (by kernel_rfl) (by kernel_rfl) (by kernel_rfl) (by kernel_rfl)) ?_
  intro W base args ds gs before hval0 hW hcnd _
  have hval : ∀ (j : Nat) t v, Try.f18.params[j]? = some t → args[j]? = some v → Value.okWide Try.prog W .any base t v := hval0
  have hW' := hW
  obtain ⟨p, q, hA0, hV, rfl, hfz, hnd⟩ := hW
  have hA : DataW.TrodAll enc Try.prog W 0 (fun _ => true) true Try.f18.params.toList args.toList ds p := hA0
  rw [Try.params18] at hA hval
  obtain ⟨v0, vs0, d0, ds0, p0, q0, hargs, rfl, rfl, h0, r0⟩ := trodAll_cons hA
  obtain ⟨v1, vs1, d1, ds1, p1, q1, rfl, rfl, rfl, h1, r1⟩ := trodAll_cons r0
  obtain ⟨v2, vs2, d2, ds2, p2, q2, rfl, rfl, rfl, h2, r2⟩ := trodAll_cons r1
  obtain ⟨rfl, rfl, rfl⟩ := trodAll_nil r2
  obtain rfl : args = #[v0, v1, v2] := by cases args; simp_all
  obtain ⟨rfl, rfl⟩ := trodVars_none hV
  have k0 := h0
  have lt0 : ∀ x ∈ p0, x.block < W.heap.size := by obtain ⟨m, hm⟩ := k0; exact DataW.trod_lt m _ _ _ hm
  have o0 := hval 0 22 v0 rfl rfl
  obtain ⟨a0, len0, lt80, rfl⟩ := array_of Try.underlying22 Try.underlying5 (by kernel_rfl) (by kernel_rfl) o0 h0
  have k1 := h1
  have lt1 : ∀ x ∈ p1, x.block < W.heap.size := by obtain ⟨m, hm⟩ := k1; exact DataW.trod_lt m _ _ _ hm
  have o1 := hval 1 25 v1 rfl rfl
  obtain ⟨a1, ok1, rfl⟩ := pk_of o1 h1
  have k2 := h2
  have lt2 : ∀ x ∈ p2, x.block < W.heap.size := by obtain ⟨m, hm⟩ := k2; exact DataW.trod_lt m _ _ _ hm
  have o2 := hval 2 23 v2 rfl rfl
  obtain ⟨a2, len2, lt82, rfl⟩ := array_of Try.underlying23 Try.underlying5 (by kernel_rfl) (by kernel_rfl) o2 h2
  clear hA0 hval0
  refine (tagMay_walk W a0 len0 lt80 a1 ok1 a2 len2 lt82).mono fun e W' ⟨he, bel⟩ => ?_
  subst he
  exact ⟨_, rfl, _, _, _, [], _, [], hW', trodAll_mk1 (shut_bool Try.underlying4 _), (trodAll_cons_mk (Below.trod tagMay_laidOut (by kernel_rfl) (of_decide_eq_true (by kernel_rfl)) k0 bel lt0) (trodAll_cons_mk (Below.trod tagMay_laidOut (by kernel_rfl) (of_decide_eq_true (by kernel_rfl)) k1 bel lt1) (trodAll_cons_mk (Below.trod tagMay_laidOut (by kernel_rfl) (of_decide_eq_true (by kernel_rfl)) k2 bel lt2) trodAll_mk0))), rfl, bel.frame _, fun h => by cases h⟩

theorem tagMay_over : Rows.tagMayRow.holds Try.pinned (OpenSpec.ofChange Rows.tagMaySpec) :=
  OpenClaim.holds_of_wide 18 Try.f18 rfl rfl rfl rfl rfl rfl rfl ⟨rfl, rfl, rfl, rfl, rfl⟩ rfl rfl rfl rfl rfl (by kernel_rfl) Try.func18 (by kernel_rfl)
    (of_decide_eq_true (by kernel_rfl)) (by unfold Func.isWrapper; first | (rw [if_pos (by decide +kernel)]; kernel_rfl) | (rw [if_neg (by decide +kernel)]; exact ⟨rfl, rfl⟩))
    (fun os started H enc _ => tagMay_lifted os started H enc)

/-- THE STATEMENT. -/
theorem tagMay_proved : Rows.TagMaySaid := tagMay_over
#print axioms tagMay_proved
end Go.Proofs.Ythlkmofemnepbaa
