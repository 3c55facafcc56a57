/-
  nightjarlaw07.TagBack: for all keys, packets and tags the law returns true. No conditions: for every input that can be read.
-/
import Derived.Test.YthlkmofemnepbaaRows
import Derived.Test.YthlkmofemnepbaaTSmall
import Derived.Test.YthlkmofemnepbaaPkArg
namespace Go.Proofs.Ythlkmofemnepbaa
open Go.ChangeShapes Go.WideShapes Go.ChangeAt Go.RowKit

theorem retag_right (p : Pk) (t : List Nat) (h : taggedN p.kind = true) (hR : RightN p) : RightN { p with tag := t } := by
  obtain ⟨h1, h2, ⟨h3, h4, _⟩, h6⟩ := hR
  refine ⟨h1, h2, ⟨h3, h4, ?_⟩, h6⟩
  show (if taggedN p.kind = true then t else _) = t
  rw [if_pos h]

set_option maxRecDepth 100000 in
set_option maxHeartbeats 8000000 in
theorem tagBack_yes (w : World) (key : List Nat) (hk : key.length = 16) (hkr : ∀ y ∈ key, y < 256) (p : Pk) (hp : p.Ok) (hM : MayN p) :
    Calls Try.prog 16 #[.agg (bn key).toArray, .agg (pkV p)] w fun e w' => e = .returned (.bool true) ∧ Below w.heap.size w w' := by
  obtain ⟨q, hq⟩ : ∃ q : Pk, q = { p with tag := tagOf key p } := ⟨_, rfl⟩
  have hqo : q.Ok := by rw [hq]; exact hp.setTag (tagOf_len key p) (tagOf_lt key p)
  have hMq : MayN q := by rw [hq]; exact hM
  have HQ : Hid (q.Ok ∧ signN key p = q ∧ decide (MayN p) = true ∧ signN key q = q ∧ decide (MayN q) = true ∧ decide (GoodN key q) = true ∧ decide (RightN q) = true) := Lib.hid ⟨hqo, by unfold signN; rw [if_pos hM, hq], decide_eq_true hM, by unfold signN; rw [if_pos hMq, hq]; rfl, decide_eq_true hMq, decide_eq_true ⟨hMq, by rw [hq]; rfl⟩, decide_eq_true (by rw [hq]; exact retag_right (bare0 p) (tagOf key p) hM.1 hM.2)⟩
  have hback : ({ q with tag := p.tag } : Pk) = p := by rw [hq]
  have HBK : Hid ({ q with tag := p.tag } = p) := Lib.hid hback
  have HEQ : Hid (∀ w, (binOp .eql 25 (.agg (pkV q)) (.agg (pkV q))).run Try.prog w = .ok (.bool true) w) := Lib.hid (fun w => run_eql_pk w _ _ hqo hqo true (by simp))
  have HEP : Hid (∀ w, (binOp .eql 25 (.agg (pkV p)) (.agg (pkV p))).run Try.prog w = .ok (.bool true) w) := Lib.hid (fun w => run_eql_pk w _ _ hp hp true (by simp))
  have HP := Lib.hid (And.intro hp (And.intro hk hkr))
  clear hp hk hkr hM hq hqo hMq hback
  go_enter Try.func16, Try.ntmps16
  go_wp2_with fail
  (with_reducible refine (tagSmall_any _).mono ?_)
  rintro e wa ⟨rfl, hba⟩
  have HA : Hid (Touch (fun _ => False) w wa ∧ Blk wa w.heap.size 22 (bn key).toArray ∧ Blk wa (w.heap.size + 1) 25 (pkV p)) := Lib.hid (by
    have tt : Touch (fun _ => False) ((w.alloc (.cells (bn key).toArray 22)).alloc (.cells (pkV p) 25)) wa := Touch.of_below hba
    exact ⟨(((Touch.refl (fun _ => False) w).alloc _).alloc _).trans tt, ((Blk.new w (bn key).toArray 22).alloc _).touch tt (fun h => h), (blk_new_at (w := w.alloc (.cells (bn key).toArray 22)) (by simp) rfl).touch tt (fun h => h)⟩)
  clear hba
  go_wp2_with (first
    | ((with_reducible refine at_op (.load 22 (.tmp 2)) rfl ?_); refine wpList_load_blk rfl 22 (.tmp 2) rfl w.heap.size 22 (bn key).toArray _ rfl (HA.out.2.1) Try.underlying22 rfl (by rw [bn_size, HP.out.2.1]; first | done | kernel_rfl) ?_)
    | ((with_reducible refine at_op (.load 25 (.tmp 3)) rfl ?_); refine wpList_load_blk rfl 25 (.tmp 3) rfl (w.heap.size + 1) 25 (pkV p) _ rfl (HA.out.2.2) Try.underlying25 rfl (by rw [pkV_size HP.out.1]; first | done | kernel_rfl) ?_))
  (with_reducible refine (sign_lit _ key p (q) true rfl HP.out.2.1 HP.out.2.2 HP.out.1 HQ.out.2.1 HQ.out.2.2.1 _).mono ?_)
  rintro e w1 ⟨rfl, hb1⟩
  have H1 : Hid (Touch (fun _ => False) wa w1) := Lib.hid (Touch.of_below hb1)
  clear hb1
  go_wp2_with (first
    | ((with_reducible refine at_op (.store 25 (.tmp 6) (.tmp 16)) rfl ?_); refine wpList_store_blk rfl 25 (.tmp 6) (.tmp 16) rfl w1.heap.size 25 _ (pkV (q)) rfl rfl (Blk.new _ _ _) (by rw [pkV_size HQ.out.1]; first | done | kernel_rfl) (by rw [pkV_size HQ.out.1]; first | done | kernel_rfl) (pkV_one _) ?_; intro w2 hB ht hs; have H2 : Hid (Touch (fun _ => False) wa w2 ∧ Blk w2 w1.heap.size 25 (pkV (q))) := Lib.hid (⟨H1.out.trans (touch_store ht), hB⟩); clear hB ht hs)
    | ((with_reducible refine at_op (.load 22 (.tmp 2)) rfl ?_); refine wpList_load_blk rfl 22 (.tmp 2) rfl w.heap.size 22 (bn key).toArray _ rfl (HA.out.2.1.touch H2.out.1 (fun h => h)) Try.underlying22 rfl (by rw [bn_size, HP.out.2.1]; first | done | kernel_rfl) ?_)
    | ((with_reducible refine at_op (.load 25 (.tmp 6)) rfl ?_); refine wpList_load_blk rfl 25 (.tmp 6) rfl w1.heap.size 25 (pkV q) _ rfl (H2.out.2) Try.underlying25 rfl (by rw [pkV_size HQ.out.1]; first | done | kernel_rfl) ?_))
  (with_reducible refine (sign_lit _ key q q true rfl HP.out.2.1 HP.out.2.2 HQ.out.1 HQ.out.2.2.2.1 HQ.out.2.2.2.2.1 _).mono ?_)
  rintro e w3 ⟨rfl, hb3⟩
  have H3 : Hid (Touch (fun _ => False) w2 w3) := Lib.hid (Touch.of_below hb3)
  clear hb3
  go_wp2_with (first
    | ((with_reducible refine at_op (.store 25 (.tmp 8) (.tmp 47)) rfl ?_); refine wpList_store_blk rfl 25 (.tmp 8) (.tmp 47) rfl w3.heap.size 25 _ (pkV q) rfl rfl (Blk.new _ _ _) (by rw [pkV_size HQ.out.1]; first | done | kernel_rfl) (by rw [pkV_size HQ.out.1]; first | done | kernel_rfl) (pkV_one _) ?_; intro w4 hB ht hs; have H4 : Hid (Touch (fun _ => False) w2 w4 ∧ Blk w4 w3.heap.size 25 (pkV q)) := Lib.hid (⟨H3.out.trans (touch_store ht), hB⟩); clear hB ht hs)
    | ((with_reducible refine at_op (.store 25 (.tmp 10) (.tmp 49)) rfl ?_); refine wpList_store_blk rfl 25 (.tmp 10) (.tmp 49) rfl w4.heap.size 25 _ (pkV q) rfl rfl (Blk.new _ _ _) (by rw [pkV_size HQ.out.1]; first | done | kernel_rfl) (by rw [pkV_size HQ.out.1]; first | done | kernel_rfl) (pkV_one _) ?_; intro w5 hB ht hs; have H5 : Hid (Touch (fun _ => False) w4 w5 ∧ Blk w5 w4.heap.size 25 (pkV q)) := Lib.hid (⟨touch_store ht, hB⟩); clear hB ht hs)
    | ((with_reducible refine at_op (.load 23 (.tmp 50)) rfl ?_); refine wpList_load_mid rfl 23 (.tmp 50) rfl (w.heap.size + 1) 28 rfl (bn p.tag) _ ((HA.out.2.2.touch (H2.out.1.trans (H4.out.1.trans H5.out.1)) (fun h => h)).tag HP.out.1) Try.underlying23 rfl (by rw [bn_len, HP.out.1.ht]; first | done | kernel_rfl) ?_)
    | ((with_reducible refine at_op (.store 23 (.tmp 52) (.tmp 51)) rfl ?_); refine wpList_store_tag rfl 23 (.tmp 52) (.tmp 51) rfl w4.heap.size 25 q p.tag rfl rfl H5.out.2 HQ.out.1 HP.out.1.ht (by kernel_rfl) ?_; intro w6 hB ht hs; have H6 : Hid (Touch (fun _ => False) w4 w6 ∧ Blk w6 w4.heap.size 25 (pkV p)) := Lib.hid ⟨Touch.then H5.out.1 ht (fun i hi e => by omega), by rw [← HBK.out]; exact hB⟩; clear hB ht hs)
    | ((with_reducible refine at_op (.load 25 (.tmp 6)) rfl ?_); first | (refine wpList_load_blk_g (by rfl) 25 (.tmp 6) rfl w1.heap.size 25 (pkV q) _ rfl (H2.out.2.touch (H4.out.1.trans H6.out.1) (fun h => h)) Try.underlying25 rfl (by rw [pkV_size HQ.out.1]; first | done | kernel_rfl) ?_) | (refine wpList_load_blk rfl 25 (.tmp 6) rfl w1.heap.size 25 (pkV q) _ rfl (H2.out.2.touch H4.out.1 (fun h => h)) Try.underlying25 rfl (by rw [pkV_size HQ.out.1]; first | done | kernel_rfl) ?_)))
  (with_reducible refine (right_lit _ q true rfl HQ.out.1 HQ.out.2.2.2.2.2.2 _).mono ?_)
  rintro e w7 ⟨rfl, hb7⟩
  have H7 : Hid (Touch (fun _ => False) w6 w7) := Lib.hid (Touch.of_below hb7)
  clear hb7
  go_wp2_with (first
    | ((with_reducible refine at_op (.load 22 (.tmp 2)) rfl ?_); refine wpList_load_blk_g (by rfl) 22 (.tmp 2) rfl w.heap.size 22 (bn key).toArray _ rfl (HA.out.2.1.touch (H2.out.1.trans (H4.out.1.trans (H6.out.1.trans H7.out))) (fun h => h)) Try.underlying22 rfl (by rw [bn_size, HP.out.2.1]; first | done | kernel_rfl) ?_)
    | ((with_reducible refine at_op (.load 25 (.tmp 6)) rfl ?_); refine wpList_load_blk_g (by rfl) 25 (.tmp 6) rfl w1.heap.size 25 (pkV q) _ rfl (H2.out.2.touch (H4.out.1.trans (H6.out.1.trans H7.out)) (fun h => h)) Try.underlying25 rfl (by rw [pkV_size HQ.out.1]; first | done | kernel_rfl) ?_))
  (with_reducible refine (good_lit _ key q true rfl HP.out.2.1 HP.out.2.2 HQ.out.1 HQ.out.2.2.2.2.2.1 _).mono ?_)
  rintro e w8 ⟨rfl, hb8⟩
  have H8 : Hid (Touch (fun _ => False) w6 w8) := Lib.hid (H7.out.trans (Touch.of_below hb8))
  clear hb8
  go_wp2_with (first
    | ((with_reducible refine at_op (.load 25 (.tmp 8)) rfl ?_); refine wpList_load_blk_g (by rfl) 25 (.tmp 8) rfl w3.heap.size 25 (pkV q) _ rfl (H4.out.2.touch (H6.out.1.trans H8.out) (fun h => h)) Try.underlying25 rfl (by rw [pkV_size HQ.out.1]; first | done | kernel_rfl) ?_)
    | ((with_reducible refine at_op (.load 25 (.tmp 6)) rfl ?_); refine wpList_load_blk_g (by rfl) 25 (.tmp 6) rfl w1.heap.size 25 (pkV q) _ rfl (H2.out.2.touch (H4.out.1.trans (H6.out.1.trans H8.out)) (fun h => h)) Try.underlying25 rfl (by rw [pkV_size HQ.out.1]; first | done | kernel_rfl) ?_)
    | ((with_reducible refine at_op (.binOp .eql 25 (.tmp 67) (.tmp 68) 25) rfl ?_); refine wpList_eql_g (by rfl) .eql 25 25 (.tmp 67) (.tmp 68) rfl (pkV q) (pkV q) rfl rfl (by kernel_rfl) _ (HEQ.out _) ?_)
    | ((with_reducible refine at_op (.load 25 (.tmp 10)) rfl ?_); refine wpList_load_blk_g (by rfl) 25 (.tmp 10) rfl w4.heap.size 25 (pkV p) _ rfl (H6.out.2.touch H8.out (fun h => h)) Try.underlying25 rfl (by rw [pkV_size HP.out.1]; first | done | kernel_rfl) ?_)
    | ((with_reducible refine at_op (.load 25 (.tmp 3)) rfl ?_); refine wpList_load_blk_g (by rfl) 25 (.tmp 3) rfl (w.heap.size + 1) 25 (pkV p) _ rfl (HA.out.2.2.touch (H2.out.1.trans (H4.out.1.trans (H6.out.1.trans H8.out))) (fun h => h)) Try.underlying25 rfl (by rw [pkV_size HP.out.1]; first | done | kernel_rfl) ?_)
    | ((with_reducible refine at_op (.binOp .eql 25 (.tmp 72) (.tmp 73) 25) rfl ?_); refine wpList_eql_g (by rfl) .eql 25 25 (.tmp 72) (.tmp 73) rfl (pkV p) (pkV p) rfl rfl (by kernel_rfl) _ (HEP.out _) ?_))
  go_ret
  exact ⟨by first | rfl | simp, (HA.out.1.trans (H2.out.1.trans (H4.out.1.trans (H6.out.1.trans H8.out)))).below (Nat.le_refl _) (fun _ _ h => h)⟩

set_option maxRecDepth 100000 in
set_option maxHeartbeats 8000000 in
theorem tagBack_no0 (w : World) (key : List Nat) (hk : key.length = 16) (hkr : ∀ y ∈ key, y < 256) (p : Pk) (hp : p.Ok) (hM : ¬ MayN p) (hT : taggedN p.kind = false) :
    Calls Try.prog 16 #[.agg (bn key).toArray, .agg (pkV p)] w fun e w' => e = .returned (.bool true) ∧ Below w.heap.size w w' := by
  have HQ : Hid ((Pk.zero : Pk).Ok ∧ signN key p = Pk.zero ∧ decide (MayN p) = false ∧ decide (GoodN key p) = false) := Lib.hid ⟨zero_ok, by unfold signN; rw [if_neg hM], decide_eq_false hM, decide_eq_false (fun e => hM e.1)⟩
  obtain ⟨k, hk0⟩ : ∃ k, k = p.kind := ⟨_, rfl⟩
  have HKD : Hid (k = p.n.getD 0 0 ∧ taggedN k = false) := Lib.hid ⟨hk0, by rw [hk0]; exact hT⟩
  have HEQ : Hid (∀ w, (binOp .eql 25 (.agg (pkV Pk.zero)) (.agg (pkV Pk.zero))).run Try.prog w = .ok (.bool true) w) := Lib.hid (fun w => run_eql_pk w _ _ zero_ok zero_ok true (by decide))
  have HP := Lib.hid (And.intro hp (And.intro hk hkr))
  clear hp hk hkr hM hk0 hT
  go_enter Try.func16, Try.ntmps16
  go_wp2_with fail
  (with_reducible refine (tagSmall_any _).mono ?_)
  rintro e wa ⟨rfl, hba⟩
  have HA : Hid (Touch (fun _ => False) w wa ∧ Blk wa w.heap.size 22 (bn key).toArray ∧ Blk wa (w.heap.size + 1) 25 (pkV p)) := Lib.hid (by
    have tt : Touch (fun _ => False) ((w.alloc (.cells (bn key).toArray 22)).alloc (.cells (pkV p) 25)) wa := Touch.of_below hba
    exact ⟨(((Touch.refl (fun _ => False) w).alloc _).alloc _).trans tt, ((Blk.new w (bn key).toArray 22).alloc _).touch tt (fun h => h), (blk_new_at (w := w.alloc (.cells (bn key).toArray 22)) (by simp) rfl).touch tt (fun h => h)⟩)
  clear hba
  go_wp2_with (first
    | ((with_reducible refine at_op (.load 22 (.tmp 2)) rfl ?_); refine wpList_load_blk rfl 22 (.tmp 2) rfl w.heap.size 22 (bn key).toArray _ rfl (HA.out.2.1) Try.underlying22 rfl (by rw [bn_size, HP.out.2.1]; first | done | kernel_rfl) ?_)
    | ((with_reducible refine at_op (.load 25 (.tmp 3)) rfl ?_); refine wpList_load_blk rfl 25 (.tmp 3) rfl (w.heap.size + 1) 25 (pkV p) _ rfl (HA.out.2.2) Try.underlying25 rfl (by rw [pkV_size HP.out.1]; first | done | kernel_rfl) ?_))
  (with_reducible refine (sign_lit _ key p (Pk.zero) false rfl HP.out.2.1 HP.out.2.2 HP.out.1 HQ.out.2.1 HQ.out.2.2.1 _).mono ?_)
  rintro e w1 ⟨rfl, hb1⟩
  have H1 : Hid (Touch (fun _ => False) wa w1) := Lib.hid (Touch.of_below hb1)
  clear hb1
  go_wp2_with (first
    | ((with_reducible refine at_op (.store 25 (.tmp 6) (.tmp 16)) rfl ?_); refine wpList_store_blk rfl 25 (.tmp 6) (.tmp 16) rfl w1.heap.size 25 _ (pkV (Pk.zero)) rfl rfl (Blk.new _ _ _) (by rw [pkV_size HQ.out.1]; first | done | kernel_rfl) (by rw [pkV_size HQ.out.1]; first | done | kernel_rfl) (pkV_one _) ?_; intro w2 hB ht hs; have H2 : Hid (Touch (fun _ => False) wa w2 ∧ Blk w2 w1.heap.size 25 (pkV (Pk.zero))) := Lib.hid (⟨H1.out.trans (touch_store ht), hB⟩); clear hB ht hs)
    | ((with_reducible refine at_op (.load 25 (.tmp 6)) rfl ?_); refine wpList_load_blk_g (by rfl) 25 (.tmp 6) rfl w1.heap.size 25 (pkV Pk.zero) _ rfl (H2.out.2) Try.underlying25 rfl (by rw [pkV_size zero_ok]; first | done | kernel_rfl) ?_)
    | ((with_reducible refine at_op (.binOp .eql 25 (.tmp 22) (.tmp 23) 25) rfl ?_); refine wpList_eql_g (by rfl) .eql 25 25 (.tmp 22) (.tmp 23) rfl (pkV Pk.zero) (pkV Pk.zero) rfl rfl (by kernel_rfl) _ (HEQ.out _) ?_)
    | ((with_reducible refine at_op (.load 22 (.tmp 2)) rfl ?_); refine wpList_load_blk_g (by rfl) 22 (.tmp 2) rfl w.heap.size 22 (bn key).toArray _ rfl (HA.out.2.1.touch H2.out.1 (fun h => h)) Try.underlying22 rfl (by rw [bn_size, HP.out.2.1]; first | done | kernel_rfl) ?_)
    | ((with_reducible refine at_op (.load 25 (.tmp 3)) rfl ?_); refine wpList_load_blk_g (by rfl) 25 (.tmp 3) rfl (w.heap.size + 1) 25 (pkV p) _ rfl (HA.out.2.2.touch H2.out.1 (fun h => h)) Try.underlying25 rfl (by rw [pkV_size HP.out.1]; first | done | kernel_rfl) ?_))
  (with_reducible refine (good_lit _ key p false rfl HP.out.2.1 HP.out.2.2 HP.out.1 HQ.out.2.2.2 _).mono ?_)
  rintro e w3 ⟨rfl, hb3⟩
  have H3 : Hid (Touch (fun _ => False) w w3 ∧ Blk w3 (w.heap.size + 1) 25 (pkV p)) := Lib.hid ⟨(HA.out.1.trans H2.out.1).trans (Touch.of_below hb3), (HA.out.2.2.touch H2.out.1 (fun h => h)).touch (Touch.of_below (S := fun _ => False) hb3) (fun h => h)⟩
  clear hb3
  have d0 : w3.cell? ⟨w.heap.size + 1, 0, none⟩ = some (.int .i64 k) := by rw [HKD.out.1]; exact H3.out.2.num HP.out.1 0 (by decide)
  go_wp2_with fail
  (with_reducible refine (tagged_any k _).mono ?_)
  rintro e _ ⟨rfl, rfl⟩
  rw [HKD.out.2]
  clear d0
  go_wp2_with fail
  go_ret
  exact ⟨by first | rfl | simp, H3.out.1.below (Nat.le_refl _) (fun _ _ h => h)⟩

set_option maxRecDepth 100000 in
set_option maxHeartbeats 8000000 in
theorem tagBack_no1 (w : World) (key : List Nat) (hk : key.length = 16) (hkr : ∀ y ∈ key, y < 256) (p : Pk) (hp : p.Ok) (hM : ¬ MayN p) (hT : taggedN p.kind = true) :
    Calls Try.prog 16 #[.agg (bn key).toArray, .agg (pkV p)] w fun e w' => e = .returned (.bool true) ∧ Below w.heap.size w w' := by
  have HQ : Hid ((Pk.zero : Pk).Ok ∧ signN key p = Pk.zero ∧ decide (MayN p) = false ∧ decide (GoodN key p) = false) := Lib.hid ⟨zero_ok, by unfold signN; rw [if_neg hM], decide_eq_false hM, decide_eq_false (fun e => hM e.1)⟩
  obtain ⟨k, hk0⟩ : ∃ k, k = p.kind := ⟨_, rfl⟩
  have HKD : Hid (k = p.n.getD 0 0 ∧ taggedN k = true) := Lib.hid ⟨hk0, by rw [hk0]; exact hT⟩
  have HRD : Hid (decide (RightN p) = false) := Lib.hid (decide_eq_false (fun e => hM ⟨hT, retag_right p _ hT e⟩))
  have HEQ : Hid (∀ w, (binOp .eql 25 (.agg (pkV Pk.zero)) (.agg (pkV Pk.zero))).run Try.prog w = .ok (.bool true) w) := Lib.hid (fun w => run_eql_pk w _ _ zero_ok zero_ok true (by decide))
  have HP := Lib.hid (And.intro hp (And.intro hk hkr))
  clear hp hk hkr hM hk0 hT
  go_enter Try.func16, Try.ntmps16
  go_wp2_with fail
  (with_reducible refine (tagSmall_any _).mono ?_)
  rintro e wa ⟨rfl, hba⟩
  have HA : Hid (Touch (fun _ => False) w wa ∧ Blk wa w.heap.size 22 (bn key).toArray ∧ Blk wa (w.heap.size + 1) 25 (pkV p)) := Lib.hid (by
    have tt : Touch (fun _ => False) ((w.alloc (.cells (bn key).toArray 22)).alloc (.cells (pkV p) 25)) wa := Touch.of_below hba
    exact ⟨(((Touch.refl (fun _ => False) w).alloc _).alloc _).trans tt, ((Blk.new w (bn key).toArray 22).alloc _).touch tt (fun h => h), (blk_new_at (w := w.alloc (.cells (bn key).toArray 22)) (by simp) rfl).touch tt (fun h => h)⟩)
  clear hba
  go_wp2_with (first
    | ((with_reducible refine at_op (.load 22 (.tmp 2)) rfl ?_); refine wpList_load_blk rfl 22 (.tmp 2) rfl w.heap.size 22 (bn key).toArray _ rfl (HA.out.2.1) Try.underlying22 rfl (by rw [bn_size, HP.out.2.1]; first | done | kernel_rfl) ?_)
    | ((with_reducible refine at_op (.load 25 (.tmp 3)) rfl ?_); refine wpList_load_blk rfl 25 (.tmp 3) rfl (w.heap.size + 1) 25 (pkV p) _ rfl (HA.out.2.2) Try.underlying25 rfl (by rw [pkV_size HP.out.1]; first | done | kernel_rfl) ?_))
  (with_reducible refine (sign_lit _ key p (Pk.zero) false rfl HP.out.2.1 HP.out.2.2 HP.out.1 HQ.out.2.1 HQ.out.2.2.1 _).mono ?_)
  rintro e w1 ⟨rfl, hb1⟩
  have H1 : Hid (Touch (fun _ => False) wa w1) := Lib.hid (Touch.of_below hb1)
  clear hb1
  go_wp2_with (first
    | ((with_reducible refine at_op (.store 25 (.tmp 6) (.tmp 16)) rfl ?_); refine wpList_store_blk rfl 25 (.tmp 6) (.tmp 16) rfl w1.heap.size 25 _ (pkV (Pk.zero)) rfl rfl (Blk.new _ _ _) (by rw [pkV_size HQ.out.1]; first | done | kernel_rfl) (by rw [pkV_size HQ.out.1]; first | done | kernel_rfl) (pkV_one _) ?_; intro w2 hB ht hs; have H2 : Hid (Touch (fun _ => False) wa w2 ∧ Blk w2 w1.heap.size 25 (pkV (Pk.zero))) := Lib.hid (⟨H1.out.trans (touch_store ht), hB⟩); clear hB ht hs)
    | ((with_reducible refine at_op (.load 25 (.tmp 6)) rfl ?_); refine wpList_load_blk_g (by rfl) 25 (.tmp 6) rfl w1.heap.size 25 (pkV Pk.zero) _ rfl (H2.out.2) Try.underlying25 rfl (by rw [pkV_size zero_ok]; first | done | kernel_rfl) ?_)
    | ((with_reducible refine at_op (.binOp .eql 25 (.tmp 22) (.tmp 23) 25) rfl ?_); refine wpList_eql_g (by rfl) .eql 25 25 (.tmp 22) (.tmp 23) rfl (pkV Pk.zero) (pkV Pk.zero) rfl rfl (by kernel_rfl) _ (HEQ.out _) ?_)
    | ((with_reducible refine at_op (.load 22 (.tmp 2)) rfl ?_); refine wpList_load_blk_g (by rfl) 22 (.tmp 2) rfl w.heap.size 22 (bn key).toArray _ rfl (HA.out.2.1.touch H2.out.1 (fun h => h)) Try.underlying22 rfl (by rw [bn_size, HP.out.2.1]; first | done | kernel_rfl) ?_)
    | ((with_reducible refine at_op (.load 25 (.tmp 3)) rfl ?_); refine wpList_load_blk_g (by rfl) 25 (.tmp 3) rfl (w.heap.size + 1) 25 (pkV p) _ rfl (HA.out.2.2.touch H2.out.1 (fun h => h)) Try.underlying25 rfl (by rw [pkV_size HP.out.1]; first | done | kernel_rfl) ?_))
  (with_reducible refine (good_lit _ key p false rfl HP.out.2.1 HP.out.2.2 HP.out.1 HQ.out.2.2.2 _).mono ?_)
  rintro e w3 ⟨rfl, hb3⟩
  have H3 : Hid (Touch (fun _ => False) w w3 ∧ Blk w3 (w.heap.size + 1) 25 (pkV p)) := Lib.hid ⟨(HA.out.1.trans H2.out.1).trans (Touch.of_below hb3), (HA.out.2.2.touch H2.out.1 (fun h => h)).touch (Touch.of_below (S := fun _ => False) hb3) (fun h => h)⟩
  clear hb3
  have d0 : w3.cell? ⟨w.heap.size + 1, 0, none⟩ = some (.int .i64 k) := by rw [HKD.out.1]; exact H3.out.2.num HP.out.1 0 (by decide)
  go_wp2_with fail
  (with_reducible refine (tagged_any k _).mono ?_)
  rintro e _ ⟨rfl, rfl⟩
  rw [HKD.out.2]
  clear d0
  go_wp2_with ((with_reducible refine at_op (.load 25 (.tmp 3)) rfl ?_); refine wpList_load_blk_g (by rfl) 25 (.tmp 3) rfl (w.heap.size + 1) 25 (pkV p) _ rfl (H3.out.2) Try.underlying25 rfl (by rw [pkV_size HP.out.1]; first | done | kernel_rfl) ?_)
  (with_reducible refine (right_lit _ p false rfl HP.out.1 HRD.out _).mono ?_)
  rintro e w4 ⟨rfl, hb4⟩
  have H4 : Hid (Touch (fun _ => False) w w4) := Lib.hid (H3.out.1.trans (Touch.of_below hb4))
  clear hb4
  go_wp2_with fail
  go_ret
  exact ⟨by first | rfl | simp, H4.out.below (Nat.le_refl _) (fun _ _ h => h)⟩

theorem tagBack_walk (w : World) (key : List Nat) (hk : key.length = 16) (hkr : ∀ y ∈ key, y < 256) (p : Pk) (hp : p.Ok) :
    Calls Try.prog 16 #[.agg (bn key).toArray, .agg (pkV p)] w fun e w' => e = .returned (.bool true) ∧ Below w.heap.size w w' := by
  by_cases hM : MayN p
  · exact tagBack_yes w key hk hkr p hp hM
  · cases hT : taggedN p.kind with
    | false => exact tagBack_no0 w key hk hkr p hp hM hT
    | true => exact tagBack_no1 w key hk hkr p hp hM hT

/-! ### the row's step, and the row -/
theorem tagBack_own : ownKnob Try.prog.godebug = none := by kernel_rfl
theorem tagBack_laidOut : laidOutB Try.prog = true := by kernel_rfl

set_option linter.unusedVariables false in
set_option maxRecDepth 100000 in
theorem tagBack_lifted (os : Os) (started : os.Started) (H : Type) (enc : TypeId × Value → H) :
    ReturnsInHanded {} Try.checked os 16 .any (Rows.tagBackSpec.pre6 enc Try.prog Try.f16 Rows.tagBackRow.domain false) (Rows.tagBackSpec.post enc Try.prog Try.f16 false true false false) := by
  refine returnsInHanded_of_change (C := Try.checked) tagBack_own started (by kernel_rfl) Try.func16
    (ChangeSpec.witness6 (enc := enc) (C := Try.checked) false ⟨#[], #[.agg #[.int .u8 0, .int .u8 0, .int .u8 0, .int .u8 0, .int .u8 0, .int .u8 0, .int .u8 0, .int .u8 0, .int .u8 0, .int .u8 0, .int .u8 0, .int .u8 0, .int .u8 0, .int .u8 0, .int .u8 0, .int .u8 0], .agg #[.int .i64 0, .int .i64 0, .int .i64 0, .int .i64 0, .int .i64 0, .int .i64 0, .int .i64 0, .int .i64 0, .int .i64 0, .int .i64 0, .int .i64 0, .int .i64 0, .int .u8 0, .int .u8 0, .int .u8 0, .int .u8 0, .int .u8 0, .int .u8 0, .int .u8 0, .int .u8 0, .int .u8 0, .int .u8 0, .int .u8 0, .int .u8 0, .int .u8 0, .int .u8 0, .int .u8 0, .int .u8 0, .int .u8 0, .int .u8 0, .int .u8 0, .int .u8 0, .int .u8 0, .int .u8 0, .int .u8 0, .int .u8 0]], []⟩ 8 (by kernel_rfl) (by kernel_rfl) (by kernel_rfl) (by kernel_rfl)) ?_
  intro W base args ds gs before hval0 hW hcnd _
  have hval : ∀ (j : Nat) t v, Try.f16.params[j]? = some t → args[j]? = some v → Value.okWide Try.prog W .any base t v := hval0
  have hW' := hW
  obtain ⟨p, q, hA0, hV, rfl, hfz, hnd⟩ := hW
  have hA : DataW.TrodAll enc Try.prog W 0 (fun _ => true) true Try.f16.params.toList args.toList ds p := hA0
  rw [Try.params16] at hA hval
  obtain ⟨v0, vs0, d0, ds0, p0, q0, hargs, rfl, rfl, h0, r0⟩ := trodAll_cons hA
  obtain ⟨v1, vs1, d1, ds1, p1, q1, rfl, rfl, rfl, h1, r1⟩ := trodAll_cons r0
  obtain ⟨rfl, rfl, rfl⟩ := trodAll_nil r1
  obtain rfl : args = #[v0, v1] := by cases args; simp_all
  obtain ⟨rfl, rfl⟩ := trodVars_none hV
  have k0 := h0
  have lt0 : ∀ x ∈ p0, x.block < W.heap.size := by obtain ⟨m, hm⟩ := k0; exact DataW.trod_lt m _ _ _ hm
  have o0 := hval 0 22 v0 rfl rfl
  obtain ⟨a0, len0, lt80, rfl⟩ := array_of Try.underlying22 Try.underlying5 (by kernel_rfl) (by kernel_rfl) o0 h0
  have k1 := h1
  have lt1 : ∀ x ∈ p1, x.block < W.heap.size := by obtain ⟨m, hm⟩ := k1; exact DataW.trod_lt m _ _ _ hm
  have o1 := hval 1 25 v1 rfl rfl
  obtain ⟨a1, ok1, rfl⟩ := pk_of o1 h1
  clear hA0 hval0
  refine (tagBack_walk W a0 len0 lt80 a1 ok1).mono fun e W' ⟨he, bel⟩ => ?_
  subst he
  exact ⟨_, rfl, _, _, _, [], _, [], hW', trodAll_mk1 (shut_bool Try.underlying4 _), (trodAll_cons_mk (Below.trod tagBack_laidOut (by kernel_rfl) (of_decide_eq_true (by kernel_rfl)) k0 bel lt0) (trodAll_cons_mk (Below.trod tagBack_laidOut (by kernel_rfl) (of_decide_eq_true (by kernel_rfl)) k1 bel lt1) trodAll_mk0)), rfl, bel.frame _, fun h => by cases h⟩

theorem tagBack_over : Rows.tagBackRow.holds Try.pinned (OpenSpec.ofChange Rows.tagBackSpec) :=
  OpenClaim.holds_of_wide 16 Try.f16 rfl rfl rfl rfl rfl rfl rfl ⟨rfl, rfl, rfl, rfl, rfl⟩ rfl rfl rfl rfl rfl (by kernel_rfl) Try.func16 (by kernel_rfl)
    (of_decide_eq_true (by kernel_rfl)) (by unfold Func.isWrapper; first | (rw [if_pos (by decide +kernel)]; kernel_rfl) | (rw [if_neg (by decide +kernel)]; exact ⟨rfl, rfl⟩))
    (fun os started H enc _ => tagBack_lifted os started H enc)

/-- THE STATEMENT. -/
theorem tagBack_proved : Rows.TagBackSaid := tagBack_over
#print axioms tagBack_proved
end Go.Proofs.Ythlkmofemnepbaa
