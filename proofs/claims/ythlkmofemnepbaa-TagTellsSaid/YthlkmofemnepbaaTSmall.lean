/-
  THE WALK of the laws' small (layer 7).
-/
import Derived.Test.YthlkmofemnepbaaRows
import Derived.Test.YthlkmofemnepbaaGood
import Derived.Test.YthlkmofemnepbaaRKey
import Derived.Test.YthlkmofemnepbaaSlices
namespace Go.Proofs.Ythlkmofemnepbaa
open Go.RowKit

set_option maxRecDepth 100000 in
theorem sign_lit (V : Array Value) (key : List Nat) (p q : Pk) (b : Bool) (hV : V = pkV p) (hk : key.length = 16) (hkr : ∀ y ∈ key, y < 256) (hp : p.Ok) (hq : signN key p = q) (hb : decide (MayN p) = b) (w : World) :
    Calls Try.prog 35 #[.agg (bn key).toArray, .agg V] w fun e w' => e = .returned (.tuple #[.agg (pkV q), .bool b]) ∧ Below w.heap.size w w' := by
  subst hV hq hb
  exact sign_any key hk hkr p hp w
set_option maxRecDepth 100000 in
theorem good_lit (V : Array Value) (key : List Nat) (p : Pk) (b : Bool) (hV : V = pkV p) (hk : key.length = 16) (hkr : ∀ y ∈ key, y < 256) (hp : p.Ok) (hb : decide (GoodN key p) = b) (w : World) :
    Calls Try.prog 39 #[.agg (bn key).toArray, .agg V] w fun e w' => e = .returned (.bool b) ∧ Below w.heap.size w w' := by
  subst hV hb
  exact good_any key hk hkr p hp w

theorem touch_mark (w : World) (C : Array Value) (e : TypeId) (fr : Nat × Nat) : Touch (fun k => k = w.heap.size) (w.alloc (.cells C e)) (w.alloc (.cells C e fr)) :=
  ⟨rfl, rfl, rfl, by simp, fun k hk hne => by
    have hk2 : k < w.heap.size := by
      simp at hk
      omega
    rw [heap_alloc_old w _ hk2, heap_alloc_old w _ hk2]⟩

set_option maxRecDepth 100000 in
theorem run_eql16k (w : World) (M : List Nat) (h1 : M.length = 16) (h3 : ∀ y ∈ M, y < 256) : (binOp .eql 22 (.agg (bn M).toArray) (.agg (bn M).toArray)).run Try.prog w = .ok (.bool true) w := by
  obtain ⟨i0, hi, hz0, hz1, hz2⟩ := info_parts Try.info5
  have h := run_eql_bn (P := Try.prog) w 22 5 16 Try.underlying22 Try.underlying5 (fun w => by rw [run_sizeOf w hi]; rfl) M M h1 h1 h3 h3
  rw [h]
  simp

theorem xor_one (y : Nat) (hy : y < 256) : ∃ y' : Nat, bits .xor .u8 (y : Int) 1 = (y' : Int) ∧ y' < 256 ∧ y' ≠ y := by
  have h : ∀ y : Fin 256, bits .xor .u8 ((y.val : Nat) : Int) 1 = ((y.val ^^^ 1 : Nat) : Int) ∧ (y.val ^^^ 1) < 256 ∧ (y.val ^^^ 1) ≠ y.val := by decide +kernel
  exact ⟨y ^^^ 1, h ⟨y, hy⟩⟩

theorem pkV_setTag {p : Pk} (h : p.Ok) (y : Nat) : (pkV p).setIfInBounds 35 (.int .u8 (y : Int)) = pkV { p with tag := p.tag.set 7 y } := by
  unfold pkV Pk.cells
  rw [List.setIfInBounds_toArray, List.set_append_right _ _ (by simp [h.hn]), List.set_append_right _ _ (by simp [h.hn, bn_len, h.hs])]
  congr 2
  congr 1
  simp [h.hn, h.hs, bn, bys, natsD, List.map_set]

set_option linter.unusedSimpArgs false in
set_option maxRecDepth 100000 in
set_option maxHeartbeats 8000000 in
theorem tagSmall_any (w : World) : Calls Try.prog 34 #[] w fun e w' => e = .returned (.bool true) ∧ Below w.heap.size w w' := by
  have kc1 := run_const1 (P := Try.prog) 26 5 Try.underlying26 Try.underlying5
  have kc := fun (w : World) (C : Array Value) (n c : Nat) => Lib.run_convert_bytes_const (P := Try.prog) w 26 5 C n c Try.underlying26 Try.underlying5
  obtain ⟨KY, hK⟩ : ∃ KY, KY = keyN [115] 3 7 := ⟨_, rfl⟩
  have HKL : Hid (KY.length = 16 ∧ (∀ y ∈ KY, y < 256) ∧ (bn KY).toArray.size = 16 ∧ (bn KY).toArray.all (·.oneCell') = true) := Lib.hid ⟨by rw [hK]; exact keyN_len _ _ _, by rw [hK]; exact keyN_lt _ _ _, by rw [bn_size, hK]; exact keyN_len _ _ _, bn_all KY⟩
  obtain ⟨p1, hp1⟩ : ∃ p1 : Pk, p1 = (⟨[5, 3, 1, 0, 0, 0, 0, 0, 0, 0, 0, 0], List.replicate 16 0, List.replicate 8 0⟩ : Pk) := ⟨_, rfl⟩
  have hm1 : MayN p1 := by rw [hp1]; decide +kernel
  have hp1o : p1.Ok := by rw [hp1]; exact pk_zero_ok _ rfl
  obtain ⟨q1, hq1⟩ : ∃ q1 : Pk, q1 = { p1 with tag := tagOf KY p1 } := ⟨_, rfl⟩
  have hq1o : q1.Ok := by rw [hq1]; exact hp1o.setTag (tagOf_len _ _) (tagOf_lt _ _)
  have hs1 : signN KY p1 = q1 := by unfold signN; rw [if_pos hm1, hq1]
  obtain ⟨y, hy⟩ : ∃ y, q1.tag[7]? = some y := ⟨_, List.getElem?_eq_getElem (by have := hq1o.ht; omega)⟩
  obtain ⟨y', hx1, hx2, hx3⟩ := xor_one y (hq1o.rt y (List.mem_of_getElem? hy))
  obtain ⟨q2, hq2⟩ : ∃ q2 : Pk, q2 = { q1 with tag := q1.tag.set 7 y' } := ⟨_, rfl⟩
  have hq2o : q2.Ok := by
    rw [hq2]
    refine hq1o.setTag (by rw [List.length_set]; exact hq1o.ht) (fun z hz => ?_)
    rcases List.mem_or_eq_of_mem_set hz with h | h
    · exact hq1o.rt z h
    · rw [h]; exact hx2
  have hg1 : decide (GoodN KY q1) = true := decide_eq_true (by rw [hq1]; exact ⟨hm1, rfl⟩)
  have hg2 : decide (GoodN KY q2) = false := decide_eq_false (fun h => by
    have h2 := h.2
    rw [hq2] at h2
    have h3 : tagOf KY q1 = q1.tag := by rw [hq1]; rfl
    have h4 : q1.tag = q1.tag.set 7 y' := h3.symm.trans h2
    have h5 := congrArg (fun l => l[7]?) h4
    simp only [hy] at h5
    rw [List.getElem?_set_self (by have := hq1o.ht; omega)] at h5
    exact hx3 (Option.some.inj h5).symm)
  have hseq : q1.n.getD 2 0 = 1 := by rw [hq1, hp1]; rfl
  have HP1 : Hid (p1 = (⟨[5, 3, 1, 0, 0, 0, 0, 0, 0, 0, 0, 0], List.replicate 16 0, List.replicate 8 0⟩ : Pk) ∧ p1.Ok ∧ decide (MayN p1) = true ∧ signN KY p1 = q1) := Lib.hid ⟨hp1, hp1o, decide_eq_true hm1, hs1⟩
  have HQ1 : Hid (q1.Ok ∧ decide (GoodN KY q1) = true ∧ q1.n.getD 2 0 = 1) := Lib.hid ⟨hq1o, hg1, hseq⟩
  have HQ2 : Hid (q2.Ok ∧ decide (GoodN KY q2) = false ∧ q2 = { q1 with tag := q1.tag.set 7 y' }) := Lib.hid ⟨hq2o, hg2, hq2⟩
  have HY : Hid (q1.tag[7]? = some y) := Lib.hid hy
  have HK := Lib.hid hK
  have HS2 : Hid (signN KY (⟨[1, 0, 0, 0, 0, 0, 0, 0, 0, 0, 0, 0], List.replicate 16 0, List.replicate 8 0⟩ : Pk) = Pk.zero ∧ decide (MayN (⟨[1, 0, 0, 0, 0, 0, 0, 0, 0, 0, 0, 0], List.replicate 16 0, List.replicate 8 0⟩ : Pk)) = false ∧ decide (GoodN KY (⟨[1, 0, 0, 0, 0, 0, 0, 0, 0, 0, 0, 0], List.replicate 16 0, List.replicate 8 0⟩ : Pk)) = false) := Lib.hid (by
    have h : ¬ MayN (⟨[1, 0, 0, 0, 0, 0, 0, 0, 0, 0, 0, 0], List.replicate 16 0, List.replicate 8 0⟩ : Pk) := by decide +kernel
    exact ⟨by unfold signN; rw [if_neg h], decide_eq_false h, decide_eq_false (fun e => h e.1)⟩)
  have HS3 : Hid (signN KY (⟨[5, 3, 0, 0, 0, 0, 0, 0, 0, 0, 0, 0], List.replicate 16 0, List.replicate 8 0⟩ : Pk) = Pk.zero ∧ decide (MayN (⟨[5, 3, 0, 0, 0, 0, 0, 0, 0, 0, 0, 0], List.replicate 16 0, List.replicate 8 0⟩ : Pk)) = false) := Lib.hid (by
    have h : ¬ MayN (⟨[5, 3, 0, 0, 0, 0, 0, 0, 0, 0, 0, 0], List.replicate 16 0, List.replicate 8 0⟩ : Pk) := by decide +kernel
    exact ⟨by unfold signN; rw [if_neg h], decide_eq_false h⟩)
  have e16 : ∀ w, (binOp .eql 22 (.agg (bn KY).toArray) (.agg (bn KY).toArray)).run Try.prog w = .ok (.bool true) w := fun w => run_eql16k w KY HKL.out.1 HKL.out.2.1
  clear hp1 hm1 hp1o hq1 hq1o hs1 hy hx2 hx3 hq2 hq2o hg1 hg2 hseq hK
  go_enter Try.func34, Try.ntmps34
  go_wp2_with fail
  (with_reducible refine (key_any (some ⟨w.heap.size, 0, none⟩) 1 1 [115] 3 7 _ rfl (SlAt.new_at rfl #[.int .u8 115] _ _) (fun h => by cases h) (by decide) (by decide)).mono ?_)
  rintro e w1 ⟨rfl, hb1⟩
  rw [← HK.out]
  have H1 : Hid (Touch (fun _ => False) w w1) := Lib.hid (touch_alloc hb1)
  clear hb1
  go_wp2_with (first
    | (refine wpList_store_blk rfl 22 (.tmp 1) (.tmp 11) rfl w1.heap.size 22 _ (bn KY).toArray rfl rfl (Blk.new _ _ _) (by rw [HKL.out.2.2.1]; first | done | kernel_rfl) (by rw [HKL.out.2.2.1]; first | done | kernel_rfl) HKL.out.2.2.2 ?_; intro w2 hB ht hs; have H2 : Hid (Touch (fun _ => False) w w2 ∧ Blk w2 w1.heap.size 22 (bn KY).toArray) := Lib.hid ⟨H1.out.trans (touch_store ht), hB⟩; clear hB ht hs)
    | ((with_reducible refine at_op (.load 22 (.tmp 1)) rfl ?_); refine wpList_load_blk rfl 22 (.tmp 1) rfl w1.heap.size 22 (bn KY).toArray _ rfl (H2.out.2) Try.underlying22 rfl (by rw [HKL.out.2.2.1]; first | done | kernel_rfl) ?_))
  (with_reducible refine (sign_lit _ KY p1 q1 true (by rw [HP1.out.1]; kernel_rfl) HKL.out.1 HKL.out.2.1 HP1.out.2.1 HP1.out.2.2.2 HP1.out.2.2.1 _).mono ?_)
  rintro e w3 ⟨rfl, hb3⟩
  have H3 : Hid (Touch (fun _ => False) w2 w3) := Lib.hid (Touch.of_below hb3)
  clear hb3
  go_wp2_with (first
    | ((with_reducible refine at_op (.store 25 (.tmp 2) (.tmp 16)) rfl ?_); refine wpList_store_blk rfl 25 (.tmp 2) (.tmp 16) rfl w3.heap.size 25 _ (pkV q1) rfl rfl (Blk.new _ _ _) (by rw [pkV_size HQ1.out.1]; first | done | kernel_rfl) (by rw [pkV_size HQ1.out.1]; first | done | kernel_rfl) (pkV_one _) ?_; intro w4 hB ht hs; have H4 : Hid (Touch (fun _ => False) w2 w4 ∧ Blk w4 w3.heap.size 25 (pkV q1)) := Lib.hid (⟨H3.out.trans (touch_store ht), hB⟩); clear hB ht hs)
    | ((with_reducible refine at_op (.load 22 (.tmp 1)) rfl ?_); refine wpList_load_blk rfl 22 (.tmp 1) rfl w1.heap.size 22 (bn KY).toArray _ rfl (H2.out.2.touch H4.out.1 (fun h => h)) Try.underlying22 rfl (by rw [HKL.out.2.2.1]; first | done | kernel_rfl) ?_))
  (with_reducible refine (sign_lit _ KY (⟨[1, 0, 0, 0, 0, 0, 0, 0, 0, 0, 0, 0], List.replicate 16 0, List.replicate 8 0⟩ : Pk) Pk.zero false (by kernel_rfl) HKL.out.1 HKL.out.2.1 (pk_zero_ok _ rfl) HS2.out.1 HS2.out.2.1 _).mono ?_)
  rintro e w5 ⟨rfl, hb5⟩
  have H5 : Hid (Touch (fun _ => False) w4 w5) := Lib.hid (Touch.of_below hb5)
  clear hb5
  go_wp2_with (first
    | ((with_reducible refine at_op (.store 25 (.tmp 4) (.tmp 22)) rfl ?_); refine wpList_store_blk rfl 25 (.tmp 4) (.tmp 22) rfl w5.heap.size 25 _ (pkV Pk.zero) rfl rfl (Blk.new _ _ _) (by rw [pkV_size zero_ok]; first | done | kernel_rfl) (by rw [pkV_size zero_ok]; first | done | kernel_rfl) (pkV_one _) ?_; intro w6 hB ht hs; have H6 : Hid (Touch (fun _ => False) w4 w6) := Lib.hid (H5.out.trans (touch_store ht)); clear hB ht hs)
    | ((with_reducible refine at_op (.load 22 (.tmp 1)) rfl ?_); refine wpList_load_blk rfl 22 (.tmp 1) rfl w1.heap.size 22 (bn KY).toArray _ rfl (H2.out.2.touch (H4.out.1.trans H6.out) (fun h => h)) Try.underlying22 rfl (by rw [HKL.out.2.2.1]; first | done | kernel_rfl) ?_))
  (with_reducible refine (sign_lit _ KY (⟨[5, 3, 0, 0, 0, 0, 0, 0, 0, 0, 0, 0], List.replicate 16 0, List.replicate 8 0⟩ : Pk) Pk.zero false (by kernel_rfl) HKL.out.1 HKL.out.2.1 (pk_zero_ok _ rfl) HS3.out.1 HS3.out.2 _).mono ?_)
  rintro e w7 ⟨rfl, hb7⟩
  have H7 : Hid (Touch (fun _ => False) w4 w7) := Lib.hid (H6.out.trans (Touch.of_below hb7))
  clear hb7
  go_wp2_with (first
    | ((with_reducible refine at_op (.store 25 (.tmp 6) (.tmp 28)) rfl ?_); refine wpList_store_blk rfl 25 (.tmp 6) (.tmp 28) rfl w7.heap.size 25 _ (pkV Pk.zero) rfl rfl (Blk.new _ _ _) (by rw [pkV_size zero_ok]; first | done | kernel_rfl) (by rw [pkV_size zero_ok]; first | done | kernel_rfl) (pkV_one _) ?_; intro w8 hB ht hs; have H8 : Hid (Touch (fun _ => False) w4 w8) := Lib.hid (H7.out.trans (touch_store ht)); clear hB ht hs)
    | ((with_reducible refine at_op (.load 25 (.tmp 2)) rfl ?_); refine wpList_load_blk rfl 25 (.tmp 2) rfl w3.heap.size 25 (pkV q1) _ rfl (H4.out.2.touch H8.out (fun h => h)) Try.underlying25 rfl (by rw [pkV_size HQ1.out.1]; first | done | kernel_rfl) ?_)
    | ((with_reducible refine at_op (.store 25 (.tmp 8) (.tmp 30)) rfl ?_); refine wpList_store_blk rfl 25 (.tmp 8) (.tmp 30) rfl w8.heap.size 25 _ (pkV q1) rfl rfl (Blk.new _ _ _) (by rw [pkV_size HQ1.out.1]; first | done | kernel_rfl) (by rw [pkV_size HQ1.out.1]; first | done | kernel_rfl) (pkV_one _) ?_; intro w9 hB ht hs; have H9 : Hid (Touch (fun _ => False) w4 w9 ∧ Blk w9 w8.heap.size 25 (pkV q1)) := Lib.hid (⟨H8.out.trans (touch_store ht), hB⟩); clear hB ht hs; have c35 : w9.cell? ⟨w8.heap.size, 35, none⟩ = some (.int .u8 (y : Int)) := (H9.out.2.tag HQ1.out.1) 7 _ (by simp [bn, bys, natsD, HY.out]); have f35 : w9.frozen? ⟨w8.heap.size, 35, none⟩ = false := Blk.frozen H9.out.2 35))
  obtain ⟨wq, hwq⟩ : ∃ wq, wq = w9.setCell ⟨w8.heap.size, 35, none⟩ (.int .u8 (y' : Int)) := ⟨_, rfl⟩
  rw [← hwq]
  have HR : Hid (Blk wq w1.heap.size 22 (bn KY).toArray ∧ Blk wq w3.heap.size 25 (pkV q1) ∧ Blk wq w8.heap.size 25 (pkV q2) ∧ Touch (fun _ => False) w wq) := Lib.hid (by
    have tq : Touch (fun k => k = w8.heap.size) w9 wq := by
      rw [hwq]
      exact Touch.setCell (S := fun k => k = w8.heap.size) (Touch.refl _ _) (p := ⟨w8.heap.size, 35, none⟩) (fun _ => rfl) _
    have s1 := H2.out.2.lt
    have s2 := H4.out.1.size
    have s3 := H4.out.2.lt
    have s4 := H8.out.size
    have s5 := H2.out.1.size
    refine ⟨(H2.out.2.touch (H4.out.1.trans H9.out.1) (fun h => h)).touch tq (by omega), (H4.out.2.touch H9.out.1 (fun h => h)).touch tq (by omega), ?_, Touch.then (H2.out.1.trans (H4.out.1.trans H9.out.1)) tq (fun i hi e => by omega)⟩
    rw [hwq, HQ2.out.2.2, ← pkV_setTag HQ1.out.1]
    exact H9.out.2.set 35 _)
  clear hwq c35 f35 hx1
  refine wp_region_held_drew (S := fun w' : World => TG wq w') (by kernel_rfl) ((TG.refl wq).drew) (fun hHeld => ?_)
  refine anyH_world (R := fun w' : World => TG wq w') hHeld ?_
  clear hHeld
  intro W0q hHeld
  refine region_take 0 (v := ?vq0_1) rfl rfl (by kernel_rfl) (by kernel_rfl) (by kernel_rfl) (fun _ _ _ h => h) hHeld (Or.inl ⟨by rfl, ?yq0_1⟩) ?rq0_1
  case yq0_1 => (intro w hSw; refine (yields_load_blk 22 (.tmp 1) rfl w1.heap.size 22 (bn KY).toArray _ rfl (HR.out.1.tg hSw) Try.underlying22 rfl (by rw [HKL.out.2.2.1]; first | done | kernel_rfl)).trans ?_; with_reducible rfl)
  try simp only [Act.put, List.setIfInBounds_toArray, List.set_cons_zero, List.set_cons_succ]
  refine region_one 1 (by kernel_rfl) rfl (fun K hK => ?_)
  go_simp
  have HXS := Lib.hid ((hHeld).size)
  refine K_world (fun w' : World => w' = W0q.alloc (.cells #[.int .u8 115] 5)) rfl ?_
  intro uq_2 hx
  have HXE := Lib.hid hx
  clear hx
  have ht := (show Touch (fun _ => False) W0q uq_2 by rw [HXE.out]; exact (Touch.refl _ _).alloc _)
  refine hK.out _ _ (((hHeld).still ht)) (fun hHeld2 => ?_)
  clear hK K hHeld ht
  have hHeld := hHeld2
  clear hHeld2
  try simp only [Act.put, List.setIfInBounds_toArray, List.set_cons_zero, List.set_cons_succ]
  refine region_one 2 (by kernel_rfl) rfl (fun K hK => ?_)
  have HTM : Hid (Touch (fun k => k = W0q.heap.size) uq_2 (W0q.alloc (.cells #[.int .u8 115] 5 (1, 2)))) := Lib.hid (by rw [HXE.out]; exact touch_mark _ _ _ _)
  obtain ⟨wm, hwm⟩ : ∃ wm, wm = uq_2 := ⟨_, rfl⟩
  rw [← hwm] at HTM hHeld
  clear hwm
  rw [HXE.out]
  go_simp
  refine K_world (fun w' : World => Touch (fun k => k = W0q.heap.size) wm w' ∧ SlAt w' (some ⟨W0q.heap.size, 0, none⟩) (bn [115])) ⟨HTM.out, SlAt.new_at rfl #[.int .u8 115] _ _⟩ ?_
  intro uq_3 hx
  have HXL := Lib.hid hx.2
  have ht := hx.1
  refine hK.out _ _ (((hHeld).next ht (fun i hi => hi ▸ HXS.out))) (fun hHeld2 => ?_)
  clear hK K hHeld ht
  have hHeld := hHeld2
  clear hHeld2
  try simp only [Act.put, List.setIfInBounds_toArray, List.set_cons_zero, List.set_cons_succ]
  refine region_one 3 (by kernel_rfl) rfl (fun K hK => ?_)
  go_simp
  go_at_call 38
  (with_reducible refine (refKey_any (some ⟨W0q.heap.size, 0, none⟩) 1 1 [115] 3 7 _ rfl HXL.out (fun h => by cases h) (by decide) (by decide)).mono ?_)
  rintro e uq_4 ⟨rfl, hb8⟩
  rw [← HK.out]
  have ht := Touch.of_below (S := fun _ => False) hb8
  refine hK.out _ _ (((hHeld).still ht)) (fun hHeld2 => ?_)
  clear hK K hHeld ht
  have hHeld := hHeld2
  clear hHeld2
  try simp only [Act.put, List.setIfInBounds_toArray, List.set_cons_zero, List.set_cons_succ]
  refine region_take 4 (v := ?vq4_5) rfl rfl (by kernel_rfl) (by kernel_rfl) (by kernel_rfl) (fun _ _ _ h => h) hHeld (Or.inl ⟨by rfl, ?yq4_5⟩) ?rq4_5
  case yq4_5 => (intro w hSw; (try dsimp only at hSw); go_simp; try with_reducible rfl)
  try simp only [Act.put, List.setIfInBounds_toArray, List.set_cons_zero, List.set_cons_succ]
  refine region_take 5 (v := ?vq5_6) rfl rfl (by kernel_rfl) (by kernel_rfl) (by kernel_rfl) (fun _ _ _ h => h) hHeld (Or.inl ⟨by rfl, ?yq5_6⟩) ?rq5_6
  case yq5_6 => (intro w hSw; (try dsimp only at hSw); go_simp; try with_reducible rfl)
  try simp only [Act.put, List.setIfInBounds_toArray, List.set_cons_zero, List.set_cons_succ]
  refine region_take 6 (v := ?vq6_7) rfl rfl (by kernel_rfl) (by kernel_rfl) (by kernel_rfl) (fun _ _ _ h => h) hHeld (Or.inl ⟨by rfl, ?yq6_7⟩) ?rq6_7
  case yq6_7 => (intro w hSw; (try dsimp only at hSw); go_simp; try with_reducible rfl)
  try simp only [Act.put, List.setIfInBounds_toArray, List.set_cons_zero, List.set_cons_succ]
  refine region_take 7 (v := ?vq7_8) rfl rfl (by kernel_rfl) (by kernel_rfl) (by kernel_rfl) (fun _ _ _ h => h) hHeld (Or.inl ⟨by rfl, ?yq7_8⟩) ?rq7_8
  case yq7_8 => (intro w hSw; (try dsimp only at hSw); go_simp; try with_reducible rfl)
  try simp only [Act.put, List.setIfInBounds_toArray, List.set_cons_zero, List.set_cons_succ]
  refine region_take 8 (v := ?vq8_9) rfl rfl (by kernel_rfl) (by kernel_rfl) (by kernel_rfl) (fun _ _ _ h => h) hHeld (Or.inl ⟨by rfl, ?yq8_9⟩) ?rq8_9
  case yq8_9 => (intro w hSw; (try dsimp only at hSw); go_simp; try with_reducible rfl)
  try simp only [Act.put, List.setIfInBounds_toArray, List.set_cons_zero, List.set_cons_succ]
  refine region_take 9 (v := ?vq9_10) rfl rfl (by kernel_rfl) (by kernel_rfl) (by kernel_rfl) (fun _ _ _ h => h) hHeld (Or.inl ⟨by rfl, ?yq9_10⟩) ?rq9_10
  case yq9_10 => (intro w hSw; (try dsimp only at hSw); go_simp; try with_reducible rfl)
  try simp only [Act.put, List.setIfInBounds_toArray, List.set_cons_zero, List.set_cons_succ]
  refine region_take 10 (v := ?vq10_11) rfl rfl (by kernel_rfl) (by kernel_rfl) (by kernel_rfl) (fun _ _ _ h => h) hHeld (Or.inl ⟨by rfl, ?yq10_11⟩) ?rq10_11
  case yq10_11 => (intro w hSw; (try dsimp only at hSw); go_simp; try with_reducible rfl)
  try simp only [Act.put, List.setIfInBounds_toArray, List.set_cons_zero, List.set_cons_succ]
  refine region_take 11 (v := ?vq11_12) rfl rfl (by kernel_rfl) (by kernel_rfl) (by kernel_rfl) (fun _ _ _ h => h) hHeld (Or.inl ⟨by rfl, ?yq11_12⟩) ?rq11_12
  case yq11_12 => (intro w hSw; (try dsimp only at hSw); go_simp; try with_reducible rfl)
  try simp only [Act.put, List.setIfInBounds_toArray, List.set_cons_zero, List.set_cons_succ]
  refine region_take 12 (v := ?vq12_13) rfl rfl (by kernel_rfl) (by kernel_rfl) (by kernel_rfl) (fun _ _ _ h => h) hHeld (Or.inl ⟨by rfl, ?yq12_13⟩) ?rq12_13
  case yq12_13 => (intro w hSw; (try dsimp only at hSw); go_simp; try with_reducible rfl)
  try simp only [Act.put, List.setIfInBounds_toArray, List.set_cons_zero, List.set_cons_succ]
  refine region_take 13 (v := ?vq13_14) rfl rfl (by kernel_rfl) (by kernel_rfl) (by kernel_rfl) (fun _ _ _ h => h) hHeld (Or.inl ⟨by rfl, ?yq13_14⟩) ?rq13_14
  case yq13_14 => (intro w hSw; (try dsimp only at hSw); go_simp; try with_reducible rfl)
  try simp only [Act.put, List.setIfInBounds_toArray, List.set_cons_zero, List.set_cons_succ]
  refine region_take 14 (v := ?vq14_15) rfl rfl (by kernel_rfl) (by kernel_rfl) (by kernel_rfl) (fun _ _ _ h => h) hHeld (Or.inl ⟨by rfl, ?yq14_15⟩) ?rq14_15
  case yq14_15 => (intro w hSw; (try dsimp only at hSw); go_simp; try with_reducible rfl)
  try simp only [Act.put, List.setIfInBounds_toArray, List.set_cons_zero, List.set_cons_succ]
  refine region_take 15 (v := ?vq15_16) rfl rfl (by kernel_rfl) (by kernel_rfl) (by kernel_rfl) (fun _ _ _ h => h) hHeld (Or.inl ⟨by rfl, ?yq15_16⟩) ?rq15_16
  case yq15_16 => (intro w hSw; (try dsimp only at hSw); go_simp; try with_reducible rfl)
  try simp only [Act.put, List.setIfInBounds_toArray, List.set_cons_zero, List.set_cons_succ]
  refine region_take 16 (v := ?vq16_17) rfl rfl (by kernel_rfl) (by kernel_rfl) (by kernel_rfl) (fun _ _ _ h => h) hHeld (Or.inl ⟨by rfl, ?yq16_17⟩) ?rq16_17
  case yq16_17 => (intro w hSw; (try dsimp only at hSw); go_simp; try with_reducible rfl)
  try simp only [Act.put, List.setIfInBounds_toArray, List.set_cons_zero, List.set_cons_succ]
  refine region_take 17 (v := ?vq17_18) rfl rfl (by kernel_rfl) (by kernel_rfl) (by kernel_rfl) (fun _ _ _ h => h) hHeld (Or.inl ⟨by rfl, ?yq17_18⟩) ?rq17_18
  case yq17_18 => (intro w hSw; (try dsimp only at hSw); go_simp; try with_reducible rfl)
  try simp only [Act.put, List.setIfInBounds_toArray, List.set_cons_zero, List.set_cons_succ]
  refine region_take 18 (v := ?vq18_19) rfl rfl (by kernel_rfl) (by kernel_rfl) (by kernel_rfl) (fun _ _ _ h => h) hHeld (Or.inl ⟨by rfl, ?yq18_19⟩) ?rq18_19
  case yq18_19 => (intro w hSw; have d := (HR.out.2.1.tg hSw).num HQ1.out.1 2 (by decide); rw [HQ1.out.2.2] at d; go_simp; try with_reducible rfl)
  try simp only [Act.put, List.setIfInBounds_toArray, List.set_cons_zero, List.set_cons_succ]
  refine region_take 19 (v := ?vq19_20) rfl rfl (by kernel_rfl) (by kernel_rfl) (by kernel_rfl) (fun _ _ _ h => h) hHeld (Or.inl ⟨by rfl, ?yq19_20⟩) ?rq19_20
  case yq19_20 => (intro w hSw; (try dsimp only at hSw); go_simp; try with_reducible rfl)
  try simp only [Act.put, List.setIfInBounds_toArray, List.set_cons_zero, List.set_cons_succ]
  refine region_take 20 (v := ?vq20_21) rfl rfl (by kernel_rfl) (by kernel_rfl) (by kernel_rfl) (fun _ _ _ h => h) hHeld (Or.inl ⟨by rfl, ?yq20_21⟩) ?rq20_21
  case yq20_21 => (intro w hSw; (try dsimp only at hSw); go_simp; try with_reducible rfl)
  try simp only [Act.put, List.setIfInBounds_toArray, List.set_cons_zero, List.set_cons_succ]
  refine region_take 21 (v := ?vq21_22) rfl rfl (by kernel_rfl) (by kernel_rfl) (by kernel_rfl) (fun _ _ _ h => h) hHeld (Or.inl ⟨by rfl, ?yq21_22⟩) ?rq21_22
  case yq21_22 => (intro w hSw; (try dsimp only at hSw); go_simp; try with_reducible rfl)
  try simp only [Act.put, List.setIfInBounds_toArray, List.set_cons_zero, List.set_cons_succ]
  refine region_take 22 (v := ?vq22_23) rfl rfl (by kernel_rfl) (by kernel_rfl) (by kernel_rfl) (fun _ _ _ h => h) hHeld (Or.inl ⟨by rfl, ?yq22_23⟩) ?rq22_23
  case yq22_23 => (intro w hSw; refine (yields_load_blk 22 (.tmp 1) rfl w1.heap.size 22 (bn KY).toArray _ rfl (HR.out.1.tg hSw) Try.underlying22 rfl (by rw [HKL.out.2.2.1]; first | done | kernel_rfl)).trans ?_; with_reducible rfl)
  try simp only [Act.put, List.setIfInBounds_toArray, List.set_cons_zero, List.set_cons_succ]
  refine region_take 23 (v := ?vq23_24) rfl rfl (by kernel_rfl) (by kernel_rfl) (by kernel_rfl) (fun _ _ _ h => h) hHeld (Or.inl ⟨by rfl, ?yq23_24⟩) ?rq23_24
  case yq23_24 => (intro w hSw; refine (yields_load_blk 25 (.tmp 2) rfl w3.heap.size 25 (pkV q1) _ rfl (HR.out.2.1.tg hSw) Try.underlying25 rfl (by rw [pkV_size HQ1.out.1]; first | done | kernel_rfl)).trans ?_; with_reducible rfl)
  try simp only [Act.put, List.setIfInBounds_toArray, List.set_cons_zero, List.set_cons_succ]
  refine region_one 24 (by kernel_rfl) rfl (fun K hK => ?_)
  go_simp
  go_at_call 39
  (with_reducible refine (good_lit _ KY q1 true rfl HKL.out.1 HKL.out.2.1 HQ1.out.1 HQ1.out.2.1 _).mono ?_)
  rintro e uq_25 ⟨rfl, hb8⟩
  have ht := Touch.of_below (S := fun _ => False) hb8
  refine hK.out _ _ (((hHeld).still ht)) (fun hHeld2 => ?_)
  clear hK K hHeld ht
  have hHeld := hHeld2
  clear hHeld2
  try simp only [Act.put, List.setIfInBounds_toArray, List.set_cons_zero, List.set_cons_succ]
  refine region_take 25 (v := ?vq25_26) rfl rfl (by kernel_rfl) (by kernel_rfl) (by kernel_rfl) (fun _ _ _ h => h) hHeld (Or.inl ⟨by rfl, ?yq25_26⟩) ?rq25_26
  case yq25_26 => (intro w hSw; (try dsimp only at hSw); go_simp; try with_reducible rfl)
  try simp only [Act.put, List.setIfInBounds_toArray, List.set_cons_zero, List.set_cons_succ]
  refine region_take 26 (v := ?vq26_27) rfl rfl (by kernel_rfl) (by kernel_rfl) (by kernel_rfl) (fun _ _ _ h => h) hHeld (Or.inl ⟨by rfl, ?yq26_27⟩) ?rq26_27
  case yq26_27 => (intro w hSw; (try dsimp only at hSw); go_simp; try with_reducible rfl)
  try simp only [Act.put, List.setIfInBounds_toArray, List.set_cons_zero, List.set_cons_succ]
  refine region_take 27 (v := ?vq27_28) rfl rfl (by kernel_rfl) (by kernel_rfl) (by kernel_rfl) (fun _ _ _ h => h) hHeld (Or.inl ⟨by rfl, ?yq27_28⟩) ?rq27_28
  case yq27_28 => (intro w hSw; refine (yields_load_blk 22 (.tmp 1) rfl w1.heap.size 22 (bn KY).toArray _ rfl (HR.out.1.tg hSw) Try.underlying22 rfl (by rw [HKL.out.2.2.1]; first | done | kernel_rfl)).trans ?_; with_reducible rfl)
  try simp only [Act.put, List.setIfInBounds_toArray, List.set_cons_zero, List.set_cons_succ]
  refine region_take 28 (v := ?vq28_29) rfl rfl (by kernel_rfl) (by kernel_rfl) (by kernel_rfl) (fun _ _ _ h => h) hHeld (Or.inl ⟨by rfl, ?yq28_29⟩) ?rq28_29
  case yq28_29 => (intro w hSw; refine (yields_load_blk 25 (.tmp 8) rfl w8.heap.size 25 (pkV q2) _ rfl (HR.out.2.2.1.tg hSw) Try.underlying25 rfl (by rw [pkV_size HQ2.out.1]; first | done | kernel_rfl)).trans ?_; with_reducible rfl)
  try simp only [Act.put, List.setIfInBounds_toArray, List.set_cons_zero, List.set_cons_succ]
  refine region_one 29 (by kernel_rfl) rfl (fun K hK => ?_)
  go_simp
  go_at_call 39
  (with_reducible refine (good_lit _ KY q2 false rfl HKL.out.1 HKL.out.2.1 HQ2.out.1 HQ2.out.2.1 _).mono ?_)
  rintro e uq_30 ⟨rfl, hb8⟩
  have ht := Touch.of_below (S := fun _ => False) hb8
  refine hK.out _ _ (((hHeld).still ht)) (fun hHeld2 => ?_)
  clear hK K hHeld ht
  have hHeld := hHeld2
  clear hHeld2
  try simp only [Act.put, List.setIfInBounds_toArray, List.set_cons_zero, List.set_cons_succ]
  refine region_take 30 (v := ?vq30_31) rfl rfl (by kernel_rfl) (by kernel_rfl) (by kernel_rfl) (fun _ _ _ h => h) hHeld (Or.inl ⟨by rfl, ?yq30_31⟩) ?rq30_31
  case yq30_31 => (intro w hSw; (try dsimp only at hSw); go_simp; try with_reducible rfl)
  try simp only [Act.put, List.setIfInBounds_toArray, List.set_cons_zero, List.set_cons_succ]
  refine region_take 31 (v := ?vq31_32) rfl rfl (by kernel_rfl) (by kernel_rfl) (by kernel_rfl) (fun _ _ _ h => h) hHeld (Or.inl ⟨by rfl, ?yq31_32⟩) ?rq31_32
  case yq31_32 => (intro w hSw; (try dsimp only at hSw); go_simp; try with_reducible rfl)
  try simp only [Act.put, List.setIfInBounds_toArray, List.set_cons_zero, List.set_cons_succ]
  refine region_take 32 (v := ?vq32_33) rfl rfl (by kernel_rfl) (by kernel_rfl) (by kernel_rfl) (fun _ _ _ h => h) hHeld (Or.inl ⟨by rfl, ?yq32_33⟩) ?rq32_33
  case yq32_33 => (intro w hSw; (try dsimp only at hSw); go_simp; try with_reducible rfl)
  try simp only [Act.put, List.setIfInBounds_toArray, List.set_cons_zero, List.set_cons_succ]
  refine region_take 33 (v := ?vq33_34) rfl rfl (by kernel_rfl) (by kernel_rfl) (by kernel_rfl) (fun _ _ _ h => h) hHeld (Or.inl ⟨by rfl, ?yq33_34⟩) ?rq33_34
  case yq33_34 => (intro w hSw; refine (yields_load_blk 22 (.tmp 1) rfl w1.heap.size 22 (bn KY).toArray _ rfl (HR.out.1.tg hSw) Try.underlying22 rfl (by rw [HKL.out.2.2.1]; first | done | kernel_rfl)).trans ?_; with_reducible rfl)
  try simp only [Act.put, List.setIfInBounds_toArray, List.set_cons_zero, List.set_cons_succ]
  refine region_take 34 (v := ?vq34_35) rfl rfl (by kernel_rfl) (by kernel_rfl) (by kernel_rfl) (fun _ _ _ h => h) hHeld (Or.inl ⟨by rfl, ?yq34_35⟩) ?rq34_35
  case yq34_35 => (intro w hSw; (try dsimp only at hSw); go_simp; try with_reducible rfl)
  try simp only [Act.put, List.setIfInBounds_toArray, List.set_cons_zero, List.set_cons_succ]
  refine region_one 35 (by kernel_rfl) rfl (fun K hK => ?_)
  go_simp
  go_at_call 39
  (with_reducible refine (good_lit _ KY (⟨[1, 0, 0, 0, 0, 0, 0, 0, 0, 0, 0, 0], List.replicate 16 0, List.replicate 8 0⟩ : Pk) false (by kernel_rfl) HKL.out.1 HKL.out.2.1 (pk_zero_ok _ rfl) HS2.out.2.2 _).mono ?_)
  rintro e uq_36 ⟨rfl, hb8⟩
  have ht := Touch.of_below (S := fun _ => False) hb8
  refine hK.out _ _ (((hHeld).still ht)) (fun hHeld2 => ?_)
  clear hK K hHeld ht
  have hHeld := hHeld2
  clear hHeld2
  try simp only [Act.put, List.setIfInBounds_toArray, List.set_cons_zero, List.set_cons_succ]
  refine region_take 36 (v := ?vq36_37) rfl rfl (by kernel_rfl) (by kernel_rfl) (by kernel_rfl) (fun _ _ _ h => h) hHeld (Or.inl ⟨by rfl, ?yq36_37⟩) ?rq36_37
  case yq36_37 => (intro w hSw; (try dsimp only at hSw); go_simp; try with_reducible rfl)
  try simp only [Act.put, List.setIfInBounds_toArray, List.set_cons_zero, List.set_cons_succ]
  refine region_take 37 (v := ?vq37_38) rfl rfl (by kernel_rfl) (by kernel_rfl) (by kernel_rfl) (fun _ _ _ h => h) hHeld (Or.inl ⟨by rfl, ?yq37_38⟩) ?rq37_38
  case yq37_38 => (intro w hSw; (try dsimp only at hSw); go_simp; try with_reducible rfl)
  try simp only [Act.put, List.setIfInBounds_toArray, List.set_cons_zero, List.set_cons_succ]
  refine region_take 38 (v := ?vq38_39) rfl rfl (by kernel_rfl) (by kernel_rfl) (by kernel_rfl) (fun _ _ _ h => h) hHeld (Or.inl ⟨by rfl, ?yq38_39⟩) ?rq38_39
  case yq38_39 => (intro w hSw; (try dsimp only at hSw); go_simp; try with_reducible rfl)
  try simp only [Act.put, List.setIfInBounds_toArray, List.set_cons_zero, List.set_cons_succ]
  refine wpAnyH_done (by kernel_rfl) ?_ _
  have HT := Lib.hid (HR.out.2.2.2.trans (hHeld).still2)
  go_wp2_with fail
  go_ret
  exact ⟨by first | rfl | simp, HT.out.below (Nat.le_refl _) (fun _ _ h => h)⟩
end Go.Proofs.Ythlkmofemnepbaa
