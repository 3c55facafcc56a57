/-
  nightjarlaw05.WireApart: for all inputs the law returns true. No conditions: for every input that can be read.
-/
import Derived.Test.YthlkmofemnepbaaRows
import Derived.Test.YthlkmofemnepbaaWSmall
import Derived.Test.YthlkmofemnepbaaWireLaw
import Derived.Test.YthlkmofemnepbaaPkArg
import Derived.Test.YthlkmofemnepbaaSlices
namespace Go.Proofs.Ythlkmofemnepbaa
open Go.ChangeShapes Go.WideShapes Go.ChangeAt Go.RowKit

set_option maxRecDepth 100000 in
set_option maxHeartbeats 8000000 in
theorem wireApart_nn (w : World) (p q : Pk) (hp : p.Ok) (hq : q.Ok) (r1 : ¬ RightN p) (r2 : ¬ RightN q) :
    Calls Try.prog 8 #[.agg (pkV p), .agg (pkV q)] w fun e w' => e = .returned (.bool true) ∧ Below w.heap.size w w' := by
  have HP := Lib.hid (And.intro hp hq)
  have HR1 := Lib.hid r1
  have HR2 := Lib.hid r2
  clear hp hq r1 r2
  go_enter Try.func8, Try.ntmps8
  go_wp2_with fail
  (with_reducible refine (wireSmall_any _).mono ?_)
  rintro e wa ⟨rfl, hba⟩
  obtain ⟨n0, hn0⟩ : ∃ n0, n0 = w.heap.size := ⟨_, rfl⟩
  rw [← hn0]
  have HA : Hid (Touch (fun _ => False) w wa ∧ Blk wa n0 25 (pkV p) ∧ Blk wa (n0 + 1) 25 (pkV q)) := Lib.hid (by
    have t : Touch (fun _ => False) ((w.alloc (.cells (pkV p) 25)).alloc (.cells (pkV q) 25)) wa := Touch.of_below hba
    refine ⟨(((Touch.refl (fun _ => False) w).alloc _).alloc _).trans t, ?_, ?_⟩
    · rw [hn0]
      exact ((Blk.new w (pkV p) 25).alloc _).touch t (fun h => h)
    · rw [hn0]
      exact (blk_new_at (w := w.alloc (.cells (pkV p) 25)) (by simp) rfl).touch t (fun h => h))
  clear hba hn0
  go_wp2_with ((with_reducible refine at_op (.load 25 (.tmp 2)) rfl ?_); refine wpList_load_blk rfl 25 (.tmp 2) rfl n0 25 (pkV p) _ rfl (HA.out.2.1) Try.underlying25 rfl (by rw [pkV_size HP.out.1]; first | done | kernel_rfl) ?_)
  (with_reducible refine (wireEnc_no p HP.out.1 HR1.out _).mono ?_)
  rintro e wb ⟨rfl, hbb⟩
  have HB : Hid (Touch (fun _ => False) wa wb ∧ Blk wb (n0 + 1) 25 (pkV q)) := Lib.hid ⟨Touch.of_below hbb, HA.out.2.2.touch (Touch.of_below (S := fun _ => False) hbb) (fun h => h)⟩
  clear hbb
  go_wp2_with ((with_reducible refine at_op (.load 25 (.tmp 3)) rfl ?_); refine wpList_load_blk rfl 25 (.tmp 3) rfl (n0 + 1) 25 (pkV q) _ rfl (HB.out.2) Try.underlying25 rfl (by rw [pkV_size HP.out.2]; first | done | kernel_rfl) ?_)
  (with_reducible refine (wireEnc_no q HP.out.2 HR2.out _).mono ?_)
  rintro e wc ⟨rfl, hbc⟩
  have HC : Hid (Touch (fun _ => False) wa wc ∧ Touch (fun _ => False) wb wc ∧ Touch (fun _ => False) w wc) := Lib.hid ⟨HB.out.1.trans (Touch.of_below hbc), Touch.of_below hbc, HA.out.1.trans (HB.out.1.trans (Touch.of_below hbc))⟩
  clear hbc
  go_wp2_with fail
  all_goals go_region
  go_wp2_with fail
  go_ret
  exact ⟨by first | rfl | simp, (Touch.drew HC.out.2.2).below (Nat.le_refl _) (fun _ _ h => h)⟩

set_option maxRecDepth 100000 in
set_option maxHeartbeats 8000000 in
theorem wireApart_ny (w : World) (p q : Pk) (hp : p.Ok) (hq : q.Ok) (r1 : ¬ RightN p) (r2 : RightN q) :
    Calls Try.prog 8 #[.agg (pkV p), .agg (pkV q)] w fun e w' => e = .returned (.bool true) ∧ Below w.heap.size w w' := by
  have HP := Lib.hid (And.intro hp hq)
  have HR1 := Lib.hid r1
  have HR2 := Lib.hid r2
  obtain ⟨Z2, hZ2⟩ : ∃ Z, encN q = Z := ⟨_, rfl⟩
  obtain ⟨m2, hm2⟩ : ∃ n, Z2.length = n := ⟨_, rfl⟩
  have HZ2 := Lib.hid (And.intro hZ2 hm2)
  clear hp hq r1 r2 hZ2 hm2
  go_enter Try.func8, Try.ntmps8
  go_wp2_with fail
  (with_reducible refine (wireSmall_any _).mono ?_)
  rintro e wa ⟨rfl, hba⟩
  obtain ⟨n0, hn0⟩ : ∃ n0, n0 = w.heap.size := ⟨_, rfl⟩
  rw [← hn0]
  have HA : Hid (Touch (fun _ => False) w wa ∧ Blk wa n0 25 (pkV p) ∧ Blk wa (n0 + 1) 25 (pkV q)) := Lib.hid (by
    have t : Touch (fun _ => False) ((w.alloc (.cells (pkV p) 25)).alloc (.cells (pkV q) 25)) wa := Touch.of_below hba
    refine ⟨(((Touch.refl (fun _ => False) w).alloc _).alloc _).trans t, ?_, ?_⟩
    · rw [hn0]
      exact ((Blk.new w (pkV p) 25).alloc _).touch t (fun h => h)
    · rw [hn0]
      exact (blk_new_at (w := w.alloc (.cells (pkV p) 25)) (by simp) rfl).touch t (fun h => h))
  clear hba hn0
  go_wp2_with ((with_reducible refine at_op (.load 25 (.tmp 2)) rfl ?_); refine wpList_load_blk rfl 25 (.tmp 2) rfl n0 25 (pkV p) _ rfl (HA.out.2.1) Try.underlying25 rfl (by rw [pkV_size HP.out.1]; first | done | kernel_rfl) ?_)
  (with_reducible refine (wireEnc_no p HP.out.1 HR1.out _).mono ?_)
  rintro e wb ⟨rfl, hbb⟩
  have HB : Hid (Touch (fun _ => False) wa wb ∧ Blk wb (n0 + 1) 25 (pkV q)) := Lib.hid ⟨Touch.of_below hbb, HA.out.2.2.touch (Touch.of_below (S := fun _ => False) hbb) (fun h => h)⟩
  clear hbb
  go_wp2_with ((with_reducible refine at_op (.load 25 (.tmp 3)) rfl ?_); refine wpList_load_blk rfl 25 (.tmp 3) rfl (n0 + 1) 25 (pkV q) _ rfl (HB.out.2) Try.underlying25 rfl (by rw [pkV_size HP.out.2]; first | done | kernel_rfl) ?_)
  (with_reducible refine (enc_lit _ q rfl HP.out.2 HR2.out Z2 m2 HZ2.out.1 HZ2.out.2 _).mono ?_)
  rintro e wc ⟨a2, c2, rfl, ho2, hc2, hbc⟩
  have HO2 := Lib.hid ho2
  clear ho2 hc2
  have HC : Hid (Touch (fun _ => False) wa wc ∧ Touch (fun _ => False) wb wc ∧ Touch (fun _ => False) w wc) := Lib.hid ⟨HB.out.1.trans (Touch.of_below hbc), Touch.of_below hbc, HA.out.1.trans (HB.out.1.trans (Touch.of_below hbc))⟩
  clear hbc
  go_wp2_with fail
  all_goals go_region
  go_wp2_with fail
  go_ret
  exact ⟨by first | rfl | simp, (Touch.drew HC.out.2.2).below (Nat.le_refl _) (fun _ _ h => h)⟩

set_option maxRecDepth 100000 in
set_option maxHeartbeats 8000000 in
theorem wireApart_yn (w : World) (p q : Pk) (hp : p.Ok) (hq : q.Ok) (r1 : RightN p) (r2 : ¬ RightN q) :
    Calls Try.prog 8 #[.agg (pkV p), .agg (pkV q)] w fun e w' => e = .returned (.bool true) ∧ Below w.heap.size w w' := by
  have HP := Lib.hid (And.intro hp hq)
  have HR1 := Lib.hid r1
  have HR2 := Lib.hid r2
  obtain ⟨Z1, hZ1⟩ : ∃ Z, encN p = Z := ⟨_, rfl⟩
  obtain ⟨m1, hm1⟩ : ∃ n, Z1.length = n := ⟨_, rfl⟩
  have HZ1 := Lib.hid (And.intro hZ1 hm1)
  clear hp hq r1 r2 hZ1 hm1
  go_enter Try.func8, Try.ntmps8
  go_wp2_with fail
  (with_reducible refine (wireSmall_any _).mono ?_)
  rintro e wa ⟨rfl, hba⟩
  obtain ⟨n0, hn0⟩ : ∃ n0, n0 = w.heap.size := ⟨_, rfl⟩
  rw [← hn0]
  have HA : Hid (Touch (fun _ => False) w wa ∧ Blk wa n0 25 (pkV p) ∧ Blk wa (n0 + 1) 25 (pkV q)) := Lib.hid (by
    have t : Touch (fun _ => False) ((w.alloc (.cells (pkV p) 25)).alloc (.cells (pkV q) 25)) wa := Touch.of_below hba
    refine ⟨(((Touch.refl (fun _ => False) w).alloc _).alloc _).trans t, ?_, ?_⟩
    · rw [hn0]
      exact ((Blk.new w (pkV p) 25).alloc _).touch t (fun h => h)
    · rw [hn0]
      exact (blk_new_at (w := w.alloc (.cells (pkV p) 25)) (by simp) rfl).touch t (fun h => h))
  clear hba hn0
  go_wp2_with ((with_reducible refine at_op (.load 25 (.tmp 2)) rfl ?_); refine wpList_load_blk rfl 25 (.tmp 2) rfl n0 25 (pkV p) _ rfl (HA.out.2.1) Try.underlying25 rfl (by rw [pkV_size HP.out.1]; first | done | kernel_rfl) ?_)
  (with_reducible refine (enc_lit _ p rfl HP.out.1 HR1.out Z1 m1 HZ1.out.1 HZ1.out.2 _).mono ?_)
  rintro e wb ⟨a1, c1, rfl, ho1, hc1, hbb⟩
  have HO1 := Lib.hid ho1
  clear ho1 hc1
  have HB : Hid (Touch (fun _ => False) wa wb ∧ Blk wb (n0 + 1) 25 (pkV q)) := Lib.hid ⟨Touch.of_below hbb, HA.out.2.2.touch (Touch.of_below (S := fun _ => False) hbb) (fun h => h)⟩
  clear hbb
  go_wp2_with ((with_reducible refine at_op (.load 25 (.tmp 3)) rfl ?_); refine wpList_load_blk rfl 25 (.tmp 3) rfl (n0 + 1) 25 (pkV q) _ rfl (HB.out.2) Try.underlying25 rfl (by rw [pkV_size HP.out.2]; first | done | kernel_rfl) ?_)
  (with_reducible refine (wireEnc_no q HP.out.2 HR2.out _).mono ?_)
  rintro e wc ⟨rfl, hbc⟩
  have HC : Hid (Touch (fun _ => False) wa wc ∧ Touch (fun _ => False) wb wc ∧ Touch (fun _ => False) w wc) := Lib.hid ⟨HB.out.1.trans (Touch.of_below hbc), Touch.of_below hbc, HA.out.1.trans (HB.out.1.trans (Touch.of_below hbc))⟩
  clear hbc
  go_wp2_with fail
  all_goals go_region
  go_wp2_with fail
  go_ret
  exact ⟨by first | rfl | simp, (Touch.drew HC.out.2.2).below (Nat.le_refl _) (fun _ _ h => h)⟩

set_option maxRecDepth 100000 in
set_option maxHeartbeats 8000000 in
theorem wireApart_yy (w : World) (p q : Pk) (hp : p.Ok) (hq : q.Ok) (r1 : RightN p) (r2 : RightN q) :
    Calls Try.prog 8 #[.agg (pkV p), .agg (pkV q)] w fun e w' => e = .returned (.bool true) ∧ Below w.heap.size w w' := by
  have HP := Lib.hid (And.intro hp hq)
  have HR1 := Lib.hid r1
  have HR2 := Lib.hid r2
  obtain ⟨Z1, hZ1⟩ : ∃ Z, encN p = Z := ⟨_, rfl⟩
  obtain ⟨m1, hm1⟩ : ∃ n, Z1.length = n := ⟨_, rfl⟩
  have HZ1 := Lib.hid (And.intro hZ1 hm1)
  obtain ⟨Z2, hZ2⟩ : ∃ Z, encN q = Z := ⟨_, rfl⟩
  obtain ⟨m2, hm2⟩ : ∃ n, Z2.length = n := ⟨_, rfl⟩
  have HZ2 := Lib.hid (And.intro hZ2 hm2)
  have hcc : ∃ b : Bool, decide (p.n = q.n ∧ p.sec = q.sec ∧ p.tag = q.tag) = b ∧ ((strOfNums Z1).toList == (strOfNums Z2).toList) = b := by
    by_cases h : p = q
    · refine ⟨true, decide_eq_true (by rw [h]; exact ⟨rfl, rfl, rfl⟩), ?_⟩
      rw [← hZ1, ← hZ2, h]
      exact beq_self_eq_true _
    · refine ⟨false, decide_eq_false (fun e => h (Pk.ext e.1 e.2.1 e.2.2)), ?_⟩
      rw [beq_eq_false_iff_ne]
      intro e
      have e2 : strOfNums Z1 = strOfNums Z2 := by
        rw [ByteArray.toList_eq, ByteArray.toList_eq] at e
        exact ByteArray.ext (Array.toList_inj.1 e)
      rw [← hZ1, ← hZ2] at e2
      exact h (enc_inj p q hp hq r1 r2 (str_inj (enc_range p hp) (enc_range q hq) e2))
  obtain ⟨b, hb1, hs⟩ := hcc
  have HE : Hid (∀ w, (binOp .eql 25 (.agg (pkV p)) (.agg (pkV q))).run Try.prog w = .ok (.bool b) w) := Lib.hid (fun w => run_eql_pk w p q hp hq b hb1)
  clear hb1 hZ1 hm1 hZ2 hm2
  clear hp hq r1 r2
  cases b
  · go_enter Try.func8, Try.ntmps8
    go_wp2_with fail
    (with_reducible refine (wireSmall_any _).mono ?_)
    rintro e wa ⟨rfl, hba⟩
    obtain ⟨n0, hn0⟩ : ∃ n0, n0 = w.heap.size := ⟨_, rfl⟩
    rw [← hn0]
    have HA : Hid (Touch (fun _ => False) w wa ∧ Blk wa n0 25 (pkV p) ∧ Blk wa (n0 + 1) 25 (pkV q)) := Lib.hid (by
      have t : Touch (fun _ => False) ((w.alloc (.cells (pkV p) 25)).alloc (.cells (pkV q) 25)) wa := Touch.of_below hba
      refine ⟨(((Touch.refl (fun _ => False) w).alloc _).alloc _).trans t, ?_, ?_⟩
      · rw [hn0]
        exact ((Blk.new w (pkV p) 25).alloc _).touch t (fun h => h)
      · rw [hn0]
        exact (blk_new_at (w := w.alloc (.cells (pkV p) 25)) (by simp) rfl).touch t (fun h => h))
    clear hba hn0
    go_wp2_with ((with_reducible refine at_op (.load 25 (.tmp 2)) rfl ?_); refine wpList_load_blk rfl 25 (.tmp 2) rfl n0 25 (pkV p) _ rfl (HA.out.2.1) Try.underlying25 rfl (by rw [pkV_size HP.out.1]; first | done | kernel_rfl) ?_)
    (with_reducible refine (enc_lit _ p rfl HP.out.1 HR1.out Z1 m1 HZ1.out.1 HZ1.out.2 _).mono ?_)
    rintro e wb ⟨a1, c1, rfl, ho1, hc1, hbb⟩
    have HO1 := Lib.hid ho1
    clear ho1 hc1
    have HB : Hid (Touch (fun _ => False) wa wb ∧ Blk wb (n0 + 1) 25 (pkV q)) := Lib.hid ⟨Touch.of_below hbb, HA.out.2.2.touch (Touch.of_below (S := fun _ => False) hbb) (fun h => h)⟩
    clear hbb
    go_wp2_with ((with_reducible refine at_op (.load 25 (.tmp 3)) rfl ?_); refine wpList_load_blk rfl 25 (.tmp 3) rfl (n0 + 1) 25 (pkV q) _ rfl (HB.out.2) Try.underlying25 rfl (by rw [pkV_size HP.out.2]; first | done | kernel_rfl) ?_)
    (with_reducible refine (enc_lit _ q rfl HP.out.2 HR2.out Z2 m2 HZ2.out.1 HZ2.out.2 _).mono ?_)
    rintro e wc ⟨a2, c2, rfl, ho2, hc2, hbc⟩
    have HO2 := Lib.hid ho2
    clear ho2 hc2
    have HC : Hid (Touch (fun _ => False) wa wc ∧ Touch (fun _ => False) wb wc ∧ Touch (fun _ => False) w wc) := Lib.hid ⟨HB.out.1.trans (Touch.of_below hbc), Touch.of_below hbc, HA.out.1.trans (HB.out.1.trans (Touch.of_below hbc))⟩
    clear hbc
    go_wp2_with fail
    refine wp_region_held_drew (S := fun w' : World => TG wc w') (by kernel_rfl) ((TG.refl wc).drew) (fun hHeld => ?_)
    refine anyH_world (R := fun w' : World => TG wc w') hHeld ?_
    clear hHeld
    intro W0q hHeld
    refine region_take 0 (v := ?vq0_1) rfl rfl (by kernel_rfl) (by kernel_rfl) (by kernel_rfl) (fun _ _ _ h => h) hHeld (Or.inl ⟨by rfl, ?yq0_1⟩) ?rq0_1
    case yq0_1 => (intro w hSw; (try dsimp only at hSw); go_simp; try with_reducible rfl)
    try simp only [Act.put, List.setIfInBounds_toArray, List.set_cons_zero, List.set_cons_succ]
    refine region_take 1 (v := ?vq1_2) rfl rfl (by kernel_rfl) (by kernel_rfl) (by kernel_rfl) (fun _ _ _ h => h) hHeld (Or.inl ⟨by rfl, ?yq1_2⟩) ?rq1_2
    case yq1_2 => (intro w hSw; (try dsimp only at hSw); go_simp; try with_reducible rfl)
    try simp only [Act.put, List.setIfInBounds_toArray, List.set_cons_zero, List.set_cons_succ]
    refine region_take 2 (v := ?vq2_3) rfl rfl (by kernel_rfl) (by kernel_rfl) (by kernel_rfl) (fun _ _ _ h => h) hHeld (Or.inl ⟨by rfl, ?yq2_3⟩) ?rq2_3
    case yq2_3 => (intro w hSw; (try dsimp only at hSw); go_simp; try with_reducible rfl)
    try simp only [Act.put, List.setIfInBounds_toArray, List.set_cons_zero, List.set_cons_succ]
    refine region_take 3 (v := ?vq3_4) rfl rfl (by kernel_rfl) (by kernel_rfl) (by kernel_rfl) (fun _ _ _ h => h) hHeld (Or.inl ⟨by rfl, ?yq3_4⟩) ?rq3_4
    case yq3_4 => (intro w hSw; (try dsimp only at hSw); go_simp; try with_reducible rfl)
    try simp only [Act.put, List.setIfInBounds_toArray, List.set_cons_zero, List.set_cons_succ]
    refine region_take 4 (v := ?vq4_5) rfl rfl (by kernel_rfl) (by kernel_rfl) (by kernel_rfl) (fun _ _ _ h => h) hHeld (Or.inl ⟨by rfl, ?yq4_5⟩) ?rq4_5
    case yq4_5 => (intro w hSw; (try dsimp only at hSw); go_simp; try with_reducible rfl)
    try simp only [Act.put, List.setIfInBounds_toArray, List.set_cons_zero, List.set_cons_succ]
    refine region_take 5 (v := ?vq5_6) rfl rfl (by kernel_rfl) (by kernel_rfl) (by kernel_rfl) (fun _ _ _ h => h) hHeld (Or.inl ⟨by rfl, ?yq5_6⟩) ?rq5_6
    case yq5_6 => (intro w hSw; (try dsimp only at hSw); go_simp; try with_reducible rfl)
    try simp only [Act.put, List.setIfInBounds_toArray, List.set_cons_zero, List.set_cons_succ]
    refine region_take 6 (v := ?vq6_7) rfl rfl (by kernel_rfl) (by kernel_rfl) (by kernel_rfl) (fun _ _ _ h => h) hHeld (Or.inl ⟨by rfl, ?yq6_7⟩) ?rq6_7
    case yq6_7 => (intro w hSw; (try dsimp only at hSw); go_simp; try with_reducible rfl)
    try simp only [Act.put, List.setIfInBounds_toArray, List.set_cons_zero, List.set_cons_succ]
    refine region_take 7 (v := ?vq7_8) rfl rfl (by kernel_rfl) (by kernel_rfl) (by kernel_rfl) (fun _ _ _ h => h) hHeld (Or.inl ⟨by rfl, ?yq7_8⟩) ?rq7_8
    case yq7_8 => (intro w hSw; (try dsimp only at hSw); go_simp; try with_reducible rfl)
    try simp only [Act.put, List.setIfInBounds_toArray, List.set_cons_zero, List.set_cons_succ]
    refine region_take 8 (v := ?vq8_9) rfl rfl (by kernel_rfl) (by kernel_rfl) (by kernel_rfl) (fun _ _ _ h => h) hHeld (Or.inl ⟨by rfl, ?yq8_9⟩) ?rq8_9
    case yq8_9 => (intro w hSw; (try dsimp only at hSw); go_simp; try with_reducible rfl)
    try simp only [Act.put, List.setIfInBounds_toArray, List.set_cons_zero, List.set_cons_succ]
    refine region_take 9 (v := ?vq9_10) rfl rfl (by kernel_rfl) (by kernel_rfl) (by kernel_rfl) (fun _ _ _ h => h) hHeld (Or.inl ⟨by rfl, ?yq9_10⟩) ?rq9_10
    case yq9_10 => (intro w hSw; (try dsimp only at hSw); go_simp; try with_reducible rfl)
    try simp only [Act.put, List.setIfInBounds_toArray, List.set_cons_zero, List.set_cons_succ]
    refine region_take 10 (v := ?vq10_11) rfl rfl (by kernel_rfl) (by kernel_rfl) (by kernel_rfl) (fun _ _ _ h => h) hHeld (Or.inl ⟨by rfl, ?yq10_11⟩) ?rq10_11
    case yq10_11 => (intro w hSw; refine (yields_str 26 9 5 (.tmp 30) rfl Try.underlying26 Try.underlying5 Try.underlying9 _ m1 _ Z1 rfl HZ1.out.2 ((SlAt.of_owns HO1.out).touch (HC.out.2.1.trans (hSw).still2) (fun _ _ _ h => h))).trans ?_; with_reducible rfl)
    try simp only [Act.put, List.setIfInBounds_toArray, List.set_cons_zero, List.set_cons_succ]
    refine region_take 11 (v := ?vq11_12) rfl rfl (by kernel_rfl) (by kernel_rfl) (by kernel_rfl) (fun _ _ _ h => h) hHeld (Or.inl ⟨by rfl, ?yq11_12⟩) ?rq11_12
    case yq11_12 => (intro w hSw; (try dsimp only at hSw); go_simp; try with_reducible rfl)
    try simp only [Act.put, List.setIfInBounds_toArray, List.set_cons_zero, List.set_cons_succ]
    refine region_take 12 (v := ?vq12_13) rfl rfl (by kernel_rfl) (by kernel_rfl) (by kernel_rfl) (fun _ _ _ h => h) hHeld (Or.inl ⟨by rfl, ?yq12_13⟩) ?rq12_13
    case yq12_13 => (intro w hSw; refine (yields_str 26 9 5 (.tmp 32) rfl Try.underlying26 Try.underlying5 Try.underlying9 _ m2 _ Z2 rfl HZ2.out.2 ((SlAt.of_owns HO2.out).touch ((hSw).still2) (fun _ _ _ h => h))).trans ?_; with_reducible rfl)
    try simp only [Act.put, List.setIfInBounds_toArray, List.set_cons_zero, List.set_cons_succ]
    refine region_take 13 (v := ?vq13_14) rfl rfl (by kernel_rfl) (by kernel_rfl) (by kernel_rfl) (fun _ _ _ h => h) hHeld (Or.inl ⟨by rfl, ?yq13_14⟩) ?rq13_14
    case yq13_14 => (intro w hSw; (try dsimp only at hSw); go_simp; try with_reducible rfl)
    try simp only [Act.put, List.setIfInBounds_toArray, List.set_cons_zero, List.set_cons_succ]
    refine region_take 14 (v := ?vq14_15) rfl rfl (by kernel_rfl) (by kernel_rfl) (by kernel_rfl) (fun _ _ _ h => h) hHeld (Or.inl ⟨by rfl, ?yq14_15⟩) ?rq14_15
    case yq14_15 => (intro w hSw; refine (yields_load_blk 25 (.tmp 2) rfl n0 25 (pkV p) _ rfl (HA.out.2.1.touch (HC.out.1.trans (hSw).still2) (fun h => h)) Try.underlying25 rfl (by rw [pkV_size HP.out.1]; first | done | kernel_rfl)).trans ?_; with_reducible rfl)
    try simp only [Act.put, List.setIfInBounds_toArray, List.set_cons_zero, List.set_cons_succ]
    refine region_take 15 (v := ?vq15_16) rfl rfl (by kernel_rfl) (by kernel_rfl) (by kernel_rfl) (fun _ _ _ h => h) hHeld (Or.inl ⟨by rfl, ?yq15_16⟩) ?rq15_16
    case yq15_16 => (intro w hSw; refine (yields_load_blk 25 (.tmp 3) rfl (n0 + 1) 25 (pkV q) _ rfl (HA.out.2.2.touch (HC.out.1.trans (hSw).still2) (fun h => h)) Try.underlying25 rfl (by rw [pkV_size HP.out.2]; first | done | kernel_rfl)).trans ?_; with_reducible rfl)
    try simp only [Act.put, List.setIfInBounds_toArray, List.set_cons_zero, List.set_cons_succ]
    refine region_take 16 (v := ?vq16_17) rfl rfl (by kernel_rfl) (by kernel_rfl) (by kernel_rfl) (fun _ _ _ h => h) hHeld (Or.inl ⟨by rfl, ?yq16_17⟩) ?rq16_17
    case yq16_17 => (intro w hSw; refine (run_exec_eql _ .eql 25 25 (.tmp 35) (.tmp 36) rfl (pkV p) (pkV q) rfl rfl (by kernel_rfl) _ (HE.out _)).trans ?_; with_reducible rfl)
    try simp only [Act.put, List.setIfInBounds_toArray, List.set_cons_zero, List.set_cons_succ]
    refine region_take 17 (v := ?vq17_18) rfl rfl (by kernel_rfl) (by kernel_rfl) (by kernel_rfl) (fun _ _ _ h => h) hHeld (Or.inl ⟨by rfl, ?yq17_18⟩) ?rq17_18
    case yq17_18 => (intro w hSw; (try dsimp only at hSw); go_simp; try with_reducible rfl)
    try simp only [Act.put, List.setIfInBounds_toArray, List.set_cons_zero, List.set_cons_succ]
    refine region_take 18 (v := ?vq18_19) rfl rfl (by kernel_rfl) (by kernel_rfl) (by kernel_rfl) (fun _ _ _ h => h) hHeld (Or.inl ⟨by rfl, ?yq18_19⟩) ?rq18_19
    case yq18_19 => (intro w hSw; (try dsimp only at hSw); go_simp; try with_reducible rfl)
    try simp only [Act.put, List.setIfInBounds_toArray, List.set_cons_zero, List.set_cons_succ]
    refine region_take 19 (v := ?vq19_20) rfl rfl (by kernel_rfl) (by kernel_rfl) (by kernel_rfl) (fun _ _ _ h => h) hHeld (Or.inl ⟨by rfl, ?yq19_20⟩) ?rq19_20
    case yq19_20 => (intro w hSw; (try dsimp only at hSw); go_simp; try with_reducible rfl)
    try simp only [Act.put, List.setIfInBounds_toArray, List.set_cons_zero, List.set_cons_succ]
    refine region_take 20 (v := ?vq20_21) rfl rfl (by kernel_rfl) (by kernel_rfl) (by kernel_rfl) (fun _ _ _ h => h) hHeld (Or.inl ⟨by rfl, ?yq20_21⟩) ?rq20_21
    case yq20_21 => (intro w hSw; (try dsimp only at hSw); go_simp; try with_reducible rfl)
    try simp only [Act.put, List.setIfInBounds_toArray, List.set_cons_zero, List.set_cons_succ]
    refine wpAnyH_done (by kernel_rfl) ?_ _
    have HT := Lib.hid (HC.out.2.2.trans (hHeld).still2)
    go_wp2_with fail
    go_ret
    exact ⟨by first | rfl | simp, HT.out.below (Nat.le_refl _) (fun _ _ h => h)⟩
  · go_enter Try.func8, Try.ntmps8
    go_wp2_with fail
    (with_reducible refine (wireSmall_any _).mono ?_)
    rintro e wa ⟨rfl, hba⟩
    obtain ⟨n0, hn0⟩ : ∃ n0, n0 = w.heap.size := ⟨_, rfl⟩
    rw [← hn0]
    have HA : Hid (Touch (fun _ => False) w wa ∧ Blk wa n0 25 (pkV p) ∧ Blk wa (n0 + 1) 25 (pkV q)) := Lib.hid (by
      have t : Touch (fun _ => False) ((w.alloc (.cells (pkV p) 25)).alloc (.cells (pkV q) 25)) wa := Touch.of_below hba
      refine ⟨(((Touch.refl (fun _ => False) w).alloc _).alloc _).trans t, ?_, ?_⟩
      · rw [hn0]
        exact ((Blk.new w (pkV p) 25).alloc _).touch t (fun h => h)
      · rw [hn0]
        exact (blk_new_at (w := w.alloc (.cells (pkV p) 25)) (by simp) rfl).touch t (fun h => h))
    clear hba hn0
    go_wp2_with ((with_reducible refine at_op (.load 25 (.tmp 2)) rfl ?_); refine wpList_load_blk rfl 25 (.tmp 2) rfl n0 25 (pkV p) _ rfl (HA.out.2.1) Try.underlying25 rfl (by rw [pkV_size HP.out.1]; first | done | kernel_rfl) ?_)
    (with_reducible refine (enc_lit _ p rfl HP.out.1 HR1.out Z1 m1 HZ1.out.1 HZ1.out.2 _).mono ?_)
    rintro e wb ⟨a1, c1, rfl, ho1, hc1, hbb⟩
    have HO1 := Lib.hid ho1
    clear ho1 hc1
    have HB : Hid (Touch (fun _ => False) wa wb ∧ Blk wb (n0 + 1) 25 (pkV q)) := Lib.hid ⟨Touch.of_below hbb, HA.out.2.2.touch (Touch.of_below (S := fun _ => False) hbb) (fun h => h)⟩
    clear hbb
    go_wp2_with ((with_reducible refine at_op (.load 25 (.tmp 3)) rfl ?_); refine wpList_load_blk rfl 25 (.tmp 3) rfl (n0 + 1) 25 (pkV q) _ rfl (HB.out.2) Try.underlying25 rfl (by rw [pkV_size HP.out.2]; first | done | kernel_rfl) ?_)
    (with_reducible refine (enc_lit _ q rfl HP.out.2 HR2.out Z2 m2 HZ2.out.1 HZ2.out.2 _).mono ?_)
    rintro e wc ⟨a2, c2, rfl, ho2, hc2, hbc⟩
    have HO2 := Lib.hid ho2
    clear ho2 hc2
    have HC : Hid (Touch (fun _ => False) wa wc ∧ Touch (fun _ => False) wb wc ∧ Touch (fun _ => False) w wc) := Lib.hid ⟨HB.out.1.trans (Touch.of_below hbc), Touch.of_below hbc, HA.out.1.trans (HB.out.1.trans (Touch.of_below hbc))⟩
    clear hbc
    go_wp2_with fail
    refine wp_region_held_drew (S := fun w' : World => TG wc w') (by kernel_rfl) ((TG.refl wc).drew) (fun hHeld => ?_)
    refine anyH_world (R := fun w' : World => TG wc w') hHeld ?_
    clear hHeld
    intro W0r hHeld
    refine region_take 0 (v := ?vr0_1) rfl rfl (by kernel_rfl) (by kernel_rfl) (by kernel_rfl) (fun _ _ _ h => h) hHeld (Or.inl ⟨by rfl, ?yr0_1⟩) ?rr0_1
    case yr0_1 => (intro w hSw; (try dsimp only at hSw); go_simp; try with_reducible rfl)
    try simp only [Act.put, List.setIfInBounds_toArray, List.set_cons_zero, List.set_cons_succ]
    refine region_take 1 (v := ?vr1_2) rfl rfl (by kernel_rfl) (by kernel_rfl) (by kernel_rfl) (fun _ _ _ h => h) hHeld (Or.inl ⟨by rfl, ?yr1_2⟩) ?rr1_2
    case yr1_2 => (intro w hSw; (try dsimp only at hSw); go_simp; try with_reducible rfl)
    try simp only [Act.put, List.setIfInBounds_toArray, List.set_cons_zero, List.set_cons_succ]
    refine region_take 2 (v := ?vr2_3) rfl rfl (by kernel_rfl) (by kernel_rfl) (by kernel_rfl) (fun _ _ _ h => h) hHeld (Or.inl ⟨by rfl, ?yr2_3⟩) ?rr2_3
    case yr2_3 => (intro w hSw; (try dsimp only at hSw); go_simp; try with_reducible rfl)
    try simp only [Act.put, List.setIfInBounds_toArray, List.set_cons_zero, List.set_cons_succ]
    refine region_take 3 (v := ?vr3_4) rfl rfl (by kernel_rfl) (by kernel_rfl) (by kernel_rfl) (fun _ _ _ h => h) hHeld (Or.inl ⟨by rfl, ?yr3_4⟩) ?rr3_4
    case yr3_4 => (intro w hSw; (try dsimp only at hSw); go_simp; try with_reducible rfl)
    try simp only [Act.put, List.setIfInBounds_toArray, List.set_cons_zero, List.set_cons_succ]
    refine region_take 4 (v := ?vr4_5) rfl rfl (by kernel_rfl) (by kernel_rfl) (by kernel_rfl) (fun _ _ _ h => h) hHeld (Or.inl ⟨by rfl, ?yr4_5⟩) ?rr4_5
    case yr4_5 => (intro w hSw; (try dsimp only at hSw); go_simp; try with_reducible rfl)
    try simp only [Act.put, List.setIfInBounds_toArray, List.set_cons_zero, List.set_cons_succ]
    refine region_take 5 (v := ?vr5_6) rfl rfl (by kernel_rfl) (by kernel_rfl) (by kernel_rfl) (fun _ _ _ h => h) hHeld (Or.inl ⟨by rfl, ?yr5_6⟩) ?rr5_6
    case yr5_6 => (intro w hSw; (try dsimp only at hSw); go_simp; try with_reducible rfl)
    try simp only [Act.put, List.setIfInBounds_toArray, List.set_cons_zero, List.set_cons_succ]
    refine region_take 6 (v := ?vr6_7) rfl rfl (by kernel_rfl) (by kernel_rfl) (by kernel_rfl) (fun _ _ _ h => h) hHeld (Or.inl ⟨by rfl, ?yr6_7⟩) ?rr6_7
    case yr6_7 => (intro w hSw; (try dsimp only at hSw); go_simp; try with_reducible rfl)
    try simp only [Act.put, List.setIfInBounds_toArray, List.set_cons_zero, List.set_cons_succ]
    refine region_take 7 (v := ?vr7_8) rfl rfl (by kernel_rfl) (by kernel_rfl) (by kernel_rfl) (fun _ _ _ h => h) hHeld (Or.inl ⟨by rfl, ?yr7_8⟩) ?rr7_8
    case yr7_8 => (intro w hSw; (try dsimp only at hSw); go_simp; try with_reducible rfl)
    try simp only [Act.put, List.setIfInBounds_toArray, List.set_cons_zero, List.set_cons_succ]
    refine region_take 8 (v := ?vr8_9) rfl rfl (by kernel_rfl) (by kernel_rfl) (by kernel_rfl) (fun _ _ _ h => h) hHeld (Or.inl ⟨by rfl, ?yr8_9⟩) ?rr8_9
    case yr8_9 => (intro w hSw; (try dsimp only at hSw); go_simp; try with_reducible rfl)
    try simp only [Act.put, List.setIfInBounds_toArray, List.set_cons_zero, List.set_cons_succ]
    refine region_take 9 (v := ?vr9_10) rfl rfl (by kernel_rfl) (by kernel_rfl) (by kernel_rfl) (fun _ _ _ h => h) hHeld (Or.inl ⟨by rfl, ?yr9_10⟩) ?rr9_10
    case yr9_10 => (intro w hSw; (try dsimp only at hSw); go_simp; try with_reducible rfl)
    try simp only [Act.put, List.setIfInBounds_toArray, List.set_cons_zero, List.set_cons_succ]
    refine region_take 10 (v := ?vr10_11) rfl rfl (by kernel_rfl) (by kernel_rfl) (by kernel_rfl) (fun _ _ _ h => h) hHeld (Or.inl ⟨by rfl, ?yr10_11⟩) ?rr10_11
    case yr10_11 => (intro w hSw; refine (yields_str 26 9 5 (.tmp 30) rfl Try.underlying26 Try.underlying5 Try.underlying9 _ m1 _ Z1 rfl HZ1.out.2 ((SlAt.of_owns HO1.out).touch (HC.out.2.1.trans (hSw).still2) (fun _ _ _ h => h))).trans ?_; with_reducible rfl)
    try simp only [Act.put, List.setIfInBounds_toArray, List.set_cons_zero, List.set_cons_succ]
    refine region_take 11 (v := ?vr11_12) rfl rfl (by kernel_rfl) (by kernel_rfl) (by kernel_rfl) (fun _ _ _ h => h) hHeld (Or.inl ⟨by rfl, ?yr11_12⟩) ?rr11_12
    case yr11_12 => (intro w hSw; (try dsimp only at hSw); go_simp; try with_reducible rfl)
    try simp only [Act.put, List.setIfInBounds_toArray, List.set_cons_zero, List.set_cons_succ]
    refine region_take 12 (v := ?vr12_13) rfl rfl (by kernel_rfl) (by kernel_rfl) (by kernel_rfl) (fun _ _ _ h => h) hHeld (Or.inl ⟨by rfl, ?yr12_13⟩) ?rr12_13
    case yr12_13 => (intro w hSw; refine (yields_str 26 9 5 (.tmp 32) rfl Try.underlying26 Try.underlying5 Try.underlying9 _ m2 _ Z2 rfl HZ2.out.2 ((SlAt.of_owns HO2.out).touch ((hSw).still2) (fun _ _ _ h => h))).trans ?_; with_reducible rfl)
    try simp only [Act.put, List.setIfInBounds_toArray, List.set_cons_zero, List.set_cons_succ]
    refine region_take 13 (v := ?vr13_14) rfl rfl (by kernel_rfl) (by kernel_rfl) (by kernel_rfl) (fun _ _ _ h => h) hHeld (Or.inl ⟨by rfl, ?yr13_14⟩) ?rr13_14
    case yr13_14 => (intro w hSw; (try dsimp only at hSw); go_simp; try with_reducible rfl)
    try simp only [Act.put, List.setIfInBounds_toArray, List.set_cons_zero, List.set_cons_succ]
    refine region_take 14 (v := ?vr14_15) rfl rfl (by kernel_rfl) (by kernel_rfl) (by kernel_rfl) (fun _ _ _ h => h) hHeld (Or.inl ⟨by rfl, ?yr14_15⟩) ?rr14_15
    case yr14_15 => (intro w hSw; refine (yields_load_blk 25 (.tmp 2) rfl n0 25 (pkV p) _ rfl (HA.out.2.1.touch (HC.out.1.trans (hSw).still2) (fun h => h)) Try.underlying25 rfl (by rw [pkV_size HP.out.1]; first | done | kernel_rfl)).trans ?_; with_reducible rfl)
    try simp only [Act.put, List.setIfInBounds_toArray, List.set_cons_zero, List.set_cons_succ]
    refine region_take 15 (v := ?vr15_16) rfl rfl (by kernel_rfl) (by kernel_rfl) (by kernel_rfl) (fun _ _ _ h => h) hHeld (Or.inl ⟨by rfl, ?yr15_16⟩) ?rr15_16
    case yr15_16 => (intro w hSw; refine (yields_load_blk 25 (.tmp 3) rfl (n0 + 1) 25 (pkV q) _ rfl (HA.out.2.2.touch (HC.out.1.trans (hSw).still2) (fun h => h)) Try.underlying25 rfl (by rw [pkV_size HP.out.2]; first | done | kernel_rfl)).trans ?_; with_reducible rfl)
    try simp only [Act.put, List.setIfInBounds_toArray, List.set_cons_zero, List.set_cons_succ]
    refine region_take 16 (v := ?vr16_17) rfl rfl (by kernel_rfl) (by kernel_rfl) (by kernel_rfl) (fun _ _ _ h => h) hHeld (Or.inl ⟨by rfl, ?yr16_17⟩) ?rr16_17
    case yr16_17 => (intro w hSw; refine (run_exec_eql _ .eql 25 25 (.tmp 35) (.tmp 36) rfl (pkV p) (pkV q) rfl rfl (by kernel_rfl) _ (HE.out _)).trans ?_; with_reducible rfl)
    try simp only [Act.put, List.setIfInBounds_toArray, List.set_cons_zero, List.set_cons_succ]
    refine region_take 17 (v := ?vr17_18) rfl rfl (by kernel_rfl) (by kernel_rfl) (by kernel_rfl) (fun _ _ _ h => h) hHeld (Or.inl ⟨by rfl, ?yr17_18⟩) ?rr17_18
    case yr17_18 => (intro w hSw; (try dsimp only at hSw); go_simp; try with_reducible rfl)
    try simp only [Act.put, List.setIfInBounds_toArray, List.set_cons_zero, List.set_cons_succ]
    refine region_take 18 (v := ?vr18_19) rfl rfl (by kernel_rfl) (by kernel_rfl) (by kernel_rfl) (fun _ _ _ h => h) hHeld (Or.inl ⟨by rfl, ?yr18_19⟩) ?rr18_19
    case yr18_19 => (intro w hSw; (try dsimp only at hSw); go_simp; try with_reducible rfl)
    try simp only [Act.put, List.setIfInBounds_toArray, List.set_cons_zero, List.set_cons_succ]
    refine region_take 19 (v := ?vr19_20) rfl rfl (by kernel_rfl) (by kernel_rfl) (by kernel_rfl) (fun _ _ _ h => h) hHeld (Or.inl ⟨by rfl, ?yr19_20⟩) ?rr19_20
    case yr19_20 => (intro w hSw; (try dsimp only at hSw); go_simp; try with_reducible rfl)
    try simp only [Act.put, List.setIfInBounds_toArray, List.set_cons_zero, List.set_cons_succ]
    refine region_take 20 (v := ?vr20_21) rfl rfl (by kernel_rfl) (by kernel_rfl) (by kernel_rfl) (fun _ _ _ h => h) hHeld (Or.inl ⟨by rfl, ?yr20_21⟩) ?rr20_21
    case yr20_21 => (intro w hSw; (try dsimp only at hSw); go_simp; try with_reducible rfl)
    try simp only [Act.put, List.setIfInBounds_toArray, List.set_cons_zero, List.set_cons_succ]
    refine wpAnyH_done (by kernel_rfl) ?_ _
    have HT := Lib.hid (HC.out.2.2.trans (hHeld).still2)
    go_wp2_with fail
    go_ret
    exact ⟨by first | rfl | simp, HT.out.below (Nat.le_refl _) (fun _ _ h => h)⟩

theorem wireApart_walk (w : World) (p : Pk) (hp : p.Ok) (q : Pk) (hq : q.Ok) :
    Calls Try.prog 8 #[.agg (pkV p), .agg (pkV q)] w fun e w' => e = .returned (.bool true) ∧ Below w.heap.size w w' := by
  by_cases r1 : RightN p
  · by_cases r2 : RightN q
    · exact wireApart_yy w p q hp hq r1 r2
    · exact wireApart_yn w p q hp hq r1 r2
  · by_cases r2 : RightN q
    · exact wireApart_ny w p q hp hq r1 r2
    · exact wireApart_nn w p q hp hq r1 r2

/-! ### the row's step, and the row -/
theorem wireApart_own : ownKnob Try.prog.godebug = none := by kernel_rfl
theorem wireApart_laidOut : laidOutB Try.prog = true := by kernel_rfl

set_option linter.unusedVariables false in
set_option maxRecDepth 100000 in
theorem wireApart_lifted (os : Os) (started : os.Started) (H : Type) (enc : TypeId × Value → H) :
    ReturnsInHanded {} Try.checked os 8 .any (Rows.wireApartSpec.pre6 enc Try.prog Try.f8 Rows.wireApartRow.domain false) (Rows.wireApartSpec.post enc Try.prog Try.f8 false true false false) := by
  refine returnsInHanded_of_change (C := Try.checked) wireApart_own started (by kernel_rfl) Try.func8
    (ChangeSpec.witness6 (enc := enc) (C := Try.checked) false ⟨#[], #[.agg #[.int .i64 0, .int .i64 0, .int .i64 0, .int .i64 0, .int .i64 0, .int .i64 0, .int .i64 0, .int .i64 0, .int .i64 0, .int .i64 0, .int .i64 0, .int .i64 0, .int .u8 0, .int .u8 0, .int .u8 0, .int .u8 0, .int .u8 0, .int .u8 0, .int .u8 0, .int .u8 0, .int .u8 0, .int .u8 0, .int .u8 0, .int .u8 0, .int .u8 0, .int .u8 0, .int .u8 0, .int .u8 0, .int .u8 0, .int .u8 0, .int .u8 0, .int .u8 0, .int .u8 0, .int .u8 0, .int .u8 0, .int .u8 0], .agg #[.int .i64 0, .int .i64 0, .int .i64 0, .int .i64 0, .int .i64 0, .int .i64 0, .int .i64 0, .int .i64 0, .int .i64 0, .int .i64 0, .int .i64 0, .int .i64 0, .int .u8 0, .int .u8 0, .int .u8 0, .int .u8 0, .int .u8 0, .int .u8 0, .int .u8 0, .int .u8 0, .int .u8 0, .int .u8 0, .int .u8 0, .int .u8 0, .int .u8 0, .int .u8 0, .int .u8 0, .int .u8 0, .int .u8 0, .int .u8 0, .int .u8 0, .int .u8 0, .int .u8 0, .int .u8 0, .int .u8 0, .int .u8 0]], []⟩ 8 (by kernel_rfl) (by kernel_rfl) (by kernel_rfl) (by kernel_rfl)) ?_
  intro W base args ds gs before hval0 hW hcnd _
  have hval : ∀ (j : Nat) t v, Try.f8.params[j]? = some t → args[j]? = some v → Value.okWide Try.prog W .any base t v := hval0
  have hW' := hW
  obtain ⟨p, q, hA0, hV, rfl, hfz, hnd⟩ := hW
  have hA : DataW.TrodAll enc Try.prog W 0 (fun _ => true) true Try.f8.params.toList args.toList ds p := hA0
  rw [Try.params8] at hA hval
  obtain ⟨v0, vs0, d0, ds0, p0, q0, hargs, rfl, rfl, h0, r0⟩ := trodAll_cons hA
  obtain ⟨v1, vs1, d1, ds1, p1, q1, rfl, rfl, rfl, h1, r1⟩ := trodAll_cons r0
  obtain ⟨rfl, rfl, rfl⟩ := trodAll_nil r1
  obtain rfl : args = #[v0, v1] := by cases args; simp_all
  obtain ⟨rfl, rfl⟩ := trodVars_none hV
  have k0 := h0
  have lt0 : ∀ x ∈ p0, x.block < W.heap.size := by obtain ⟨m, hm⟩ := k0; exact DataW.trod_lt m _ _ _ hm
  have o0 := hval 0 25 v0 rfl rfl
  obtain ⟨a0, ok0, rfl⟩ := pk_of o0 h0
  have k1 := h1
  have lt1 : ∀ x ∈ p1, x.block < W.heap.size := by obtain ⟨m, hm⟩ := k1; exact DataW.trod_lt m _ _ _ hm
  have o1 := hval 1 25 v1 rfl rfl
  obtain ⟨a1, ok1, rfl⟩ := pk_of o1 h1
  clear hA0 hval0
  refine (wireApart_walk W a0 ok0 a1 ok1).mono fun e W' ⟨he, bel⟩ => ?_
  subst he
  exact ⟨_, rfl, _, _, _, [], _, [], hW', trodAll_mk1 (shut_bool Try.underlying4 _), (trodAll_cons_mk (Below.trod wireApart_laidOut (by kernel_rfl) (of_decide_eq_true (by kernel_rfl)) k0 bel lt0) (trodAll_cons_mk (Below.trod wireApart_laidOut (by kernel_rfl) (of_decide_eq_true (by kernel_rfl)) k1 bel lt1) trodAll_mk0)), rfl, bel.frame _, fun h => by cases h⟩

theorem wireApart_over : Rows.wireApartRow.holds Try.pinned (OpenSpec.ofChange Rows.wireApartSpec) :=
  OpenClaim.holds_of_wide 8 Try.f8 rfl rfl rfl rfl rfl rfl rfl ⟨rfl, rfl, rfl, rfl, rfl⟩ rfl rfl rfl rfl rfl (by kernel_rfl) Try.func8 (by kernel_rfl)
    (of_decide_eq_true (by kernel_rfl)) (by unfold Func.isWrapper; first | (rw [if_pos (by decide +kernel)]; kernel_rfl) | (rw [if_neg (by decide +kernel)]; exact ⟨rfl, rfl⟩))
    (fun os started H enc _ => wireApart_lifted os started H enc)

/-- THE STATEMENT. -/
theorem wireApart_proved : Rows.WireApartSaid := wireApart_over
#print axioms wireApart_proved
end Go.Proofs.Ythlkmofemnepbaa
