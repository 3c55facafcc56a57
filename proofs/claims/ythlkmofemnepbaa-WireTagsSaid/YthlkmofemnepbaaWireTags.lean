/-
  nightjarlaw05.WireTags: for all inputs the law returns true. No conditions: for every input that can be read.
-/
import Derived.Test.YthlkmofemnepbaaRows
import Derived.Test.YthlkmofemnepbaaWSmall
import Derived.Test.YthlkmofemnepbaaWireLaw
import Derived.Test.YthlkmofemnepbaaPkArg
import Derived.Test.YthlkmofemnepbaaSlices
namespace Go.Proofs.Ythlkmofemnepbaa
open Go.ChangeShapes Go.WideShapes Go.ChangeAt Go.RowKit

theorem run_exec_load_mid {P : Program} {o : Oper} {ρ : Operand → Value} (w : World) (ty : TypeId) (x : Operand) (ho : o.op = .load ty x) (b off : Nat) (hx : ρ x = .pointer (some ⟨b, off, none⟩)) (cs : List Value) (d : TypeDesc) (hc : w.rangeAt b off cs)
    (hu : P.underlying ty = some d) (hd : d.isRow = true) (hi : (P.info? ty).map (·.size) = some cs.length) : (execOp ρ o).run P w = .ok (.value (.agg cs.toArray)) w := by
  unfold execOp
  simp only [ho, hx, Instr.loadAt, Instr.sureAddr, Sem.run_bind, Sem.run_pure, Result.andThen_ok, run_loadVar_mid w b off ty cs d hc hu hd hi]

set_option maxRecDepth 100000 in
theorem run_eql8 (w : World) (M c : List Nat) (q : Bool) (hq : decide (M = c) = q) (h1 : M.length = 8) (h2 : c.length = 8) (h3 : ∀ y ∈ M, y < 256) (h4 : ∀ y ∈ c, y < 256) : (binOp .eql 23 (.agg (bn M).toArray) (.agg (bn c).toArray)).run Try.prog w = .ok (.bool q) w := by
  obtain ⟨i0, hi, hz0, hz1, hz2⟩ := info_parts Try.info5
  have h := run_eql_bn (P := Try.prog) w 23 5 8 Try.underlying23 Try.underlying5 (fun w => by rw [run_sizeOf w hi]; rfl) M c h1 h2 h3 h4
  rw [h, ← hq]
  congr 2
  rw [Bool.eq_iff_iff, beq_iff_eq, decide_eq_true_iff]

/-- The bytes of a tagged packet: all but the tag's, and the tag's. -/
def preN (p : Pk) : List Int := p.kind % 256 :: (layS p.n (slotsN p.kind) ++ encSec p)
theorem enc_pre (p : Pk) (h : taggedN p.kind = true) : encN p = preN p ++ natsD p.tag := by
  unfold encN preN encTag
  rw [if_pos h]
  simp
theorem retag_right (p : Pk) (t : List Nat) (h : taggedN p.kind = true) (hR : RightN p) : RightN { p with tag := t } := by
  obtain ⟨h1, h2, ⟨h3, h4, _⟩, h6⟩ := hR
  refine ⟨h1, h2, ⟨h3, h4, ?_⟩, h6⟩
  show (if taggedN p.kind = true then t else _) = t
  rw [if_pos h]
theorem retag_not (p : Pk) (t : List Nat) (h : taggedN p.kind = false) (hR : RightN p) (ht : ¬ t = p.tag) : ¬ RightN { p with tag := t } := by
  intro hq
  have h5 := hR.2.2.1.2.2
  have h6 : (if taggedN p.kind = true then t else List.replicate 8 0) = t := hq.2.2.1.2.2
  have h7 : (if taggedN p.kind = true then p.tag else List.replicate 8 0) = p.tag := h5
  rw [h] at h6 h7
  exact ht (h6.symm.trans h7)

set_option maxRecDepth 100000 in
set_option maxHeartbeats 8000000 in
theorem wireTags_A (w : World) (p : Pk) (hp : p.Ok) (t : List Nat) (ht : t.length = 8) (htr : ∀ y ∈ t, y < 256) (hR : ¬ RightN p) :
    Calls Try.prog 6 #[.agg (pkV p), .agg (bn t).toArray] w fun e w' => e = .returned (.bool true) ∧ Below w.heap.size w w' := by
  have hX : True := trivial
  have HP : Hid (p.Ok ∧ t.length = 8 ∧ (∀ y ∈ t, y < 256) ∧ decide (RightN p) = false ∧ True) := Lib.hid ⟨hp, ht, htr, decide_eq_false hR, hX⟩
  clear hp ht htr hR hX
  go_enter Try.func6, Try.ntmps6
  go_wp2_with fail
  (with_reducible refine (wireSmall_any _).mono ?_)
  rintro e wa ⟨rfl, hba⟩
  obtain ⟨n0, hn0⟩ : ∃ n0, n0 = w.heap.size := ⟨_, rfl⟩
  rw [← hn0]
  have HA : Hid (Touch (fun _ => False) w wa ∧ Blk wa n0 25 (pkV p) ∧ Blk wa (n0 + 1) 23 (bn t).toArray) := Lib.hid (by
    have tt : Touch (fun _ => False) ((w.alloc (.cells (pkV p) 25)).alloc (.cells (bn t).toArray 23)) wa := Touch.of_below hba
    refine ⟨(((Touch.refl (fun _ => False) w).alloc _).alloc _).trans tt, ?_, ?_⟩
    · rw [hn0]
      exact ((Blk.new w (pkV p) 25).alloc _).touch tt (fun h => h)
    · rw [hn0]
      exact (blk_new_at (w := w.alloc (.cells (pkV p) 25)) (by simp) rfl).touch tt (fun h => h))
  clear hba hn0
  go_wp2_with ((with_reducible refine at_op (.load 25 (.tmp 2)) rfl ?_); refine wpList_load_blk rfl 25 (.tmp 2) rfl n0 25 (pkV p) _ rfl (HA.out.2.1) Try.underlying25 rfl (by rw [pkV_size HP.out.1]; first | done | kernel_rfl) ?_)
  (with_reducible refine (wireRight_any p HP.out.1 _).mono ?_)
  rintro e wb ⟨rfl, hbb⟩
  rw [HP.out.2.2.2.1]
  have HB : Hid (Touch (fun _ => False) w wb ∧ Blk wb n0 25 (pkV p) ∧ Blk wb (n0 + 1) 23 (bn t).toArray) := Lib.hid ⟨HA.out.1.trans (Touch.of_below hbb), HA.out.2.1.touch (Touch.of_below (S := fun _ => False) hbb) (fun h => h), HA.out.2.2.touch (Touch.of_below (S := fun _ => False) hbb) (fun h => h)⟩
  clear hbb
  go_wp2_with fail
  go_ret
  exact ⟨by first | rfl | simp, HB.out.1.below (Nat.le_refl _) (fun _ _ h => h)⟩

set_option maxRecDepth 100000 in
set_option maxHeartbeats 8000000 in
theorem wireTags_B (w : World) (p : Pk) (hp : p.Ok) (t : List Nat) (ht : t.length = 8) (htr : ∀ y ∈ t, y < 256) (hR : RightN p) (hX : t = p.tag) :
    Calls Try.prog 6 #[.agg (pkV p), .agg (bn t).toArray] w fun e w' => e = .returned (.bool true) ∧ Below w.heap.size w w' := by
  have HP : Hid (p.Ok ∧ t.length = 8 ∧ (∀ y ∈ t, y < 256) ∧ decide (RightN p) = true ∧ t = p.tag) := Lib.hid ⟨hp, ht, htr, decide_eq_true hR, hX⟩
  have HE : Hid (∀ w, (binOp .eql 23 (.agg (bn t).toArray) (.agg (bn p.tag).toArray)).run Try.prog w = .ok (.bool true) w) := Lib.hid (fun w => run_eql8 w t p.tag true (decide_eq_true hX) ht hp.ht htr hp.rt)
  clear hp ht htr hR hX
  go_enter Try.func6, Try.ntmps6
  go_wp2_with fail
  (with_reducible refine (wireSmall_any _).mono ?_)
  rintro e wa ⟨rfl, hba⟩
  obtain ⟨n0, hn0⟩ : ∃ n0, n0 = w.heap.size := ⟨_, rfl⟩
  rw [← hn0]
  have HA : Hid (Touch (fun _ => False) w wa ∧ Blk wa n0 25 (pkV p) ∧ Blk wa (n0 + 1) 23 (bn t).toArray) := Lib.hid (by
    have tt : Touch (fun _ => False) ((w.alloc (.cells (pkV p) 25)).alloc (.cells (bn t).toArray 23)) wa := Touch.of_below hba
    refine ⟨(((Touch.refl (fun _ => False) w).alloc _).alloc _).trans tt, ?_, ?_⟩
    · rw [hn0]
      exact ((Blk.new w (pkV p) 25).alloc _).touch tt (fun h => h)
    · rw [hn0]
      exact (blk_new_at (w := w.alloc (.cells (pkV p) 25)) (by simp) rfl).touch tt (fun h => h))
  clear hba hn0
  go_wp2_with ((with_reducible refine at_op (.load 25 (.tmp 2)) rfl ?_); refine wpList_load_blk rfl 25 (.tmp 2) rfl n0 25 (pkV p) _ rfl (HA.out.2.1) Try.underlying25 rfl (by rw [pkV_size HP.out.1]; first | done | kernel_rfl) ?_)
  (with_reducible refine (wireRight_any p HP.out.1 _).mono ?_)
  rintro e wb ⟨rfl, hbb⟩
  rw [HP.out.2.2.2.1]
  have HB : Hid (Touch (fun _ => False) w wb ∧ Blk wb n0 25 (pkV p) ∧ Blk wb (n0 + 1) 23 (bn t).toArray) := Lib.hid ⟨HA.out.1.trans (Touch.of_below hbb), HA.out.2.1.touch (Touch.of_below (S := fun _ => False) hbb) (fun h => h), HA.out.2.2.touch (Touch.of_below (S := fun _ => False) hbb) (fun h => h)⟩
  clear hbb
  go_wp2_with (first
    | ((with_reducible refine at_op (.load 23 (.tmp 3)) rfl ?_); refine wpList_load_blk_g (by rfl) 23 (.tmp 3) rfl (n0 + 1) 23 (bn t).toArray _ rfl (HB.out.2.2) Try.underlying23 rfl (by rw [bn_size, HP.out.2.1]; first | done | kernel_rfl) ?_)
    | ((with_reducible refine at_op (.load 23 (.tmp 18)) rfl ?_); refine wpList_val_g (by rfl) _ (run_exec_load_mid _ 23 (.tmp 18) rfl n0 28 rfl (bn p.tag) _ (HB.out.2.1.tag HP.out.1) Try.underlying23 rfl (by rw [bn_len, HP.out.1.ht]; first | done | kernel_rfl)) ?_)
    | ((with_reducible refine at_op (.binOp .eql 23 (.tmp 17) (.tmp 19) 23) rfl ?_); refine wpList_eql_g (by rfl) .eql 23 23 (.tmp 17) (.tmp 19) rfl (bn t).toArray (bn p.tag).toArray rfl rfl (by kernel_rfl) _ (HE.out _) ?_))
  go_ret
  exact ⟨by first | rfl | simp, HB.out.1.below (Nat.le_refl _) (fun _ _ h => h)⟩

set_option maxRecDepth 100000 in
set_option maxHeartbeats 8000000 in
theorem wireTags_C (w : World) (p : Pk) (hp : p.Ok) (t : List Nat) (ht : t.length = 8) (htr : ∀ y ∈ t, y < 256) (hR : RightN p) (hX : ¬ t = p.tag) (hT : taggedN p.kind = false) :
    Calls Try.prog 6 #[.agg (pkV p), .agg (bn t).toArray] w fun e w' => e = .returned (.bool true) ∧ Below w.heap.size w w' := by
  have HP : Hid (p.Ok ∧ t.length = 8 ∧ (∀ y ∈ t, y < 256) ∧ decide (RightN p) = true ∧ ¬ t = p.tag) := Lib.hid ⟨hp, ht, htr, decide_eq_true hR, hX⟩
  have HE : Hid (∀ w, (binOp .eql 23 (.agg (bn t).toArray) (.agg (bn p.tag).toArray)).run Try.prog w = .ok (.bool false) w) := Lib.hid (fun w => run_eql8 w t p.tag false (decide_eq_false hX) ht hp.ht htr hp.rt)
  obtain ⟨k, hk⟩ : ∃ k, k = p.kind := ⟨_, rfl⟩
  have HK : Hid (k = p.n.getD 0 0) := Lib.hid hk
  have HT : Hid (taggedN k = false) := Lib.hid (by rw [hk]; exact hT)
  obtain ⟨Z1, hZ1⟩ : ∃ Z, encN p = Z := ⟨_, rfl⟩
  obtain ⟨m1, hm1⟩ : ∃ n, Z1.length = n := ⟨_, rfl⟩
  have HZ1 := Lib.hid (And.intro hZ1 hm1)
  have HR : Hid (RightN p ∧ ¬ RightN { p with tag := t }) := Lib.hid ⟨hR, retag_not p t hT hR hX⟩
  clear hp ht htr hR hX hk hT hZ1 hm1
  go_enter Try.func6, Try.ntmps6
  go_wp2_with fail
  (with_reducible refine (wireSmall_any _).mono ?_)
  rintro e wa ⟨rfl, hba⟩
  obtain ⟨n0, hn0⟩ : ∃ n0, n0 = w.heap.size := ⟨_, rfl⟩
  rw [← hn0]
  have HA : Hid (Touch (fun _ => False) w wa ∧ Blk wa n0 25 (pkV p) ∧ Blk wa (n0 + 1) 23 (bn t).toArray) := Lib.hid (by
    have tt : Touch (fun _ => False) ((w.alloc (.cells (pkV p) 25)).alloc (.cells (bn t).toArray 23)) wa := Touch.of_below hba
    refine ⟨(((Touch.refl (fun _ => False) w).alloc _).alloc _).trans tt, ?_, ?_⟩
    · rw [hn0]
      exact ((Blk.new w (pkV p) 25).alloc _).touch tt (fun h => h)
    · rw [hn0]
      exact (blk_new_at (w := w.alloc (.cells (pkV p) 25)) (by simp) rfl).touch tt (fun h => h))
  clear hba hn0
  go_wp2_with ((with_reducible refine at_op (.load 25 (.tmp 2)) rfl ?_); refine wpList_load_blk rfl 25 (.tmp 2) rfl n0 25 (pkV p) _ rfl (HA.out.2.1) Try.underlying25 rfl (by rw [pkV_size HP.out.1]; first | done | kernel_rfl) ?_)
  (with_reducible refine (wireRight_any p HP.out.1 _).mono ?_)
  rintro e wb ⟨rfl, hbb⟩
  rw [HP.out.2.2.2.1]
  have HB : Hid (Touch (fun _ => False) w wb ∧ Blk wb n0 25 (pkV p) ∧ Blk wb (n0 + 1) 23 (bn t).toArray) := Lib.hid ⟨HA.out.1.trans (Touch.of_below hbb), HA.out.2.1.touch (Touch.of_below (S := fun _ => False) hbb) (fun h => h), HA.out.2.2.touch (Touch.of_below (S := fun _ => False) hbb) (fun h => h)⟩
  clear hbb
  go_wp2_with (first
    | ((with_reducible refine at_op (.load 23 (.tmp 3)) rfl ?_); refine wpList_load_blk_g (by rfl) 23 (.tmp 3) rfl (n0 + 1) 23 (bn t).toArray _ rfl (HB.out.2.2) Try.underlying23 rfl (by rw [bn_size, HP.out.2.1]; first | done | kernel_rfl) ?_)
    | ((with_reducible refine at_op (.load 23 (.tmp 18)) rfl ?_); refine wpList_val_g (by rfl) _ (run_exec_load_mid _ 23 (.tmp 18) rfl n0 28 rfl (bn p.tag) _ (HB.out.2.1.tag HP.out.1) Try.underlying23 rfl (by rw [bn_len, HP.out.1.ht]; first | done | kernel_rfl)) ?_)
    | ((with_reducible refine at_op (.binOp .eql 23 (.tmp 17) (.tmp 19) 23) rfl ?_); refine wpList_eql_g (by rfl) .eql 23 23 (.tmp 17) (.tmp 19) rfl (bn t).toArray (bn p.tag).toArray rfl rfl (by kernel_rfl) _ (HE.out _) ?_)
    | ((with_reducible refine at_op (.load 25 (.tmp 2)) rfl ?_); refine wpList_load_blk rfl 25 (.tmp 2) rfl n0 25 (pkV p) _ rfl (HB.out.2.1) Try.underlying25 rfl (by rw [pkV_size HP.out.1]; first | done | kernel_rfl) ?_)
    | ((with_reducible refine at_op (.store 25 (.tmp 6) (.tmp 23)) rfl ?_); refine wpList_store_blk rfl 25 (.tmp 6) (.tmp 23) rfl wb.heap.size 25 _ (pkV p) rfl rfl (Blk.new _ _ _) (by rw [pkV_size HP.out.1]; first | done | kernel_rfl) (by rw [pkV_size HP.out.1]; first | done | kernel_rfl) (pkV_one _) ?_; intro wc hB ht hs; have HC : Hid (Touch (fun _ => False) wb wc ∧ Blk wc wb.heap.size 25 (pkV p)) := Lib.hid (⟨touch_store ht, hB⟩); clear hB ht hs)
    | ((with_reducible refine at_op (.load 23 (.tmp 3)) rfl ?_); refine wpList_load_blk rfl 23 (.tmp 3) rfl (n0 + 1) 23 (bn t).toArray _ rfl (HB.out.2.2.touch HC.out.1 (fun h => h)) Try.underlying23 rfl (by rw [bn_size, HP.out.2.1]; first | done | kernel_rfl) ?_)
    | ((with_reducible refine at_op (.store 23 (.tmp 25) (.tmp 24)) rfl ?_); refine wpList_store_tag rfl 23 (.tmp 25) (.tmp 24) rfl wb.heap.size 25 p t rfl rfl HC.out.2 HP.out.1 HP.out.2.1 (by kernel_rfl) ?_; intro wd hB ht hs; have HD : Hid (Touch (fun _ => False) wb wd ∧ Blk wd wb.heap.size 25 (pkV { p with tag := t })) := Lib.hid ⟨Touch.then HC.out.1 ht (fun i hi e => by omega), hB⟩; clear hB ht hs)
    | ((with_reducible refine at_op (.load 25 (.tmp 2)) rfl ?_); refine wpList_load_blk rfl 25 (.tmp 2) rfl n0 25 (pkV p) _ rfl (HB.out.2.1.touch HD.out.1 (fun h => h)) Try.underlying25 rfl (by rw [pkV_size HP.out.1]; first | done | kernel_rfl) ?_))
  (with_reducible refine (enc_lit _ p rfl HP.out.1 HR.out.1 Z1 m1 HZ1.out.1 HZ1.out.2 _).mono ?_)
  rintro e we ⟨a1, c1, rfl, ho1, hc1, hbe⟩
  have HG : Hid (Touch (fun _ => False) wb we ∧ Blk we wb.heap.size 25 (pkV { p with tag := t })) := Lib.hid ⟨HD.out.1.trans (Touch.of_below hbe), HD.out.2.touch (Touch.of_below (S := fun _ => False) hbe) (fun h => h)⟩
  have HO1 := Lib.hid (And.intro ho1 hc1)
  clear hbe ho1 hc1
  go_wp2_with ((with_reducible refine at_op (.load 25 (.tmp 6)) rfl ?_); refine wpList_load_blk rfl 25 (.tmp 6) rfl wb.heap.size 25 (pkV { p with tag := t }) _ rfl HG.out.2 Try.underlying25 rfl (by rw [pkV_size (HP.out.1.setTag HP.out.2.1 HP.out.2.2.1)]; first | done | kernel_rfl) ?_)
  (with_reducible refine (wireEnc_no _ (HP.out.1.setTag HP.out.2.1 HP.out.2.2.1) HR.out.2 _).mono ?_)
  rintro e wf ⟨rfl, hbf⟩
  have HW : Hid (Touch (fun _ => False) wb wf ∧ Blk wf n0 25 (pkV p) ∧ Blk wf (n0 + 1) 23 (bn t).toArray ∧ Touch (fun _ => False) w wf) := Lib.hid (by
    have tt := HG.out.1.trans (Touch.of_below (S := fun _ => False) hbf)
    exact ⟨tt, HB.out.2.1.touch tt (fun h => h), HB.out.2.2.touch tt (fun h => h), HB.out.1.trans tt⟩)
  have HEF : Hid (Touch (fun _ => False) we wf) := Lib.hid (Touch.of_below hbf)
  clear hbf
  have d0 : wf.cell? ⟨n0, 0, none⟩ = some (.int .i64 k) := by rw [HK.out]; exact HW.out.2.1.num HP.out.1 0 (by decide)
  go_wp2_with fail
  (with_reducible refine (tagged_any k _).mono ?_)
  rintro e _ ⟨rfl, rfl⟩
  rw [HT.out]
  clear d0
  go_wp2_with fail
  go_ret
  exact ⟨by first | rfl | simp, HW.out.2.2.2.below (Nat.le_refl _) (fun _ _ h => h)⟩

set_option maxRecDepth 100000 in
set_option maxHeartbeats 8000000 in
theorem wireTags_D (w : World) (p : Pk) (hp : p.Ok) (t : List Nat) (ht : t.length = 8) (htr : ∀ y ∈ t, y < 256) (hR : RightN p) (hX : ¬ t = p.tag) (hT : taggedN p.kind = true) :
    Calls Try.prog 6 #[.agg (pkV p), .agg (bn t).toArray] w fun e w' => e = .returned (.bool true) ∧ Below w.heap.size w w' := by
  have HP : Hid (p.Ok ∧ t.length = 8 ∧ (∀ y ∈ t, y < 256) ∧ decide (RightN p) = true ∧ ¬ t = p.tag) := Lib.hid ⟨hp, ht, htr, decide_eq_true hR, hX⟩
  have HE : Hid (∀ w, (binOp .eql 23 (.agg (bn t).toArray) (.agg (bn p.tag).toArray)).run Try.prog w = .ok (.bool false) w) := Lib.hid (fun w => run_eql8 w t p.tag false (decide_eq_false hX) ht hp.ht htr hp.rt)
  obtain ⟨k, hk⟩ : ∃ k, k = p.kind := ⟨_, rfl⟩
  have HK : Hid (k = p.n.getD 0 0) := Lib.hid hk
  have HT : Hid (taggedN k = true) := Lib.hid (by rw [hk]; exact hT)
  obtain ⟨Z1, hZ1⟩ : ∃ Z, encN p = Z := ⟨_, rfl⟩
  obtain ⟨m1, hm1⟩ : ∃ n, Z1.length = n := ⟨_, rfl⟩
  have HZ1 := Lib.hid (And.intro hZ1 hm1)
  obtain ⟨i0, hi8, hz0, hz1, hz2⟩ := info_parts Try.info5
  have hRq := retag_right p t hT hR
  have HR : Hid (RightN p ∧ RightN { p with tag := t }) := Lib.hid ⟨hR, hRq⟩
  obtain ⟨Z2, hZ2⟩ : ∃ Z, encN { p with tag := t } = Z := ⟨_, rfl⟩
  obtain ⟨X, hXX⟩ : ∃ X, preN p = X := ⟨_, rfl⟩
  obtain ⟨nx, hnx⟩ : ∃ n, X.length = n := ⟨_, rfl⟩
  have e1 : Z1 = X ++ natsD p.tag := by rw [← hZ1, ← hXX]; exact enc_pre p hT
  have e2 : Z2 = X ++ natsD t := by rw [← hZ2, ← hXX]; exact enc_pre { p with tag := t } hT
  have hl1 : m1 = nx + 8 := by rw [← hm1, e1, List.length_append, natsD_len, hp.ht, hnx]
  have hm2 : Z2.length = m1 := by rw [e2, List.length_append, natsD_len, ht, hnx, hl1]
  have HZ2 := Lib.hid (And.intro hZ2 hm2)
  have HX : Hid (X.length = nx ∧ bys Z1 = bys X ++ bys (natsD p.tag) ∧ bys Z2 = bys X ++ bys (natsD t)) := Lib.hid ⟨hnx, by rw [e1, bys_append], by rw [e2, bys_append]⟩
  have HX8 : Hid ((natsD t).length = m1 - nx ∧ (natsD p.tag).length = m1 - nx) := Lib.hid ⟨by rw [natsD_len, ht]; omega, by rw [natsD_len, hp.ht]; omega⟩
  have HNX : Hid (nx ≤ m1) := Lib.hid (by omega)
  have hnx0 : 0 < nx := by rw [← hnx, ← hXX]; exact Nat.succ_pos _
  have hnx0i : (0 : Int) < nx := by omega
  have kw : IntKind.i64.wrap ((m1 : Int) - 8) = (nx : Int) := by
    have h25 : m1 ≤ 26 := by
      have h1 := size_range p.kind (right_kind p hR)
      have h2 := enc_len p hp
      rw [hZ1, hm1] at h2
      omega
    simp [IntKind.wrap, IntKind.bits, IntKind.signed]
    omega
  clear hp ht htr hR hX hk hT hZ1 hm1 hRq hZ2 hXX hnx e1 e2 hl1 hm2
  go_enter Try.func6, Try.ntmps6
  go_wp2_with fail
  (with_reducible refine (wireSmall_any _).mono ?_)
  rintro e wa ⟨rfl, hba⟩
  obtain ⟨n0, hn0⟩ : ∃ n0, n0 = w.heap.size := ⟨_, rfl⟩
  rw [← hn0]
  have HA : Hid (Touch (fun _ => False) w wa ∧ Blk wa n0 25 (pkV p) ∧ Blk wa (n0 + 1) 23 (bn t).toArray) := Lib.hid (by
    have tt : Touch (fun _ => False) ((w.alloc (.cells (pkV p) 25)).alloc (.cells (bn t).toArray 23)) wa := Touch.of_below hba
    refine ⟨(((Touch.refl (fun _ => False) w).alloc _).alloc _).trans tt, ?_, ?_⟩
    · rw [hn0]
      exact ((Blk.new w (pkV p) 25).alloc _).touch tt (fun h => h)
    · rw [hn0]
      exact (blk_new_at (w := w.alloc (.cells (pkV p) 25)) (by simp) rfl).touch tt (fun h => h))
  clear hba hn0
  go_wp2_with ((with_reducible refine at_op (.load 25 (.tmp 2)) rfl ?_); refine wpList_load_blk rfl 25 (.tmp 2) rfl n0 25 (pkV p) _ rfl (HA.out.2.1) Try.underlying25 rfl (by rw [pkV_size HP.out.1]; first | done | kernel_rfl) ?_)
  (with_reducible refine (wireRight_any p HP.out.1 _).mono ?_)
  rintro e wb ⟨rfl, hbb⟩
  rw [HP.out.2.2.2.1]
  have HB : Hid (Touch (fun _ => False) w wb ∧ Blk wb n0 25 (pkV p) ∧ Blk wb (n0 + 1) 23 (bn t).toArray) := Lib.hid ⟨HA.out.1.trans (Touch.of_below hbb), HA.out.2.1.touch (Touch.of_below (S := fun _ => False) hbb) (fun h => h), HA.out.2.2.touch (Touch.of_below (S := fun _ => False) hbb) (fun h => h)⟩
  clear hbb
  go_wp2_with (first
    | ((with_reducible refine at_op (.load 23 (.tmp 3)) rfl ?_); refine wpList_load_blk_g (by rfl) 23 (.tmp 3) rfl (n0 + 1) 23 (bn t).toArray _ rfl (HB.out.2.2) Try.underlying23 rfl (by rw [bn_size, HP.out.2.1]; first | done | kernel_rfl) ?_)
    | ((with_reducible refine at_op (.load 23 (.tmp 18)) rfl ?_); refine wpList_val_g (by rfl) _ (run_exec_load_mid _ 23 (.tmp 18) rfl n0 28 rfl (bn p.tag) _ (HB.out.2.1.tag HP.out.1) Try.underlying23 rfl (by rw [bn_len, HP.out.1.ht]; first | done | kernel_rfl)) ?_)
    | ((with_reducible refine at_op (.binOp .eql 23 (.tmp 17) (.tmp 19) 23) rfl ?_); refine wpList_eql_g (by rfl) .eql 23 23 (.tmp 17) (.tmp 19) rfl (bn t).toArray (bn p.tag).toArray rfl rfl (by kernel_rfl) _ (HE.out _) ?_)
    | ((with_reducible refine at_op (.load 25 (.tmp 2)) rfl ?_); refine wpList_load_blk rfl 25 (.tmp 2) rfl n0 25 (pkV p) _ rfl (HB.out.2.1) Try.underlying25 rfl (by rw [pkV_size HP.out.1]; first | done | kernel_rfl) ?_)
    | ((with_reducible refine at_op (.store 25 (.tmp 6) (.tmp 23)) rfl ?_); refine wpList_store_blk rfl 25 (.tmp 6) (.tmp 23) rfl wb.heap.size 25 _ (pkV p) rfl rfl (Blk.new _ _ _) (by rw [pkV_size HP.out.1]; first | done | kernel_rfl) (by rw [pkV_size HP.out.1]; first | done | kernel_rfl) (pkV_one _) ?_; intro wc hB ht hs; have HC : Hid (Touch (fun _ => False) wb wc ∧ Blk wc wb.heap.size 25 (pkV p)) := Lib.hid (⟨touch_store ht, hB⟩); clear hB ht hs)
    | ((with_reducible refine at_op (.load 23 (.tmp 3)) rfl ?_); refine wpList_load_blk rfl 23 (.tmp 3) rfl (n0 + 1) 23 (bn t).toArray _ rfl (HB.out.2.2.touch HC.out.1 (fun h => h)) Try.underlying23 rfl (by rw [bn_size, HP.out.2.1]; first | done | kernel_rfl) ?_)
    | ((with_reducible refine at_op (.store 23 (.tmp 25) (.tmp 24)) rfl ?_); refine wpList_store_tag rfl 23 (.tmp 25) (.tmp 24) rfl wb.heap.size 25 p t rfl rfl HC.out.2 HP.out.1 HP.out.2.1 (by kernel_rfl) ?_; intro wd hB ht hs; have HD : Hid (Touch (fun _ => False) wb wd ∧ Blk wd wb.heap.size 25 (pkV { p with tag := t })) := Lib.hid ⟨Touch.then HC.out.1 ht (fun i hi e => by omega), hB⟩; clear hB ht hs)
    | ((with_reducible refine at_op (.load 25 (.tmp 2)) rfl ?_); refine wpList_load_blk rfl 25 (.tmp 2) rfl n0 25 (pkV p) _ rfl (HB.out.2.1.touch HD.out.1 (fun h => h)) Try.underlying25 rfl (by rw [pkV_size HP.out.1]; first | done | kernel_rfl) ?_))
  (with_reducible refine (enc_lit _ p rfl HP.out.1 HR.out.1 Z1 m1 HZ1.out.1 HZ1.out.2 _).mono ?_)
  rintro e we ⟨a1, c1, rfl, ho1, hc1, hbe⟩
  have HG : Hid (Touch (fun _ => False) wb we ∧ Blk we wb.heap.size 25 (pkV { p with tag := t })) := Lib.hid ⟨HD.out.1.trans (Touch.of_below hbe), HD.out.2.touch (Touch.of_below (S := fun _ => False) hbe) (fun h => h)⟩
  have HO1 := Lib.hid (And.intro ho1 hc1)
  clear hbe ho1 hc1
  go_wp2_with ((with_reducible refine at_op (.load 25 (.tmp 6)) rfl ?_); refine wpList_load_blk rfl 25 (.tmp 6) rfl wb.heap.size 25 (pkV { p with tag := t }) _ rfl HG.out.2 Try.underlying25 rfl (by rw [pkV_size (HP.out.1.setTag HP.out.2.1 HP.out.2.2.1)]; first | done | kernel_rfl) ?_)
  (with_reducible refine (enc_lit _ _ rfl (HP.out.1.setTag HP.out.2.1 HP.out.2.2.1) HR.out.2 Z2 m1 HZ2.out.1 HZ2.out.2 _).mono ?_)
  rintro e wf ⟨a2, c2, rfl, ho2, hc2, hbf⟩
  have HO2 := Lib.hid (And.intro ho2 hc2)
  have HCP : Hid (m1 ≤ c1 ∧ m1 ≤ c2) := Lib.hid ⟨by obtain ⟨_, _, e, _, h, _⟩ := owns_form HO1.out.1; rw [(Value.slice.inj e).2.2]; exact h, by obtain ⟨_, _, e, _, h, _⟩ := owns_form HO2.out.1; rw [(Value.slice.inj e).2.2]; exact h⟩
  have HCAP : Hid (nx ≤ c1 ∧ nx ≤ c2) := Lib.hid ⟨Nat.le_trans HNX.out HCP.out.1, Nat.le_trans HNX.out HCP.out.2⟩
  clear ho2 hc2
  have HW : Hid (Touch (fun _ => False) wb wf ∧ Blk wf n0 25 (pkV p) ∧ Blk wf (n0 + 1) 23 (bn t).toArray ∧ Touch (fun _ => False) w wf) := Lib.hid (by
    have tt := HG.out.1.trans (Touch.of_below (S := fun _ => False) hbf)
    exact ⟨tt, HB.out.2.1.touch tt (fun h => h), HB.out.2.2.touch tt (fun h => h), HB.out.1.trans tt⟩)
  have HEF : Hid (Touch (fun _ => False) we wf) := Lib.hid (Touch.of_below hbf)
  clear hbf
  have d0 : wf.cell? ⟨n0, 0, none⟩ = some (.int .i64 k) := by rw [HK.out]; exact HW.out.2.1.num HP.out.1 0 (by decide)
  go_wp2_with fail
  (with_reducible refine (tagged_any k _).mono ?_)
  rintro e _ ⟨rfl, rfl⟩
  rw [HT.out]
  clear d0
  go_wp2_with fail
  refine wp_region_held_drew (S := fun w' : World => TG wf w') (by kernel_rfl) ((TG.refl wf).drew) (fun hHeld => ?_)
  refine anyH_world (R := fun w' : World => TG wf w') hHeld ?_
  clear hHeld
  intro W0q hHeld
  refine region_take 0 (v := ?vq0_1) rfl rfl (by kernel_rfl) (by kernel_rfl) (by kernel_rfl) (fun _ _ _ h => h) hHeld (Or.inl ⟨by rfl, ?yq0_1⟩) ?rq0_1
  case yq0_1 => (intro w hSw; (try dsimp only at hSw); go_simp; try with_reducible rfl)
  try simp only [Act.put, List.setIfInBounds_toArray, List.set_cons_zero, List.set_cons_succ]
  refine region_take 1 (v := ?vq1_2) rfl rfl (by kernel_rfl) (by kernel_rfl) (by kernel_rfl) (fun _ _ _ h => h) hHeld (Or.inl ⟨by rfl, ?yq1_2⟩) ?rq1_2
  case yq1_2 => (intro w hSw; (try dsimp only at hSw); go_simp; try with_reducible rfl)
  try simp only [Act.put, List.setIfInBounds_toArray, List.set_cons_zero, List.set_cons_succ]
  refine region_take 2 (v := ?vq2_3) rfl rfl (by kernel_rfl) (by kernel_rfl) (by kernel_rfl) (fun _ _ _ h => h) hHeld (Or.inl ⟨by rfl, ?yq2_3⟩) ?rq2_3
  case yq2_3 => (intro w hSw; (try dsimp only at hSw); go_simp; try with_reducible rfl)
  try simp only [Act.put, List.setIfInBounds_toArray, List.set_cons_zero, List.set_cons_succ]
  refine region_take 3 (v := ?vq3_4) rfl rfl (by kernel_rfl) (by kernel_rfl) (by kernel_rfl) (fun _ _ _ h => h) hHeld (Or.inl ⟨by rfl, ?yq3_4⟩) ?rq3_4
  case yq3_4 => (intro w hSw; (try dsimp only at hSw); go_simp; try with_reducible rfl)
  try simp only [Act.put, List.setIfInBounds_toArray, List.set_cons_zero, List.set_cons_succ]
  refine region_take 4 (v := ?vq4_5) rfl rfl (by kernel_rfl) (by kernel_rfl) (by kernel_rfl) (fun _ _ _ h => h) hHeld (Or.inl ⟨by rfl, ?yq4_5⟩) ?rq4_5
  case yq4_5 => (intro w hSw; (try dsimp only at hSw); go_simp; try with_reducible rfl)
  try simp only [Act.put, List.setIfInBounds_toArray, List.set_cons_zero, List.set_cons_succ]
  refine region_take 5 (v := ?vq5_6) rfl rfl (by kernel_rfl) (by kernel_rfl) (by kernel_rfl) (fun _ _ _ h => h) hHeld (Or.inl ⟨by rfl, ?yq5_6⟩) ?rq5_6
  case yq5_6 => (intro w hSw; (try dsimp only at hSw); go_simp; try with_reducible rfl)
  try simp only [Act.put, List.setIfInBounds_toArray, List.set_cons_zero, List.set_cons_succ]
  refine region_take 6 (v := ?vq6_7) rfl rfl (by kernel_rfl) (by kernel_rfl) (by kernel_rfl) (fun _ _ _ h => h) hHeld (Or.inl ⟨by rfl, ?yq6_7⟩) ?rq6_7
  case yq6_7 => (intro w hSw; (try dsimp only at hSw); go_simp; try with_reducible rfl)
  try simp only [Act.put, List.setIfInBounds_toArray, List.set_cons_zero, List.set_cons_succ]
  refine region_take 7 (v := ?vq7_8) rfl rfl (by kernel_rfl) (by kernel_rfl) (by kernel_rfl) (fun _ _ _ h => h) hHeld (Or.inl ⟨by rfl, ?yq7_8⟩) ?rq7_8
  case yq7_8 => (intro w hSw; (try dsimp only at hSw); go_simp; try with_reducible rfl)
  try simp only [Act.put, List.setIfInBounds_toArray, List.set_cons_zero, List.set_cons_succ]
  refine region_take 8 (v := ?vq8_9) rfl rfl (by kernel_rfl) (by kernel_rfl) (by kernel_rfl) (fun _ _ _ h => h) hHeld (Or.inl ⟨by rfl, ?yq8_9⟩) ?rq8_9
  case yq8_9 => (intro w hSw; (try dsimp only at hSw); go_simp; try with_reducible rfl)
  try simp only [Act.put, List.setIfInBounds_toArray, List.set_cons_zero, List.set_cons_succ]
  refine region_take 9 (v := ?vq9_10) rfl rfl (by kernel_rfl) (by kernel_rfl) (by kernel_rfl) (fun _ _ _ h => h) hHeld (Or.inl ⟨by rfl, ?yq9_10⟩) ?rq9_10
  case yq9_10 => (intro w hSw; (try dsimp only at hSw); go_simp; try with_reducible rfl)
  try simp only [Act.put, List.setIfInBounds_toArray, List.set_cons_zero, List.set_cons_succ]
  refine region_take 10 (v := ?vq10_11) rfl rfl (by kernel_rfl) (by kernel_rfl) (by kernel_rfl) (fun _ _ _ h => h) hHeld (Or.inl ⟨by rfl, ?yq10_11⟩) ?rq10_11
  case yq10_11 => (intro w hSw; (try dsimp only at hSw); go_simp; try with_reducible rfl)
  try simp only [Act.put, List.setIfInBounds_toArray, List.set_cons_zero, List.set_cons_succ]
  refine region_take 11 (v := ?vq11_12) rfl rfl (by kernel_rfl) (by kernel_rfl) (by kernel_rfl) (fun _ _ _ h => h) hHeld (Or.inl ⟨by rfl, ?yq11_12⟩) ?rq11_12
  case yq11_12 => (intro w hSw; (try dsimp only at hSw); go_simp; try with_reducible rfl)
  try simp only [Act.put, List.setIfInBounds_toArray, List.set_cons_zero, List.set_cons_succ]
  refine region_take 12 (v := ?vq12_13) rfl rfl (by kernel_rfl) (by kernel_rfl) (by kernel_rfl) (fun _ _ _ h => h) hHeld (Or.inl ⟨by rfl, ?yq12_13⟩) ?rq12_13
  case yq12_13 => (intro w hSw; (try dsimp only at hSw); go_simp; try with_reducible rfl)
  try simp only [Act.put, List.setIfInBounds_toArray, List.set_cons_zero, List.set_cons_succ]
  refine region_take 13 (v := ?vq13_14) rfl rfl (by kernel_rfl) (by kernel_rfl) (by kernel_rfl) (fun _ _ _ h => h) hHeld (Or.inl ⟨by rfl, ?yq13_14⟩) ?rq13_14
  case yq13_14 => (intro w hSw; (try dsimp only at hSw); go_simp; try with_reducible rfl)
  try simp only [Act.put, List.setIfInBounds_toArray, List.set_cons_zero, List.set_cons_succ]
  refine region_take 14 (v := ?vq14_15) rfl rfl (by kernel_rfl) (by kernel_rfl) (by kernel_rfl) (fun _ _ _ h => h) hHeld (Or.inl ⟨by rfl, ?yq14_15⟩) ?rq14_15
  case yq14_15 => (intro w hSw; (try dsimp only at hSw); go_simp; try with_reducible rfl)
  try simp only [Act.put, List.setIfInBounds_toArray, List.set_cons_zero, List.set_cons_succ]
  refine region_take 15 (v := ?vq15_16) rfl rfl (by kernel_rfl) (by kernel_rfl) (by kernel_rfl) (fun _ _ _ h => h) hHeld (Or.inl ⟨by rfl, ?yq15_16⟩) ?rq15_16
  case yq15_16 => (intro w hSw; (try dsimp only at hSw); go_simp; try with_reducible rfl)
  try simp only [Act.put, List.setIfInBounds_toArray, List.set_cons_zero, List.set_cons_succ]
  refine region_take 16 (v := ?vq16_17) rfl rfl (by kernel_rfl) (by kernel_rfl) (by kernel_rfl) (fun _ _ _ h => h) hHeld (Or.inl ⟨by rfl, ?yq16_17⟩) ?rq16_17
  case yq16_17 => (intro w hSw; (try dsimp only at hSw); go_simp; try with_reducible rfl)
  try simp only [Act.put, List.setIfInBounds_toArray, List.set_cons_zero, List.set_cons_succ]
  refine region_take 17 (v := ?vq17_18) rfl rfl (by kernel_rfl) (by kernel_rfl) (by kernel_rfl) (fun _ _ _ h => h) hHeld (Or.inl ⟨by rfl, ?yq17_18⟩) ?rq17_18
  case yq17_18 => (intro w hSw; (try dsimp only at hSw); go_simp; try with_reducible rfl)
  try simp only [Act.put, List.setIfInBounds_toArray, List.set_cons_zero, List.set_cons_succ]
  refine region_take 18 (v := ?vq18_19) rfl rfl (by kernel_rfl) (by kernel_rfl) (by kernel_rfl) (fun _ _ _ h => h) hHeld (Or.inl ⟨by rfl, ?yq18_19⟩) ?rq18_19
  case yq18_19 => (intro w hSw; (try dsimp only at hSw); go_simp; try with_reducible rfl)
  try simp only [Act.put, List.setIfInBounds_toArray, List.set_cons_zero, List.set_cons_succ]
  refine region_take 19 (v := ?vq19_20) rfl rfl (by kernel_rfl) (by kernel_rfl) (by kernel_rfl) (fun _ _ _ h => h) hHeld (Or.inl ⟨by rfl, ?yq19_20⟩) ?rq19_20
  case yq19_20 => (intro w hSw; (try dsimp only at hSw); go_simp; try with_reducible rfl)
  try simp only [Act.put, List.setIfInBounds_toArray, List.set_cons_zero, List.set_cons_succ]
  refine region_take 20 (v := ?vq20_21) rfl rfl (by kernel_rfl) (by kernel_rfl) (by kernel_rfl) (fun _ _ _ h => h) hHeld (Or.inl ⟨by rfl, ?yq20_21⟩) ?rq20_21
  case yq20_21 => (intro w hSw; (try dsimp only at hSw); go_simp; try with_reducible rfl)
  try simp only [Act.put, List.setIfInBounds_toArray, List.set_cons_zero, List.set_cons_succ]
  refine region_take 21 (v := ?vq21_22) rfl rfl (by kernel_rfl) (by kernel_rfl) (by kernel_rfl) (fun _ _ _ h => h) hHeld (Or.inl ⟨by rfl, ?yq21_22⟩) ?rq21_22
  case yq21_22 => (intro w hSw; (try dsimp only at hSw); go_simp; try with_reducible rfl)
  try simp only [Act.put, List.setIfInBounds_toArray, List.set_cons_zero, List.set_cons_succ]
  refine region_take 22 (v := ?vq22_23) rfl rfl (by kernel_rfl) (by kernel_rfl) (by kernel_rfl) (fun _ _ _ h => h) hHeld (Or.inl ⟨by rfl, ?yq22_23⟩) ?rq22_23
  case yq22_23 => (intro w hSw; (try dsimp only at hSw); go_simp; try with_reducible rfl)
  try simp only [Act.put, List.setIfInBounds_toArray, List.set_cons_zero, List.set_cons_succ]
  refine region_take 23 (v := ?vq23_24) rfl rfl (by kernel_rfl) (by kernel_rfl) (by kernel_rfl) (fun _ _ _ h => h) hHeld (Or.inl ⟨by rfl, ?yq23_24⟩) ?rq23_24
  case yq23_24 => (intro w hSw; refine (yields_slice 26 (.tmp 73) none (some (.tmp 74)) rfl _ none (some (.int .i64 (nx : Int))) rfl rfl rfl (run_slice_h Try.underlying26 hi8 (by kernel_rfl) HCAP.out.1)).trans ?_; with_reducible rfl)
  try simp only [Act.put, List.setIfInBounds_toArray, List.set_cons_zero, List.set_cons_succ]
  refine region_take 24 (v := ?vq24_25) rfl rfl (by kernel_rfl) (by kernel_rfl) (by kernel_rfl) (fun _ _ _ h => h) hHeld (Or.inl ⟨by rfl, ?yq24_25⟩) ?rq24_25
  case yq24_25 => (intro w hSw; refine (yields_str 26 9 5 (.tmp 75) rfl Try.underlying26 Try.underlying5 Try.underlying9 (slAd a1 c1 0) (nx) (c1) (X) rfl (HX.out.1) ((by have h := (((SlAt.of_owns HO1.out.1).touch (HEF.out.trans (hSw).still2) (fun _ _ _ h => h)).from (l := 0) (c := c1) (by rw [bys_length, HZ1.out.2]; exact HCP.out.1)).take nx; rw [List.drop_zero, HX.out.2.1, List.take_left'] at h; exact h; rw [bys_length]; exact HX.out.1))).trans ?_; with_reducible rfl)
  try simp only [Act.put, List.setIfInBounds_toArray, List.set_cons_zero, List.set_cons_succ]
  refine region_take 25 (v := ?vq25_26) rfl rfl (by kernel_rfl) (by kernel_rfl) (by kernel_rfl) (fun _ _ _ h => h) hHeld (Or.inl ⟨by rfl, ?yq25_26⟩) ?rq25_26
  case yq25_26 => (intro w hSw; (try dsimp only at hSw); go_simp; try with_reducible rfl)
  try simp only [Act.put, List.setIfInBounds_toArray, List.set_cons_zero, List.set_cons_succ]
  refine region_take 26 (v := ?vq26_27) rfl rfl (by kernel_rfl) (by kernel_rfl) (by kernel_rfl) (fun _ _ _ h => h) hHeld (Or.inl ⟨by rfl, ?yq26_27⟩) ?rq26_27
  case yq26_27 => (intro w hSw; (try dsimp only at hSw); go_simp; try with_reducible rfl)
  try simp only [Act.put, List.setIfInBounds_toArray, List.set_cons_zero, List.set_cons_succ]
  refine region_take 27 (v := ?vq27_28) rfl rfl (by kernel_rfl) (by kernel_rfl) (by kernel_rfl) (fun _ _ _ h => h) hHeld (Or.inl ⟨by rfl, ?yq27_28⟩) ?rq27_28
  case yq27_28 => (intro w hSw; refine (yields_slice 26 (.tmp 77) none (some (.tmp 78)) rfl _ none (some (.int .i64 (nx : Int))) rfl rfl rfl (run_slice_h Try.underlying26 hi8 (by kernel_rfl) HCAP.out.2)).trans ?_; with_reducible rfl)
  try simp only [Act.put, List.setIfInBounds_toArray, List.set_cons_zero, List.set_cons_succ]
  refine region_take 28 (v := ?vq28_29) rfl rfl (by kernel_rfl) (by kernel_rfl) (by kernel_rfl) (fun _ _ _ h => h) hHeld (Or.inl ⟨by rfl, ?yq28_29⟩) ?rq28_29
  case yq28_29 => (intro w hSw; refine (yields_str 26 9 5 (.tmp 79) rfl Try.underlying26 Try.underlying5 Try.underlying9 (slAd a2 c2 0) (nx) (c2) (X) rfl (HX.out.1) ((by have h := (((SlAt.of_owns HO2.out.1).touch (hSw).still2 (fun _ _ _ h => h)).from (l := 0) (c := c2) (by rw [bys_length, HZ2.out.2]; exact HCP.out.2)).take nx; rw [List.drop_zero, HX.out.2.2, List.take_left'] at h; exact h; rw [bys_length]; exact HX.out.1))).trans ?_; with_reducible rfl)
  try simp only [Act.put, List.setIfInBounds_toArray, List.set_cons_zero, List.set_cons_succ]
  refine region_take 29 (v := ?vq29_30) rfl rfl (by kernel_rfl) (by kernel_rfl) (by kernel_rfl) (fun _ _ _ h => h) hHeld (Or.inl ⟨by rfl, ?yq29_30⟩) ?rq29_30
  case yq29_30 => (intro w hSw; (try dsimp only at hSw); go_simp; try with_reducible rfl)
  try simp only [Act.put, List.setIfInBounds_toArray, List.set_cons_zero, List.set_cons_succ]
  refine region_take 30 (v := ?vq30_31) rfl rfl (by kernel_rfl) (by kernel_rfl) (by kernel_rfl) (fun _ _ _ h => h) hHeld (Or.inl ⟨by rfl, ?yq30_31⟩) ?rq30_31
  case yq30_31 => (intro w hSw; (try dsimp only at hSw); go_simp; try with_reducible rfl)
  try simp only [Act.put, List.setIfInBounds_toArray, List.set_cons_zero, List.set_cons_succ]
  refine region_take 31 (v := ?vq31_32) rfl rfl (by kernel_rfl) (by kernel_rfl) (by kernel_rfl) (fun _ _ _ h => h) hHeld (Or.inl ⟨by rfl, ?yq31_32⟩) ?rq31_32
  case yq31_32 => (intro w hSw; (try dsimp only at hSw); go_simp; try with_reducible rfl)
  try simp only [Act.put, List.setIfInBounds_toArray, List.set_cons_zero, List.set_cons_succ]
  refine region_take 32 (v := ?vq32_33) rfl rfl (by kernel_rfl) (by kernel_rfl) (by kernel_rfl) (fun _ _ _ h => h) hHeld (Or.inl ⟨by rfl, ?yq32_33⟩) ?rq32_33
  case yq32_33 => (intro w hSw; (try dsimp only at hSw); go_simp; try with_reducible rfl)
  try simp only [Act.put, List.setIfInBounds_toArray, List.set_cons_zero, List.set_cons_succ]
  refine region_take 33 (v := ?vq33_34) rfl rfl (by kernel_rfl) (by kernel_rfl) (by kernel_rfl) (fun _ _ _ h => h) hHeld (Or.inl ⟨by rfl, ?yq33_34⟩) ?rq33_34
  case yq33_34 => (intro w hSw; (try dsimp only at hSw); go_simp; try with_reducible rfl)
  try simp only [Act.put, List.setIfInBounds_toArray, List.set_cons_zero, List.set_cons_succ]
  refine region_take 34 (v := ?vq34_35) rfl rfl (by kernel_rfl) (by kernel_rfl) (by kernel_rfl) (fun _ _ _ h => h) hHeld (Or.inl ⟨by rfl, ?yq34_35⟩) ?rq34_35
  case yq34_35 => (intro w hSw; refine (yields_slice 26 (.tmp 84) (some (.tmp 85)) none rfl _ (some (.int .i64 (nx : Int))) none rfl rfl rfl (run_slice_l Try.underlying26 hi8 (by kernel_rfl) HNX.out)).trans ?_; with_reducible rfl)
  try simp only [Act.put, List.setIfInBounds_toArray, List.set_cons_zero, List.set_cons_succ]
  refine region_take 35 (v := ?vq35_36) rfl rfl (by kernel_rfl) (by kernel_rfl) (by kernel_rfl) (fun _ _ _ h => h) hHeld (Or.inl ⟨by rfl, ?yq35_36⟩) ?rq35_36
  case yq35_36 => (intro w hSw; refine (yields_str 26 9 5 (.tmp 86) rfl Try.underlying26 Try.underlying5 Try.underlying9 (slAd a2 c2 nx) (m1 - nx) (c2 - nx) (natsD t) rfl (HX8.out.1) ((by have h := (((SlAt.of_owns HO2.out.1).touch (hSw).still2 (fun _ _ _ h => h)).from (l := nx) (c := c2) (by rw [bys_length, HZ2.out.2]; exact HCP.out.2)); rw [HX.out.2.2, List.drop_left'] at h; exact h; rw [bys_length]; exact HX.out.1))).trans ?_; with_reducible rfl)
  try simp only [Act.put, List.setIfInBounds_toArray, List.set_cons_zero, List.set_cons_succ]
  refine region_take 36 (v := ?vq36_37) rfl rfl (by kernel_rfl) (by kernel_rfl) (by kernel_rfl) (fun _ _ _ h => h) hHeld (Or.inl ⟨by rfl, ?yq36_37⟩) ?rq36_37
  case yq36_37 => (intro w hSw; (try dsimp only at hSw); go_simp; try with_reducible rfl)
  try simp only [Act.put, List.setIfInBounds_toArray, List.set_cons_zero, List.set_cons_succ]
  refine region_take 37 (v := ?vq37_38) rfl rfl (by kernel_rfl) (by kernel_rfl) (by kernel_rfl) (fun _ _ _ h => h) hHeld (Or.inl ⟨by rfl, ?yq37_38⟩) ?rq37_38
  case yq37_38 => (intro w hSw; refine (yields_str 26 9 5 (.tmp 88) rfl Try.underlying26 Try.underlying5 Try.underlying9 (some ⟨n0 + 1, 0, none⟩) (8) (8) (natsD t) rfl ((by rw [natsD_len]; exact HP.out.2.1)) ((SlAt.of_blk (HW.out.2.2.1.tg hSw)))).trans ?_; with_reducible rfl)
  try simp only [Act.put, List.setIfInBounds_toArray, List.set_cons_zero, List.set_cons_succ]
  refine region_take 38 (v := ?vq38_39) rfl rfl (by kernel_rfl) (by kernel_rfl) (by kernel_rfl) (fun _ _ _ h => h) hHeld (Or.inl ⟨by rfl, ?yq38_39⟩) ?rq38_39
  case yq38_39 => (intro w hSw; (try dsimp only at hSw); go_simp; try with_reducible rfl)
  try simp only [Act.put, List.setIfInBounds_toArray, List.set_cons_zero, List.set_cons_succ]
  refine region_take 39 (v := ?vq39_40) rfl rfl (by kernel_rfl) (by kernel_rfl) (by kernel_rfl) (fun _ _ _ h => h) hHeld (Or.inl ⟨by rfl, ?yq39_40⟩) ?rq39_40
  case yq39_40 => (intro w hSw; (try dsimp only at hSw); go_simp; try with_reducible rfl)
  try simp only [Act.put, List.setIfInBounds_toArray, List.set_cons_zero, List.set_cons_succ]
  refine region_take 40 (v := ?vq40_41) rfl rfl (by kernel_rfl) (by kernel_rfl) (by kernel_rfl) (fun _ _ _ h => h) hHeld (Or.inl ⟨by rfl, ?yq40_41⟩) ?rq40_41
  case yq40_41 => (intro w hSw; (try dsimp only at hSw); go_simp; try with_reducible rfl)
  try simp only [Act.put, List.setIfInBounds_toArray, List.set_cons_zero, List.set_cons_succ]
  refine region_take 41 (v := ?vq41_42) rfl rfl (by kernel_rfl) (by kernel_rfl) (by kernel_rfl) (fun _ _ _ h => h) hHeld (Or.inl ⟨by rfl, ?yq41_42⟩) ?rq41_42
  case yq41_42 => (intro w hSw; (try dsimp only at hSw); go_simp; try with_reducible rfl)
  try simp only [Act.put, List.setIfInBounds_toArray, List.set_cons_zero, List.set_cons_succ]
  refine region_take 42 (v := ?vq42_43) rfl rfl (by kernel_rfl) (by kernel_rfl) (by kernel_rfl) (fun _ _ _ h => h) hHeld (Or.inl ⟨by rfl, ?yq42_43⟩) ?rq42_43
  case yq42_43 => (intro w hSw; (try dsimp only at hSw); go_simp; try with_reducible rfl)
  try simp only [Act.put, List.setIfInBounds_toArray, List.set_cons_zero, List.set_cons_succ]
  refine region_take 43 (v := ?vq43_44) rfl rfl (by kernel_rfl) (by kernel_rfl) (by kernel_rfl) (fun _ _ _ h => h) hHeld (Or.inl ⟨by rfl, ?yq43_44⟩) ?rq43_44
  case yq43_44 => (intro w hSw; refine (yields_slice 26 (.tmp 93) (some (.tmp 94)) none rfl _ (some (.int .i64 (nx : Int))) none rfl rfl rfl (run_slice_l Try.underlying26 hi8 (by kernel_rfl) HNX.out)).trans ?_; with_reducible rfl)
  try simp only [Act.put, List.setIfInBounds_toArray, List.set_cons_zero, List.set_cons_succ]
  refine region_take 44 (v := ?vq44_45) rfl rfl (by kernel_rfl) (by kernel_rfl) (by kernel_rfl) (fun _ _ _ h => h) hHeld (Or.inl ⟨by rfl, ?yq44_45⟩) ?rq44_45
  case yq44_45 => (intro w hSw; refine (yields_str 26 9 5 (.tmp 95) rfl Try.underlying26 Try.underlying5 Try.underlying9 (slAd a1 c1 nx) (m1 - nx) (c1 - nx) (natsD p.tag) rfl (HX8.out.2) ((by have h := (((SlAt.of_owns HO1.out.1).touch (HEF.out.trans (hSw).still2) (fun _ _ _ h => h)).from (l := nx) (c := c1) (by rw [bys_length, HZ1.out.2]; exact HCP.out.1)); rw [HX.out.2.1, List.drop_left'] at h; exact h; rw [bys_length]; exact HX.out.1))).trans ?_; with_reducible rfl)
  try simp only [Act.put, List.setIfInBounds_toArray, List.set_cons_zero, List.set_cons_succ]
  refine region_take 45 (v := ?vq45_46) rfl rfl (by kernel_rfl) (by kernel_rfl) (by kernel_rfl) (fun _ _ _ h => h) hHeld (Or.inl ⟨by rfl, ?yq45_46⟩) ?rq45_46
  case yq45_46 => (intro w hSw; (try dsimp only at hSw); go_simp; try with_reducible rfl)
  try simp only [Act.put, List.setIfInBounds_toArray, List.set_cons_zero, List.set_cons_succ]
  refine region_take 46 (v := ?vq46_47) rfl rfl (by kernel_rfl) (by kernel_rfl) (by kernel_rfl) (fun _ _ _ h => h) hHeld (Or.inl ⟨by rfl, ?yq46_47⟩) ?rq46_47
  case yq46_47 => (intro w hSw; (try dsimp only at hSw); go_simp; try with_reducible rfl)
  try simp only [Act.put, List.setIfInBounds_toArray, List.set_cons_zero, List.set_cons_succ]
  refine region_take 47 (v := ?vq47_48) rfl rfl (by kernel_rfl) (by kernel_rfl) (by kernel_rfl) (fun _ _ _ h => h) hHeld (Or.inl ⟨by rfl, ?yq47_48⟩) ?rq47_48
  case yq47_48 => (intro w hSw; refine (yields_str 26 9 5 (.tmp 98) rfl Try.underlying26 Try.underlying5 Try.underlying9 (some ⟨n0, 28, none⟩) (8) (8) (natsD p.tag) rfl ((by rw [natsD_len]; exact HP.out.1.ht)) ((fun j u hj => ⟨rfl, (HW.out.2.1.tg hSw).tag HP.out.1 j u hj⟩))).trans ?_; with_reducible rfl)
  try simp only [Act.put, List.setIfInBounds_toArray, List.set_cons_zero, List.set_cons_succ]
  refine region_take 48 (v := ?vq48_49) rfl rfl (by kernel_rfl) (by kernel_rfl) (by kernel_rfl) (fun _ _ _ h => h) hHeld (Or.inl ⟨by rfl, ?yq48_49⟩) ?rq48_49
  case yq48_49 => (intro w hSw; (try dsimp only at hSw); go_simp; try with_reducible rfl)
  try simp only [Act.put, List.setIfInBounds_toArray, List.set_cons_zero, List.set_cons_succ]
  refine region_take 49 (v := ?vq49_50) rfl rfl (by kernel_rfl) (by kernel_rfl) (by kernel_rfl) (fun _ _ _ h => h) hHeld (Or.inl ⟨by rfl, ?yq49_50⟩) ?rq49_50
  case yq49_50 => (intro w hSw; (try dsimp only at hSw); go_simp; try with_reducible rfl)
  try simp only [Act.put, List.setIfInBounds_toArray, List.set_cons_zero, List.set_cons_succ]
  refine region_take 50 (v := ?vq50_51) rfl rfl (by kernel_rfl) (by kernel_rfl) (by kernel_rfl) (fun _ _ _ h => h) hHeld (Or.inl ⟨by rfl, ?yq50_51⟩) ?rq50_51
  case yq50_51 => (intro w hSw; (try dsimp only at hSw); go_simp; try with_reducible rfl)
  try simp only [Act.put, List.setIfInBounds_toArray, List.set_cons_zero, List.set_cons_succ]
  refine wpAnyH_done (by kernel_rfl) ?_ _
  have HTT := Lib.hid (HW.out.2.2.2.trans (hHeld).still2)
  go_wp2_with fail
  go_ret
  exact ⟨by first | rfl | simp, HTT.out.below (Nat.le_refl _) (fun _ _ h => h)⟩

theorem wireTags_walk (w : World) (p : Pk) (hp : p.Ok) (t : List Nat) (ht : t.length = 8) (htr : ∀ y ∈ t, y < 256) :
    Calls Try.prog 6 #[.agg (pkV p), .agg (bn t).toArray] w fun e w' => e = .returned (.bool true) ∧ Below w.heap.size w w' := by
  by_cases hR : RightN p
  · by_cases hX : t = p.tag
    · exact wireTags_B w p hp t ht htr hR hX
    · cases hT : taggedN p.kind with
      | false => exact wireTags_C w p hp t ht htr hR hX hT
      | true => exact wireTags_D w p hp t ht htr hR hX hT
  · exact wireTags_A w p hp t ht htr hR

/-! ### the row's step, and the row -/
theorem wireTags_own : ownKnob Try.prog.godebug = none := by kernel_rfl
theorem wireTags_laidOut : laidOutB Try.prog = true := by kernel_rfl

set_option linter.unusedVariables false in
set_option maxRecDepth 100000 in
theorem wireTags_lifted (os : Os) (started : os.Started) (H : Type) (enc : TypeId × Value → H) :
    ReturnsInHanded {} Try.checked os 6 .any (Rows.wireTagsSpec.pre6 enc Try.prog Try.f6 Rows.wireTagsRow.domain false) (Rows.wireTagsSpec.post enc Try.prog Try.f6 false true false false) := by
  refine returnsInHanded_of_change (C := Try.checked) wireTags_own started (by kernel_rfl) Try.func6
    (ChangeSpec.witness6 (enc := enc) (C := Try.checked) false ⟨#[], #[.agg #[.int .i64 0, .int .i64 0, .int .i64 0, .int .i64 0, .int .i64 0, .int .i64 0, .int .i64 0, .int .i64 0, .int .i64 0, .int .i64 0, .int .i64 0, .int .i64 0, .int .u8 0, .int .u8 0, .int .u8 0, .int .u8 0, .int .u8 0, .int .u8 0, .int .u8 0, .int .u8 0, .int .u8 0, .int .u8 0, .int .u8 0, .int .u8 0, .int .u8 0, .int .u8 0, .int .u8 0, .int .u8 0, .int .u8 0, .int .u8 0, .int .u8 0, .int .u8 0, .int .u8 0, .int .u8 0, .int .u8 0, .int .u8 0], .agg #[.int .u8 0, .int .u8 0, .int .u8 0, .int .u8 0, .int .u8 0, .int .u8 0, .int .u8 0, .int .u8 0]], []⟩ 8 (by kernel_rfl) (by kernel_rfl) (by kernel_rfl) (by kernel_rfl)) ?_
  intro W base args ds gs before hval0 hW hcnd _
  have hval : ∀ (j : Nat) t v, Try.f6.params[j]? = some t → args[j]? = some v → Value.okWide Try.prog W .any base t v := hval0
  have hW' := hW
  obtain ⟨p, q, hA0, hV, rfl, hfz, hnd⟩ := hW
  have hA : DataW.TrodAll enc Try.prog W 0 (fun _ => true) true Try.f6.params.toList args.toList ds p := hA0
  rw [Try.params6] at hA hval
  obtain ⟨v0, vs0, d0, ds0, p0, q0, hargs, rfl, rfl, h0, r0⟩ := trodAll_cons hA
  obtain ⟨v1, vs1, d1, ds1, p1, q1, rfl, rfl, rfl, h1, r1⟩ := trodAll_cons r0
  obtain ⟨rfl, rfl, rfl⟩ := trodAll_nil r1
  obtain rfl : args = #[v0, v1] := by cases args; simp_all
  obtain ⟨rfl, rfl⟩ := trodVars_none hV
  have k0 := h0
  have lt0 : ∀ x ∈ p0, x.block < W.heap.size := by obtain ⟨m, hm⟩ := k0; exact DataW.trod_lt m _ _ _ hm
  have o0 := hval 0 25 v0 rfl rfl
  obtain ⟨a0, ok0, rfl⟩ := pk_of o0 h0
  have k1 := h1
  have lt1 : ∀ x ∈ p1, x.block < W.heap.size := by obtain ⟨m, hm⟩ := k1; exact DataW.trod_lt m _ _ _ hm
  have o1 := hval 1 23 v1 rfl rfl
  obtain ⟨a1, len1, lt81, rfl⟩ := array_of Try.underlying23 Try.underlying5 (by kernel_rfl) (by kernel_rfl) o1 h1
  clear hA0 hval0
  refine (wireTags_walk W a0 ok0 a1 len1 lt81).mono fun e W' ⟨he, bel⟩ => ?_
  subst he
  exact ⟨_, rfl, _, _, _, [], _, [], hW', trodAll_mk1 (shut_bool Try.underlying4 _), (trodAll_cons_mk (Below.trod wireTags_laidOut (by kernel_rfl) (of_decide_eq_true (by kernel_rfl)) k0 bel lt0) (trodAll_cons_mk (Below.trod wireTags_laidOut (by kernel_rfl) (of_decide_eq_true (by kernel_rfl)) k1 bel lt1) trodAll_mk0)), rfl, bel.frame _, fun h => by cases h⟩

theorem wireTags_over : Rows.wireTagsRow.holds Try.pinned (OpenSpec.ofChange Rows.wireTagsSpec) :=
  OpenClaim.holds_of_wide 6 Try.f6 rfl rfl rfl rfl rfl rfl rfl ⟨rfl, rfl, rfl, rfl, rfl⟩ rfl rfl rfl rfl rfl (by kernel_rfl) Try.func6 (by kernel_rfl)
    (of_decide_eq_true (by kernel_rfl)) (by unfold Func.isWrapper; first | (rw [if_pos (by decide +kernel)]; kernel_rfl) | (rw [if_neg (by decide +kernel)]; exact ⟨rfl, rfl⟩))
    (fun os started H enc _ => wireTags_lifted os started H enc)

/-- THE STATEMENT. -/
theorem wireTags_proved : Rows.WireTagsSaid := wireTags_over
#print axioms wireTags_proved
end Go.Proofs.Ythlkmofemnepbaa
