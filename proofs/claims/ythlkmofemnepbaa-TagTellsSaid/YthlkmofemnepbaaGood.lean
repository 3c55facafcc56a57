/-
  THE WALK of tag.Good (layer 7).
-/
import Derived.Test.YthlkmofemnepbaaRows
import Derived.Test.YthlkmofemnepbaaSign
namespace Go.Proofs.Ythlkmofemnepbaa
open Go.RowKit

theorem run_exec_load_mid {P : Program} {o : Oper} {ρ : Operand → Value} (w : World) (ty : TypeId) (x : Operand) (ho : o.op = .load ty x) (b off : Nat) (hx : ρ x = .pointer (some ⟨b, off, none⟩)) (cs : List Value) (d : TypeDesc) (hc : w.rangeAt b off cs)
    (hu : P.underlying ty = some d) (hd : d.isRow = true) (hi : (P.info? ty).map (·.size) = some cs.length) : (execOp ρ o).run P w = .ok (.value (.agg cs.toArray)) w := by
  unfold execOp
  simp only [ho, hx, Instr.loadAt, Instr.sureAddr, Sem.run_bind, Sem.run_pure, Result.andThen_ok, run_loadVar_mid w b off ty cs d hc hu hd hi]

set_option maxRecDepth 100000 in
theorem run_eql8 (w : World) (M c : List Nat) (q : Bool) (hq : decide (M = c) = q) (h1 : M.length = 8) (h2 : c.length = 8) (h3 : ∀ y ∈ M, y < 256) (h4 : ∀ y ∈ c, y < 256) : (binOp .eql 23 (.agg (bn M).toArray) (.agg (bn c).toArray)).run Try.prog w = .ok (.bool q) w := by
  obtain ⟨i0, hi, hz0, hz1, hz2⟩ := info_parts Try.info5
  have h := run_eql_bn (P := Try.prog) w 23 5 8 Try.underlying23 Try.underlying5 (fun w => by rw [run_sizeOf w hi]; rfl) M c h1 h2 h3 h4
  rw [h, ← hq]
  congr 2
  rw [Bool.eq_iff_iff, beq_iff_eq, decide_eq_true_iff]

def GoodN (key : List Nat) (p : Pk) : Prop := MayN p ∧ tagOf key p = p.tag
instance (key : List Nat) (p : Pk) : Decidable (GoodN key p) := by unfold GoodN; infer_instance

set_option maxRecDepth 100000 in
set_option maxHeartbeats 8000000 in
theorem good_yes (key : List Nat) (hk : key.length = 16) (hkr : ∀ y ∈ key, y < 256) (p : Pk) (hp : p.Ok) (w : World) (hM : MayN p) :
    Calls Try.prog 39 #[.agg (bn key).toArray, .agg (pkV p)] w fun e w' => e = .returned (.bool (decide (GoodN key p))) ∧ Below w.heap.size w w' := by
  have HQO : Hid (({ p with tag := tagOf key p } : Pk).Ok) := Lib.hid (hp.setTag (tagOf_len key p) (tagOf_lt key p))
  have HS : Hid (signN key p = { p with tag := tagOf key p } ∧ decide (MayN p) = true) := Lib.hid ⟨by unfold signN; rw [if_pos hM], decide_eq_true hM⟩
  obtain ⟨b, hb⟩ : ∃ b, decide (tagOf key p = p.tag) = b := ⟨_, rfl⟩
  have HG : Hid (decide (GoodN key p) = b) := Lib.hid (by
    rw [← hb]
    by_cases h : tagOf key p = p.tag
    · rw [decide_eq_true h]
      exact decide_eq_true ⟨hM, h⟩
    · rw [decide_eq_false h]
      exact decide_eq_false (fun e => h e.2))
  have HE : Hid (∀ w, (binOp .eql 23 (.agg (bn (tagOf key p)).toArray) (.agg (bn p.tag).toArray)).run Try.prog w = .ok (.bool b) w) := Lib.hid (fun w => run_eql8 w _ _ b hb (tagOf_len key p) hp.ht (tagOf_lt key p) hp.rt)
  clear hb
  have HP := Lib.hid (And.intro hp (And.intro hk hkr))
  clear hp hk hkr hM
  go_enter Try.func39, Try.ntmps39
  have H0 : Hid (∀ n, n = w.heap.size → Blk ((w.alloc (.cells (bn key).toArray 22)).alloc (.cells (pkV p) 25)) n 22 (bn key).toArray ∧ Blk ((w.alloc (.cells (bn key).toArray 22)).alloc (.cells (pkV p) 25)) (n + 1) 25 (pkV p)) := Lib.hid (fun n hn => by
    rw [hn]
    exact ⟨(Blk.new w (bn key).toArray 22).alloc _, blk_new_at (w := w.alloc (.cells (bn key).toArray 22)) (by simp) rfl⟩)
  go_wp2_with (first
    | ((with_reducible refine at_op (.load 22 (.tmp 2)) rfl ?_); refine wpList_load_blk rfl 22 (.tmp 2) rfl w.heap.size 22 (bn key).toArray _ rfl (H0.out _ rfl).1 Try.underlying22 rfl (by rw [bn_size, HP.out.2.1]; first | done | kernel_rfl) ?_)
    | ((with_reducible refine at_op (.load 25 (.tmp 3)) rfl ?_); refine wpList_load_blk rfl 25 (.tmp 3) rfl (w.heap.size + 1) 25 (pkV p) _ rfl (H0.out _ rfl).2 Try.underlying25 rfl (by rw [pkV_size HP.out.1]; first | done | kernel_rfl) ?_))
  (with_reducible refine (sign_any key HP.out.2.1 HP.out.2.2 p HP.out.1 _).mono ?_)
  rintro e w1 ⟨rfl, hb1⟩
  rw [HS.out.1, HS.out.2]
  have H1 : Hid (Touch (fun _ => False) w w1 ∧ Blk w1 (w.heap.size + 1) 25 (pkV p)) := Lib.hid ⟨(((Touch.refl _ w).alloc _).alloc _).trans (Touch.of_below hb1), (H0.out _ rfl).2.touch (Touch.of_below (S := fun _ => False) hb1) (fun h => h)⟩
  clear hb1
  go_wp2_with (first
    | ((with_reducible refine at_op (.store 25 (.tmp 5) (.tmp 11)) rfl ?_); refine wpList_store_blk rfl 25 (.tmp 5) (.tmp 11) rfl w1.heap.size 25 _ (pkV { p with tag := tagOf key p }) rfl rfl (Blk.new _ _ _) (by rw [pkV_size HQO.out]; first | done | kernel_rfl) (by rw [pkV_size HQO.out]; first | done | kernel_rfl) (pkV_one _) ?_; intro w2 hB ht hs; have H2 : Hid (Touch (fun _ => False) w w2 ∧ Blk w2 w1.heap.size 25 (pkV { p with tag := tagOf key p }) ∧ Blk w2 (w.heap.size + 1) 25 (pkV p)) := Lib.hid (⟨H1.out.1.trans (touch_store ht), hB, H1.out.2.touch (touch_store ht) (fun h => h)⟩); clear hB ht hs)
    | ((with_reducible refine at_op (.load 23 (.tmp 15)) rfl ?_); refine wpList_val_g (by rfl) _ (run_exec_load_mid _ 23 (.tmp 15) rfl w1.heap.size 28 rfl (bn (tagOf key p)) _ (H2.out.2.1.tag HQO.out) Try.underlying23 rfl (by rw [bn_len, tagOf_len]; first | done | kernel_rfl)) ?_)
    | ((with_reducible refine at_op (.load 23 (.tmp 17)) rfl ?_); refine wpList_val_g (by rfl) _ (run_exec_load_mid _ 23 (.tmp 17) rfl (w.heap.size + 1) 28 rfl (bn p.tag) _ (H2.out.2.2.tag HP.out.1) Try.underlying23 rfl (by rw [bn_len, HP.out.1.ht]; first | done | kernel_rfl)) ?_)
    | ((with_reducible refine at_op (.binOp .eql 23 (.tmp 16) (.tmp 18) 23) rfl ?_); refine wpList_eql_g (by rfl) .eql 23 23 (.tmp 16) (.tmp 18) rfl (bn (tagOf key p)).toArray (bn p.tag).toArray rfl rfl (by kernel_rfl) _ (HE.out _) ?_))
  go_ret
  exact ⟨by rw [HG.out]; first | rfl | simp, H2.out.1.below (Nat.le_refl _) (fun _ _ h => h)⟩

set_option maxRecDepth 100000 in
set_option maxHeartbeats 8000000 in
theorem good_no (key : List Nat) (hk : key.length = 16) (hkr : ∀ y ∈ key, y < 256) (p : Pk) (hp : p.Ok) (w : World) (hM : ¬ MayN p) :
    Calls Try.prog 39 #[.agg (bn key).toArray, .agg (pkV p)] w fun e w' => e = .returned (.bool (decide (GoodN key p))) ∧ Below w.heap.size w w' := by
  have HQO : Hid ((Pk.zero : Pk).Ok) := Lib.hid zero_ok
  have HS : Hid (signN key p = Pk.zero ∧ decide (MayN p) = false) := Lib.hid ⟨by unfold signN; rw [if_neg hM], decide_eq_false hM⟩
  have HG : Hid (decide (GoodN key p) = false) := Lib.hid (decide_eq_false (fun e => hM e.1))
  have HP := Lib.hid (And.intro hp (And.intro hk hkr))
  clear hp hk hkr hM
  go_enter Try.func39, Try.ntmps39
  have H0 : Hid (∀ n, n = w.heap.size → Blk ((w.alloc (.cells (bn key).toArray 22)).alloc (.cells (pkV p) 25)) n 22 (bn key).toArray ∧ Blk ((w.alloc (.cells (bn key).toArray 22)).alloc (.cells (pkV p) 25)) (n + 1) 25 (pkV p)) := Lib.hid (fun n hn => by
    rw [hn]
    exact ⟨(Blk.new w (bn key).toArray 22).alloc _, blk_new_at (w := w.alloc (.cells (bn key).toArray 22)) (by simp) rfl⟩)
  go_wp2_with (first
    | ((with_reducible refine at_op (.load 22 (.tmp 2)) rfl ?_); refine wpList_load_blk rfl 22 (.tmp 2) rfl w.heap.size 22 (bn key).toArray _ rfl (H0.out _ rfl).1 Try.underlying22 rfl (by rw [bn_size, HP.out.2.1]; first | done | kernel_rfl) ?_)
    | ((with_reducible refine at_op (.load 25 (.tmp 3)) rfl ?_); refine wpList_load_blk rfl 25 (.tmp 3) rfl (w.heap.size + 1) 25 (pkV p) _ rfl (H0.out _ rfl).2 Try.underlying25 rfl (by rw [pkV_size HP.out.1]; first | done | kernel_rfl) ?_))
  (with_reducible refine (sign_any key HP.out.2.1 HP.out.2.2 p HP.out.1 _).mono ?_)
  rintro e w1 ⟨rfl, hb1⟩
  rw [HS.out.1, HS.out.2]
  have H1 : Hid (Touch (fun _ => False) w w1 ∧ Blk w1 (w.heap.size + 1) 25 (pkV p)) := Lib.hid ⟨(((Touch.refl _ w).alloc _).alloc _).trans (Touch.of_below hb1), (H0.out _ rfl).2.touch (Touch.of_below (S := fun _ => False) hb1) (fun h => h)⟩
  clear hb1
  go_wp2_with (first
    | ((with_reducible refine at_op (.store 25 (.tmp 5) (.tmp 11)) rfl ?_); refine wpList_store_blk rfl 25 (.tmp 5) (.tmp 11) rfl w1.heap.size 25 _ (pkV Pk.zero) rfl rfl (Blk.new _ _ _) (by rw [pkV_size HQO.out]; first | done | kernel_rfl) (by rw [pkV_size HQO.out]; first | done | kernel_rfl) (pkV_one _) ?_; intro w2 hB ht hs; have H2 : Hid (Touch (fun _ => False) w w2 ∧ Blk w2 w1.heap.size 25 (pkV Pk.zero) ∧ Blk w2 (w.heap.size + 1) 25 (pkV p)) := Lib.hid (⟨H1.out.1.trans (touch_store ht), hB, H1.out.2.touch (touch_store ht) (fun h => h)⟩); clear hB ht hs))
  go_ret
  exact ⟨by rw [HG.out]; first | rfl | simp, H2.out.1.below (Nat.le_refl _) (fun _ _ h => h)⟩

theorem good_any (key : List Nat) (hk : key.length = 16) (hkr : ∀ y ∈ key, y < 256) (p : Pk) (hp : p.Ok) (w : World) :
    Calls Try.prog 39 #[.agg (bn key).toArray, .agg (pkV p)] w fun e w' => e = .returned (.bool (decide (GoodN key p))) ∧ Below w.heap.size w w' := by
  by_cases hM : MayN p
  · exact good_yes key hk hkr p hp w hM
  · exact good_no key hk hkr p hp w hM
end Go.Proofs.Ythlkmofemnepbaa
