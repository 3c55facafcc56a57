/-
  nightjarlaw05.WireBack: for all inputs the law returns true. No conditions: for every input that can be read.
-/
import Derived.Test.YthlkmofemnepbaaRows
import Derived.Test.YthlkmofemnepbaaWSmall
import Derived.Test.YthlkmofemnepbaaWireLaw
import Derived.Test.YthlkmofemnepbaaPkArg
namespace Go.Proofs.Ythlkmofemnepbaa
open Go.ChangeShapes Go.WideShapes Go.ChangeAt Go.RowKit

set_option maxRecDepth 100000 in
set_option maxHeartbeats 8000000 in
theorem wireBack_no (w : World) (p : Pk) (hp : p.Ok) (hR : ¬ RightN p) :
    Calls Try.prog 4 #[.agg (pkV p)] w fun e w' => e = .returned (.bool true) ∧ Below w.heap.size w w' := by
  have HP : Hid (p.Ok ∧ ¬ RightN p ∧ decide (RightN p) = false) := Lib.hid ⟨hp, hR, decide_eq_false hR⟩
  clear hp hR
  go_enter Try.func4, Try.ntmps4
  go_wp2_with fail
  (with_reducible refine (wireSmall_any _).mono ?_)
  rintro e wa ⟨rfl, hba⟩
  obtain ⟨n0, hn0⟩ : ∃ n0, n0 = w.heap.size := ⟨_, rfl⟩
  rw [← hn0]
  have HA : Hid (Touch (fun _ => False) w wa ∧ Blk wa n0 25 (pkV p)) := Lib.hid ⟨((Touch.refl (fun _ => False) w).alloc _).trans (Touch.of_below hba), by rw [hn0]; exact (Blk.new w (pkV p) 25).touch (Touch.of_below (S := fun _ => False) hba) (fun h => h)⟩
  clear hba hn0
  go_wp2_with ((with_reducible refine at_op (.load 25 (.tmp 1)) rfl ?_); refine wpList_load_blk rfl 25 (.tmp 1) rfl n0 25 (pkV p) _ rfl (HA.out.2) Try.underlying25 rfl (by rw [pkV_size HP.out.1]; first | done | kernel_rfl) ?_)
  (with_reducible refine (wireEnc_no p HP.out.1 HP.out.2.1 _).mono ?_)
  rintro e wb ⟨rfl, hbb⟩
  have HB : Hid (Touch (fun _ => False) w wb ∧ Blk wb n0 25 (pkV p)) := Lib.hid ⟨HA.out.1.trans (Touch.of_below hbb), HA.out.2.touch (Touch.of_below (S := fun _ => False) hbb) (fun h => h)⟩
  clear hbb
  go_wp2_with ((with_reducible refine at_op (.load 25 (.tmp 1)) rfl ?_); refine wpList_load_blk rfl 25 (.tmp 1) rfl n0 25 (pkV p) _ rfl (HB.out.2) Try.underlying25 rfl (by rw [pkV_size HP.out.1]; first | done | kernel_rfl) ?_)
  (with_reducible refine (wireRight_any p HP.out.1 _).mono ?_)
  rintro e wc ⟨rfl, hbc⟩
  rw [HP.out.2.2]
  have HC : Hid (Touch (fun _ => False) w wc) := Lib.hid (HB.out.1.trans (Touch.of_below hbc))
  clear hbc
  go_wp2_with fail
  go_ret
  exact ⟨by first | rfl | simp, HC.out.below (Nat.le_refl _) (fun _ _ h => h)⟩

set_option maxRecDepth 100000 in
set_option maxHeartbeats 8000000 in
theorem wireBack_yes (w : World) (p : Pk) (hp : p.Ok) (hR : RightN p) :
    Calls Try.prog 4 #[.agg (pkV p)] w fun e w' => e = .returned (.bool true) ∧ Below w.heap.size w w' := by
  have HP : Hid (p.Ok ∧ RightN p ∧ decide (RightN p) = true) := Lib.hid ⟨hp, hR, decide_eq_true hR⟩
  obtain ⟨Z, hZ⟩ : ∃ Z, encN p = Z := ⟨_, rfl⟩
  obtain ⟨n, hn⟩ : ∃ n, Z.length = n := ⟨_, rfl⟩
  have hlen : 5 ≤ n ∧ n ≤ 26 := by
    have h1 := size_range p.kind (right_kind p hR)
    have h2 := enc_len p hp
    rw [hZ, hn] at h2
    omega
  have HZ : Hid (encN p = Z ∧ Z.length = n ∧ (∀ z ∈ Z, 0 ≤ z ∧ z < 256) ∧ DecOk Z ∧ decP Z = p ∧ n ≤ 90000) := Lib.hid ⟨hZ, hn, by rw [← hZ]; exact enc_range p hp, by rw [← hZ]; exact (dec_enc p hp hR).1, by rw [← hZ]; exact (dec_enc p hp hR).2, by omega⟩
  have l1 : (5 : Int) ≤ n := by omega
  have l2 : (n : Int) ≤ 33 := by omega
  clear hp hR hZ hn hlen
  go_enter Try.func4, Try.ntmps4
  go_wp2_with fail
  (with_reducible refine (wireSmall_any _).mono ?_)
  rintro e wa ⟨rfl, hba⟩
  obtain ⟨n0, hn0⟩ : ∃ n0, n0 = w.heap.size := ⟨_, rfl⟩
  rw [← hn0]
  have HA : Hid (Touch (fun _ => False) w wa ∧ Blk wa n0 25 (pkV p)) := Lib.hid ⟨((Touch.refl (fun _ => False) w).alloc _).trans (Touch.of_below hba), by rw [hn0]; exact (Blk.new w (pkV p) 25).touch (Touch.of_below (S := fun _ => False) hba) (fun h => h)⟩
  clear hba hn0
  go_wp2_with ((with_reducible refine at_op (.load 25 (.tmp 1)) rfl ?_); refine wpList_load_blk rfl 25 (.tmp 1) rfl n0 25 (pkV p) _ rfl (HA.out.2) Try.underlying25 rfl (by rw [pkV_size HP.out.1]; first | done | kernel_rfl) ?_)
  (with_reducible refine (enc_lit _ p rfl HP.out.1 HP.out.2.1 Z n HZ.out.1 HZ.out.2.1 _).mono ?_)
  rintro e wb ⟨a, c, rfl, ho, hc, hbb⟩
  have HB : Hid (Touch (fun _ => False) w wb ∧ Blk wb n0 25 (pkV p) ∧ SlAt wb a (bys Z) ∧ (a = none → c = 0)) := Lib.hid ⟨HA.out.1.trans (Touch.of_below hbb), HA.out.2.touch (Touch.of_below (S := fun _ => False) hbb) (fun h => h), SlAt.of_owns ho, hc⟩
  clear hbb ho hc
  go_wp2_with ((with_reducible refine at_op (.load 25 (.tmp 1)) rfl ?_); refine wpList_load_blk rfl 25 (.tmp 1) rfl n0 25 (pkV p) _ rfl (HB.out.2.1) Try.underlying25 rfl (by rw [pkV_size HP.out.1]; first | done | kernel_rfl) ?_)
  (with_reducible refine (wireRight_any p HP.out.1 _).mono ?_)
  rintro e wc ⟨rfl, hbc⟩
  rw [HP.out.2.2]
  have HC : Hid (Touch (fun _ => False) w wc ∧ Blk wc n0 25 (pkV p) ∧ SlAt wc a (bys Z)) := Lib.hid ⟨HB.out.1.trans (Touch.of_below hbc), HB.out.2.1.touch (Touch.of_below (S := fun _ => False) hbc) (fun h => h), HB.out.2.2.1.touch (Touch.of_below (S := fun _ => False) hbc) (fun _ _ _ h => h)⟩
  clear hbc
  go_wp2_with fail
  (with_reducible refine (dec_yes a n c Z p _ HZ.out.2.1 HC.out.2.2 HB.out.2.2.2 HZ.out.2.2.2.2.2 HZ.out.2.2.1 HZ.out.2.2.2.1 HZ.out.2.2.2.2.1).mono ?_)
  rintro e wd ⟨rfl, hbd⟩
  have HD : Hid (Touch (fun _ => False) w wd ∧ Blk wd n0 25 (pkV p)) := Lib.hid ⟨HC.out.1.trans (Touch.of_below hbd), HC.out.2.1.touch (Touch.of_below (S := fun _ => False) hbd) (fun h => h)⟩
  clear hbd
  go_wp2_with (first
    | ((with_reducible refine at_op (.store 25 (.tmp 6) (.tmp 30)) rfl ?_); refine wpList_store_blk rfl 25 (.tmp 6) (.tmp 30) rfl wd.heap.size 25 _ (pkV p) rfl rfl (Blk.new _ _ _) (by rw [pkV_size HP.out.1]; first | done | kernel_rfl) (by rw [pkV_size HP.out.1]; first | done | kernel_rfl) (pkV_one _) ?_; intro we hB ht hs; have HE : Hid (Touch (fun _ => False) w we ∧ Blk we n0 25 (pkV p) ∧ Blk we wd.heap.size 25 (pkV p)) := Lib.hid (⟨HD.out.1.trans (touch_store ht), HD.out.2.touch (touch_store ht) (fun h => h), hB⟩); clear hB ht hs)
    | ((with_reducible refine at_op (.load 25 (.tmp 6)) rfl ?_); refine wpList_load_blk_g (by rfl) 25 (.tmp 6) rfl wd.heap.size 25 (pkV p) _ rfl (HE.out.2.2) Try.underlying25 rfl (by rw [pkV_size HP.out.1]; first | done | kernel_rfl) ?_)
    | ((with_reducible refine at_op (.load 25 (.tmp 1)) rfl ?_); refine wpList_load_blk_g (by rfl) 25 (.tmp 1) rfl n0 25 (pkV p) _ rfl (HE.out.2.1) Try.underlying25 rfl (by rw [pkV_size HP.out.1]; first | done | kernel_rfl) ?_)
    | ((with_reducible refine at_op (.binOp .eql 25 (.tmp 42) (.tmp 43) 25) rfl ?_); refine wpList_eql_g (by rfl) .eql 25 25 (.tmp 42) (.tmp 43) rfl (pkV p) (pkV p) rfl rfl (by kernel_rfl) _ (run_eql_pk _ p p HP.out.1 HP.out.1 true (by simp)) ?_))
  go_ret
  exact ⟨by first | rfl | simp, HE.out.1.below (Nat.le_refl _) (fun _ _ h => h)⟩

theorem wireBack_walk (w : World) (p : Pk) (hp : p.Ok) :
    Calls Try.prog 4 #[.agg (pkV p)] w fun e w' => e = .returned (.bool true) ∧ Below w.heap.size w w' := by
  by_cases hR : RightN p
  · exact wireBack_yes w p hp hR
  · exact wireBack_no w p hp hR

/-! ### the row's step, and the row -/
theorem wireBack_own : ownKnob Try.prog.godebug = none := by kernel_rfl
theorem wireBack_laidOut : laidOutB Try.prog = true := by kernel_rfl

set_option linter.unusedVariables false in
set_option maxRecDepth 100000 in
theorem wireBack_lifted (os : Os) (started : os.Started) (H : Type) (enc : TypeId × Value → H) :
    ReturnsInHanded {} Try.checked os 4 .any (Rows.wireBackSpec.pre6 enc Try.prog Try.f4 Rows.wireBackRow.domain false) (Rows.wireBackSpec.post enc Try.prog Try.f4 false true false false) := by
  refine returnsInHanded_of_change (C := Try.checked) wireBack_own started (by kernel_rfl) Try.func4
    (ChangeSpec.witness6 (enc := enc) (C := Try.checked) false ⟨#[], #[.agg #[.int .i64 0, .int .i64 0, .int .i64 0, .int .i64 0, .int .i64 0, .int .i64 0, .int .i64 0, .int .i64 0, .int .i64 0, .int .i64 0, .int .i64 0, .int .i64 0, .int .u8 0, .int .u8 0, .int .u8 0, .int .u8 0, .int .u8 0, .int .u8 0, .int .u8 0, .int .u8 0, .int .u8 0, .int .u8 0, .int .u8 0, .int .u8 0, .int .u8 0, .int .u8 0, .int .u8 0, .int .u8 0, .int .u8 0, .int .u8 0, .int .u8 0, .int .u8 0, .int .u8 0, .int .u8 0, .int .u8 0, .int .u8 0]], []⟩ 8 (by kernel_rfl) (by kernel_rfl) (by kernel_rfl) (by kernel_rfl)) ?_
  intro W base args ds gs before hval0 hW hcnd _
  have hval : ∀ (j : Nat) t v, Try.f4.params[j]? = some t → args[j]? = some v → Value.okWide Try.prog W .any base t v := hval0
  have hW' := hW
  obtain ⟨p, q, hA0, hV, rfl, hfz, hnd⟩ := hW
  have hA : DataW.TrodAll enc Try.prog W 0 (fun _ => true) true Try.f4.params.toList args.toList ds p := hA0
  rw [Try.params4] at hA hval
  obtain ⟨v0, vs0, d0, ds0, p0, q0, hargs, rfl, rfl, h0, r0⟩ := trodAll_cons hA
  obtain ⟨rfl, rfl, rfl⟩ := trodAll_nil r0
  obtain rfl : args = #[v0] := by cases args; simp_all
  obtain ⟨rfl, rfl⟩ := trodVars_none hV
  have k0 := h0
  have lt0 : ∀ x ∈ p0, x.block < W.heap.size := by obtain ⟨m, hm⟩ := k0; exact DataW.trod_lt m _ _ _ hm
  have o0 := hval 0 25 v0 rfl rfl
  obtain ⟨a0, ok0, rfl⟩ := pk_of o0 h0
  clear hA0 hval0
  refine (wireBack_walk W a0 ok0).mono fun e W' ⟨he, bel⟩ => ?_
  subst he
  exact ⟨_, rfl, _, _, _, [], _, [], hW', trodAll_mk1 (shut_bool Try.underlying4 _), (trodAll_cons_mk (Below.trod wireBack_laidOut (by kernel_rfl) (of_decide_eq_true (by kernel_rfl)) k0 bel lt0) trodAll_mk0), rfl, bel.frame _, fun h => by cases h⟩

theorem wireBack_over : Rows.wireBackRow.holds Try.pinned (OpenSpec.ofChange Rows.wireBackSpec) :=
  OpenClaim.holds_of_wide 4 Try.f4 rfl rfl rfl rfl rfl rfl rfl ⟨rfl, rfl, rfl, rfl, rfl⟩ rfl rfl rfl rfl rfl (by kernel_rfl) Try.func4 (by kernel_rfl)
    (of_decide_eq_true (by kernel_rfl)) (by unfold Func.isWrapper; first | (rw [if_pos (by decide +kernel)]; kernel_rfl) | (rw [if_neg (by decide +kernel)]; exact ⟨rfl, rfl⟩))
    (fun os started H enc _ => wireBack_lifted os started H enc)

/-- THE STATEMENT. -/
theorem wireBack_proved : Rows.WireBackSaid := wireBack_over
#print axioms wireBack_proved
end Go.Proofs.Ythlkmofemnepbaa
