/-
  nightjarlaw07.TagKeys: for all secrets and numbers the law returns true. No conditions: for every input that can be read.
-/
import Derived.Test.YthlkmofemnepbaaRows
import Derived.Test.YthlkmofemnepbaaDigestLib
import Derived.Test.YthlkmofemnepbaaTSmall
namespace Go.Proofs.Ythlkmofemnepbaa
open Go.ChangeShapes Go.WideShapes Go.ChangeAt Go.RowKit

set_option maxRecDepth 100000 in
set_option maxHeartbeats 4000000 in
theorem tagKeys_in (w : World) (a0 : Option Addr) (c0 : Nat) (s : List Nat) (h0 : BytesIn w a0 s.length c0 s) (ad no : Int) (k0 : ¬ 300 < s.length) (k1 : ¬ ad < 0) (k2 : ¬ 1152921504606846976 < ad) (k3 : ¬ no < 0) (k4 : ¬ 1152921504606846976 < no) :
    Calls Try.prog 19 #[.slice a0 s.length c0, .int .i64 ad, .int .i64 no] w fun e w' => e = .returned (.bool true) ∧ Below w.heap.size w w' := by
  have HIN := Lib.hid h0
  clear h0
  have kw1 : IntKind.i64.wrap (ad + 72057594037927936) = ad + 72057594037927936 := by
    simp [IntKind.wrap, IntKind.bits, IntKind.signed]
    omega
  have kw2 : IntKind.i64.wrap (no + 72057594037927936) = no + 72057594037927936 := by
    simp [IntKind.wrap, IntKind.bits, IntKind.signed]
    omega
  obtain ⟨M, hM⟩ : ∃ M, M = keyN s ad no := ⟨_, rfl⟩
  have HML : Hid (M.length = 16 ∧ ∀ y ∈ M, y < 256) := Lib.hid ⟨by rw [hM]; exact keyN_len _ _ _, by rw [hM]; exact keyN_lt _ _ _⟩
  have HMS : Hid ((bn M).toArray.size = 16 ∧ (bn M).toArray.all (·.oneCell') = true) := Lib.hid ⟨by rw [bn_size]; exact HML.out.1, bn_all M⟩
  have e1 : ∀ w, (binOp .eql 22 (.agg (bn M).toArray) (.agg (bn M).toArray)).run Try.prog w = .ok (.bool true) w := fun w => run_eql16k w M HML.out.1 HML.out.2
  have HW1 : Hid (keyN s (ad + 72057594037927936) no = M) := Lib.hid (by rw [hM]; unfold keyN; rw [num7_add])
  have HW2 : Hid (keyN s ad (no + 72057594037927936) = M) := Lib.hid (by rw [hM]; unfold keyN; rw [num7_add])
  have HM := Lib.hid hM
  clear hM
  go_enter Try.func19, Try.ntmps19
  go_wp2_with fail
  (with_reducible refine (tagSmall_any w).mono ?_)
  rintro e wa ⟨rfl, hba⟩
  have HA := Lib.hid (Touch.of_below (S := fun _ => False) hba)
  clear hba
  go_wp2_with fail
  (with_reducible refine (key_any a0 s.length c0 s ad no _ rfl (HIN.out.cells.touch HA.out (fun _ _ _ h => h)) HIN.out.nil HIN.out.lt (by omega)).mono ?_)
  rintro e w1 ⟨rfl, hb1⟩
  rw [← HM.out]
  have H1 : Hid (Touch (fun _ => False) w w1) := Lib.hid (HA.out.trans (Touch.of_below hb1))
  clear hb1
  go_wp2_with (refine wpList_store_blk rfl 22 (.tmp 8) (.tmp 33) rfl w1.heap.size 22 _ (bn M).toArray rfl rfl (Blk.new _ _ _) (by rw [HMS.out.1]; first | done | kernel_rfl) (by rw [HMS.out.1]; first | done | kernel_rfl) HMS.out.2 ?_; intro w3 hB3 ht3 hs3)
  obtain ⟨n1, hn1⟩ : ∃ n1, n1 = w1.heap.size := ⟨_, rfl⟩
  rw [← hn1]
  have HK3 : Hid (Blk w3 n1 22 (bn M).toArray ∧ Touch (fun _ => False) w w3) := Lib.hid ⟨by rw [hn1]; exact hB3, Touch.then (S := fun _ => False) (H1.out.alloc _) ht3 (fun i hi e => by have := H1.out.size; omega)⟩
  clear hB3 ht3 hs3 hn1
  refine wp_region_held_drew (S := fun w' : World => TG w3 w') (by kernel_rfl) ((TG.refl w3).drew) (fun hHeld => ?_)
  refine anyH_world (R := fun w' : World => TG w3 w') hHeld ?_
  clear hHeld
  intro W0q hHeld
  refine region_take 0 (v := ?vq0_1) rfl rfl (by kernel_rfl) (by kernel_rfl) (by kernel_rfl) (fun _ _ _ h => h) hHeld (Or.inl ⟨by rfl, ?yq0_1⟩) ?rq0_1
  case yq0_1 => (intro w hSw; (try dsimp only at hSw); go_simp; try with_reducible rfl)
  try simp only [Act.put, List.setIfInBounds_toArray, List.set_cons_zero, List.set_cons_succ]
  refine region_take 1 (v := ?vq1_2) rfl rfl (by kernel_rfl) (by kernel_rfl) (by kernel_rfl) (fun _ _ _ h => h) hHeld (Or.inl ⟨by rfl, ?yq1_2⟩) ?rq1_2
  case yq1_2 => (intro w hSw; (try dsimp only at hSw); go_simp; try with_reducible rfl)
  try simp only [Act.put, List.setIfInBounds_toArray, List.set_cons_zero, List.set_cons_succ]
  refine region_take 2 (v := ?vq2_3) rfl rfl (by kernel_rfl) (by kernel_rfl) (by kernel_rfl) (fun _ _ _ h => h) hHeld (Or.inl ⟨by rfl, ?yq2_3⟩) ?rq2_3
  case yq2_3 => (intro w hSw; (try dsimp only at hSw); go_simp; try with_reducible rfl)
  try simp only [Act.put, List.setIfInBounds_toArray, List.set_cons_zero, List.set_cons_succ]
  refine region_take 3 (v := ?vq3_4) rfl rfl (by kernel_rfl) (by kernel_rfl) (by kernel_rfl) (fun _ _ _ h => h) hHeld (Or.inl ⟨by rfl, ?yq3_4⟩) ?rq3_4
  case yq3_4 => (intro w hSw; (try dsimp only at hSw); go_simp; try with_reducible rfl)
  try simp only [Act.put, List.setIfInBounds_toArray, List.set_cons_zero, List.set_cons_succ]
  refine region_take 4 (v := ?vq4_5) rfl rfl (by kernel_rfl) (by kernel_rfl) (by kernel_rfl) (fun _ _ _ h => h) hHeld (Or.inl ⟨by rfl, ?yq4_5⟩) ?rq4_5
  case yq4_5 => (intro w hSw; (try dsimp only at hSw); go_simp; try with_reducible rfl)
  try simp only [Act.put, List.setIfInBounds_toArray, List.set_cons_zero, List.set_cons_succ]
  refine region_take 5 (v := ?vq5_6) rfl rfl (by kernel_rfl) (by kernel_rfl) (by kernel_rfl) (fun _ _ _ h => h) hHeld (Or.inl ⟨by rfl, ?yq5_6⟩) ?rq5_6
  case yq5_6 => (intro w hSw; (try dsimp only at hSw); go_simp; try with_reducible rfl)
  try simp only [Act.put, List.setIfInBounds_toArray, List.set_cons_zero, List.set_cons_succ]
  refine region_take 7 (v := ?vq7_7) rfl rfl (by kernel_rfl) (by kernel_rfl) (by kernel_rfl) (fun _ _ _ h => h) hHeld (Or.inl ⟨by rfl, ?yq7_7⟩) ?rq7_7
  case yq7_7 => (intro w hSw; refine (yields_load_blk 22 (.tmp 8) rfl n1 22 (bn M).toArray _ rfl (HK3.out.1.tg hSw) Try.underlying22 rfl (by rw [HMS.out.1]; first | done | kernel_rfl)).trans ?_; with_reducible rfl)
  try simp only [Act.put, List.setIfInBounds_toArray, List.set_cons_zero, List.set_cons_succ]
  refine region_one 6 (by kernel_rfl) rfl (fun K hK => ?_)
  go_simp
  go_at_call 37
  (with_reducible refine (key_any a0 s.length c0 s (ad + 72057594037927936) (no) _ rfl (HIN.out.cells.touch (HK3.out.2.trans (hHeld).still2) (fun _ _ _ h => h)) HIN.out.nil HIN.out.lt (by omega)).mono ?_)
  rintro e uq_8 ⟨rfl, hb8⟩
  rw [HW1.out]
  have ht := Touch.of_below (S := fun _ => False) hb8
  refine hK.out _ _ (((hHeld).still ht)) (fun hHeld2 => ?_)
  clear hK K hHeld ht
  have hHeld := hHeld2
  clear hHeld2
  try simp only [Act.put, List.setIfInBounds_toArray, List.set_cons_zero, List.set_cons_succ]
  refine region_take 8 (v := ?vq8_9) rfl rfl (by kernel_rfl) (by kernel_rfl) (by kernel_rfl) (fun _ _ _ h => h) hHeld (Or.inl ⟨by rfl, ?yq8_9⟩) ?rq8_9
  case yq8_9 => (intro w hSw; (try dsimp only at hSw); go_simp; try with_reducible rfl)
  try simp only [Act.put, List.setIfInBounds_toArray, List.set_cons_zero, List.set_cons_succ]
  refine region_take 9 (v := ?vq9_10) rfl rfl (by kernel_rfl) (by kernel_rfl) (by kernel_rfl) (fun _ _ _ h => h) hHeld (Or.inl ⟨by rfl, ?yq9_10⟩) ?rq9_10
  case yq9_10 => (intro w hSw; (try dsimp only at hSw); go_simp; try with_reducible rfl)
  try simp only [Act.put, List.setIfInBounds_toArray, List.set_cons_zero, List.set_cons_succ]
  refine region_take 10 (v := ?vq10_11) rfl rfl (by kernel_rfl) (by kernel_rfl) (by kernel_rfl) (fun _ _ _ h => h) hHeld (Or.inl ⟨by rfl, ?yq10_11⟩) ?rq10_11
  case yq10_11 => (intro w hSw; (try dsimp only at hSw); go_simp; try with_reducible rfl)
  try simp only [Act.put, List.setIfInBounds_toArray, List.set_cons_zero, List.set_cons_succ]
  refine region_take 11 (v := ?vq11_12) rfl rfl (by kernel_rfl) (by kernel_rfl) (by kernel_rfl) (fun _ _ _ h => h) hHeld (Or.inl ⟨by rfl, ?yq11_12⟩) ?rq11_12
  case yq11_12 => (intro w hSw; (try dsimp only at hSw); go_simp; try with_reducible rfl)
  try simp only [Act.put, List.setIfInBounds_toArray, List.set_cons_zero, List.set_cons_succ]
  refine region_take 12 (v := ?vq12_13) rfl rfl (by kernel_rfl) (by kernel_rfl) (by kernel_rfl) (fun _ _ _ h => h) hHeld (Or.inl ⟨by rfl, ?yq12_13⟩) ?rq12_13
  case yq12_13 => (intro w hSw; (try dsimp only at hSw); go_simp; try with_reducible rfl)
  try simp only [Act.put, List.setIfInBounds_toArray, List.set_cons_zero, List.set_cons_succ]
  refine region_take 13 (v := ?vq13_14) rfl rfl (by kernel_rfl) (by kernel_rfl) (by kernel_rfl) (fun _ _ _ h => h) hHeld (Or.inl ⟨by rfl, ?yq13_14⟩) ?rq13_14
  case yq13_14 => (intro w hSw; (try dsimp only at hSw); go_simp; try with_reducible rfl)
  try simp only [Act.put, List.setIfInBounds_toArray, List.set_cons_zero, List.set_cons_succ]
  refine region_take 14 (v := ?vq14_15) rfl rfl (by kernel_rfl) (by kernel_rfl) (by kernel_rfl) (fun _ _ _ h => h) hHeld (Or.inl ⟨by rfl, ?yq14_15⟩) ?rq14_15
  case yq14_15 => (intro w hSw; (try dsimp only at hSw); go_simp; try with_reducible rfl)
  try simp only [Act.put, List.setIfInBounds_toArray, List.set_cons_zero, List.set_cons_succ]
  refine region_take 16 (v := ?vq16_16) rfl rfl (by kernel_rfl) (by kernel_rfl) (by kernel_rfl) (fun _ _ _ h => h) hHeld (Or.inl ⟨by rfl, ?yq16_16⟩) ?rq16_16
  case yq16_16 => (intro w hSw; refine (yields_load_blk 22 (.tmp 8) rfl n1 22 (bn M).toArray _ rfl (HK3.out.1.tg hSw) Try.underlying22 rfl (by rw [HMS.out.1]; first | done | kernel_rfl)).trans ?_; with_reducible rfl)
  try simp only [Act.put, List.setIfInBounds_toArray, List.set_cons_zero, List.set_cons_succ]
  refine region_one 15 (by kernel_rfl) rfl (fun K hK => ?_)
  go_simp
  go_at_call 37
  (with_reducible refine (key_any a0 s.length c0 s (ad) (no + 72057594037927936) _ rfl (HIN.out.cells.touch (HK3.out.2.trans (hHeld).still2) (fun _ _ _ h => h)) HIN.out.nil HIN.out.lt (by omega)).mono ?_)
  rintro e uq_17 ⟨rfl, hb8⟩
  rw [HW2.out]
  have ht := Touch.of_below (S := fun _ => False) hb8
  refine hK.out _ _ (((hHeld).still ht)) (fun hHeld2 => ?_)
  clear hK K hHeld ht
  have hHeld := hHeld2
  clear hHeld2
  try simp only [Act.put, List.setIfInBounds_toArray, List.set_cons_zero, List.set_cons_succ]
  refine region_take 17 (v := ?vq17_18) rfl rfl (by kernel_rfl) (by kernel_rfl) (by kernel_rfl) (fun _ _ _ h => h) hHeld (Or.inl ⟨by rfl, ?yq17_18⟩) ?rq17_18
  case yq17_18 => (intro w hSw; (try dsimp only at hSw); go_simp; try with_reducible rfl)
  try simp only [Act.put, List.setIfInBounds_toArray, List.set_cons_zero, List.set_cons_succ]
  refine region_take 18 (v := ?vq18_19) rfl rfl (by kernel_rfl) (by kernel_rfl) (by kernel_rfl) (fun _ _ _ h => h) hHeld (Or.inl ⟨by rfl, ?yq18_19⟩) ?rq18_19
  case yq18_19 => (intro w hSw; (try dsimp only at hSw); go_simp; try with_reducible rfl)
  try simp only [Act.put, List.setIfInBounds_toArray, List.set_cons_zero, List.set_cons_succ]
  refine region_take 19 (v := ?vq19_20) rfl rfl (by kernel_rfl) (by kernel_rfl) (by kernel_rfl) (fun _ _ _ h => h) hHeld (Or.inl ⟨by rfl, ?yq19_20⟩) ?rq19_20
  case yq19_20 => (intro w hSw; (try dsimp only at hSw); go_simp; try with_reducible rfl)
  try simp only [Act.put, List.setIfInBounds_toArray, List.set_cons_zero, List.set_cons_succ]
  refine wpAnyH_done (by kernel_rfl) ?_ _
  have HT := Lib.hid (HK3.out.2.trans (hHeld).still2)
  go_wp2_with fail
  go_ret
  exact ⟨by first | rfl | simp, HT.out.below (Nat.le_refl _) (fun _ _ h => h)⟩

set_option maxRecDepth 100000 in
set_option maxHeartbeats 4000000 in
theorem tagKeys_walk (w : World) (a0 : Option Addr) (l0 c0 : Nat) (z0 : List Int) (h0 : RowIn .u8 w a0 l0 c0 z0) (ad : Int) (_w1 : (Lit.int .i64 ad).wf = true) (no : Int) (_w2 : (Lit.int .i64 no).wf = true) :
    Calls Try.prog 19 #[.slice a0 l0 c0, .int .i64 ad, .int .i64 no] w fun e w' => e = .returned (.bool true) ∧ Below w.heap.size w w' := by
  have i0 := h0.bytes
  obtain ⟨s, hs⟩ : ∃ b, b = nats z0 := ⟨_, rfl⟩
  rw [← hs] at i0
  clear hs h0 _w1 _w2
  have e0 := i0.hlen
  subst e0
  have hcc : (300 < s.length) ∨ (¬ 300 < s.length ∧ ad < 0) ∨ (¬ 300 < s.length ∧ ¬ ad < 0 ∧ 1152921504606846976 < ad) ∨ (¬ 300 < s.length ∧ ¬ ad < 0 ∧ ¬ 1152921504606846976 < ad ∧ no < 0) ∨ (¬ 300 < s.length ∧ ¬ ad < 0 ∧ ¬ 1152921504606846976 < ad ∧ ¬ no < 0 ∧ 1152921504606846976 < no) ∨ (¬ 300 < s.length ∧ ¬ ad < 0 ∧ ¬ 1152921504606846976 < ad ∧ ¬ no < 0 ∧ ¬ 1152921504606846976 < no) := by omega
  rcases hcc with k0 | ⟨k0, k1⟩ | ⟨k0, k1, k2⟩ | ⟨k0, k1, k2, k3⟩ | ⟨k0, k1, k2, k3, k4⟩ | ⟨k0, k1, k2, k3, k4⟩
  case inr.inr.inr.inr.inr => exact tagKeys_in w a0 c0 s i0 ad no k0 k1 k2 k3 k4
  all_goals
    clear i0
    go_enter Try.func19, Try.ntmps19
    go_wp2_with fail
    (with_reducible refine (tagSmall_any w).mono ?_)
    rintro e w1 ⟨rfl, hb⟩
    have HB := Lib.hid hb
    clear hb
    go_wp2_with fail
    go_ret
    exact ⟨rfl, HB.out⟩

/-! ### the row's step, and the row -/
theorem tagKeys_own : ownKnob Try.prog.godebug = none := by kernel_rfl
theorem tagKeys_laidOut : laidOutB Try.prog = true := by kernel_rfl

set_option linter.unusedVariables false in
set_option maxRecDepth 100000 in
theorem tagKeys_lifted (os : Os) (started : os.Started) (H : Type) (enc : TypeId × Value → H) :
    ReturnsInHanded {} Try.checked os 19 .any (Rows.tagKeysSpec.pre6 enc Try.prog Try.f19 Rows.tagKeysRow.domain false) (Rows.tagKeysSpec.post enc Try.prog Try.f19 false true false false) := by
  refine returnsInHanded_of_change (C := Try.checked) tagKeys_own started (by kernel_rfl) Try.func19
    (ChangeSpec.witness6 (enc := enc) (C := Try.checked) false ⟨#[], #[.slice none 0 0, .int .i64 0, .int .i64 0], []⟩ 8 (by kernel_rfl) (by kernel_rfl) (by kernel_rfl) (by kernel_rfl)) ?_
  intro W base args ds gs before hval0 hW hcnd _
  have hval : ∀ (j : Nat) t v, Try.f19.params[j]? = some t → args[j]? = some v → Value.okWide Try.prog W .any base t v := hval0
  have hW' := hW
  obtain ⟨p, q, hA0, hV, rfl, hfz, hnd⟩ := hW
  have hA : DataW.TrodAll enc Try.prog W 0 (fun _ => true) true Try.f19.params.toList args.toList ds p := hA0
  rw [Try.params19] at hA hval
  obtain ⟨v0, vs0, d0, ds0, p0, q0, hargs, rfl, rfl, h0, r0⟩ := trodAll_cons hA
  obtain ⟨v1, vs1, d1, ds1, p1, q1, rfl, rfl, rfl, h1, r1⟩ := trodAll_cons r0
  obtain ⟨v2, vs2, d2, ds2, p2, q2, rfl, rfl, rfl, h2, r2⟩ := trodAll_cons r1
  obtain ⟨rfl, rfl, rfl⟩ := trodAll_nil r2
  obtain rfl : args = #[v0, v1, v2] := by cases args; simp_all
  obtain ⟨rfl, rfl⟩ := trodVars_none hV
  have k0 := h0
  have lt0 : ∀ x ∈ p0, x.block < W.heap.size := by obtain ⟨m, hm⟩ := k0; exact DataW.trod_lt m _ _ _ hm
  obtain ⟨a0, len0, cap0, rfl⟩ := okWide_slice Try.underlying26 (hval 0 26 v0 rfl rfl)
  obtain ⟨z0, w0⟩ := row_of (k := .u8) Try.underlying26 Try.underlying5 (by kernel_rfl) h0
  obtain ⟨a1, rfl, rfl, rfl, w1⟩ := open_int Try.underlying3 (hval 1 3 v1 rfl rfl) h1
  obtain ⟨a2, rfl, rfl, rfl, w2⟩ := open_int Try.underlying3 (hval 2 3 v2 rfl rfl) h2
  clear hA0 hval0
  refine (tagKeys_walk W a0 len0 cap0 z0 w0 a1 w1 a2 w2).mono fun e W' ⟨he, bel⟩ => ?_
  subst he
  exact ⟨_, rfl, _, _, _, [], _, [], hW', trodAll_mk1 (shut_bool Try.underlying4 _), (trodAll_cons_mk (Below.trod tagKeys_laidOut (by kernel_rfl) (of_decide_eq_true (by kernel_rfl)) k0 bel lt0) (trodAll_cons_mk (shut_int Try.underlying3 w1) (trodAll_cons_mk (shut_int Try.underlying3 w2) trodAll_mk0))), rfl, bel.frame _, fun h => by cases h⟩

theorem tagKeys_over : Rows.tagKeysRow.holds Try.pinned (OpenSpec.ofChange Rows.tagKeysSpec) :=
  OpenClaim.holds_of_wide 19 Try.f19 rfl rfl rfl rfl rfl rfl rfl ⟨rfl, rfl, rfl, rfl, rfl⟩ rfl rfl rfl rfl rfl (by kernel_rfl) Try.func19 (by kernel_rfl)
    (of_decide_eq_true (by kernel_rfl)) (by unfold Func.isWrapper; first | (rw [if_pos (by decide +kernel)]; kernel_rfl) | (rw [if_neg (by decide +kernel)]; exact ⟨rfl, rfl⟩))
    (fun os started H enc _ => tagKeys_lifted os started H enc)

/-- THE STATEMENT. -/
theorem tagKeys_proved : Rows.TagKeysSaid := tagKeys_over
#print axioms tagKeys_proved
end Go.Proofs.Ythlkmofemnepbaa
