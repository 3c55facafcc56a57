/-
  nightjarlaw06.CookieTells: for all secrets, numbers and cookies the law returns true. No conditions: for every input that can be read.
-/
import Derived.Test.YthlkmofemnepbaaRows
import Derived.Test.YthlkmofemnepbaaDigestLib
import Derived.Test.YthlkmofemnepbaaCSmall
import Derived.Test.YthlkmofemnepbaaArr
namespace Go.Proofs.Ythlkmofemnepbaa
open Go.ChangeShapes Go.WideShapes Go.ChangeAt Go.RowKit

set_option maxRecDepth 100000 in
theorem check_to (a : Option Addr) (nk cap : Nat) (s : List Nat) (ad no ep now : Int) (c : List Nat) (r : Int) (w : World) (hk : s.length = nk) (hs : SlAt w a (bn s)) (hc : a = none → cap = 0) (hr : ∀ y ∈ s, y < 256) (hn : nk ≤ 100000)
    (hcl : c.length = 16) (hcr : ∀ y ∈ c, y < 256) (hm : now ≤ 9223372036854775807) (he : checkN s ad no ep now c = r) :
    Calls Try.prog 32 #[.slice a nk cap, .int .i64 ad, .int .i64 no, .int .i64 ep, .int .i64 now, .agg (bn c).toArray] w fun e w' => e = .returned (.int .i64 r) ∧ Below w.heap.size w w' := by
  subst he
  exact check_any a nk cap s ad no ep now c w hk hs hc hr hn hcl hcr hm

set_option maxRecDepth 100000 in
theorem refCheck_to (a : Option Addr) (nk cap : Nat) (s : List Nat) (ad no ep now : Int) (c : List Nat) (r : Int) (w : World) (hk : s.length = nk) (hs : SlAt w a (bn s)) (hc : a = none → cap = 0) (hr : ∀ y ∈ s, y < 256) (hn : nk ≤ 100000)
    (hcl : c.length = 16) (hcr : ∀ y ∈ c, y < 256) (hm0 : -9223372036854775808 ≤ now) (hm : now ≤ 9223372036854775807) (he : checkN s ad no ep now c = r) :
    Calls Try.prog 33 #[.slice a nk cap, .int .i64 ad, .int .i64 no, .int .i64 ep, .int .i64 now, .agg (bn c).toArray] w fun e w' => e = .returned (.int .i64 r) ∧ Below w.heap.size w w' := by
  subst he
  exact refCheck_any a nk cap s ad no ep now c w hk hs hc hr hn hcl hcr hm0 hm

set_option maxRecDepth 100000 in
theorem run_eql16_of (w : World) (M c : List Nat) (q : Bool) (hq : decide (M = c) = q) (h1 : M.length = 16) (h2 : c.length = 16) (h3 : ∀ y ∈ M, y < 256) (h4 : ∀ y ∈ c, y < 256) : (binOp .eql 22 (.agg (bn M).toArray) (.agg (bn c).toArray)).run Try.prog w = .ok (.bool q) w := by
  obtain ⟨i0, hi, hz0, hz1, hz2⟩ := info_parts Try.info5
  have h := run_eql_bn (P := Try.prog) w 22 5 16 Try.underlying22 Try.underlying5 (fun w => by rw [run_sizeOf w hi]; rfl) M c h1 h2 h3 h4
  rw [h, ← hq]
  congr 2
  rw [Bool.eq_iff_iff, beq_iff_eq, decide_eq_true_iff]

set_option maxRecDepth 100000 in
set_option maxHeartbeats 4000000 in
theorem cookieTells_in (w : World) (a0 : Option Addr) (c0 : Nat) (s : List Nat) (h0 : BytesIn w a0 s.length c0 s) (ad no ep now : Int) (c : List Nat) (hcl : c.length = 16) (hcr : ∀ y ∈ c, y < 256) (k0 : ¬ 300 < s.length) (hm : -9223372036854775808 ≤ now ∧ now ≤ 9223372036854775807) :
    Calls Try.prog 10 #[.slice a0 s.length c0, .int .i64 ad, .int .i64 no, .int .i64 ep, .int .i64 now, .agg (bn c).toArray] w fun e w' => e = .returned (.bool true) ∧ Below w.heap.size w w' := by
  have HIN := Lib.hid h0
  have HC := Lib.hid (And.intro hcl hcr)
  have HCS : Hid ((bn c).toArray.size = 16 ∧ (bn c).toArray.all (·.oneCell') = true) := Lib.hid ⟨by rw [bn_size]; exact HC.out.1, bn_all c⟩
  have HMM := Lib.hid hm
  clear h0 hcl hcr hm
  obtain ⟨M, hM⟩ : ∃ M, M = mintN s ad no ep := ⟨_, rfl⟩
  have HML : Hid (M.length = 16 ∧ ∀ y ∈ M, y < 256) := Lib.hid ⟨by rw [hM]; exact mintN_len _ _ _ _, by rw [hM]; exact mintN_lt _ _ _ _⟩
  obtain ⟨R, hR⟩ : ∃ R, R = checkN s ad no ep now c := ⟨_, rfl⟩
  have HR := Lib.hid hR
  have HM := Lib.hid hM
  clear hM hR
  have e1 : ∀ w, (binOp .eql 22 (.agg (bn M).toArray) (.agg (bn M).toArray)).run Try.prog w = .ok (.bool true) w := fun w => run_eql16 w M HML.out.1 HML.out.2
  go_enter Try.func10, Try.ntmps10
  go_wp2_with fail
  (with_reducible refine (cookieSmall_any _).mono ?_)
  rintro e wa ⟨rfl, hba⟩
  obtain ⟨n0, hn0⟩ : ∃ n0, n0 = w.heap.size := ⟨_, rfl⟩
  rw [← hn0]
  have HA : Hid (Touch (fun _ => False) w wa ∧ Blk wa n0 22 (bn c).toArray) := Lib.hid ⟨((Touch.refl (fun _ => False) w).alloc _).trans (Touch.of_below hba), by rw [hn0]; exact (Blk.new w (bn c).toArray 22).touch (Touch.of_below (S := fun _ => False) hba) (fun h => h)⟩
  clear hba hn0
  go_wp2_with fail
  refine wp_region_held_drew (S := fun w' : World => TG wa w') (by kernel_rfl) ((TG.refl wa).drew) (fun hHeld => ?_)
  refine anyH_world (R := fun w' : World => TG wa w') hHeld ?_
  clear hHeld
  intro W0q hHeld
  refine region_take 0 (v := ?vq0_1) rfl rfl (by kernel_rfl) (by kernel_rfl) (by kernel_rfl) (fun _ _ _ h => h) hHeld (Or.inl ⟨by rfl, ?yq0_1⟩) ?rq0_1
  case yq0_1 => (intro w hSw; (try dsimp only at hSw); go_simp; try with_reducible rfl)
  try simp only [Act.put, List.setIfInBounds_toArray, List.set_cons_zero, List.set_cons_succ]
  refine region_take 1 (v := ?vq1_2) rfl rfl (by kernel_rfl) (by kernel_rfl) (by kernel_rfl) (fun _ _ _ h => h) hHeld (Or.inl ⟨by rfl, ?yq1_2⟩) ?rq1_2
  case yq1_2 => (intro w hSw; (try dsimp only at hSw); go_simp; try with_reducible rfl)
  try simp only [Act.put, List.setIfInBounds_toArray, List.set_cons_zero, List.set_cons_succ]
  refine region_take 2 (v := ?vq2_3) rfl rfl (by kernel_rfl) (by kernel_rfl) (by kernel_rfl) (fun _ _ _ h => h) hHeld (Or.inl ⟨by rfl, ?yq2_3⟩) ?rq2_3
  case yq2_3 => (intro w hSw; (try dsimp only at hSw); go_simp; try with_reducible rfl)
  try simp only [Act.put, List.setIfInBounds_toArray, List.set_cons_zero, List.set_cons_succ]
  refine region_take 3 (v := ?vq3_4) rfl rfl (by kernel_rfl) (by kernel_rfl) (by kernel_rfl) (fun _ _ _ h => h) hHeld (Or.inl ⟨by rfl, ?yq3_4⟩) ?rq3_4
  case yq3_4 => (intro w hSw; (try dsimp only at hSw); go_simp; try with_reducible rfl)
  try simp only [Act.put, List.setIfInBounds_toArray, List.set_cons_zero, List.set_cons_succ]
  refine region_take 4 (v := ?vq4_5) rfl rfl (by kernel_rfl) (by kernel_rfl) (by kernel_rfl) (fun _ _ _ h => h) hHeld (Or.inl ⟨by rfl, ?yq4_5⟩) ?rq4_5
  case yq4_5 => (intro w hSw; (try dsimp only at hSw); go_simp; try with_reducible rfl)
  try simp only [Act.put, List.setIfInBounds_toArray, List.set_cons_zero, List.set_cons_succ]
  refine region_take 5 (v := ?vq5_6) rfl rfl (by kernel_rfl) (by kernel_rfl) (by kernel_rfl) (fun _ _ _ h => h) hHeld (Or.inl ⟨by rfl, ?yq5_6⟩) ?rq5_6
  case yq5_6 => (intro w hSw; (try dsimp only at hSw); go_simp; try with_reducible rfl)
  try simp only [Act.put, List.setIfInBounds_toArray, List.set_cons_zero, List.set_cons_succ]
  refine region_take 7 (v := ?vq7_7) rfl rfl (by kernel_rfl) (by kernel_rfl) (by kernel_rfl) (fun _ _ _ h => h) hHeld (Or.inl ⟨by rfl, ?yq7_7⟩) ?rq7_7
  case yq7_7 => (intro w hSw; (try dsimp only at hSw); go_simp; try with_reducible rfl)
  try simp only [Act.put, List.setIfInBounds_toArray, List.set_cons_zero, List.set_cons_succ]
  refine region_take 8 (v := ?vq8_8) rfl rfl (by kernel_rfl) (by kernel_rfl) (by kernel_rfl) (fun _ _ _ h => h) hHeld (Or.inl ⟨by rfl, ?yq8_8⟩) ?rq8_8
  case yq8_8 => (intro w hSw; (try dsimp only at hSw); go_simp; try with_reducible rfl)
  try simp only [Act.put, List.setIfInBounds_toArray, List.set_cons_zero, List.set_cons_succ]
  refine region_take 9 (v := ?vq9_9) rfl rfl (by kernel_rfl) (by kernel_rfl) (by kernel_rfl) (fun _ _ _ h => h) hHeld (Or.inl ⟨by rfl, ?yq9_9⟩) ?rq9_9
  case yq9_9 => (intro w hSw; (try dsimp only at hSw); go_simp; try with_reducible rfl)
  try simp only [Act.put, List.setIfInBounds_toArray, List.set_cons_zero, List.set_cons_succ]
  refine region_take 10 (v := ?vq10_10) rfl rfl (by kernel_rfl) (by kernel_rfl) (by kernel_rfl) (fun _ _ _ h => h) hHeld (Or.inl ⟨by rfl, ?yq10_10⟩) ?rq10_10
  case yq10_10 => (intro w hSw; (try dsimp only at hSw); go_simp; try with_reducible rfl)
  try simp only [Act.put, List.setIfInBounds_toArray, List.set_cons_zero, List.set_cons_succ]
  refine region_one 6 (by kernel_rfl) rfl (fun K hK => ?_)
  go_simp
  go_at_call 30
  (with_reducible refine (mint_any a0 s.length c0 s ad no ep _ rfl (HIN.out.cells.touch (HA.out.1.trans (hHeld).still2) (fun _ _ _ h => h)) HIN.out.nil HIN.out.lt (by omega)).mono ?_)
  rintro e uq_11 ⟨rfl, hb8⟩
  rw [← HM.out]
  have ht := Touch.of_below (S := fun _ => False) hb8
  refine hK.out _ _ (((hHeld).still ht)) (fun hHeld2 => ?_)
  clear hK K hHeld ht
  have hHeld := hHeld2
  clear hHeld2
  try simp only [Act.put, List.setIfInBounds_toArray, List.set_cons_zero, List.set_cons_succ]
  refine region_one 11 (by kernel_rfl) rfl (fun K hK => ?_)
  go_simp
  go_at_call 31
  (with_reducible refine (refMint_any a0 s.length c0 s ad no ep _ rfl (HIN.out.cells.touch (HA.out.1.trans (hHeld).still2) (fun _ _ _ h => h)) HIN.out.nil HIN.out.lt (by omega)).mono ?_)
  rintro e uq_12 ⟨rfl, hb8⟩
  rw [← HM.out]
  have ht := Touch.of_below (S := fun _ => False) hb8
  refine hK.out _ _ (((hHeld).still ht)) (fun hHeld2 => ?_)
  clear hK K hHeld ht
  have hHeld := hHeld2
  clear hHeld2
  try simp only [Act.put, List.setIfInBounds_toArray, List.set_cons_zero, List.set_cons_succ]
  refine region_take 12 (v := ?vq12_13) rfl rfl (by kernel_rfl) (by kernel_rfl) (by kernel_rfl) (fun _ _ _ h => h) hHeld (Or.inl ⟨by rfl, ?yq12_13⟩) ?rq12_13
  case yq12_13 => (intro w hSw; (try dsimp only at hSw); go_simp; try with_reducible rfl)
  try simp only [Act.put, List.setIfInBounds_toArray, List.set_cons_zero, List.set_cons_succ]
  refine region_take 13 (v := ?vq13_14) rfl rfl (by kernel_rfl) (by kernel_rfl) (by kernel_rfl) (fun _ _ _ h => h) hHeld (Or.inl ⟨by rfl, ?yq13_14⟩) ?rq13_14
  case yq13_14 => (intro w hSw; (try dsimp only at hSw); go_simp; try with_reducible rfl)
  try simp only [Act.put, List.setIfInBounds_toArray, List.set_cons_zero, List.set_cons_succ]
  refine region_take 14 (v := ?vq14_15) rfl rfl (by kernel_rfl) (by kernel_rfl) (by kernel_rfl) (fun _ _ _ h => h) hHeld (Or.inl ⟨by rfl, ?yq14_15⟩) ?rq14_15
  case yq14_15 => (intro w hSw; (try dsimp only at hSw); go_simp; try with_reducible rfl)
  try simp only [Act.put, List.setIfInBounds_toArray, List.set_cons_zero, List.set_cons_succ]
  refine region_take 15 (v := ?vq15_16) rfl rfl (by kernel_rfl) (by kernel_rfl) (by kernel_rfl) (fun _ _ _ h => h) hHeld (Or.inl ⟨by rfl, ?yq15_16⟩) ?rq15_16
  case yq15_16 => (intro w hSw; (try dsimp only at hSw); go_simp; try with_reducible rfl)
  try simp only [Act.put, List.setIfInBounds_toArray, List.set_cons_zero, List.set_cons_succ]
  refine region_take 16 (v := ?vq16_17) rfl rfl (by kernel_rfl) (by kernel_rfl) (by kernel_rfl) (fun _ _ _ h => h) hHeld (Or.inl ⟨by rfl, ?yq16_17⟩) ?rq16_17
  case yq16_17 => (intro w hSw; (try dsimp only at hSw); go_simp; try with_reducible rfl)
  try simp only [Act.put, List.setIfInBounds_toArray, List.set_cons_zero, List.set_cons_succ]
  refine region_take 17 (v := ?vq17_18) rfl rfl (by kernel_rfl) (by kernel_rfl) (by kernel_rfl) (fun _ _ _ h => h) hHeld (Or.inl ⟨by rfl, ?yq17_18⟩) ?rq17_18
  case yq17_18 => (intro w hSw; (try dsimp only at hSw); go_simp; try with_reducible rfl)
  try simp only [Act.put, List.setIfInBounds_toArray, List.set_cons_zero, List.set_cons_succ]
  refine region_take 18 (v := ?vq18_19) rfl rfl (by kernel_rfl) (by kernel_rfl) (by kernel_rfl) (fun _ _ _ h => h) hHeld (Or.inl ⟨by rfl, ?yq18_19⟩) ?rq18_19
  case yq18_19 => (intro w hSw; (try dsimp only at hSw); go_simp; try with_reducible rfl)
  try simp only [Act.put, List.setIfInBounds_toArray, List.set_cons_zero, List.set_cons_succ]
  refine region_take 19 (v := ?vq19_20) rfl rfl (by kernel_rfl) (by kernel_rfl) (by kernel_rfl) (fun _ _ _ h => h) hHeld (Or.inl ⟨by rfl, ?yq19_20⟩) ?rq19_20
  case yq19_20 => (intro w hSw; (try dsimp only at hSw); go_simp; try with_reducible rfl)
  try simp only [Act.put, List.setIfInBounds_toArray, List.set_cons_zero, List.set_cons_succ]
  refine region_take 20 (v := ?vq20_21) rfl rfl (by kernel_rfl) (by kernel_rfl) (by kernel_rfl) (fun _ _ _ h => h) hHeld (Or.inl ⟨by rfl, ?yq20_21⟩) ?rq20_21
  case yq20_21 => (intro w hSw; refine (yields_load_blk 22 (.tmp 11) rfl n0 22 (bn c).toArray _ rfl (HA.out.2.tg hSw) Try.underlying22 rfl (by rw [HCS.out.1]; first | done | kernel_rfl)).trans ?_; with_reducible rfl)
  try simp only [Act.put, List.setIfInBounds_toArray, List.set_cons_zero, List.set_cons_succ]
  refine region_take 22 (v := ?vq22_22) rfl rfl (by kernel_rfl) (by kernel_rfl) (by kernel_rfl) (fun _ _ _ h => h) hHeld (Or.inl ⟨by rfl, ?yq22_22⟩) ?rq22_22
  case yq22_22 => (intro w hSw; (try dsimp only at hSw); go_simp; try with_reducible rfl)
  try simp only [Act.put, List.setIfInBounds_toArray, List.set_cons_zero, List.set_cons_succ]
  refine region_take 23 (v := ?vq23_23) rfl rfl (by kernel_rfl) (by kernel_rfl) (by kernel_rfl) (fun _ _ _ h => h) hHeld (Or.inl ⟨by rfl, ?yq23_23⟩) ?rq23_23
  case yq23_23 => (intro w hSw; (try dsimp only at hSw); go_simp; try with_reducible rfl)
  try simp only [Act.put, List.setIfInBounds_toArray, List.set_cons_zero, List.set_cons_succ]
  refine region_take 24 (v := ?vq24_24) rfl rfl (by kernel_rfl) (by kernel_rfl) (by kernel_rfl) (fun _ _ _ h => h) hHeld (Or.inl ⟨by rfl, ?yq24_24⟩) ?rq24_24
  case yq24_24 => (intro w hSw; (try dsimp only at hSw); go_simp; try with_reducible rfl)
  try simp only [Act.put, List.setIfInBounds_toArray, List.set_cons_zero, List.set_cons_succ]
  refine region_take 25 (v := ?vq25_25) rfl rfl (by kernel_rfl) (by kernel_rfl) (by kernel_rfl) (fun _ _ _ h => h) hHeld (Or.inl ⟨by rfl, ?yq25_25⟩) ?rq25_25
  case yq25_25 => (intro w hSw; (try dsimp only at hSw); go_simp; try with_reducible rfl)
  try simp only [Act.put, List.setIfInBounds_toArray, List.set_cons_zero, List.set_cons_succ]
  refine region_take 26 (v := ?vq26_26) rfl rfl (by kernel_rfl) (by kernel_rfl) (by kernel_rfl) (fun _ _ _ h => h) hHeld (Or.inl ⟨by rfl, ?yq26_26⟩) ?rq26_26
  case yq26_26 => (intro w hSw; (try dsimp only at hSw); go_simp; try with_reducible rfl)
  try simp only [Act.put, List.setIfInBounds_toArray, List.set_cons_zero, List.set_cons_succ]
  refine region_take 27 (v := ?vq27_27) rfl rfl (by kernel_rfl) (by kernel_rfl) (by kernel_rfl) (fun _ _ _ h => h) hHeld (Or.inl ⟨by rfl, ?yq27_27⟩) ?rq27_27
  case yq27_27 => (intro w hSw; refine (yields_load_blk 22 (.tmp 11) rfl n0 22 (bn c).toArray _ rfl (HA.out.2.tg hSw) Try.underlying22 rfl (by rw [HCS.out.1]; first | done | kernel_rfl)).trans ?_; with_reducible rfl)
  try simp only [Act.put, List.setIfInBounds_toArray, List.set_cons_zero, List.set_cons_succ]
  refine region_one 21 (by kernel_rfl) rfl (fun K hK => ?_)
  go_simp
  go_at_call 32
  (with_reducible refine (check_to a0 s.length c0 s ad no ep now c R _ rfl (HIN.out.cells.touch (HA.out.1.trans (hHeld).still2) (fun _ _ _ h => h)) HIN.out.nil HIN.out.lt (by omega) HC.out.1 HC.out.2 HMM.out.2 HR.out.symm).mono ?_)
  rintro e uq_28 ⟨rfl, hb8⟩
  have ht := Touch.of_below (S := fun _ => False) hb8
  refine hK.out _ _ (((hHeld).still ht)) (fun hHeld2 => ?_)
  clear hK K hHeld ht
  have hHeld := hHeld2
  clear hHeld2
  try simp only [Act.put, List.setIfInBounds_toArray, List.set_cons_zero, List.set_cons_succ]
  refine region_one 28 (by kernel_rfl) rfl (fun K hK => ?_)
  go_simp
  go_at_call 33
  (with_reducible refine (refCheck_to a0 s.length c0 s ad no ep now c R _ rfl (HIN.out.cells.touch (HA.out.1.trans (hHeld).still2) (fun _ _ _ h => h)) HIN.out.nil HIN.out.lt (by omega) HC.out.1 HC.out.2 HMM.out.1 HMM.out.2 HR.out.symm).mono ?_)
  rintro e uq_29 ⟨rfl, hb8⟩
  have ht := Touch.of_below (S := fun _ => False) hb8
  refine hK.out _ _ (((hHeld).still ht)) (fun hHeld2 => ?_)
  clear hK K hHeld ht
  have hHeld := hHeld2
  clear hHeld2
  try simp only [Act.put, List.setIfInBounds_toArray, List.set_cons_zero, List.set_cons_succ]
  refine region_take 29 (v := ?vq29_30) rfl rfl (by kernel_rfl) (by kernel_rfl) (by kernel_rfl) (fun _ _ _ h => h) hHeld (Or.inl ⟨by rfl, ?yq29_30⟩) ?rq29_30
  case yq29_30 => (intro w hSw; (try dsimp only at hSw); go_simp; try with_reducible rfl)
  try simp only [Act.put, List.setIfInBounds_toArray, List.set_cons_zero, List.set_cons_succ]
  refine region_take 30 (v := ?vq30_31) rfl rfl (by kernel_rfl) (by kernel_rfl) (by kernel_rfl) (fun _ _ _ h => h) hHeld (Or.inl ⟨by rfl, ?yq30_31⟩) ?rq30_31
  case yq30_31 => (intro w hSw; (try dsimp only at hSw); go_simp; try with_reducible rfl)
  try simp only [Act.put, List.setIfInBounds_toArray, List.set_cons_zero, List.set_cons_succ]
  refine region_take 31 (v := ?vq31_32) rfl rfl (by kernel_rfl) (by kernel_rfl) (by kernel_rfl) (fun _ _ _ h => h) hHeld (Or.inl ⟨by rfl, ?yq31_32⟩) ?rq31_32
  case yq31_32 => (intro w hSw; (try dsimp only at hSw); go_simp; try with_reducible rfl)
  try simp only [Act.put, List.setIfInBounds_toArray, List.set_cons_zero, List.set_cons_succ]
  refine wpAnyH_done (by kernel_rfl) ?_ _
  have HT := Lib.hid (HA.out.1.trans (hHeld).still2)
  go_wp2_with fail
  go_ret
  exact ⟨by first | rfl | simp, HT.out.below (Nat.le_refl _) (fun _ _ h => h)⟩

set_option maxRecDepth 100000 in
set_option maxHeartbeats 4000000 in
theorem cookieTells_walk (w : World) (a0 : Option Addr) (l0 cp0 : Nat) (z0 : List Int) (h0 : RowIn .u8 w a0 l0 cp0 z0) (ad : Int) (_w1 : (Lit.int .i64 ad).wf = true) (no : Int) (_w2 : (Lit.int .i64 no).wf = true) (ep : Int) (_w3 : (Lit.int .i64 ep).wf = true) (now : Int) (_w4 : (Lit.int .i64 now).wf = true) (c : List Nat) (hcl : c.length = 16) (hcr : ∀ y ∈ c, y < 256) :
    Calls Try.prog 10 #[.slice a0 l0 cp0, .int .i64 ad, .int .i64 no, .int .i64 ep, .int .i64 now, .agg (bn c).toArray] w fun e w' => e = .returned (.bool true) ∧ Below w.heap.size w w' := by
  have i0 := h0.bytes
  have hm := bounds_i64 _w4
  obtain ⟨s, hs⟩ : ∃ b, b = nats z0 := ⟨_, rfl⟩
  rw [← hs] at i0
  clear hs h0 _w1 _w2 _w3 _w4
  have e0 := i0.hlen
  subst e0
  by_cases k0 : 300 < s.length
  · skip
    clear i0 hm
    have HC := Lib.hid (And.intro hcl hcr)
    clear hcl hcr
    go_enter Try.func10, Try.ntmps10
    go_wp2_with fail
    (with_reducible refine (cookieSmall_any _).mono ?_)
    rintro e w1 ⟨rfl, hb⟩
    have HB := Lib.hid (((Touch.refl (fun _ => False) w).alloc _).trans (Touch.of_below hb))
    clear hb
    go_wp2_with fail
    go_ret
    exact ⟨rfl, HB.out.below (Nat.le_refl _) (fun _ _ h => h)⟩
  · exact cookieTells_in w a0 cp0 s i0 ad no ep now c hcl hcr k0 hm

/-! ### the row's step, and the row -/
theorem cookieTells_own : ownKnob Try.prog.godebug = none := by kernel_rfl
theorem cookieTells_laidOut : laidOutB Try.prog = true := by kernel_rfl

set_option linter.unusedVariables false in
set_option maxRecDepth 100000 in
theorem cookieTells_lifted (os : Os) (started : os.Started) (H : Type) (enc : TypeId × Value → H) :
    ReturnsInHanded {} Try.checked os 10 .any (Rows.cookieTellsSpec.pre6 enc Try.prog Try.f10 Rows.cookieTellsRow.domain false) (Rows.cookieTellsSpec.post enc Try.prog Try.f10 false true false false) := by
  refine returnsInHanded_of_change (C := Try.checked) cookieTells_own started (by kernel_rfl) Try.func10
    (ChangeSpec.witness6 (enc := enc) (C := Try.checked) false ⟨#[], #[.slice none 0 0, .int .i64 0, .int .i64 0, .int .i64 0, .int .i64 0, .agg #[.int .u8 0, .int .u8 0, .int .u8 0, .int .u8 0, .int .u8 0, .int .u8 0, .int .u8 0, .int .u8 0, .int .u8 0, .int .u8 0, .int .u8 0, .int .u8 0, .int .u8 0, .int .u8 0, .int .u8 0, .int .u8 0]], []⟩ 8 (by kernel_rfl) (by kernel_rfl) (by kernel_rfl) (by kernel_rfl)) ?_
  intro W base args ds gs before hval0 hW hcnd _
  have hval : ∀ (j : Nat) t v, Try.f10.params[j]? = some t → args[j]? = some v → Value.okWide Try.prog W .any base t v := hval0
  have hW' := hW
  obtain ⟨p, q, hA0, hV, rfl, hfz, hnd⟩ := hW
  have hA : DataW.TrodAll enc Try.prog W 0 (fun _ => true) true Try.f10.params.toList args.toList ds p := hA0
  rw [Try.params10] at hA hval
  obtain ⟨v0, vs0, d0, ds0, p0, q0, hargs, rfl, rfl, h0, r0⟩ := trodAll_cons hA
  obtain ⟨v1, vs1, d1, ds1, p1, q1, rfl, rfl, rfl, h1, r1⟩ := trodAll_cons r0
  obtain ⟨v2, vs2, d2, ds2, p2, q2, rfl, rfl, rfl, h2, r2⟩ := trodAll_cons r1
  obtain ⟨v3, vs3, d3, ds3, p3, q3, rfl, rfl, rfl, h3, r3⟩ := trodAll_cons r2
  obtain ⟨v4, vs4, d4, ds4, p4, q4, rfl, rfl, rfl, h4, r4⟩ := trodAll_cons r3
  obtain ⟨v5, vs5, d5, ds5, p5, q5, rfl, rfl, rfl, h5, r5⟩ := trodAll_cons r4
  obtain ⟨rfl, rfl, rfl⟩ := trodAll_nil r5
  obtain rfl : args = #[v0, v1, v2, v3, v4, v5] := by cases args; simp_all
  obtain ⟨rfl, rfl⟩ := trodVars_none hV
  have k0 := h0
  have lt0 : ∀ x ∈ p0, x.block < W.heap.size := by obtain ⟨m, hm⟩ := k0; exact DataW.trod_lt m _ _ _ hm
  obtain ⟨a0, len0, cap0, rfl⟩ := okWide_slice Try.underlying26 (hval 0 26 v0 rfl rfl)
  obtain ⟨z0, w0⟩ := row_of (k := .u8) Try.underlying26 Try.underlying5 (by kernel_rfl) h0
  obtain ⟨a1, rfl, rfl, rfl, w1⟩ := open_int Try.underlying3 (hval 1 3 v1 rfl rfl) h1
  obtain ⟨a2, rfl, rfl, rfl, w2⟩ := open_int Try.underlying3 (hval 2 3 v2 rfl rfl) h2
  obtain ⟨a3, rfl, rfl, rfl, w3⟩ := open_int Try.underlying3 (hval 3 3 v3 rfl rfl) h3
  obtain ⟨a4, rfl, rfl, rfl, w4⟩ := open_int Try.underlying3 (hval 4 3 v4 rfl rfl) h4
  have k5 := h5
  have lt5 : ∀ x ∈ p5, x.block < W.heap.size := by obtain ⟨m, hm⟩ := k5; exact DataW.trod_lt m _ _ _ hm
  have o5 := hval 5 22 v5 rfl rfl
  obtain ⟨a5, len5, lt85, rfl⟩ := array_of Try.underlying22 Try.underlying5 (by kernel_rfl) (by kernel_rfl) o5 h5
  clear hA0 hval0
  refine (cookieTells_walk W a0 len0 cap0 z0 w0 a1 w1 a2 w2 a3 w3 a4 w4 a5 len5 lt85).mono fun e W' ⟨he, bel⟩ => ?_
  subst he
  exact ⟨_, rfl, _, _, _, [], _, [], hW', trodAll_mk1 (shut_bool Try.underlying4 _), (trodAll_cons_mk (Below.trod cookieTells_laidOut (by kernel_rfl) (of_decide_eq_true (by kernel_rfl)) k0 bel lt0) (trodAll_cons_mk (shut_int Try.underlying3 w1) (trodAll_cons_mk (shut_int Try.underlying3 w2) (trodAll_cons_mk (shut_int Try.underlying3 w3) (trodAll_cons_mk (shut_int Try.underlying3 w4) (trodAll_cons_mk (Below.trod cookieTells_laidOut (by kernel_rfl) (of_decide_eq_true (by kernel_rfl)) k5 bel lt5) trodAll_mk0)))))), rfl, bel.frame _, fun h => by cases h⟩

theorem cookieTells_over : Rows.cookieTellsRow.holds Try.pinned (OpenSpec.ofChange Rows.cookieTellsSpec) :=
  OpenClaim.holds_of_wide 10 Try.f10 rfl rfl rfl rfl rfl rfl rfl ⟨rfl, rfl, rfl, rfl, rfl⟩ rfl rfl rfl rfl rfl (by kernel_rfl) Try.func10 (by kernel_rfl)
    (of_decide_eq_true (by kernel_rfl)) (by unfold Func.isWrapper; first | (rw [if_pos (by decide +kernel)]; kernel_rfl) | (rw [if_neg (by decide +kernel)]; exact ⟨rfl, rfl⟩))
    (fun os started H enc _ => cookieTells_lifted os started H enc)

/-- THE STATEMENT. -/
theorem cookieTells_proved : Rows.CookieTellsSaid := cookieTells_over
#print axioms cookieTells_proved
end Go.Proofs.Ythlkmofemnepbaa
