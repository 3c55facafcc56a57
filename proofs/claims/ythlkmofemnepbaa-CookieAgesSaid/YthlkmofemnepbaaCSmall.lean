/-
  THE WALK of the laws' small (layer 6).
-/
import Derived.Test.YthlkmofemnepbaaRows
import Derived.Test.YthlkmofemnepbaaRCheck
import Derived.Test.YthlkmofemnepbaaSlices
namespace Go.Proofs.Ythlkmofemnepbaa
open Go.RowKit

set_option maxRecDepth 100000 in
theorem check_eq (a : Option Addr) (ep now r : Int) (w : World) (c : List Nat) (hcl : c.length = 16) (hcr : ∀ y ∈ c, y < 256) (h : a.isSome = true ∧ now ≤ 9223372036854775807 ∧ checkN [115, 101, 99, 114, 101, 116] 1 2 ep now c = r) (hs : SlAt w a (bn [115, 101, 99, 114, 101, 116])) :
    Calls Try.prog 32 #[.slice a 6 6, .int .i64 1, .int .i64 2, .int .i64 ep, .int .i64 now, .agg (bn c).toArray] w fun e w' => e = .returned (.int .i64 r) ∧ Below w.heap.size w w' := by
  obtain ⟨h1, h2, rfl⟩ := h
  exact check_any a 6 6 [115, 101, 99, 114, 101, 116] 1 2 ep now c w rfl hs (fun h => by subst h; cases h1) (by decide) (by decide) hcl hcr h2
set_option maxRecDepth 100000 in
theorem check_zero (a : Option Addr) (ep now r : Int) (w : World) (h : a.isSome = true ∧ now ≤ 9223372036854775807 ∧ checkN [115, 101, 99, 114, 101, 116] 1 2 ep now (List.replicate 16 0) = r) (hs : SlAt w a (bn [115, 101, 99, 114, 101, 116])) :
    Calls Try.prog 32 #[.slice a 6 6, .int .i64 1, .int .i64 2, .int .i64 ep, .int .i64 now, .agg #[.int .u8 0, .int .u8 0, .int .u8 0, .int .u8 0, .int .u8 0, .int .u8 0, .int .u8 0, .int .u8 0, .int .u8 0, .int .u8 0, .int .u8 0, .int .u8 0, .int .u8 0, .int .u8 0, .int .u8 0, .int .u8 0]] w fun e w' => e = .returned (.int .i64 r) ∧ Below w.heap.size w w' :=
  check_eq a ep now r w (List.replicate 16 0) (by decide) (by decide) h hs

set_option maxRecDepth 100000 in
theorem run_eql16 (w : World) (M : List Nat) (h1 : M.length = 16) (h3 : ∀ y ∈ M, y < 256) : (binOp .eql 22 (.agg (bn M).toArray) (.agg (bn M).toArray)).run Try.prog w = .ok (.bool true) w := by
  obtain ⟨i0, hi, hz0, hz1, hz2⟩ := info_parts Try.info5
  have h := run_eql_bn (P := Try.prog) w 22 5 16 Try.underlying22 Try.underlying5 (fun w => by rw [run_sizeOf w hi]; rfl) M M h1 h1 h3 h3
  rw [h]
  simp

set_option maxRecDepth 100000 in
set_option maxHeartbeats 4000000 in
theorem cookieSmall_any (w : World) : Calls Try.prog 29 #[] w fun e w' => e = .returned (.bool true) ∧ Below w.heap.size w w' := by
  have kc := fun (w : World) (C : Array Value) (n c : Nat) => Lib.run_convert_bytes_const (P := Try.prog) w 26 5 C n c Try.underlying26 Try.underlying5
  have kc1 := run_const1 (P := Try.prog) 26 5 Try.underlying26 Try.underlying5
  obtain ⟨M, hM⟩ : ∃ M, M = mintN [115, 101, 99, 114, 101, 116] 1 2 5 := ⟨_, rfl⟩
  have HML : Hid (M.length = 16 ∧ ∀ y ∈ M, y < 256) := Lib.hid ⟨by rw [hM]; exact mintN_len _ _ _ _, by rw [hM]; exact mintN_lt _ _ _ _⟩
  have HMS : Hid ((bn M).toArray.size = 16 ∧ (bn M).toArray.all (·.oneCell') = true) := Lib.hid ⟨by rw [bn_size]; exact HML.out.1, bn_all M⟩
  have hz : ¬ mintN [115, 101, 99, 114, 101, 116] 1 2 5 = List.replicate 16 0 := mint_secret
  have e1 : ∀ w, (binOp .eql 22 (.agg (bn M).toArray) (.agg (bn M).toArray)).run Try.prog w = .ok (.bool true) w := fun w => run_eql16 w M HML.out.1 HML.out.2
  have HC1 (a : Nat) : Hid ((some (⟨a, 0, none⟩ : Addr)).isSome = true ∧ (5 : Int) ≤ 9223372036854775807 ∧ checkN [115, 101, 99, 114, 101, 116] 1 2 5 5 M = 0) := Lib.hid ⟨rfl, by decide, by unfold checkN; rw [if_neg (by decide), if_pos hM.symm]⟩
  have HC2 (a : Nat) : Hid ((some (⟨a, 0, none⟩ : Addr)).isSome = true ∧ (6 : Int) ≤ 9223372036854775807 ∧ checkN [115, 101, 99, 114, 101, 116] 1 2 5 6 M = 0) := Lib.hid ⟨rfl, by decide, by unfold checkN; rw [if_neg (by decide), if_pos hM.symm]⟩
  have HC3 (a : Nat) : Hid ((some (⟨a, 0, none⟩ : Addr)).isSome = true ∧ (7 : Int) ≤ 9223372036854775807 ∧ checkN [115, 101, 99, 114, 101, 116] 1 2 5 7 M = 4) := Lib.hid ⟨rfl, by decide, by unfold checkN; rw [if_pos (by decide)]⟩
  have HC4 (a : Nat) : Hid ((some (⟨a, 0, none⟩ : Addr)).isSome = true ∧ (4 : Int) ≤ 9223372036854775807 ∧ checkN [115, 101, 99, 114, 101, 116] 1 2 5 4 M = 4) := Lib.hid ⟨rfl, by decide, by unfold checkN; rw [if_pos (by decide)]⟩
  have HC5 (a : Nat) : Hid ((some (⟨a, 0, none⟩ : Addr)).isSome = true ∧ (5 : Int) ≤ 9223372036854775807 ∧ checkN [115, 101, 99, 114, 101, 116] 1 2 5 5 (List.replicate 16 0) = 3) := Lib.hid ⟨rfl, by decide, by unfold checkN; rw [if_neg (by decide), if_neg hz]⟩
  have HC6 (a : Nat) : Hid ((some (⟨a, 0, none⟩ : Addr)).isSome = true ∧ (0 : Int) ≤ 9223372036854775807 ∧ checkN [115, 101, 99, 114, 101, 116] 1 2 (-1) 0 M = 4) := Lib.hid ⟨rfl, by decide, by unfold checkN; rw [if_pos (by decide)]⟩
  have HM := Lib.hid hM
  clear hM hz
  obtain ⟨n0, hn0⟩ : ∃ n0, n0 = w.heap.size := ⟨_, rfl⟩
  have HN0 := Lib.hid hn0
  clear hn0
  go_enter Try.func29, Try.ntmps29
  go_wp2_with fail
  rw [← HN0.out]
  (with_reducible refine (mint_any (some ⟨n0, 0, none⟩) 6 6 [115, 101, 99, 114, 101, 116] 1 2 5 _ rfl (SlAt.new_at HN0.out.symm #[.int .u8 115, .int .u8 101, .int .u8 99, .int .u8 114, .int .u8 101, .int .u8 116] _ _) (fun h => by cases h) (by decide) (by decide)).mono ?_)
  rintro e w1 ⟨rfl, hb1⟩
  rw [← HM.out]
  have H1 : Hid (Touch (fun _ => False) w w1 ∧ SlAt w1 (some ⟨n0, 0, none⟩) (bn [115, 101, 99, 114, 101, 116])) := Lib.hid ⟨((Touch.refl _ w).alloc _).trans (Touch.of_below hb1), (SlAt.new_at HN0.out.symm #[.int .u8 115, .int .u8 101, .int .u8 99, .int .u8 114, .int .u8 101, .int .u8 116] _ _).touch (Touch.of_below (S := fun _ => False) hb1) (fun _ _ _ h => h)⟩
  clear hb1
  go_wp2_with (refine wpList_store_blk rfl 22 (.tmp 2) (.tmp 6) rfl w1.heap.size 22 _ (bn M).toArray rfl rfl (Blk.new _ _ _) (by rw [HMS.out.1]; first | done | kernel_rfl) (by rw [HMS.out.1]; first | done | kernel_rfl) HMS.out.2 ?_; intro w3 hB3 ht3 hs3)
  obtain ⟨n1, hn1⟩ : ∃ n1, n1 = w1.heap.size := ⟨_, rfl⟩
  rw [← hn1]
  have ht13 : Touch (fun _ => False) w1 w3 := Touch.then (S := fun _ => False) ((Touch.refl _ w1).alloc _) ht3 (fun i hi e => by omega)
  have HK3 : Hid (Blk w3 n1 22 (bn M).toArray ∧ SlAt w3 (some ⟨n0, 0, none⟩) (bn [115, 101, 99, 114, 101, 116]) ∧ Touch (fun _ => False) w w3) := Lib.hid ⟨by rw [hn1]; exact hB3, H1.out.2.touch ht13 (fun _ _ _ h => h), H1.out.1.trans ht13⟩
  clear ht13 hB3 ht3 hs3 hn1 kc kc1
  refine wp_region_held_drew (S := fun w' : World => TG w3 w') (by kernel_rfl) ((TG.refl w3).drew) (fun hHeld => ?_)
  refine anyH_world (R := fun w' : World => TG w3 w') hHeld ?_
  clear hHeld
  intro W0q hHeld
  refine region_take 0 (v := ?vq0_1) rfl rfl (by kernel_rfl) (by kernel_rfl) (by kernel_rfl) (fun _ _ _ h => h) hHeld (Or.inl ⟨by rfl, ?yq0_1⟩) ?rq0_1
  case yq0_1 => (intro w hSw; (try dsimp only at hSw); go_simp; try with_reducible rfl)
  try simp only [Act.put, List.setIfInBounds_toArray, List.set_cons_zero, List.set_cons_succ]
  refine region_take 1 (v := ?vq1_2) rfl rfl (by kernel_rfl) (by kernel_rfl) (by kernel_rfl) (fun _ _ _ h => h) hHeld (Or.inl ⟨by rfl, ?yq1_2⟩) ?rq1_2
  case yq1_2 => (intro w hSw; refine (yields_load_blk 22 (.tmp 2) rfl n1 22 (bn M).toArray _ rfl (HK3.out.1.tg hSw) Try.underlying22 rfl (by rw [HMS.out.1]; first | done | kernel_rfl)).trans ?_; with_reducible rfl)
  try simp only [Act.put, List.setIfInBounds_toArray, List.set_cons_zero, List.set_cons_succ]
  refine region_one 2 (by kernel_rfl) rfl (fun K hK => ?_)
  go_simp
  go_at_call 32
  (with_reducible refine (check_eq (some ⟨n0, 0, none⟩) 5 5 0 _ M HML.out.1 HML.out.2 (HC1 n0).out (HK3.out.2.1.tg hHeld)).mono ?_)
  rintro e uq_3 ⟨rfl, hb8⟩
  have ht := Touch.of_below (S := fun _ => False) hb8
  refine hK.out _ _ (((hHeld).still ht)) (fun hHeld2 => ?_)
  clear hK K hHeld ht
  have hHeld := hHeld2
  clear hHeld2
  try simp only [Act.put, List.setIfInBounds_toArray, List.set_cons_zero, List.set_cons_succ]
  refine region_take 3 (v := ?vq3_4) rfl rfl (by kernel_rfl) (by kernel_rfl) (by kernel_rfl) (fun _ _ _ h => h) hHeld (Or.inl ⟨by rfl, ?yq3_4⟩) ?rq3_4
  case yq3_4 => (intro w hSw; (try dsimp only at hSw); go_simp; try with_reducible rfl)
  try simp only [Act.put, List.setIfInBounds_toArray, List.set_cons_zero, List.set_cons_succ]
  refine region_take 4 (v := ?vq4_5) rfl rfl (by kernel_rfl) (by kernel_rfl) (by kernel_rfl) (fun _ _ _ h => h) hHeld (Or.inl ⟨by rfl, ?yq4_5⟩) ?rq4_5
  case yq4_5 => (intro w hSw; (try dsimp only at hSw); go_simp; try with_reducible rfl)
  try simp only [Act.put, List.setIfInBounds_toArray, List.set_cons_zero, List.set_cons_succ]
  refine region_take 5 (v := ?vq5_6) rfl rfl (by kernel_rfl) (by kernel_rfl) (by kernel_rfl) (fun _ _ _ h => h) hHeld (Or.inl ⟨by rfl, ?yq5_6⟩) ?rq5_6
  case yq5_6 => (intro w hSw; (try dsimp only at hSw); go_simp; try with_reducible rfl)
  try simp only [Act.put, List.setIfInBounds_toArray, List.set_cons_zero, List.set_cons_succ]
  refine region_take 6 (v := ?vq6_7) rfl rfl (by kernel_rfl) (by kernel_rfl) (by kernel_rfl) (fun _ _ _ h => h) hHeld (Or.inl ⟨by rfl, ?yq6_7⟩) ?rq6_7
  case yq6_7 => (intro w hSw; refine (yields_load_blk 22 (.tmp 2) rfl n1 22 (bn M).toArray _ rfl (HK3.out.1.tg hSw) Try.underlying22 rfl (by rw [HMS.out.1]; first | done | kernel_rfl)).trans ?_; with_reducible rfl)
  try simp only [Act.put, List.setIfInBounds_toArray, List.set_cons_zero, List.set_cons_succ]
  refine region_one 7 (by kernel_rfl) rfl (fun K hK => ?_)
  go_simp
  go_at_call 32
  (with_reducible refine (check_eq (some ⟨n0, 0, none⟩) 5 6 0 _ M HML.out.1 HML.out.2 (HC2 n0).out (HK3.out.2.1.tg hHeld)).mono ?_)
  rintro e uq_8 ⟨rfl, hb8⟩
  have ht := Touch.of_below (S := fun _ => False) hb8
  refine hK.out _ _ (((hHeld).still ht)) (fun hHeld2 => ?_)
  clear hK K hHeld ht
  have hHeld := hHeld2
  clear hHeld2
  try simp only [Act.put, List.setIfInBounds_toArray, List.set_cons_zero, List.set_cons_succ]
  refine region_take 8 (v := ?vq8_9) rfl rfl (by kernel_rfl) (by kernel_rfl) (by kernel_rfl) (fun _ _ _ h => h) hHeld (Or.inl ⟨by rfl, ?yq8_9⟩) ?rq8_9
  case yq8_9 => (intro w hSw; (try dsimp only at hSw); go_simp; try with_reducible rfl)
  try simp only [Act.put, List.setIfInBounds_toArray, List.set_cons_zero, List.set_cons_succ]
  refine region_take 9 (v := ?vq9_10) rfl rfl (by kernel_rfl) (by kernel_rfl) (by kernel_rfl) (fun _ _ _ h => h) hHeld (Or.inl ⟨by rfl, ?yq9_10⟩) ?rq9_10
  case yq9_10 => (intro w hSw; (try dsimp only at hSw); go_simp; try with_reducible rfl)
  try simp only [Act.put, List.setIfInBounds_toArray, List.set_cons_zero, List.set_cons_succ]
  refine region_take 10 (v := ?vq10_11) rfl rfl (by kernel_rfl) (by kernel_rfl) (by kernel_rfl) (fun _ _ _ h => h) hHeld (Or.inl ⟨by rfl, ?yq10_11⟩) ?rq10_11
  case yq10_11 => (intro w hSw; (try dsimp only at hSw); go_simp; try with_reducible rfl)
  try simp only [Act.put, List.setIfInBounds_toArray, List.set_cons_zero, List.set_cons_succ]
  refine region_take 11 (v := ?vq11_12) rfl rfl (by kernel_rfl) (by kernel_rfl) (by kernel_rfl) (fun _ _ _ h => h) hHeld (Or.inl ⟨by rfl, ?yq11_12⟩) ?rq11_12
  case yq11_12 => (intro w hSw; (try dsimp only at hSw); go_simp; try with_reducible rfl)
  try simp only [Act.put, List.setIfInBounds_toArray, List.set_cons_zero, List.set_cons_succ]
  refine region_take 12 (v := ?vq12_13) rfl rfl (by kernel_rfl) (by kernel_rfl) (by kernel_rfl) (fun _ _ _ h => h) hHeld (Or.inl ⟨by rfl, ?yq12_13⟩) ?rq12_13
  case yq12_13 => (intro w hSw; refine (yields_load_blk 22 (.tmp 2) rfl n1 22 (bn M).toArray _ rfl (HK3.out.1.tg hSw) Try.underlying22 rfl (by rw [HMS.out.1]; first | done | kernel_rfl)).trans ?_; with_reducible rfl)
  try simp only [Act.put, List.setIfInBounds_toArray, List.set_cons_zero, List.set_cons_succ]
  refine region_one 13 (by kernel_rfl) rfl (fun K hK => ?_)
  go_simp
  go_at_call 32
  (with_reducible refine (check_eq (some ⟨n0, 0, none⟩) 5 7 4 _ M HML.out.1 HML.out.2 (HC3 n0).out (HK3.out.2.1.tg hHeld)).mono ?_)
  rintro e uq_14 ⟨rfl, hb8⟩
  have ht := Touch.of_below (S := fun _ => False) hb8
  refine hK.out _ _ (((hHeld).still ht)) (fun hHeld2 => ?_)
  clear hK K hHeld ht
  have hHeld := hHeld2
  clear hHeld2
  try simp only [Act.put, List.setIfInBounds_toArray, List.set_cons_zero, List.set_cons_succ]
  refine region_take 14 (v := ?vq14_15) rfl rfl (by kernel_rfl) (by kernel_rfl) (by kernel_rfl) (fun _ _ _ h => h) hHeld (Or.inl ⟨by rfl, ?yq14_15⟩) ?rq14_15
  case yq14_15 => (intro w hSw; (try dsimp only at hSw); go_simp; try with_reducible rfl)
  try simp only [Act.put, List.setIfInBounds_toArray, List.set_cons_zero, List.set_cons_succ]
  refine region_take 15 (v := ?vq15_16) rfl rfl (by kernel_rfl) (by kernel_rfl) (by kernel_rfl) (fun _ _ _ h => h) hHeld (Or.inl ⟨by rfl, ?yq15_16⟩) ?rq15_16
  case yq15_16 => (intro w hSw; (try dsimp only at hSw); go_simp; try with_reducible rfl)
  try simp only [Act.put, List.setIfInBounds_toArray, List.set_cons_zero, List.set_cons_succ]
  refine region_take 16 (v := ?vq16_17) rfl rfl (by kernel_rfl) (by kernel_rfl) (by kernel_rfl) (fun _ _ _ h => h) hHeld (Or.inl ⟨by rfl, ?yq16_17⟩) ?rq16_17
  case yq16_17 => (intro w hSw; (try dsimp only at hSw); go_simp; try with_reducible rfl)
  try simp only [Act.put, List.setIfInBounds_toArray, List.set_cons_zero, List.set_cons_succ]
  refine region_take 17 (v := ?vq17_18) rfl rfl (by kernel_rfl) (by kernel_rfl) (by kernel_rfl) (fun _ _ _ h => h) hHeld (Or.inl ⟨by rfl, ?yq17_18⟩) ?rq17_18
  case yq17_18 => (intro w hSw; (try dsimp only at hSw); go_simp; try with_reducible rfl)
  try simp only [Act.put, List.setIfInBounds_toArray, List.set_cons_zero, List.set_cons_succ]
  refine region_take 18 (v := ?vq18_19) rfl rfl (by kernel_rfl) (by kernel_rfl) (by kernel_rfl) (fun _ _ _ h => h) hHeld (Or.inl ⟨by rfl, ?yq18_19⟩) ?rq18_19
  case yq18_19 => (intro w hSw; refine (yields_load_blk 22 (.tmp 2) rfl n1 22 (bn M).toArray _ rfl (HK3.out.1.tg hSw) Try.underlying22 rfl (by rw [HMS.out.1]; first | done | kernel_rfl)).trans ?_; with_reducible rfl)
  try simp only [Act.put, List.setIfInBounds_toArray, List.set_cons_zero, List.set_cons_succ]
  refine region_one 19 (by kernel_rfl) rfl (fun K hK => ?_)
  go_simp
  go_at_call 32
  (with_reducible refine (check_eq (some ⟨n0, 0, none⟩) 5 4 4 _ M HML.out.1 HML.out.2 (HC4 n0).out (HK3.out.2.1.tg hHeld)).mono ?_)
  rintro e uq_20 ⟨rfl, hb8⟩
  have ht := Touch.of_below (S := fun _ => False) hb8
  refine hK.out _ _ (((hHeld).still ht)) (fun hHeld2 => ?_)
  clear hK K hHeld ht
  have hHeld := hHeld2
  clear hHeld2
  try simp only [Act.put, List.setIfInBounds_toArray, List.set_cons_zero, List.set_cons_succ]
  refine region_take 20 (v := ?vq20_21) rfl rfl (by kernel_rfl) (by kernel_rfl) (by kernel_rfl) (fun _ _ _ h => h) hHeld (Or.inl ⟨by rfl, ?yq20_21⟩) ?rq20_21
  case yq20_21 => (intro w hSw; (try dsimp only at hSw); go_simp; try with_reducible rfl)
  try simp only [Act.put, List.setIfInBounds_toArray, List.set_cons_zero, List.set_cons_succ]
  refine region_take 21 (v := ?vq21_22) rfl rfl (by kernel_rfl) (by kernel_rfl) (by kernel_rfl) (fun _ _ _ h => h) hHeld (Or.inl ⟨by rfl, ?yq21_22⟩) ?rq21_22
  case yq21_22 => (intro w hSw; (try dsimp only at hSw); go_simp; try with_reducible rfl)
  try simp only [Act.put, List.setIfInBounds_toArray, List.set_cons_zero, List.set_cons_succ]
  refine region_take 22 (v := ?vq22_23) rfl rfl (by kernel_rfl) (by kernel_rfl) (by kernel_rfl) (fun _ _ _ h => h) hHeld (Or.inl ⟨by rfl, ?yq22_23⟩) ?rq22_23
  case yq22_23 => (intro w hSw; (try dsimp only at hSw); go_simp; try with_reducible rfl)
  try simp only [Act.put, List.setIfInBounds_toArray, List.set_cons_zero, List.set_cons_succ]
  refine region_take 23 (v := ?vq23_24) rfl rfl (by kernel_rfl) (by kernel_rfl) (by kernel_rfl) (fun _ _ _ h => h) hHeld (Or.inl ⟨by rfl, ?yq23_24⟩) ?rq23_24
  case yq23_24 => (intro w hSw; (try dsimp only at hSw); go_simp; try with_reducible rfl)
  try simp only [Act.put, List.setIfInBounds_toArray, List.set_cons_zero, List.set_cons_succ]
  refine region_take 24 (v := ?vq24_25) rfl rfl (by kernel_rfl) (by kernel_rfl) (by kernel_rfl) (fun _ _ _ h => h) hHeld (Or.inl ⟨by rfl, ?yq24_25⟩) ?rq24_25
  case yq24_25 => (intro w hSw; (try dsimp only at hSw); go_simp; try with_reducible rfl)
  try simp only [Act.put, List.setIfInBounds_toArray, List.set_cons_zero, List.set_cons_succ]
  refine region_one 25 (by kernel_rfl) rfl (fun K hK => ?_)
  go_simp
  go_at_call 32
  (with_reducible refine (check_zero (some ⟨n0, 0, none⟩) 5 5 3 _ (HC5 n0).out (HK3.out.2.1.tg hHeld)).mono ?_)
  rintro e uq_26 ⟨rfl, hb8⟩
  have ht := Touch.of_below (S := fun _ => False) hb8
  refine hK.out _ _ (((hHeld).still ht)) (fun hHeld2 => ?_)
  clear hK K hHeld ht
  have hHeld := hHeld2
  clear hHeld2
  try simp only [Act.put, List.setIfInBounds_toArray, List.set_cons_zero, List.set_cons_succ]
  refine region_take 26 (v := ?vq26_27) rfl rfl (by kernel_rfl) (by kernel_rfl) (by kernel_rfl) (fun _ _ _ h => h) hHeld (Or.inl ⟨by rfl, ?yq26_27⟩) ?rq26_27
  case yq26_27 => (intro w hSw; (try dsimp only at hSw); go_simp; try with_reducible rfl)
  try simp only [Act.put, List.setIfInBounds_toArray, List.set_cons_zero, List.set_cons_succ]
  refine region_take 27 (v := ?vq27_28) rfl rfl (by kernel_rfl) (by kernel_rfl) (by kernel_rfl) (fun _ _ _ h => h) hHeld (Or.inl ⟨by rfl, ?yq27_28⟩) ?rq27_28
  case yq27_28 => (intro w hSw; (try dsimp only at hSw); go_simp; try with_reducible rfl)
  try simp only [Act.put, List.setIfInBounds_toArray, List.set_cons_zero, List.set_cons_succ]
  refine region_take 28 (v := ?vq28_29) rfl rfl (by kernel_rfl) (by kernel_rfl) (by kernel_rfl) (fun _ _ _ h => h) hHeld (Or.inl ⟨by rfl, ?yq28_29⟩) ?rq28_29
  case yq28_29 => (intro w hSw; (try dsimp only at hSw); go_simp; try with_reducible rfl)
  try simp only [Act.put, List.setIfInBounds_toArray, List.set_cons_zero, List.set_cons_succ]
  refine region_take 29 (v := ?vq29_30) rfl rfl (by kernel_rfl) (by kernel_rfl) (by kernel_rfl) (fun _ _ _ h => h) hHeld (Or.inl ⟨by rfl, ?yq29_30⟩) ?rq29_30
  case yq29_30 => (intro w hSw; (try dsimp only at hSw); go_simp; try with_reducible rfl)
  try simp only [Act.put, List.setIfInBounds_toArray, List.set_cons_zero, List.set_cons_succ]
  refine region_take 30 (v := ?vq30_31) rfl rfl (by kernel_rfl) (by kernel_rfl) (by kernel_rfl) (fun _ _ _ h => h) hHeld (Or.inl ⟨by rfl, ?yq30_31⟩) ?rq30_31
  case yq30_31 => (intro w hSw; refine (yields_load_blk 22 (.tmp 2) rfl n1 22 (bn M).toArray _ rfl (HK3.out.1.tg hSw) Try.underlying22 rfl (by rw [HMS.out.1]; first | done | kernel_rfl)).trans ?_; with_reducible rfl)
  try simp only [Act.put, List.setIfInBounds_toArray, List.set_cons_zero, List.set_cons_succ]
  refine region_one 31 (by kernel_rfl) rfl (fun K hK => ?_)
  go_simp
  go_at_call 32
  (with_reducible refine (check_eq (some ⟨n0, 0, none⟩) (-1) 0 4 _ M HML.out.1 HML.out.2 (HC6 n0).out (HK3.out.2.1.tg hHeld)).mono ?_)
  rintro e uq_32 ⟨rfl, hb8⟩
  have ht := Touch.of_below (S := fun _ => False) hb8
  refine hK.out _ _ (((hHeld).still ht)) (fun hHeld2 => ?_)
  clear hK K hHeld ht
  have hHeld := hHeld2
  clear hHeld2
  try simp only [Act.put, List.setIfInBounds_toArray, List.set_cons_zero, List.set_cons_succ]
  refine region_take 32 (v := ?vq32_33) rfl rfl (by kernel_rfl) (by kernel_rfl) (by kernel_rfl) (fun _ _ _ h => h) hHeld (Or.inl ⟨by rfl, ?yq32_33⟩) ?rq32_33
  case yq32_33 => (intro w hSw; (try dsimp only at hSw); go_simp; try with_reducible rfl)
  try simp only [Act.put, List.setIfInBounds_toArray, List.set_cons_zero, List.set_cons_succ]
  refine region_take 33 (v := ?vq33_34) rfl rfl (by kernel_rfl) (by kernel_rfl) (by kernel_rfl) (fun _ _ _ h => h) hHeld (Or.inl ⟨by rfl, ?yq33_34⟩) ?rq33_34
  case yq33_34 => (intro w hSw; (try dsimp only at hSw); go_simp; try with_reducible rfl)
  try simp only [Act.put, List.setIfInBounds_toArray, List.set_cons_zero, List.set_cons_succ]
  refine region_take 34 (v := ?vq34_35) rfl rfl (by kernel_rfl) (by kernel_rfl) (by kernel_rfl) (fun _ _ _ h => h) hHeld (Or.inl ⟨by rfl, ?yq34_35⟩) ?rq34_35
  case yq34_35 => (intro w hSw; (try dsimp only at hSw); go_simp; try with_reducible rfl)
  try simp only [Act.put, List.setIfInBounds_toArray, List.set_cons_zero, List.set_cons_succ]
  refine region_take 35 (v := ?vq35_36) rfl rfl (by kernel_rfl) (by kernel_rfl) (by kernel_rfl) (fun _ _ _ h => h) hHeld (Or.inl ⟨by rfl, ?yq35_36⟩) ?rq35_36
  case yq35_36 => (intro w hSw; refine (yields_load_blk 22 (.tmp 2) rfl n1 22 (bn M).toArray _ rfl (HK3.out.1.tg hSw) Try.underlying22 rfl (by rw [HMS.out.1]; first | done | kernel_rfl)).trans ?_; with_reducible rfl)
  try simp only [Act.put, List.setIfInBounds_toArray, List.set_cons_zero, List.set_cons_succ]
  refine region_take 36 (v := ?vq36_37) rfl rfl (by kernel_rfl) (by kernel_rfl) (by kernel_rfl) (fun _ _ _ h => h) hHeld (Or.inl ⟨by rfl, ?yq36_37⟩) ?rq36_37
  case yq36_37 => (intro w hSw; (try dsimp only at hSw); go_simp; try with_reducible rfl)
  try simp only [Act.put, List.setIfInBounds_toArray, List.set_cons_zero, List.set_cons_succ]
  refine region_one 37 (by kernel_rfl) rfl (fun K hK => ?_)
  go_simp
  go_at_call 31
  (with_reducible refine (refMint_any (some ⟨n0, 0, none⟩) 6 6 [115, 101, 99, 114, 101, 116] 1 2 5 _ rfl (HK3.out.2.1.tg hHeld) (fun h => by cases h) (by decide) (by decide)).mono ?_)
  rintro e uq_38 ⟨rfl, hb8⟩
  rw [← HM.out]
  have ht := Touch.of_below (S := fun _ => False) hb8
  refine hK.out _ _ (((hHeld).still ht)) (fun hHeld2 => ?_)
  clear hK K hHeld ht
  have hHeld := hHeld2
  clear hHeld2
  try simp only [Act.put, List.setIfInBounds_toArray, List.set_cons_zero, List.set_cons_succ]
  refine region_take 38 (v := ?vq38_39) rfl rfl (by kernel_rfl) (by kernel_rfl) (by kernel_rfl) (fun _ _ _ h => h) hHeld (Or.inl ⟨by rfl, ?yq38_39⟩) ?rq38_39
  case yq38_39 => (intro w hSw; (try dsimp only at hSw); go_simp; try with_reducible rfl)
  try simp only [Act.put, List.setIfInBounds_toArray, List.set_cons_zero, List.set_cons_succ]
  refine region_take 39 (v := ?vq39_40) rfl rfl (by kernel_rfl) (by kernel_rfl) (by kernel_rfl) (fun _ _ _ h => h) hHeld (Or.inl ⟨by rfl, ?yq39_40⟩) ?rq39_40
  case yq39_40 => (intro w hSw; (try dsimp only at hSw); go_simp; try with_reducible rfl)
  try simp only [Act.put, List.setIfInBounds_toArray, List.set_cons_zero, List.set_cons_succ]
  refine region_take 40 (v := ?vq40_41) rfl rfl (by kernel_rfl) (by kernel_rfl) (by kernel_rfl) (fun _ _ _ h => h) hHeld (Or.inl ⟨by rfl, ?yq40_41⟩) ?rq40_41
  case yq40_41 => (intro w hSw; (try dsimp only at hSw); go_simp; try with_reducible rfl)
  try simp only [Act.put, List.setIfInBounds_toArray, List.set_cons_zero]
  refine wpAnyH_done (by kernel_rfl) ?_ _
  have HT := Lib.hid (HK3.out.2.2.trans (hHeld).still2)
  go_wp2_with fail
  go_ret
  exact ⟨by first | rfl | simp, HT.out.below (Nat.le_refl _) (fun _ _ h => h)⟩

end Go.Proofs.Ythlkmofemnepbaa
