/-
  nightjarlaw05.WireSizes: for all inputs the law returns true. No conditions: for every input that can be read.
-/
import Derived.Test.YthlkmofemnepbaaRows
import Derived.Test.YthlkmofemnepbaaWSmall
import Derived.Test.YthlkmofemnepbaaWireLaw
import Derived.Test.YthlkmofemnepbaaPkArg
import Derived.Test.YthlkmofemnepbaaSlices
namespace Go.Proofs.Ythlkmofemnepbaa
open Go.ChangeShapes Go.WideShapes Go.ChangeAt Go.RowKit

set_option maxRecDepth 100000 in
set_option maxHeartbeats 8000000 in
theorem wireSizes_no (w : World) (p : Pk) (hp : p.Ok) (hR : ¬ RightN p) :
    Calls Try.prog 7 #[.agg (pkV p)] w fun e w' => e = .returned (.bool true) ∧ Below w.heap.size w w' := by
  have HP := Lib.hid (And.intro hp hR)
  clear hp hR
  go_enter Try.func7, Try.ntmps7
  go_wp2_with fail
  (with_reducible refine (wireSmall_any _).mono ?_)
  rintro e wa ⟨rfl, hba⟩
  obtain ⟨n0, hn0⟩ : ∃ n0, n0 = w.heap.size := ⟨_, rfl⟩
  rw [← hn0]
  have HA : Hid (Touch (fun _ => False) w wa ∧ Blk wa n0 25 (pkV p)) := Lib.hid ⟨((Touch.refl (fun _ => False) w).alloc _).trans (Touch.of_below hba), by rw [hn0]; exact (Blk.new w (pkV p) 25).touch (Touch.of_below (S := fun _ => False) hba) (fun h => h)⟩
  clear hba hn0
  go_wp2_with ((with_reducible refine at_op (.load 25 (.tmp 1)) rfl ?_); refine wpList_load_blk rfl 25 (.tmp 1) rfl n0 25 (pkV p) _ rfl (HA.out.2) Try.underlying25 rfl (by rw [pkV_size HP.out.1]; first | done | kernel_rfl) ?_)
  (with_reducible refine (wireEnc_no p HP.out.1 HP.out.2 _).mono ?_)
  rintro e wb ⟨rfl, hbb⟩
  have HB : Hid (Touch (fun _ => False) w wb) := Lib.hid (HA.out.1.trans (Touch.of_below hbb))
  clear hbb
  go_wp2_with fail
  go_ret
  exact ⟨by first | rfl | simp, HB.out.below (Nat.le_refl _) (fun _ _ h => h)⟩

set_option maxRecDepth 100000 in
set_option maxHeartbeats 8000000 in
theorem wireSizes_yes (w : World) (p : Pk) (hp : p.Ok) (hR : RightN p) :
    Calls Try.prog 7 #[.agg (pkV p)] w fun e w' => e = .returned (.bool true) ∧ Below w.heap.size w w' := by
  obtain ⟨Z, hZ⟩ : ∃ Z, encN p = Z := ⟨_, rfl⟩
  obtain ⟨n, hn⟩ : ∃ n, Z.length = n := ⟨_, rfl⟩
  have hk := right_kind p hR
  obtain ⟨kn, hkn⟩ : ∃ kn : Nat, p.kind = kn := ⟨p.kind.toNat, by omega⟩
  have hlen : n = sizeN p.kind := by rw [← hn, ← hZ]; exact enc_len p hp
  have hsz := size_range p.kind hk
  have HP := Lib.hid (And.intro hp hR)
  have HZ := Lib.hid (And.intro hZ hn)
  have HK : Hid (p.n.getD 0 0 = kn) := Lib.hid hkn
  have HTB : Hid ((#[.int .i64 0, .int .i64 5, .int .i64 25, .int .i64 26, .int .i64 25, .int .i64 17, .int .i64 18, .int .i64 19, .int .i64 24, .int .i64 18, .int .i64 17, .int .i64 18, .int .i64 6] : Array Value)[kn]? = some (.int .i64 n)) := Lib.hid (by
    have h := size_table p.kind hk
    rw [hlen]
    rw [hkn] at h ⊢
    have h2 := congrArg (Option.map (Value.int .i64)) h
    rw [Int.toNat_natCast, ← List.getElem?_map] at h2
    rw [List.getElem?_toArray]
    exact h2)
  have HH0 : Hid ((bys Z)[0]? = some (.int .u8 kn)) := Lib.hid (by
    have h := enc_head p hR
    rw [hZ, hkn] at h
    simp [bys, h])
  have k1 : (1 : Int) ≤ kn := by omega
  have k1n : 1 ≤ kn := by omega
  have k2 : (kn : Int) ≤ 12 := by omega
  have k2n : kn ≤ 12 := by omega
  have k3 : (kn : Int) < 13 := by omega
  have k3n : kn < 13 := by omega
  have l0 : (0 : Int) < n := by omega
  have l0n : 0 < n := by omega
  have kw : IntKind.i64.wrap (kn : Int) = kn := by
    simp [IntKind.wrap, IntKind.bits, IntKind.signed]
    omega
  clear hp hR hZ hn hk hkn hlen hsz
  go_enter Try.func7, Try.ntmps7
  go_wp2_with fail
  (with_reducible refine (wireSmall_any _).mono ?_)
  rintro e wa ⟨rfl, hba⟩
  obtain ⟨n0, hn0⟩ : ∃ n0, n0 = w.heap.size := ⟨_, rfl⟩
  rw [← hn0]
  have HA : Hid (Touch (fun _ => False) w wa ∧ Blk wa n0 25 (pkV p)) := Lib.hid ⟨((Touch.refl (fun _ => False) w).alloc _).trans (Touch.of_below hba), by rw [hn0]; exact (Blk.new w (pkV p) 25).touch (Touch.of_below (S := fun _ => False) hba) (fun h => h)⟩
  clear hba hn0
  go_wp2_with ((with_reducible refine at_op (.load 25 (.tmp 1)) rfl ?_); refine wpList_load_blk rfl 25 (.tmp 1) rfl n0 25 (pkV p) _ rfl (HA.out.2) Try.underlying25 rfl (by rw [pkV_size HP.out.1]; first | done | kernel_rfl) ?_)
  (with_reducible refine (enc_lit _ p rfl HP.out.1 HP.out.2 Z n HZ.out.1 HZ.out.2 _).mono ?_)
  rintro e wb ⟨a, c, rfl, ho, hc, hbb⟩
  obtain ⟨g, rfl⟩ : ∃ g, a = some ⟨g, 0, none⟩ := by
    obtain ⟨g, cg, e, _⟩ := owns_some ho l0n
    exact ⟨g, (Value.slice.inj e).1⟩
  have HB : Hid (Touch (fun _ => False) w wb ∧ Blk wb n0 25 (pkV p) ∧ SlAt wb (some ⟨g, 0, none⟩) (bys Z)) := Lib.hid ⟨HA.out.1.trans (Touch.of_below hbb), HA.out.2.touch (Touch.of_below (S := fun _ => False) hbb) (fun h => h), SlAt.of_owns ho⟩
  clear hbb ho hc
  go_wp2_with fail
  obtain ⟨nb, hnb⟩ : ∃ nb, nb = wb.heap.size := ⟨_, rfl⟩
  obtain ⟨wd, hwd⟩ : ∃ wd, wd = wb.alloc (.cells #[.int .i64 0, .int .i64 5, .int .i64 25, .int .i64 26, .int .i64 25, .int .i64 17, .int .i64 18, .int .i64 19, .int .i64 24, .int .i64 18, .int .i64 17, .int .i64 18, .int .i64 6] 3) := ⟨_, rfl⟩
  rw [← hnb, ← hwd]
  have HD : Hid (Touch (fun _ => False) w wd ∧ Blk wd n0 25 (pkV p) ∧ Blk wd nb 3 #[.int .i64 0, .int .i64 5, .int .i64 25, .int .i64 26, .int .i64 25, .int .i64 17, .int .i64 18, .int .i64 19, .int .i64 24, .int .i64 18, .int .i64 17, .int .i64 18, .int .i64 6] ∧ SlAt wd (some ⟨g, 0, none⟩) (bys Z)) := Lib.hid (by
    rw [hwd, hnb]
    exact ⟨HB.out.1.alloc _, HB.out.2.1.alloc _, Blk.new _ _ _, HB.out.2.2.alloc _⟩)
  clear hnb hwd
  refine wp_region_held_drew (S := fun w' : World => TG wd w') (by kernel_rfl) ((TG.refl wd).drew) (fun hHeld => ?_)
  refine anyH_world (R := fun w' : World => TG wd w') hHeld ?_
  clear hHeld
  intro W0q hHeld
  refine region_take 0 (v := ?vq0_1) rfl rfl (by kernel_rfl) (by kernel_rfl) (by kernel_rfl) (fun _ _ _ h => h) hHeld (Or.inl ⟨by rfl, ?yq0_1⟩) ?rq0_1
  case yq0_1 => (intro w hSw; (try dsimp only at hSw); go_simp; try with_reducible rfl)
  try simp only [Act.put, List.setIfInBounds_toArray, List.set_cons_zero, List.set_cons_succ]
  refine region_take 1 (v := ?vq1_2) rfl rfl (by kernel_rfl) (by kernel_rfl) (by kernel_rfl) (fun _ _ _ h => h) hHeld (Or.inl ⟨by rfl, ?yq1_2⟩) ?rq1_2
  case yq1_2 => (intro w hSw; (try dsimp only at hSw); go_simp; try with_reducible rfl)
  try simp only [Act.put, List.setIfInBounds_toArray, List.set_cons_zero, List.set_cons_succ]
  refine region_take 2 (v := ?vq2_3) rfl rfl (by kernel_rfl) (by kernel_rfl) (by kernel_rfl) (fun _ _ _ h => h) hHeld (Or.inl ⟨by rfl, ?yq2_3⟩) ?rq2_3
  case yq2_3 => (intro w hSw; (try dsimp only at hSw); go_simp; try with_reducible rfl)
  try simp only [Act.put, List.setIfInBounds_toArray, List.set_cons_zero, List.set_cons_succ]
  refine region_take 3 (v := ?vq3_4) rfl rfl (by kernel_rfl) (by kernel_rfl) (by kernel_rfl) (fun _ _ _ h => h) hHeld (Or.inl ⟨by rfl, ?yq3_4⟩) ?rq3_4
  case yq3_4 => (intro w hSw; have d := (HD.out.2.1.tg hSw).num HP.out.1 0 (by decide); rw [HK.out] at d; go_simp; try with_reducible rfl)
  try simp only [Act.put, List.setIfInBounds_toArray, List.set_cons_zero, List.set_cons_succ]
  refine region_take 4 (v := ?vq4_5) rfl rfl (by kernel_rfl) (by kernel_rfl) (by kernel_rfl) (fun _ _ _ h => h) hHeld (Or.inl ⟨by rfl, ?yq4_5⟩) ?rq4_5
  case yq4_5 => (intro w hSw; (try dsimp only at hSw); go_simp; try with_reducible rfl)
  try simp only [Act.put, List.setIfInBounds_toArray, List.set_cons_zero, List.set_cons_succ]
  refine region_take 5 (v := ?vq5_6) rfl rfl (by kernel_rfl) (by kernel_rfl) (by kernel_rfl) (fun _ _ _ h => h) hHeld (Or.inl ⟨by rfl, ?yq5_6⟩) ?rq5_6
  case yq5_6 => (intro w hSw; (try dsimp only at hSw); go_simp; try with_reducible rfl)
  try simp only [Act.put, List.setIfInBounds_toArray, List.set_cons_zero, List.set_cons_succ]
  refine region_take 6 (v := ?vq6_7) rfl rfl (by kernel_rfl) (by kernel_rfl) (by kernel_rfl) (fun _ _ _ h => h) hHeld (Or.inl ⟨by rfl, ?yq6_7⟩) ?rq6_7
  case yq6_7 => (intro w hSw; (try dsimp only at hSw); go_simp; try with_reducible rfl)
  try simp only [Act.put, List.setIfInBounds_toArray, List.set_cons_zero, List.set_cons_succ]
  refine region_take 7 (v := ?vq7_8) rfl rfl (by kernel_rfl) (by kernel_rfl) (by kernel_rfl) (fun _ _ _ h => h) hHeld (Or.inl ⟨by rfl, ?yq7_8⟩) ?rq7_8
  case yq7_8 => (intro w hSw; (try dsimp only at hSw); go_simp; try with_reducible rfl)
  try simp only [Act.put, List.setIfInBounds_toArray, List.set_cons_zero, List.set_cons_succ]
  refine region_take 8 (v := ?vq8_9) rfl rfl (by kernel_rfl) (by kernel_rfl) (by kernel_rfl) (fun _ _ _ h => h) hHeld (Or.inl ⟨by rfl, ?yq8_9⟩) ?rq8_9
  case yq8_9 => (intro w hSw; have d := (HD.out.2.1.tg hSw).num HP.out.1 0 (by decide); rw [HK.out] at d; go_simp; try with_reducible rfl)
  try simp only [Act.put, List.setIfInBounds_toArray, List.set_cons_zero, List.set_cons_succ]
  refine region_take 9 (v := ?vq9_10) rfl rfl (by kernel_rfl) (by kernel_rfl) (by kernel_rfl) (fun _ _ _ h => h) hHeld (Or.inl ⟨by rfl, ?yq9_10⟩) ?rq9_10
  case yq9_10 => (intro w hSw; (try dsimp only at hSw); go_simp; try with_reducible rfl)
  try simp only [Act.put, List.setIfInBounds_toArray, List.set_cons_zero, List.set_cons_succ]
  refine region_take 10 (v := ?vq10_11) rfl rfl (by kernel_rfl) (by kernel_rfl) (by kernel_rfl) (fun _ _ _ h => h) hHeld (Or.inl ⟨by rfl, ?yq10_11⟩) ?rq10_11
  case yq10_11 => (intro w hSw; (try dsimp only at hSw); go_simp; try with_reducible rfl)
  try simp only [Act.put, List.setIfInBounds_toArray, List.set_cons_zero, List.set_cons_succ]
  refine region_take 11 (v := ?vq11_12) rfl rfl (by kernel_rfl) (by kernel_rfl) (by kernel_rfl) (fun _ _ _ h => h) hHeld (Or.inl ⟨by rfl, ?yq11_12⟩) ?rq11_12
  case yq11_12 => (intro w hSw; (try dsimp only at hSw); go_simp; try with_reducible rfl)
  try simp only [Act.put, List.setIfInBounds_toArray, List.set_cons_zero, List.set_cons_succ]
  refine region_take 12 (v := ?vq12_13) rfl rfl (by kernel_rfl) (by kernel_rfl) (by kernel_rfl) (fun _ _ _ h => h) hHeld (Or.inl ⟨by rfl, ?yq12_13⟩) ?rq12_13
  case yq12_13 => (intro w hSw; (try dsimp only at hSw); go_simp; try with_reducible rfl)
  try simp only [Act.put, List.setIfInBounds_toArray, List.set_cons_zero, List.set_cons_succ]
  refine region_take 13 (v := ?vq13_14) rfl rfl (by kernel_rfl) (by kernel_rfl) (by kernel_rfl) (fun _ _ _ h => h) hHeld (Or.inl ⟨by rfl, ?yq13_14⟩) ?rq13_14
  case yq13_14 => (intro w hSw; (try dsimp only at hSw); go_simp; try with_reducible rfl)
  try simp only [Act.put, List.setIfInBounds_toArray, List.set_cons_zero, List.set_cons_succ]
  refine region_take 14 (v := ?vq14_15) rfl rfl (by kernel_rfl) (by kernel_rfl) (by kernel_rfl) (fun _ _ _ h => h) hHeld (Or.inl ⟨by rfl, ?yq14_15⟩) ?rq14_15
  case yq14_15 => (intro w hSw; (try dsimp only at hSw); go_simp; try with_reducible rfl)
  try simp only [Act.put, List.setIfInBounds_toArray, List.set_cons_zero, List.set_cons_succ]
  refine region_take 15 (v := ?vq15_16) rfl rfl (by kernel_rfl) (by kernel_rfl) (by kernel_rfl) (fun _ _ _ h => h) hHeld (Or.inl ⟨by rfl, ?yq15_16⟩) ?rq15_16
  case yq15_16 => (intro w hSw; (try dsimp only at hSw); go_simp; try with_reducible rfl)
  try simp only [Act.put, List.setIfInBounds_toArray, List.set_cons_zero, List.set_cons_succ]
  refine region_take 16 (v := ?vq16_17) rfl rfl (by kernel_rfl) (by kernel_rfl) (by kernel_rfl) (fun _ _ _ h => h) hHeld (Or.inl ⟨by rfl, ?yq16_17⟩) ?rq16_17
  case yq16_17 => (intro w hSw; have d := (HD.out.2.1.tg hSw).num HP.out.1 0 (by decide); rw [HK.out] at d; go_simp; try with_reducible rfl)
  try simp only [Act.put, List.setIfInBounds_toArray, List.set_cons_zero, List.set_cons_succ]
  refine region_take 17 (v := ?vq17_18) rfl rfl (by kernel_rfl) (by kernel_rfl) (by kernel_rfl) (fun _ _ _ h => h) hHeld (Or.inl ⟨by rfl, ?yq17_18⟩) ?rq17_18
  case yq17_18 => (intro w hSw; (try dsimp only at hSw); go_simp; try with_reducible rfl)
  try simp only [Act.put, List.setIfInBounds_toArray, List.set_cons_zero, List.set_cons_succ]
  refine region_take 18 (v := ?vq18_19) rfl rfl (by kernel_rfl) (by kernel_rfl) (by kernel_rfl) (fun _ _ _ h => h) hHeld (Or.inl ⟨by rfl, ?yq18_19⟩) ?rq18_19
  case yq18_19 => (intro w hSw; have d : w.cell? ⟨nb, kn, none⟩ = some (.int .i64 n) := (HD.out.2.2.1.tg hSw).cell kn HTB.out; go_simp; try with_reducible rfl)
  try simp only [Act.put, List.setIfInBounds_toArray, List.set_cons_zero, List.set_cons_succ]
  refine region_take 19 (v := ?vq19_20) rfl rfl (by kernel_rfl) (by kernel_rfl) (by kernel_rfl) (fun _ _ _ h => h) hHeld (Or.inl ⟨by rfl, ?yq19_20⟩) ?rq19_20
  case yq19_20 => (intro w hSw; (try dsimp only at hSw); go_simp; try with_reducible rfl)
  try simp only [Act.put, List.setIfInBounds_toArray, List.set_cons_zero, List.set_cons_succ]
  refine region_take 20 (v := ?vq20_21) rfl rfl (by kernel_rfl) (by kernel_rfl) (by kernel_rfl) (fun _ _ _ h => h) hHeld (Or.inl ⟨by rfl, ?yq20_21⟩) ?rq20_21
  case yq20_21 => (intro w hSw; (try dsimp only at hSw); go_simp; try with_reducible rfl)
  try simp only [Act.put, List.setIfInBounds_toArray, List.set_cons_zero, List.set_cons_succ]
  refine region_take 21 (v := ?vq21_22) rfl rfl (by kernel_rfl) (by kernel_rfl) (by kernel_rfl) (fun _ _ _ h => h) hHeld (Or.inl ⟨by rfl, ?yq21_22⟩) ?rq21_22
  case yq21_22 => (intro w hSw; (try dsimp only at hSw); go_simp; try with_reducible rfl)
  try simp only [Act.put, List.setIfInBounds_toArray, List.set_cons_zero, List.set_cons_succ]
  refine region_take 22 (v := ?vq22_23) rfl rfl (by kernel_rfl) (by kernel_rfl) (by kernel_rfl) (fun _ _ _ h => h) hHeld (Or.inl ⟨by rfl, ?yq22_23⟩) ?rq22_23
  case yq22_23 => (intro w hSw; (try dsimp only at hSw); go_simp; try with_reducible rfl)
  try simp only [Act.put, List.setIfInBounds_toArray, List.set_cons_zero, List.set_cons_succ]
  refine region_take 23 (v := ?vq23_24) rfl rfl (by kernel_rfl) (by kernel_rfl) (by kernel_rfl) (fun _ _ _ h => h) hHeld (Or.inl ⟨by rfl, ?yq23_24⟩) ?rq23_24
  case yq23_24 => (intro w hSw; (try dsimp only at hSw); go_simp; try with_reducible rfl)
  try simp only [Act.put, List.setIfInBounds_toArray, List.set_cons_zero, List.set_cons_succ]
  refine region_take 24 (v := ?vq24_25) rfl rfl (by kernel_rfl) (by kernel_rfl) (by kernel_rfl) (fun _ _ _ h => h) hHeld (Or.inl ⟨by rfl, ?yq24_25⟩) ?rq24_25
  case yq24_25 => (intro w hSw; have d : w.cell? ⟨g, 0, none⟩ = some (.int .u8 kn) := (by have h := ((HD.out.2.2.2.tg hSw).at 0 (.int .u8 kn) HH0.out); simpa [Addr.add_lit] using h); go_simp; try with_reducible rfl)
  try simp only [Act.put, List.setIfInBounds_toArray, List.set_cons_zero, List.set_cons_succ]
  refine region_take 25 (v := ?vq25_26) rfl rfl (by kernel_rfl) (by kernel_rfl) (by kernel_rfl) (fun _ _ _ h => h) hHeld (Or.inl ⟨by rfl, ?yq25_26⟩) ?rq25_26
  case yq25_26 => (intro w hSw; (try dsimp only at hSw); go_simp; try with_reducible rfl)
  try simp only [Act.put, List.setIfInBounds_toArray, List.set_cons_zero, List.set_cons_succ]
  refine region_take 26 (v := ?vq26_27) rfl rfl (by kernel_rfl) (by kernel_rfl) (by kernel_rfl) (fun _ _ _ h => h) hHeld (Or.inl ⟨by rfl, ?yq26_27⟩) ?rq26_27
  case yq26_27 => (intro w hSw; (try dsimp only at hSw); go_simp; try with_reducible rfl)
  try simp only [Act.put, List.setIfInBounds_toArray, List.set_cons_zero, List.set_cons_succ]
  refine region_take 27 (v := ?vq27_28) rfl rfl (by kernel_rfl) (by kernel_rfl) (by kernel_rfl) (fun _ _ _ h => h) hHeld (Or.inl ⟨by rfl, ?yq27_28⟩) ?rq27_28
  case yq27_28 => (intro w hSw; have d := (HD.out.2.1.tg hSw).num HP.out.1 0 (by decide); rw [HK.out] at d; go_simp; try with_reducible rfl)
  try simp only [Act.put, List.setIfInBounds_toArray, List.set_cons_zero, List.set_cons_succ]
  refine region_take 28 (v := ?vq28_29) rfl rfl (by kernel_rfl) (by kernel_rfl) (by kernel_rfl) (fun _ _ _ h => h) hHeld (Or.inl ⟨by rfl, ?yq28_29⟩) ?rq28_29
  case yq28_29 => (intro w hSw; (try dsimp only at hSw); go_simp; try with_reducible rfl)
  try simp only [Act.put, List.setIfInBounds_toArray, List.set_cons_zero, List.set_cons_succ]
  refine region_take 29 (v := ?vq29_30) rfl rfl (by kernel_rfl) (by kernel_rfl) (by kernel_rfl) (fun _ _ _ h => h) hHeld (Or.inl ⟨by rfl, ?yq29_30⟩) ?rq29_30
  case yq29_30 => (intro w hSw; (try dsimp only at hSw); go_simp; try with_reducible rfl)
  try simp only [Act.put, List.setIfInBounds_toArray, List.set_cons_zero, List.set_cons_succ]
  refine region_take 30 (v := ?vq30_31) rfl rfl (by kernel_rfl) (by kernel_rfl) (by kernel_rfl) (fun _ _ _ h => h) hHeld (Or.inl ⟨by rfl, ?yq30_31⟩) ?rq30_31
  case yq30_31 => (intro w hSw; (try dsimp only at hSw); go_simp; try with_reducible rfl)
  try simp only [Act.put, List.setIfInBounds_toArray, List.set_cons_zero, List.set_cons_succ]
  refine wpAnyH_done (by kernel_rfl) ?_ _
  have HT := Lib.hid (HD.out.1.trans (hHeld).still2)
  go_wp2_with fail
  go_ret
  exact ⟨by first | rfl | simp [kw] | simp, HT.out.below (Nat.le_refl _) (fun _ _ h => h)⟩

theorem wireSizes_walk (w : World) (p : Pk) (hp : p.Ok) :
    Calls Try.prog 7 #[.agg (pkV p)] w fun e w' => e = .returned (.bool true) ∧ Below w.heap.size w w' := by
  by_cases hR : RightN p
  · exact wireSizes_yes w p hp hR
  · exact wireSizes_no w p hp hR

/-! ### the row's step, and the row -/
theorem wireSizes_own : ownKnob Try.prog.godebug = none := by kernel_rfl
theorem wireSizes_laidOut : laidOutB Try.prog = true := by kernel_rfl

set_option linter.unusedVariables false in
set_option maxRecDepth 100000 in
theorem wireSizes_lifted (os : Os) (started : os.Started) (H : Type) (enc : TypeId × Value → H) :
    ReturnsInHanded {} Try.checked os 7 .any (Rows.wireSizesSpec.pre6 enc Try.prog Try.f7 Rows.wireSizesRow.domain false) (Rows.wireSizesSpec.post enc Try.prog Try.f7 false true false false) := by
  refine returnsInHanded_of_change (C := Try.checked) wireSizes_own started (by kernel_rfl) Try.func7
    (ChangeSpec.witness6 (enc := enc) (C := Try.checked) false ⟨#[], #[.agg #[.int .i64 0, .int .i64 0, .int .i64 0, .int .i64 0, .int .i64 0, .int .i64 0, .int .i64 0, .int .i64 0, .int .i64 0, .int .i64 0, .int .i64 0, .int .i64 0, .int .u8 0, .int .u8 0, .int .u8 0, .int .u8 0, .int .u8 0, .int .u8 0, .int .u8 0, .int .u8 0, .int .u8 0, .int .u8 0, .int .u8 0, .int .u8 0, .int .u8 0, .int .u8 0, .int .u8 0, .int .u8 0, .int .u8 0, .int .u8 0, .int .u8 0, .int .u8 0, .int .u8 0, .int .u8 0, .int .u8 0, .int .u8 0]], []⟩ 8 (by kernel_rfl) (by kernel_rfl) (by kernel_rfl) (by kernel_rfl)) ?_
  intro W base args ds gs before hval0 hW hcnd _
  have hval : ∀ (j : Nat) t v, Try.f7.params[j]? = some t → args[j]? = some v → Value.okWide Try.prog W .any base t v := hval0
  have hW' := hW
  obtain ⟨p, q, hA0, hV, rfl, hfz, hnd⟩ := hW
  have hA : DataW.TrodAll enc Try.prog W 0 (fun _ => true) true Try.f7.params.toList args.toList ds p := hA0
  rw [Try.params7] at hA hval
  obtain ⟨v0, vs0, d0, ds0, p0, q0, hargs, rfl, rfl, h0, r0⟩ := trodAll_cons hA
  obtain ⟨rfl, rfl, rfl⟩ := trodAll_nil r0
  obtain rfl : args = #[v0] := by cases args; simp_all
  obtain ⟨rfl, rfl⟩ := trodVars_none hV
  have k0 := h0
  have lt0 : ∀ x ∈ p0, x.block < W.heap.size := by obtain ⟨m, hm⟩ := k0; exact DataW.trod_lt m _ _ _ hm
  have o0 := hval 0 25 v0 rfl rfl
  obtain ⟨a0, ok0, rfl⟩ := pk_of o0 h0
  clear hA0 hval0
  refine (wireSizes_walk W a0 ok0).mono fun e W' ⟨he, bel⟩ => ?_
  subst he
  exact ⟨_, rfl, _, _, _, [], _, [], hW', trodAll_mk1 (shut_bool Try.underlying4 _), (trodAll_cons_mk (Below.trod wireSizes_laidOut (by kernel_rfl) (of_decide_eq_true (by kernel_rfl)) k0 bel lt0) trodAll_mk0), rfl, bel.frame _, fun h => by cases h⟩

theorem wireSizes_over : Rows.wireSizesRow.holds Try.pinned (OpenSpec.ofChange Rows.wireSizesSpec) :=
  OpenClaim.holds_of_wide 7 Try.f7 rfl rfl rfl rfl rfl rfl rfl ⟨rfl, rfl, rfl, rfl, rfl⟩ rfl rfl rfl rfl rfl (by kernel_rfl) Try.func7 (by kernel_rfl)
    (of_decide_eq_true (by kernel_rfl)) (by unfold Func.isWrapper; first | (rw [if_pos (by decide +kernel)]; kernel_rfl) | (rw [if_neg (by decide +kernel)]; exact ⟨rfl, rfl⟩))
    (fun os started H enc _ => wireSizes_lifted os started H enc)

/-- THE STATEMENT. -/
theorem wireSizes_proved : Rows.WireSizesSaid := wireSizes_over
#print axioms wireSizes_proved
end Go.Proofs.Ythlkmofemnepbaa
