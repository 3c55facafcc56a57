/-
  nightjarlaw02.DigestParts: for all bytes, cut anywhere, the law returns true. No conditions: for every input that can be read.
-/
import Derived.Test.YtanjhalhpllcaaaRows
import Derived.Test.YtanjhalhpllcaaaDigestLib
import Derived.Test.YtanjhalhpllcaaaSlices
import Derived.Test.YtanjhalhpllcaaaRegionTwo
namespace Go.Proofs.Ytanjhalhpllcaaa
open Go.ChangeShapes Go.WideShapes Go.ChangeAt Go.RowKit

theorem partsIn_two {w0 w : World} {n : Nat} (hn : w.heap.size = n) {a : Option Addr} {c : Nat} {b : List Nat} (ht : Touch (fun _ => False) w0 w) (hs : SlAt w0 a (bn b)) (hc : a = none → c = 0) :
    PartsIn (w.alloc (.cells #[.slice none 0 0, .slice a b.length c] 22)) (some ⟨n, 0, none⟩) [⟨none, 0, []⟩, ⟨a, c, b⟩] :=
  PartsIn.lay hn [⟨none, 0, []⟩, ⟨a, c, b⟩] _ (fun p hp => by
    simp only [List.mem_cons, List.not_mem_nil, or_false] at hp
    rcases hp with rfl | rfl
    · exact ⟨rfl, fun _ => rfl⟩
    · exact ⟨hs.touch ht (fun _ _ _ h => h), hc⟩)

set_option maxRecDepth 100000 in
set_option maxHeartbeats 4000000 in
theorem digestParts_in (w : World) (a : Option Addr) (cap : Nat) (b : List Nat) (hin : BytesIn w a b.length cap b) (I M : Nat) (hn : ¬ 500 < b.length) (hIK : I ≤ M) (hKn : M ≤ b.length) :
    Calls Try.prog 4 #[.slice a b.length cap, .int .i64 I, .int .i64 M] w fun e w' => e = .returned (.bool true) ∧ Below w.heap.size w w' := by
  obtain ⟨i0, hi, hz0, hz1, hz2⟩ := info_parts Try.info5
  have hcl : Try.prog.cellsOf 5 = 1 := by kernel_rfl
  have HIN := Lib.hid hin
  clear hin
  have kIK : (I : Int) ≤ M := by omega
  have kKn : (M : Int) ≤ b.length := by omega
  go_enter Try.func4, Try.ntmps4
  go_wp2_with fail
  (with_reducible refine (digestSmall_any w).mono ?_)
  rintro e wa ⟨rfl, hba⟩
  have hsa : SlAt (wa.alloc (.cells #[] 5)) a (bn b) := (HIN.out.cells.touch (Touch.of_below (S := fun _ => False) hba) (fun _ _ _ h => h)).alloc _
  have HA := Lib.hid (And.intro hba hsa)
  clear hba hsa
  go_wp2_with (at_builtin; refine wpList_append_any rfl (.tmp 30) (.tmp 31) 22 rfl wa.heap.size 5 i0 (.int .u8 0) 1 Try.underlying22 hi hz0 hz1 hz2 rfl _ 0 [] rfl (World.ownsRow_made wa #[] 0 (Nat.le_refl _) (Nat.zero_le _) rfl) a b.length cap (bn b) rfl (bn_len _) HA.out.2 HIN.out.nil (bn_one _) (by unfold maxLen; omega) (by omega) (by simp) ?_; intro v1 w1 ho1 hg1 _; have hb1 : Below wa.heap.size wa w1 := ((Below.refl _ _).alloc (Nat.le_refl _) _).grown hg1 (by simp) (fun k hk => by cases hk; exact Nat.le_refl _); (try simp only [Nat.zero_add, List.nil_append] at ho1); obtain ⟨a1, c1, rfl, ha1, hl1, hm1, _⟩ := owns_form ho1; have H1 := Lib.hid (And.intro ho1 (And.intro hb1 (And.intro ha1 hm1))); clear ho1 hg1 hb1 ha1 hm1)
  have hsl1 : SlAt w1 a1 (bn b) := SlAt.of_owns H1.out.1
  have hnl1 : a1 = none → c1 = 0 := fun h => (H1.out.2.2.1 h).2
  have hsb1 : SlAt w1 a (bn b) := (HIN.out.cells.touch (Touch.of_below (S := fun _ => False) HA.out.1) (fun _ _ _ h => h)).touch (Touch.of_below (S := fun _ => False) H1.out.2.1) (fun _ _ _ h => h)
  have HS1 := Lib.hid (And.intro hsl1 (And.intro hnl1 hsb1))
  clear hsl1 hnl1 hsb1
  (with_reducible refine (sum_eq _ 1 1 [⟨a1, c1, b⟩] b _ ?_ (by simp [flatP]) rfl HIN.out.lt (by omega) (by decide)).mono ?_)
  · refine PartsIn.lay rfl [⟨a1, c1, b⟩] _ (fun p hp => ?_)
    rw [List.mem_singleton] at hp
    subst hp
    exact ⟨HS1.out.1, HS1.out.2.1⟩
  rintro e w2 ⟨rfl, hb2⟩
  obtain ⟨D, hD⟩ : ∃ D, D = sha b := ⟨_, rfl⟩
  rw [← hD]
  have HD := Lib.hid (And.intro hD (And.intro (show (bn D).toArray.size = 32 by rw [bn_size, hD, sha_len]) (bn_all D)))
  have H2 := Lib.hid hb2
  clear hD hb2
  go_wp2_with (refine wpList_store_blk rfl 24 (.tmp 9) (.tmp 35) rfl w2.heap.size 24 _ (bn D).toArray rfl rfl (Blk.new _ _ _) (by rw [HD.out.2.1]; first | done | kernel_rfl) (by rw [HD.out.2.1]; first | done | kernel_rfl) HD.out.2.2 ?_; intro w6 hB6 ht6 hs6)
  obtain ⟨n9, hn9⟩ : ∃ n9, n9 = w2.heap.size := ⟨_, rfl⟩
  rw [← hn9]
  have ht16 : Touch (fun _ => False) w1 w6 := Touch.then (S := fun _ => False) ((((Touch.refl _ w1).alloc _).trans (Touch.of_below H2.out)).alloc _) ht6 (fun i hi e => by have := H2.out.size; simp at this; omega)
  have HS : Hid (SlAt w6 a1 (bn b) ∧ (a1 = none → c1 = 0)) := Lib.hid ⟨HS1.out.1.touch ht16 (fun _ _ _ h => h), HS1.out.2.1⟩
  have hsb6 : SlAt w6 a (bn b) := HS1.out.2.2.touch ht16 (fun _ _ _ h => h)
  have hC : ∀ W, Touch (fun _ => False) w6 W → Blk W n9 24 (bn D).toArray ∧ SlAt W a1 (bys (natsD b)) ∧ SlAt W a (bys (natsD b)) := fun W hW => ⟨by rw [hn9]; exact hB6.touch hW (fun h => h), HS.out.1.touch hW (fun _ _ _ h => h), hsb6.touch hW (fun _ _ _ h => h)⟩
  have HC := Lib.hid hC
  have hbw : Touch (fun _ => False) w w6 := ((Touch.of_below HA.out.1).trans (Touch.of_below H1.out.2.1)).trans ht16
  have HW := Lib.hid hbw
  have hfl : flatP [⟨slAd a1 c1 0, c1, b.take I⟩, ⟨slAd a1 c1 I, c1 - I, (b.drop I).take (M - I)⟩, ⟨none, 0, []⟩, ⟨slAd a1 c1 M, c1 - M, b.drop M⟩] = b := by
    simp only [flatP, List.flatMap_cons, List.flatMap_nil, List.append_nil, List.nil_append]
    have e : b.drop M = (b.drop I).drop (M - I) := by rw [List.drop_drop]; congr 1; omega
    rw [e, List.take_append_drop, List.take_append_drop]
  have hpp : PartsIn (w6.alloc (.cells #[.slice (slAd a1 c1 0) I c1, .slice (slAd a1 c1 I) (M - I) (c1 - I), .slice none 0 0, .slice (slAd a1 c1 M) (b.length - M) (c1 - M)] 22)).drew (some ⟨w6.heap.size, 0, none⟩) [⟨slAd a1 c1 0, c1, b.take I⟩, ⟨slAd a1 c1 I, c1 - I, (b.drop I).take (M - I)⟩, ⟨none, 0, []⟩, ⟨slAd a1 c1 M, c1 - M, b.drop M⟩] := by
    have h := PartsIn.lay (w := w6) (n := w6.heap.size) rfl [⟨slAd a1 c1 0, c1, b.take I⟩, ⟨slAd a1 c1 I, c1 - I, (b.drop I).take (M - I)⟩, ⟨none, 0, []⟩, ⟨slAd a1 c1 M, c1 - M, b.drop M⟩] 22 (fun p hp => by
      have hs : SlAt w6 a1 (bn b) := HS.out.1
      have fr : ∀ l, SlAt w6 (slAd a1 c1 l) (bn (b.drop l)) := fun l => by
        have := hs.from (l := l) (c := c1) (by rw [bn_len]; exact hl1)
        rw [bn_drop] at this
        exact this
      simp only [List.mem_cons, List.not_mem_nil, or_false] at hp
      rcases hp with rfl | rfl | rfl | rfl
      · refine ⟨?_, fun h => HS.out.2 (slAd_none h)⟩
        have := (fr 0).take I
        rw [bn_take] at this
        exact this
      · refine ⟨?_, fun h => by have := HS.out.2 (slAd_none h); simp; omega⟩
        have := (fr I).take (M - I)
        rw [bn_take] at this
        exact this
      · exact ⟨rfl, fun _ => rfl⟩
      · exact ⟨fr M, fun h => by have := HS.out.2 (slAd_none h); simp; omega⟩)
    have e1 : (b.take I).length = I := by rw [List.length_take]; omega
    have e2 : ((b.drop I).take (M - I)).length = M - I := by rw [List.length_take, List.length_drop]; omega
    have e3 : (b.drop M).length = b.length - M := List.length_drop
    simp only [List.map_cons, List.map_nil, Part.v, e1, e2, e3, List.length_nil] at h
    exact h.touch ((Touch.refl (fun _ => False) _).drew) (fun _ _ _ h => h) (fun _ _ _ _ _ h => h)
  have HPP := Lib.hid hpp
  have HFL := Lib.hid (And.intro hfl trivial)
  have e1 : ∀ w, (binOp .eql 24 (.agg (bn D).toArray) (.agg (bn D).toArray)).run Try.prog w = .ok (.bool true) w := fun w => by rw [HD.out.1]; exact run_eql_sha w _
  have hIc : I ≤ c1 := by omega
  have hKc : M ≤ c1 := by omega
  clear hC hB6 ht6 hs6 hsb6 ht16 hfl hpp hbw hn9
  go_wp2_with fail
  refine wp_region_held_drew (S := fun W : World => Blk W n9 24 (bn D).toArray ∧ SlAt W a1 (bys (natsD b)) ∧ SlAt W a (bys (natsD b))) (by kernel_rfl) (HC.out _ ((Touch.refl _ _).drew)) (fun hHeld => ?_)
  refine region_take 0 (v := ?vq0_1) rfl rfl (by kernel_rfl) (by kernel_rfl) (by kernel_rfl) (fun _ _ _ h => h) hHeld (Or.inl ⟨by rfl, ?yq0_1⟩) ?rq0_1
  case yq0_1 => (intro w hSw; (try dsimp only at hSw); go_simp; try with_reducible rfl)
  try simp only [Act.put, List.setIfInBounds_toArray, List.set_cons_zero, List.set_cons_succ]
  refine region_take 1 (v := ?vq1_2) rfl rfl (by kernel_rfl) (by kernel_rfl) (by kernel_rfl) (fun _ _ _ h => h) hHeld (Or.inl ⟨by rfl, ?yq1_2⟩) ?rq1_2
  case yq1_2 => (intro w hSw; (try dsimp only at hSw); go_simp; try with_reducible rfl)
  try simp only [Act.put, List.setIfInBounds_toArray, List.set_cons_zero, List.set_cons_succ]
  refine region_take 2 (v := ?vq2_3) rfl rfl (by kernel_rfl) (by kernel_rfl) (by kernel_rfl) (fun _ _ _ h => h) hHeld (Or.inl ⟨by rfl, ?yq2_3⟩) ?rq2_3
  case yq2_3 => (intro w hSw; (try dsimp only at hSw); go_simp; try with_reducible rfl)
  try simp only [Act.put, List.setIfInBounds_toArray, List.set_cons_zero, List.set_cons_succ]
  refine region_take 3 (v := ?vq3_4) rfl rfl (by kernel_rfl) (by kernel_rfl) (by kernel_rfl) (fun _ _ _ h => h) hHeld (Or.inl ⟨by rfl, ?yq3_4⟩) ?rq3_4
  case yq3_4 => (intro w hSw; (try dsimp only at hSw); go_simp; try with_reducible rfl)
  try simp only [Act.put, List.setIfInBounds_toArray, List.set_cons_zero, List.set_cons_succ]
  refine region_take 4 (v := ?vq4_5) rfl rfl (by kernel_rfl) (by kernel_rfl) (by kernel_rfl) (fun _ _ _ h => h) hHeld (Or.inl ⟨by rfl, ?yq4_5⟩) ?rq4_5
  case yq4_5 => (intro w hSw; refine (yields_slice 22 (.tmp 38) none (some (.tmp 39)) rfl (.slice a1 b.length c1) none (some (.int .i64 (I : Int))) rfl rfl rfl (run_slice_h (h := I) Try.underlying22 hi hcl hIc)).trans ?_; with_reducible rfl)
  try simp only [Act.put, List.setIfInBounds_toArray, List.set_cons_zero, List.set_cons_succ]
  refine region_take 5 (v := ?vq5_6) rfl rfl (by kernel_rfl) (by kernel_rfl) (by kernel_rfl) (fun _ _ _ h => h) hHeld (Or.inl ⟨by rfl, ?yq5_6⟩) ?rq5_6
  case yq5_6 => (intro w hSw; (try dsimp only at hSw); go_simp; try with_reducible rfl)
  try simp only [Act.put, List.setIfInBounds_toArray, List.set_cons_zero, List.set_cons_succ]
  refine region_take 6 (v := ?vq6_7) rfl rfl (by kernel_rfl) (by kernel_rfl) (by kernel_rfl) (fun _ _ _ h => h) hHeld (Or.inl ⟨by rfl, ?yq6_7⟩) ?rq6_7
  case yq6_7 => (intro w hSw; (try dsimp only at hSw); go_simp; try with_reducible rfl)
  try simp only [Act.put, List.setIfInBounds_toArray, List.set_cons_zero, List.set_cons_succ]
  refine region_take 7 (v := ?vq7_8) rfl rfl (by kernel_rfl) (by kernel_rfl) (by kernel_rfl) (fun _ _ _ h => h) hHeld (Or.inl ⟨by rfl, ?yq7_8⟩) ?rq7_8
  case yq7_8 => (intro w hSw; (try dsimp only at hSw); go_simp; try with_reducible rfl)
  try simp only [Act.put, List.setIfInBounds_toArray, List.set_cons_zero, List.set_cons_succ]
  refine region_take 8 (v := ?vq8_9) rfl rfl (by kernel_rfl) (by kernel_rfl) (by kernel_rfl) (fun _ _ _ h => h) hHeld (Or.inl ⟨by rfl, ?yq8_9⟩) ?rq8_9
  case yq8_9 => (intro w hSw; refine (yields_slice 22 (.tmp 41) (some (.tmp 42)) (some (.tmp 43)) rfl (.slice a1 b.length c1) (some (.int .i64 (I : Int))) (some (.int .i64 (M : Int))) rfl rfl rfl (run_slice_lh (l := I) (h := M) Try.underlying22 hi hcl hIK hKc)).trans ?_; with_reducible rfl)
  try simp only [Act.put, List.setIfInBounds_toArray, List.set_cons_zero, List.set_cons_succ]
  refine region_take 9 (v := ?vq9_10) rfl rfl (by kernel_rfl) (by kernel_rfl) (by kernel_rfl) (fun _ _ _ h => h) hHeld (Or.inl ⟨by rfl, ?yq9_10⟩) ?rq9_10
  case yq9_10 => (intro w hSw; (try dsimp only at hSw); go_simp; try with_reducible rfl)
  try simp only [Act.put, List.setIfInBounds_toArray, List.set_cons_zero, List.set_cons_succ]
  refine region_take 10 (v := ?vq10_11) rfl rfl (by kernel_rfl) (by kernel_rfl) (by kernel_rfl) (fun _ _ _ h => h) hHeld (Or.inl ⟨by rfl, ?yq10_11⟩) ?rq10_11
  case yq10_11 => (intro w hSw; (try dsimp only at hSw); go_simp; try with_reducible rfl)
  try simp only [Act.put, List.setIfInBounds_toArray, List.set_cons_zero, List.set_cons_succ]
  refine region_take 11 (v := ?vq11_12) rfl rfl (by kernel_rfl) (by kernel_rfl) (by kernel_rfl) (fun _ _ _ h => h) hHeld (Or.inl ⟨by rfl, ?yq11_12⟩) ?rq11_12
  case yq11_12 => (intro w hSw; refine (yields_slice 22 (.tmp 45) (some (.tmp 46)) none rfl (.slice a1 b.length c1) (some (.int .i64 (M : Int))) none rfl rfl rfl (run_slice_l (l := M) Try.underlying22 hi hcl hKn)).trans ?_; with_reducible rfl)
  try simp only [Act.put, List.setIfInBounds_toArray, List.set_cons_zero, List.set_cons_succ]
  refine region_take 14 (v := ?vq14_13) rfl rfl (by kernel_rfl) (by kernel_rfl) (by kernel_rfl) (fun _ _ _ h => h) hHeld (Or.inl ⟨by rfl, ?yq14_13⟩) ?rq14_13
  case yq14_13 => (intro w hSw; refine (yields_load_blk 24 (.tmp 9) rfl n9 24 (bn D).toArray _ rfl hSw.1 Try.underlying24 rfl (by rw [HD.out.2.1]; first | done | kernel_rfl)).trans ?_; with_reducible rfl)
  try simp only [Act.put, List.setIfInBounds_toArray, List.set_cons_zero, List.set_cons_succ]
  refine region_one 12 (by kernel_rfl) rfl (fun K hK => ?_)
  go_simp
  refine hK.out _ _ (HC.out _ (((Touch.refl _ _).alloc _).drew)) (fun hHeld2 => ?_)
  clear hK K hHeld
  have hHeld := hHeld2
  clear hHeld2
  try simp only [Act.put, List.setIfInBounds_toArray, List.set_cons_zero, List.set_cons_succ]
  refine region_one 13 (by kernel_rfl) rfl (fun K hK => ?_)
  go_simp
  go_at_call 12
  (with_reducible refine (sum_eq _ 4 4 [⟨slAd a1 c1 0, c1, b.take I⟩, ⟨slAd a1 c1 I, c1 - I, (b.drop I).take (M - I)⟩, ⟨none, 0, []⟩, ⟨slAd a1 c1 M, c1 - M, b.drop M⟩] b _ HPP.out HFL.out.1 rfl HIN.out.lt (by omega) (by decide)).mono ?_)
  rintro e u1 ⟨rfl, hb1⟩
  have t1 := Lib.hid ((((Touch.refl (fun _ => False) w6).alloc _).drew).trans (Touch.of_below hb1))
  clear hb1
  rw [← HD.out.1]
  refine hK.out _ _ (HC.out _ t1.out) (fun hHeld2 => ?_)
  clear hK K hHeld
  have hHeld := hHeld2
  clear hHeld2
  try simp only [Act.put, List.setIfInBounds_toArray, List.set_cons_zero, List.set_cons_succ]
  refine region_take 15 (v := ?vq15_14) rfl rfl (by kernel_rfl) (by kernel_rfl) (by kernel_rfl) (fun _ _ _ h => h) hHeld (Or.inl ⟨by rfl, ?yq15_14⟩) ?rq15_14
  case yq15_14 => (intro w hSw; (try dsimp only at hSw); go_simp; try with_reducible rfl)
  try simp only [Act.put, List.setIfInBounds_toArray, List.set_cons_zero, List.set_cons_succ]
  refine region_take 16 (v := ?vq16_15) rfl rfl (by kernel_rfl) (by kernel_rfl) (by kernel_rfl) (fun _ _ _ h => h) hHeld (Or.inl ⟨by rfl, ?yq16_15⟩) ?rq16_15
  case yq16_15 => (intro w hSw; (try dsimp only at hSw); go_simp; try with_reducible rfl)
  try simp only [Act.put, List.setIfInBounds_toArray, List.set_cons_zero, List.set_cons_succ]
  refine region_take 17 (v := ?vq17_16) rfl rfl (by kernel_rfl) (by kernel_rfl) (by kernel_rfl) (fun _ _ _ h => h) hHeld (Or.inl ⟨by rfl, ?yq17_16⟩) ?rq17_16
  case yq17_16 => (intro w hSw; (try dsimp only at hSw); go_simp; try with_reducible rfl)
  try simp only [Act.put, List.setIfInBounds_toArray, List.set_cons_zero, List.set_cons_succ]
  refine region_take 18 (v := ?vq18_17) rfl rfl (by kernel_rfl) (by kernel_rfl) (by kernel_rfl) (fun _ _ _ h => h) hHeld (Or.inl ⟨by rfl, ?yq18_17⟩) ?rq18_17
  case yq18_17 => (intro w hSw; (try dsimp only at hSw); go_simp; try with_reducible rfl)
  try simp only [Act.put, List.setIfInBounds_toArray, List.set_cons_zero, List.set_cons_succ]
  refine region_take 21 (v := ?vq21_18) rfl rfl (by kernel_rfl) (by kernel_rfl) (by kernel_rfl) (fun _ _ _ h => h) hHeld (Or.inl ⟨by rfl, ?yq21_18⟩) ?rq21_18
  case yq21_18 => (intro w hSw; refine (yields_load_blk 24 (.tmp 9) rfl n9 24 (bn D).toArray _ rfl hSw.1 Try.underlying24 rfl (by rw [HD.out.2.1]; first | done | kernel_rfl)).trans ?_; with_reducible rfl)
  try simp only [Act.put, List.setIfInBounds_toArray, List.set_cons_zero, List.set_cons_succ]
  refine region_one 19 (by kernel_rfl) rfl (fun K hK => ?_)
  go_simp
  refine hK.out _ _ (HC.out _ (t1.out.alloc _)) (fun hHeld2 => ?_)
  clear hK K hHeld
  have hHeld := hHeld2
  clear hHeld2
  try simp only [Act.put, List.setIfInBounds_toArray, List.set_cons_zero, List.set_cons_succ]
  refine region_one 20 (by kernel_rfl) rfl (fun K hK => ?_)
  go_simp
  go_at_call 12
  (with_reducible refine (sum_eq _ 2 2 [⟨none, 0, []⟩, ⟨a1, c1, b⟩] b _ (partsIn_two rfl t1.out HS.out.1 HS.out.2) (by simp [flatP]) rfl HIN.out.lt (by omega) (by decide)).mono ?_)
  rintro e u2 ⟨rfl, hb2⟩
  have t2 := Lib.hid ((t1.out.alloc _).trans (Touch.of_below hb2))
  clear hb2
  rw [← HD.out.1]
  refine hK.out _ _ (HC.out _ t2.out) (fun hHeld2 => ?_)
  clear hK K hHeld
  have hHeld := hHeld2
  clear hHeld2
  try simp only [Act.put, List.setIfInBounds_toArray, List.set_cons_zero, List.set_cons_succ]
  refine region_take 22 (v := ?vq22_19) rfl rfl (by kernel_rfl) (by kernel_rfl) (by kernel_rfl) (fun _ _ _ h => h) hHeld (Or.inl ⟨by rfl, ?yq22_19⟩) ?rq22_19
  case yq22_19 => (intro w hSw; (try dsimp only at hSw); go_simp; try with_reducible rfl)
  try simp only [Act.put, List.setIfInBounds_toArray, List.set_cons_zero, List.set_cons_succ]
  refine region_take 23 (v := ?vq23_20) rfl rfl (by kernel_rfl) (by kernel_rfl) (by kernel_rfl) (fun _ _ _ h => h) hHeld (Or.inl ⟨by rfl, ?yq23_20⟩) ?rq23_20
  case yq23_20 => (intro w hSw; (try dsimp only at hSw); go_simp; try with_reducible rfl)
  try simp only [Act.put, List.setIfInBounds_toArray, List.set_cons_zero, List.set_cons_succ]
  refine region_take 24 (v := ?vq24_21) rfl rfl (by kernel_rfl) (by kernel_rfl) (by kernel_rfl) (fun _ _ _ h => h) hHeld (Or.inl ⟨by rfl, ?yq24_21⟩) ?rq24_21
  case yq24_21 => (intro w hSw; (try dsimp only at hSw); go_simp; try with_reducible rfl)
  try simp only [Act.put, List.setIfInBounds_toArray, List.set_cons_zero, List.set_cons_succ]
  refine region_take 25 (v := ?vq25_22) rfl rfl (by kernel_rfl) (by kernel_rfl) (by kernel_rfl) (fun _ _ _ h => h) hHeld (Or.inl ⟨by rfl, ?yq25_22⟩) ?rq25_22
  case yq25_22 => (intro w hSw; (try dsimp only at hSw); go_simp; try with_reducible rfl)
  try simp only [Act.put, List.setIfInBounds_toArray, List.set_cons_zero, List.set_cons_succ]
  refine region_take 26 (v := ?vq26_23) rfl rfl (by kernel_rfl) (by kernel_rfl) (by kernel_rfl) (fun _ _ _ h => h) hHeld (Or.inl ⟨by rfl, ?yq26_23⟩) ?rq26_23
  case yq26_23 => (intro w hSw; refine (yields_str 22 9 5 (.tmp 61) rfl Try.underlying22 Try.underlying5 Try.underlying9 a1 b.length c1 (natsD b) rfl (by simp [natsD]) hSw.2.1).trans ?_; with_reducible rfl)
  try simp only [Act.put, List.setIfInBounds_toArray, List.set_cons_zero, List.set_cons_succ]
  refine region_take 27 (v := ?vq27_24) rfl rfl (by kernel_rfl) (by kernel_rfl) (by kernel_rfl) (fun _ _ _ h => h) hHeld (Or.inl ⟨by rfl, ?yq27_24⟩) ?rq27_24
  case yq27_24 => (intro w hSw; (try dsimp only at hSw); go_simp; try with_reducible rfl)
  try simp only [Act.put, List.setIfInBounds_toArray, List.set_cons_zero, List.set_cons_succ]
  refine region_take 28 (v := ?vq28_25) rfl rfl (by kernel_rfl) (by kernel_rfl) (by kernel_rfl) (fun _ _ _ h => h) hHeld (Or.inl ⟨by rfl, ?yq28_25⟩) ?rq28_25
  case yq28_25 => (intro w hSw; refine (yields_str 22 9 5 (.tmp 63) rfl Try.underlying22 Try.underlying5 Try.underlying9 a b.length cap (natsD b) rfl (by simp [natsD]) hSw.2.2).trans ?_; with_reducible rfl)
  try simp only [Act.put, List.setIfInBounds_toArray, List.set_cons_zero, List.set_cons_succ]
  refine region_take 29 (v := ?vq29_26) rfl rfl (by kernel_rfl) (by kernel_rfl) (by kernel_rfl) (fun _ _ _ h => h) hHeld (Or.inl ⟨by rfl, ?yq29_26⟩) ?rq29_26
  case yq29_26 => (intro w hSw; (try dsimp only at hSw); go_simp; try with_reducible rfl)
  try simp only [Act.put, List.setIfInBounds_toArray, List.set_cons_zero, List.set_cons_succ]
  refine region_take 30 (v := ?vq30_27) rfl rfl (by kernel_rfl) (by kernel_rfl) (by kernel_rfl) (fun _ _ _ h => h) hHeld (Or.inl ⟨by rfl, ?yq30_27⟩) ?rq30_27
  case yq30_27 => (intro w hSw; (try dsimp only at hSw); go_simp; try with_reducible rfl)
  try simp only [Act.put, List.setIfInBounds_toArray, List.set_cons_zero, List.set_cons_succ]
  refine region_take 31 (v := ?vq31_28) rfl rfl (by kernel_rfl) (by kernel_rfl) (by kernel_rfl) (fun _ _ _ h => h) hHeld (Or.inl ⟨by rfl, ?yq31_28⟩) ?rq31_28
  case yq31_28 => (intro w hSw; (try dsimp only at hSw); go_simp; try with_reducible rfl)
  try simp only [Act.put, List.setIfInBounds_toArray, List.set_cons_zero, List.set_cons_succ]
  refine wpAnyH_done (by kernel_rfl) ?_ _
  go_wp2_with fail
  go_ret
  exact ⟨rfl, (HW.out.trans t2.out).below (Nat.le_refl _) (fun _ _ h => h)⟩

set_option maxHeartbeats 2000000 in
theorem digestParts_walk (w : World) (a : Option Addr) (len cap : Nat) (zs : List Int) (hin0 : RowIn .u8 w a len cap zs) (i : Int) (_w1 : (Lit.int .i64 i).wf = true) (k : Int) (_w2 : (Lit.int .i64 k).wf = true) :
    Calls Try.prog 4 #[.slice a len cap, .int .i64 i, .int .i64 k] w fun e w' => e = .returned (.bool true) ∧ Below w.heap.size w w' := by
  have hin := hin0.bytes
  obtain ⟨b, hb⟩ : ∃ b, b = nats zs := ⟨_, rfl⟩
  rw [← hb] at hin
  clear hb hin0
  have hlen := hin.hlen
  subst hlen
  have hc : 500 < b.length ∨ (¬ 500 < b.length ∧ i < 0) ∨ (¬ 500 < b.length ∧ 0 ≤ i ∧ k < i) ∨ (¬ 500 < b.length ∧ 0 ≤ i ∧ i ≤ k ∧ (b.length : Int) < k) ∨ (¬ 500 < b.length ∧ 0 ≤ i ∧ i ≤ k ∧ k ≤ (b.length : Int)) := by omega
  rcases hc with h1 | ⟨h1, h2⟩ | ⟨h1, h2, h3⟩ | ⟨h1, h2, h3, h4⟩ | ⟨h1, h2, h3, h4⟩
  case inr.inr.inr.inr =>
    obtain ⟨I, rfl⟩ : ∃ I : Nat, i = (I : Int) := ⟨i.toNat, by omega⟩
    obtain ⟨M, rfl⟩ : ∃ M : Nat, k = (M : Int) := ⟨k.toNat, by omega⟩
    exact digestParts_in w a cap b hin I M h1 (by omega) (by omega)
  all_goals
    clear hin
    go_enter Try.func4, Try.ntmps4
    go_wp2_with fail
    (with_reducible refine (digestSmall_any w).mono ?_)
    rintro e w1 ⟨rfl, hb⟩
    have HB := Lib.hid hb
    clear hb
    go_wp2_with fail
    go_ret
    exact ⟨rfl, HB.out⟩

/-! ### the row's step, and the row -/
theorem digestParts_own : ownKnob Try.prog.godebug = none := by kernel_rfl
theorem digestParts_laidOut : laidOutB Try.prog = true := by kernel_rfl

set_option linter.unusedVariables false in
set_option maxRecDepth 100000 in
theorem digestParts_lifted (os : Os) (started : os.Started) (H : Type) (enc : TypeId × Value → H) :
    ReturnsInHanded {} Try.checked os 4 .any (Rows.digestPartsSpec.pre6 enc Try.prog Try.f4 Rows.digestPartsRow.domain false) (Rows.digestPartsSpec.post enc Try.prog Try.f4 false true false false) := by
  refine returnsInHanded_of_change (C := Try.checked) digestParts_own started (by kernel_rfl) Try.func4
    (ChangeSpec.witness6 (enc := enc) (C := Try.checked) false ⟨#[], #[.slice none 0 0, .int .i64 0, .int .i64 0], []⟩ 8 (by kernel_rfl) (by kernel_rfl) (by kernel_rfl) (by kernel_rfl)) ?_
  intro W base args ds gs before hval0 hW hcnd _
  have hval : ∀ (j : Nat) t v, Try.f4.params[j]? = some t → args[j]? = some v → Value.okWide Try.prog W .any base t v := hval0
  have hW' := hW
  obtain ⟨p, q, hA0, hV, rfl, hfz, hnd⟩ := hW
  have hA : DataW.TrodAll enc Try.prog W 0 (fun _ => true) true Try.f4.params.toList args.toList ds p := hA0
  rw [Try.params4] at hA hval
  obtain ⟨v0, vs0, d0, ds0, p0, q0, hargs, rfl, rfl, h0, r0⟩ := trodAll_cons hA
  obtain ⟨v1, vs1, d1, ds1, p1, q1, rfl, rfl, rfl, h1, r1⟩ := trodAll_cons r0
  obtain ⟨v2, vs2, d2, ds2, p2, q2, rfl, rfl, rfl, h2, r2⟩ := trodAll_cons r1
  obtain ⟨rfl, rfl, rfl⟩ := trodAll_nil r2
  obtain rfl : args = #[v0, v1, v2] := by cases args; simp_all
  obtain ⟨rfl, rfl⟩ := trodVars_none hV
  have k0 := h0
  have lt0 : ∀ x ∈ p0, x.block < W.heap.size := by obtain ⟨m, hm⟩ := k0; exact DataW.trod_lt m _ _ _ hm
  obtain ⟨a0, len0, cap0, rfl⟩ := okWide_slice Try.underlying22 (hval 0 22 v0 rfl rfl)
  obtain ⟨z0, w0⟩ := row_of (k := .u8) Try.underlying22 Try.underlying5 (by kernel_rfl) h0
  obtain ⟨a1, rfl, rfl, rfl, w1⟩ := open_int Try.underlying3 (hval 1 3 v1 rfl rfl) h1
  obtain ⟨a2, rfl, rfl, rfl, w2⟩ := open_int Try.underlying3 (hval 2 3 v2 rfl rfl) h2
  clear hA0 hval0
  refine (digestParts_walk W a0 len0 cap0 z0 w0 a1 w1 a2 w2).mono fun e W' ⟨he, bel⟩ => ?_
  subst he
  exact ⟨_, rfl, _, _, _, [], _, [], hW', trodAll_mk1 (shut_bool Try.underlying4 _), (trodAll_cons_mk (Below.trod digestParts_laidOut (by kernel_rfl) (of_decide_eq_true (by kernel_rfl)) k0 bel lt0) (trodAll_cons_mk (shut_int Try.underlying3 w1) (trodAll_cons_mk (shut_int Try.underlying3 w2) trodAll_mk0))), rfl, bel.frame _, fun h => by cases h⟩

theorem digestParts_over : Rows.digestPartsRow.holds Try.pinned (OpenSpec.ofChange Rows.digestPartsSpec) :=
  OpenClaim.holds_of_wide 4 Try.f4 rfl rfl rfl rfl rfl rfl rfl ⟨rfl, rfl, rfl, rfl, rfl⟩ rfl rfl rfl rfl rfl (by kernel_rfl) Try.func4 (by kernel_rfl)
    (of_decide_eq_true (by kernel_rfl)) (by unfold Func.isWrapper; first | (rw [if_pos (by decide +kernel)]; kernel_rfl) | (rw [if_neg (by decide +kernel)]; exact ⟨rfl, rfl⟩))
    (fun os started H enc _ => digestParts_lifted os started H enc)

/-- THE STATEMENT. -/
theorem digestParts_proved : Rows.DigestPartsSaid := digestParts_over
#print axioms digestParts_proved
end Go.Proofs.Ytanjhalhpllcaaa
