/-
  nightjarlaw03.MacParts: for all keys and bytes, cut anywhere, the law returns true. No conditions: for every input that can be read.
-/
import Derived.Test.YtanjhalhpllcaaaRows
import Derived.Test.YtanjhalhpllcaaaMacLib
import Derived.Test.YtanjhalhpllcaaaSlices
namespace Go.Proofs.Ytanjhalhpllcaaa
open Go.ChangeShapes Go.WideShapes Go.ChangeAt Go.RowKit

theorem partsIn_one1 {w : World} {n : Nat} (hn : w.heap.size = n) {a : Option Addr} {c : Nat} {b : List Nat} (hs : SlAt w a (bn b)) (hc : a = none → c = 0) :
    PartsIn (w.alloc (.cells #[.slice a b.length c] 22)) (some ⟨n, 0, none⟩) [⟨a, c, b⟩] :=
  PartsIn.lay hn [⟨a, c, b⟩] _ (fun p hp => by
    rw [List.mem_singleton] at hp
    subst hp
    exact ⟨hs, hc⟩)

theorem partsIn_cut {w : World} {n : Nat} (hn : w.heap.size = n) {a : Option Addr} {c : Nat} {b : List Nat} {I : Nat} (hs : SlAt w a (bn b)) (hc : a = none → c = 0) (hbc : b.length ≤ c) (hI : I ≤ b.length) :
    PartsIn (w.alloc (.cells #[.slice (slAd a c 0) I c, .slice none 0 0, .slice (slAd a c I) (b.length - I) (c - I)] 22)) (some ⟨n, 0, none⟩) [⟨slAd a c 0, c, b.take I⟩, ⟨none, 0, []⟩, ⟨slAd a c I, c - I, b.drop I⟩] := by
  have h := PartsIn.lay hn [⟨slAd a c 0, c, b.take I⟩, ⟨none, 0, []⟩, ⟨slAd a c I, c - I, b.drop I⟩] 22 (fun p hp => by
    have fr : ∀ l, SlAt w (slAd a c l) (bn (b.drop l)) := fun l => by
      have := hs.from (l := l) (c := c) (by rw [bn_len]; exact hbc)
      rw [bn_drop] at this
      exact this
    simp only [List.mem_cons, List.not_mem_nil, or_false] at hp
    rcases hp with rfl | rfl | rfl
    · refine ⟨?_, fun h => hc (slAd_none h)⟩
      have := (fr 0).take I
      rw [bn_take] at this
      exact this
    · exact ⟨rfl, fun _ => rfl⟩
    · exact ⟨fr I, fun h => by have := hc (slAd_none h); simp; omega⟩)
  have e1 : (b.take I).length = I := by rw [List.length_take]; omega
  have e3 : (b.drop I).length = b.length - I := List.length_drop
  simp only [List.map_cons, List.map_nil, Part.v, e1, e3, List.length_nil] at h
  exact h

theorem macKey_pad (key : List Nat) (z : Nat) (h : key.length + z ≤ 64) : macKey (key ++ List.replicate z 0) = macKey key := by
  unfold macKey
  have h1 : ¬ 64 < (key ++ List.replicate z 0).length := by simp; omega
  have h2 : ¬ 64 < key.length := by omega
  rw [if_neg h1, if_neg h2]
  simp only [List.length_append, List.length_replicate]
  rw [List.append_assoc, List.replicate_append_replicate]
  congr 2
  omega
theorem macKey_sha (key : List Nat) (h : 64 < key.length) : macKey (sha key) = macKey key := by
  unfold macKey
  have h1 : ¬ 64 < (sha key).length := by rw [sha_len]; decide
  rw [if_pos h, if_neg h1]
theorem hmac_congr {k k' : List Nat} (h : macKey k = macKey k') (b : List Nat) : hmac k b = hmac k' b := by
  unfold hmac macBlock
  rw [h]

set_option maxRecDepth 100000 in
set_option maxHeartbeats 8000000 in
theorem macParts_in (w : World) (a0 : Option Addr) (c0 : Nat) (key : List Nat) (h0 : BytesIn w a0 key.length c0 key) (a1 : Option Addr) (c1 : Nat) (b : List Nat) (h1 : BytesIn w a1 b.length c1 b) (I n : Nat) (k0 : ¬ 300 < key.length) (k1 : ¬ 300 < b.length) (hIn : I ≤ b.length) (hn63 : n ≤ 9223372036854775807) :
    Calls Try.prog 7 #[.slice a0 key.length c0, .slice a1 b.length c1, .int .i64 I, .int .i64 n] w fun e w' => e = .returned (.bool true) ∧ Below w.heap.size w w' := by
  obtain ⟨i0, hi, hz0, hz1, hz2⟩ := info_parts Try.info5
  have hcl : Try.prog.cellsOf 5 = 1 := by kernel_rfl
  have hbc := h1.le
  have hIc : I ≤ c1 := by omega
  have kIn : (I : Int) ≤ b.length := by omega
  have HIN := Lib.hid (And.intro h0 h1)
  clear h0 h1
  have hfl : flatP [⟨slAd a1 c1 0, c1, b.take I⟩, ⟨none, 0, []⟩, ⟨slAd a1 c1 I, c1 - I, b.drop I⟩] = b := by
    simp only [flatP, List.flatMap_cons, List.flatMap_nil, List.append_nil, List.nil_append]
    exact List.take_append_drop I b
  have HFL : Hid (flatP [⟨slAd a1 c1 0, c1, b.take I⟩, ⟨none, 0, []⟩, ⟨slAd a1 c1 I, c1 - I, b.drop I⟩] = b ∧ flatP [⟨a1, c1, b⟩] = b) := Lib.hid ⟨hfl, by simp [flatP]⟩
  clear hfl
  go_enter Try.func7, Try.ntmps7
  go_wp2_with fail
  (with_reducible refine (macSmall_any w).mono ?_)
  rintro e wa ⟨rfl, hba⟩
  have H1 := Lib.hid (Touch.of_below (S := fun _ => False) hba)
  clear hba
  go_wp2_with fail
  have hpp := partsIn_one1 (w := wa) rfl (HIN.out.2.cells.touch H1.out (fun _ _ _ h => h)) HIN.out.2.nil
  (with_reducible refine (macOf_eq a0 key.length c0 key _ 1 1 [⟨a1, c1, b⟩] b _ rfl HFL.out.2 rfl ((HIN.out.1.cells.touch H1.out (fun _ _ _ h => h)).alloc _) HIN.out.1.nil HIN.out.1.lt (by omega) hpp (fun h => by cases h) HIN.out.2.lt (by omega) (by decide)).mono ?_)
  rintro e w2 ⟨rfl, hb2⟩
  obtain ⟨D, hD⟩ : ∃ D, D = hmac key b := ⟨_, rfl⟩
  rw [← hD]
  have HD := Lib.hid (And.intro hD (And.intro (show (bn D).toArray.size = 32 by rw [bn_size, hD, hmac_len]) (bn_all D)))
  have eF := fun w : World => run_eql_same w D (by rw [hD]; exact hmac_len _ _) (by rw [hD]; exact hmac_lt _ _)
  have H2 : Hid (Touch (fun _ => False) w w2) := Lib.hid ((H1.out.alloc _).trans (Touch.of_below hb2))
  clear hD hb2 hpp
  go_wp2_with (first
    | (at_builtin; refine wpList_append_any rfl (.tmp 42) (.tmp 43) 22 rfl w3.heap.size 5 i0 (.int .u8 0) 1 Try.underlying22 hi hz0 hz1 hz2 rfl _ 0 [] rfl (World.ownsRow_made w3 #[] 0 (Nat.le_refl _) (Nat.zero_le _) rfl) a0 key.length c0 (bn key) rfl (bn_len _) (H3.out.2.1.alloc _) HIN.out.1.nil (bn_one _) (by unfold maxLen; omega) (by omega) (by simp) ?_; intro v4 w4 ho4 hg4 _; have hb4 : Below w3.heap.size w3 w4 := ((Below.refl _ _).alloc (Nat.le_refl _) _).grown hg4 (by simp) (fun k hk => by cases hk; exact Nat.le_refl _); (try simp only [Nat.zero_add, List.nil_append] at ho4); have H4 := Lib.hid (And.intro ho4 hb4); clear ho4 hg4 hb4)
    | (refine wpList_store_blk rfl 24 (.tmp 10) (.tmp 41) rfl w2.heap.size 24 _ (bn D).toArray rfl rfl (Blk.new _ _ _) (by rw [HD.out.2.1]; first | done | kernel_rfl) (by rw [HD.out.2.1]; first | done | kernel_rfl) HD.out.2.2 ?_
       intro w3 hB3 ht3 hs3
       have t3 : Touch (fun _ => False) w w3 := Touch.then (S := fun _ => False) (H2.out.alloc _) ht3 (fun i hi e => by have := H2.out.size; omega)
       have H3 := Lib.hid (And.intro hB3 (And.intro (HIN.out.1.cells.touch t3 (fun _ _ _ h => h)) t3))
       clear hB3 ht3 hs3 t3))
  obtain ⟨n9, hn9⟩ : ∃ n9, n9 = w2.heap.size := ⟨_, rfl⟩
  rw [← hn9]
  have HN9 := Lib.hid hn9
  clear hn9
  go_loopw [11, 12] (fun s c wz => ∃ z : Nat, z ≤ n ∧ (z = 0 ∨ key.length + z ≤ 64) ∧ c = .int .i64 z ∧ wz.ownsRow w3.heap.size 5 1 s (key.length + z) (bn (key ++ List.replicate z 0)) ∧ Below w3.heap.size w3 wz) (fun _ c _ => (64 - intOf c).toNat)
  case atStart => exact ⟨0, Nat.zero_le _, .inl rfl, rfl, by simpa using H4.out.1, H4.out.2⟩
  case round =>
    obtain ⟨z, hz, hz64, rfl, ho, hb⟩ := hrel
    obtain ⟨aL, cL, rfl, hnL, -, hmL, -⟩ := owns_form ho
    have hzb : key.length + z ≤ 364 := by omega
    have HO := Lib.hid (And.intro ho (And.intro hb (fun h => (hnL h).2)))
    clear ho hb hnL
    have hcase : (z < n ∧ key.length + z < 64) ∨ (¬ z < n) ∨ (z < n ∧ ¬ key.length + z < 64) := by omega
    rcases hcase with ⟨g1, g2⟩ | g1 | ⟨g1, g2⟩
    · have g1I : (z : Int) < n := by omega
      have g2I : (key.length : Int) + z < 64 := by omega
      have hsz := HO.out.2.1.size
      go_wp2_with (at_builtin; refine wpList_append_one rfl (.tmp 55) (.tmp 56) 22 rfl w3.heap.size 5 i0 (.int .u8 0) 1 Try.underlying22 hi hz0 hz1 hz2 rfl _ _ _ rfl (HO.out.1.alloc _) _ _ rfl (by simp; rfl) rfl (by unfold maxLen; omega) (by omega) (by simp; omega) ?_; intro v5 w5 ho5 hg5; have H5 := Lib.hid (And.intro ho5 hg5); clear ho5 hg5)
      go_roundw
      case rel =>
        refine ⟨z + 1, by omega, by omega, by first | rfl | (congr 1; omega), ?_, (HO.out.2.1.alloc hsz _).grown H5.out.2 (by simp; omega) (fun q hq => (HO.out.1.lt q hq).1)⟩
        have h := H5.out.1
        rw [List.replicate_succ', ← List.append_assoc, bn_append]
        exact h
      case measure => simp [intOf]; omega
    · have g1I : (n : Int) ≤ z := by omega
      by_cases h64 : 64 < key.length
      · obtain rfl : z = 0 := by omega
        have h64I : (64 : Int) < key.length := by omega
        clear hz64
        obtain ⟨wq, rfl⟩ : ∃ wq, wq = wr := ⟨wr, rfl⟩
        have tq : Touch (fun _ => False) w wq := H3.out.2.2.trans (Touch.of_below HO.out.2.1)
        have HQ := Lib.hid tq
        clear tq
        go_wp2_with fail
        (with_reducible refine (sum_eq _ 1 1 [⟨a0, c0, key⟩] key _ (partsIn_one1 rfl (HIN.out.1.cells.touch HQ.out (fun _ _ _ h => h)) HIN.out.1.nil) (by simp [flatP]) rfl HIN.out.1.lt (by omega) (by decide)).mono ?_)
        rintro e w5 ⟨rfl, hb5⟩
        obtain ⟨lg, hlg⟩ : ∃ lg, lg = sha key := ⟨_, rfl⟩
        rw [← hlg]
        have hll : lg.length = 32 := by rw [hlg]; exact sha_len _
        have HLG : Hid (lg.length = 32 ∧ ((some ⟨w5.heap.size, 0, none⟩ : Option Addr) = none → 32 = 0) ∧ (∀ y ∈ lg, y < 256) ∧ hmac lg b = hmac key b) := Lib.hid ⟨hll, (fun h => by cases h), by rw [hlg]; exact sha_lt _, by rw [hlg]; exact hmac_congr (macKey_sha key h64) b⟩
        have HL2 := Lib.hid (And.intro (show (bn lg).toArray.size = 32 by rw [bn_size, hll]) (bn_all lg))
        have H5 := Lib.hid hb5
        clear hlg hll hb5
        go_wp2_with (refine wpList_store_blk rfl 24 (.tmp 13) (.tmp 63) rfl w5.heap.size 24 _ (bn lg).toArray rfl rfl (Blk.new _ _ _) (by rw [HL2.out.1]; first | done | kernel_rfl) (by rw [HL2.out.1]; first | done | kernel_rfl) HL2.out.2 ?_; intro w6 hB6 ht6 hs6; have tq6 : Touch (fun _ => False) wq w6 := Touch.then (S := fun _ => False) ((((Touch.refl _ wq).alloc _).trans (Touch.of_below H5.out)).alloc _) ht6 (fun i hi e => by have := H5.out.size; simp at this; omega); have HX := Lib.hid (And.intro hB6 tq6); clear hB6 ht6 hs6 tq6)
        have T36 : Touch (fun _ => False) w3 w6 := (Touch.of_below HO.out.2.1).trans HX.out.2
        have T06 : Touch (fun _ => False) w w6 := HQ.out.trans HX.out.2
        have H6 : Hid (SlAt w6 a0 (bn key) ∧ SlAt w6 a1 (bn b) ∧ SlAt w6 (some ⟨w5.heap.size, 0, none⟩) (bn lg) ∧ Blk w6 n9 24 (bn D).toArray) := Lib.hid ⟨HIN.out.1.cells.touch T06 (fun _ _ _ h => h), HIN.out.2.cells.touch T06 (fun _ _ _ h => h), SlAt.of_blk HX.out.1, by rw [HN9.out]; exact H3.out.1.touch T36 (fun h => h)⟩
        have HW : Hid (Touch (fun _ => False) w w6) := Lib.hid T06
        clear T06 T36
        refine wp_region_held_drew (S := fun w' : World => (Touch (fun _ => False) w6 w') ∧ (SlAt w' a0 (bn key)) ∧ (SlAt w' a1 (bn b)) ∧ (SlAt w' (some ⟨w5.heap.size, 0, none⟩) (bn lg)) ∧ (Blk w' n9 24 (bn D).toArray)) (by kernel_rfl) (⟨(Touch.refl (fun _ => False) w6).drew, H6.out.1.touch ((Touch.refl (fun _ => False) w6).drew) (fun _ _ _ h => h), H6.out.2.1.touch ((Touch.refl (fun _ => False) w6).drew) (fun _ _ _ h => h), H6.out.2.2.1.touch ((Touch.refl (fun _ => False) w6).drew) (fun _ _ _ h => h), H6.out.2.2.2.touch ((Touch.refl (fun _ => False) w6).drew) (fun h => h)⟩) (fun hHeld => ?_)
        refine anyH_world (R := fun w' : World => (Touch (fun _ => False) w6 w') ∧ (SlAt w' a0 (bn key)) ∧ (SlAt w' a1 (bn b)) ∧ (SlAt w' (some ⟨w5.heap.size, 0, none⟩) (bn lg)) ∧ (Blk w' n9 24 (bn D).toArray)) hHeld ?_
        clear hHeld
        intro W0qa hHeld
        refine region_take 0 (v := ?vqa0_1) rfl rfl (by kernel_rfl) (by kernel_rfl) (by kernel_rfl) (fun _ _ _ h => h) hHeld (Or.inl ⟨by rfl, ?yqa0_1⟩) ?rqa0_1
        case yqa0_1 => (intro w hSw; (try dsimp only at hSw); go_simp; try with_reducible rfl)
        try simp only [Act.put, List.setIfInBounds_toArray, List.set_cons_zero, List.set_cons_succ]
        refine region_take 1 (v := ?vqa1_2) rfl rfl (by kernel_rfl) (by kernel_rfl) (by kernel_rfl) (fun _ _ _ h => h) hHeld (Or.inl ⟨by rfl, ?yqa1_2⟩) ?rqa1_2
        case yqa1_2 => (intro w hSw; (try dsimp only at hSw); go_simp; try with_reducible rfl)
        try simp only [Act.put, List.setIfInBounds_toArray, List.set_cons_zero, List.set_cons_succ]
        refine region_take 2 (v := ?vqa2_3) rfl rfl (by kernel_rfl) (by kernel_rfl) (by kernel_rfl) (fun _ _ _ h => h) hHeld (Or.inl ⟨by rfl, ?yqa2_3⟩) ?rqa2_3
        case yqa2_3 => (intro w hSw; (try dsimp only at hSw); go_simp; try with_reducible rfl)
        try simp only [Act.put, List.setIfInBounds_toArray, List.set_cons_zero, List.set_cons_succ]
        refine region_take 3 (v := ?vqa3_4) rfl rfl (by kernel_rfl) (by kernel_rfl) (by kernel_rfl) (fun _ _ _ h => h) hHeld (Or.inl ⟨by rfl, ?yqa3_4⟩) ?rqa3_4
        case yqa3_4 => (intro w hSw; (try dsimp only at hSw); go_simp; try with_reducible rfl)
        try simp only [Act.put, List.setIfInBounds_toArray, List.set_cons_zero, List.set_cons_succ]
        refine region_take 4 (v := ?vqa4_5) rfl rfl (by kernel_rfl) (by kernel_rfl) (by kernel_rfl) (fun _ _ _ h => h) hHeld (Or.inl ⟨by rfl, ?yqa4_5⟩) ?rqa4_5
        case yqa4_5 => (intro w hSw; (try dsimp only at hSw); go_simp; try with_reducible rfl)
        try simp only [Act.put, List.setIfInBounds_toArray, List.set_cons_zero, List.set_cons_succ]
        refine region_take 5 (v := ?vqa5_6) rfl rfl (by kernel_rfl) (by kernel_rfl) (by kernel_rfl) (fun _ _ _ h => h) hHeld (Or.inl ⟨by rfl, ?yqa5_6⟩) ?rqa5_6
        case yqa5_6 => (intro w hSw; refine (yields_slice 22 (.tmp 68) none (some (.tmp 69)) rfl (.slice a1 b.length c1) none (some (.int .i64 (I : Int))) rfl rfl rfl (run_slice_h (h := I) Try.underlying22 hi hcl hIc)).trans ?_; with_reducible rfl)
        try simp only [Act.put, List.setIfInBounds_toArray, List.set_cons_zero, List.set_cons_succ]
        refine region_take 6 (v := ?vqa6_7) rfl rfl (by kernel_rfl) (by kernel_rfl) (by kernel_rfl) (fun _ _ _ h => h) hHeld (Or.inl ⟨by rfl, ?yqa6_7⟩) ?rqa6_7
        case yqa6_7 => (intro w hSw; (try dsimp only at hSw); go_simp; try with_reducible rfl)
        try simp only [Act.put, List.setIfInBounds_toArray, List.set_cons_zero, List.set_cons_succ]
        refine region_take 7 (v := ?vqa7_8) rfl rfl (by kernel_rfl) (by kernel_rfl) (by kernel_rfl) (fun _ _ _ h => h) hHeld (Or.inl ⟨by rfl, ?yqa7_8⟩) ?rqa7_8
        case yqa7_8 => (intro w hSw; (try dsimp only at hSw); go_simp; try with_reducible rfl)
        try simp only [Act.put, List.setIfInBounds_toArray, List.set_cons_zero, List.set_cons_succ]
        refine region_take 8 (v := ?vqa8_9) rfl rfl (by kernel_rfl) (by kernel_rfl) (by kernel_rfl) (fun _ _ _ h => h) hHeld (Or.inl ⟨by rfl, ?yqa8_9⟩) ?rqa8_9
        case yqa8_9 => (intro w hSw; refine (yields_slice 22 (.tmp 71) (some (.tmp 72)) none rfl (.slice a1 b.length c1) (some (.int .i64 (I : Int))) none rfl rfl rfl (run_slice_l (l := I) Try.underlying22 hi hcl hIn)).trans ?_; with_reducible rfl)
        try simp only [Act.put, List.setIfInBounds_toArray, List.set_cons_zero, List.set_cons_succ]
        refine region_take 11 (v := ?vqa11_10) rfl rfl (by kernel_rfl) (by kernel_rfl) (by kernel_rfl) (fun _ _ _ h => h) hHeld (Or.inl ⟨by rfl, ?yqa11_10⟩) ?rqa11_10
        case yqa11_10 => (intro w hSw; refine (yields_load_blk 24 (.tmp 10) rfl n9 24 (bn D).toArray _ rfl (hSw.2.2.2.2) Try.underlying24 rfl (by rw [HD.out.2.1]; first | done | kernel_rfl)).trans ?_; with_reducible rfl)
        try simp only [Act.put, List.setIfInBounds_toArray, List.set_cons_zero, List.set_cons_succ]
        refine region_one 9 (by kernel_rfl) rfl (fun K hK => ?_)
        go_simp
        refine K_world (fun w' : World => (Touch (fun _ => False) W0qa w') ∧ (PartsIn w' (some ⟨W0qa.heap.size, 0, none⟩) [⟨slAd a1 c1 0, c1, b.take I⟩, ⟨none, 0, []⟩, ⟨slAd a1 c1 I, c1 - I, b.drop I⟩])) ⟨(Touch.refl _ _).alloc _, partsIn_cut rfl (hHeld.2.2.1) HIN.out.2.nil hbc hIn⟩ ?_
        intro uqa_11 hx
        have htqa_11 := Lib.hid (hx.1)
        refine hK.out _ _ (⟨(((hHeld.1)).trans htqa_11.out), (((hHeld.2.1)).touch htqa_11.out (fun _ _ _ h => h)), (((hHeld.2.2.1)).touch htqa_11.out (fun _ _ _ h => h)), (((hHeld.2.2.2.1)).touch htqa_11.out (fun _ _ _ h => h)), (((hHeld.2.2.2.2)).touch htqa_11.out (fun h => h))⟩) (fun hHeld2 => ?_)
        have hn_p1 := Lib.hid (hx.2)
        clear hK K hHeld
        have hHeld := hHeld2
        clear hHeld2
        try simp only [Act.put, List.setIfInBounds_toArray, List.set_cons_zero, List.set_cons_succ]
        refine region_more (S' := fun w' : World => (Touch (fun _ => False) w6 w') ∧ (SlAt w' a0 (bn key)) ∧ (SlAt w' a1 (bn b)) ∧ (SlAt w' (some ⟨w5.heap.size, 0, none⟩) (bn lg)) ∧ (Blk w' n9 24 (bn D).toArray) ∧ (PartsIn w' (some ⟨W0qa.heap.size, 0, none⟩) [⟨slAd a1 c1 0, c1, b.take I⟩, ⟨none, 0, []⟩, ⟨slAd a1 c1 I, c1 - I, b.drop I⟩])) (fun _ h => ⟨(h.1), (h.2.1), (h.2.2.1), (h.2.2.2.1), (h.2.2.2.2.1)⟩) _ _ _ _ ?_
        have hHeld3 := hHeld
        clear hHeld
        have hHeld := (And.intro (hHeld3.1) (And.intro (hHeld3.2.1) (And.intro (hHeld3.2.2.1) (And.intro (hHeld3.2.2.2.1) (And.intro (hHeld3.2.2.2.2) (hn_p1.out))))))
        clear hHeld3 hn_p1
        refine anyH_world (R := fun w' : World => (Touch (fun _ => False) w6 w') ∧ (SlAt w' a0 (bn key)) ∧ (SlAt w' a1 (bn b)) ∧ (SlAt w' (some ⟨w5.heap.size, 0, none⟩) (bn lg)) ∧ (Blk w' n9 24 (bn D).toArray) ∧ (PartsIn w' (some ⟨W0qa.heap.size, 0, none⟩) [⟨slAd a1 c1 0, c1, b.take I⟩, ⟨none, 0, []⟩, ⟨slAd a1 c1 I, c1 - I, b.drop I⟩])) hHeld ?_
        clear hHeld
        intro Wqa_11 hHeld
        refine region_one 10 (by kernel_rfl) rfl (fun K hK => ?_)
        go_simp
        go_at_call 15
        (with_reducible refine (macOf_eq a0 key.length c0 key _ 3 3 [⟨slAd a1 c1 0, c1, b.take I⟩, ⟨none, 0, []⟩, ⟨slAd a1 c1 I, c1 - I, b.drop I⟩] b _ rfl HFL.out.1 rfl (hHeld.2.1) HIN.out.1.nil HIN.out.1.lt (by omega) (hHeld.2.2.2.2.2) (fun h => by cases h) HIN.out.2.lt (by omega) (by decide)).mono ?_)
        rintro e uqa_12 ⟨rfl, hbx⟩
        rw [← HD.out.1]
        have htqa_12 := Lib.hid (Touch.of_below (S := fun _ => False) hbx)
        refine hK.out _ _ (⟨(((hHeld.1)).trans htqa_12.out), (((hHeld.2.1)).touch htqa_12.out (fun _ _ _ h => h)), (((hHeld.2.2.1)).touch htqa_12.out (fun _ _ _ h => h)), (((hHeld.2.2.2.1)).touch htqa_12.out (fun _ _ _ h => h)), (((hHeld.2.2.2.2.1)).touch htqa_12.out (fun h => h)), (((hHeld.2.2.2.2.2)).touch htqa_12.out (fun _ _ _ h => h) (fun _ _ _ _ _ h => h))⟩) (fun hHeld2 => ?_)
        clear hK K hHeld
        have hHeld := hHeld2
        clear hHeld2
        try simp only [Act.put, List.setIfInBounds_toArray, List.set_cons_zero, List.set_cons_succ]
        refine anyH_world (R := fun w' : World => (Touch (fun _ => False) w6 w') ∧ (SlAt w' a0 (bn key)) ∧ (SlAt w' a1 (bn b)) ∧ (SlAt w' (some ⟨w5.heap.size, 0, none⟩) (bn lg)) ∧ (Blk w' n9 24 (bn D).toArray) ∧ (PartsIn w' (some ⟨W0qa.heap.size, 0, none⟩) [⟨slAd a1 c1 0, c1, b.take I⟩, ⟨none, 0, []⟩, ⟨slAd a1 c1 I, c1 - I, b.drop I⟩])) hHeld ?_
        clear hHeld
        intro Wqa_12 hHeld
        refine region_take 12 (v := ?vqa12_13) rfl rfl (by kernel_rfl) (by kernel_rfl) (by kernel_rfl) (fun _ _ _ h => h) hHeld (Or.inl ⟨by rfl, ?yqa12_13⟩) ?rqa12_13
        case yqa12_13 => (intro w hSw; (try dsimp only at hSw); go_simp; try with_reducible rfl)
        try simp only [Act.put, List.setIfInBounds_toArray, List.set_cons_zero, List.set_cons_succ]
        refine region_take 13 (v := ?vqa13_14) rfl rfl (by kernel_rfl) (by kernel_rfl) (by kernel_rfl) (fun _ _ _ h => h) hHeld (Or.inl ⟨by rfl, ?yqa13_14⟩) ?rqa13_14
        case yqa13_14 => (intro w hSw; (try dsimp only at hSw); go_simp; try with_reducible rfl)
        try simp only [Act.put, List.setIfInBounds_toArray, List.set_cons_zero, List.set_cons_succ]
        refine region_take 14 (v := ?vqa14_15) rfl rfl (by kernel_rfl) (by kernel_rfl) (by kernel_rfl) (fun _ _ _ h => h) hHeld (Or.inl ⟨by rfl, ?yqa14_15⟩) ?rqa14_15
        case yqa14_15 => (intro w hSw; (try dsimp only at hSw); go_simp; try with_reducible rfl)
        try simp only [Act.put, List.setIfInBounds_toArray, List.set_cons_zero, List.set_cons_succ]
        refine region_take 15 (v := ?vqa15_16) rfl rfl (by kernel_rfl) (by kernel_rfl) (by kernel_rfl) (fun _ _ _ h => h) hHeld (Or.inl ⟨by rfl, ?yqa15_16⟩) ?rqa15_16
        case yqa15_16 => (intro w hSw; (try dsimp only at hSw); go_simp; try with_reducible rfl)
        try simp only [Act.put, List.setIfInBounds_toArray, List.set_cons_zero, List.set_cons_succ]
        refine region_take 16 (v := ?vqa16_17) rfl rfl (by kernel_rfl) (by kernel_rfl) (by kernel_rfl) (fun _ _ _ h => h) hHeld (Or.inl ⟨by rfl, ?yqa16_17⟩) ?rqa16_17
        case yqa16_17 => (intro w hSw; (try dsimp only at hSw); go_simp; try with_reducible rfl)
        try simp only [Act.put, List.setIfInBounds_toArray, List.set_cons_zero, List.set_cons_succ]
        refine region_take 19 (v := ?vqa19_18) rfl rfl (by kernel_rfl) (by kernel_rfl) (by kernel_rfl) (fun _ _ _ h => h) hHeld (Or.inl ⟨by rfl, ?yqa19_18⟩) ?rqa19_18
        case yqa19_18 => (intro w hSw; refine (yields_load_blk 24 (.tmp 10) rfl n9 24 (bn D).toArray _ rfl (hSw.2.2.2.2.1) Try.underlying24 rfl (by rw [HD.out.2.1]; first | done | kernel_rfl)).trans ?_; with_reducible rfl)
        try simp only [Act.put, List.setIfInBounds_toArray, List.set_cons_zero, List.set_cons_succ]
        refine region_one 17 (by kernel_rfl) rfl (fun K hK => ?_)
        go_simp
        refine K_world (fun w' : World => (Touch (fun _ => False) Wqa_12 w') ∧ (PartsIn w' (some ⟨Wqa_12.heap.size, 0, none⟩) [⟨a1, c1, b⟩])) ⟨(Touch.refl _ _).alloc _, partsIn_one1 rfl (hHeld.2.2.1) HIN.out.2.nil⟩ ?_
        intro uqa_19 hx
        have htqa_19 := Lib.hid (hx.1)
        refine hK.out _ _ (⟨(((hHeld.1)).trans htqa_19.out), (((hHeld.2.1)).touch htqa_19.out (fun _ _ _ h => h)), (((hHeld.2.2.1)).touch htqa_19.out (fun _ _ _ h => h)), (((hHeld.2.2.2.1)).touch htqa_19.out (fun _ _ _ h => h)), (((hHeld.2.2.2.2.1)).touch htqa_19.out (fun h => h)), (((hHeld.2.2.2.2.2)).touch htqa_19.out (fun _ _ _ h => h) (fun _ _ _ _ _ h => h))⟩) (fun hHeld2 => ?_)
        have hn_p2 := Lib.hid (hx.2)
        clear hK K hHeld
        have hHeld := hHeld2
        clear hHeld2
        try simp only [Act.put, List.setIfInBounds_toArray, List.set_cons_zero, List.set_cons_succ]
        refine region_more (S' := fun w' : World => (Touch (fun _ => False) w6 w') ∧ (SlAt w' a0 (bn key)) ∧ (SlAt w' a1 (bn b)) ∧ (SlAt w' (some ⟨w5.heap.size, 0, none⟩) (bn lg)) ∧ (Blk w' n9 24 (bn D).toArray) ∧ (PartsIn w' (some ⟨W0qa.heap.size, 0, none⟩) [⟨slAd a1 c1 0, c1, b.take I⟩, ⟨none, 0, []⟩, ⟨slAd a1 c1 I, c1 - I, b.drop I⟩]) ∧ (PartsIn w' (some ⟨Wqa_12.heap.size, 0, none⟩) [⟨a1, c1, b⟩])) (fun _ h => ⟨(h.1), (h.2.1), (h.2.2.1), (h.2.2.2.1), (h.2.2.2.2.1), (h.2.2.2.2.2.1)⟩) _ _ _ _ ?_
        have hHeld3 := hHeld
        clear hHeld
        have hHeld := (And.intro (hHeld3.1) (And.intro (hHeld3.2.1) (And.intro (hHeld3.2.2.1) (And.intro (hHeld3.2.2.2.1) (And.intro (hHeld3.2.2.2.2.1) (And.intro (hHeld3.2.2.2.2.2) (hn_p2.out)))))))
        clear hHeld3 hn_p2
        refine anyH_world (R := fun w' : World => (Touch (fun _ => False) w6 w') ∧ (SlAt w' a0 (bn key)) ∧ (SlAt w' a1 (bn b)) ∧ (SlAt w' (some ⟨w5.heap.size, 0, none⟩) (bn lg)) ∧ (Blk w' n9 24 (bn D).toArray) ∧ (PartsIn w' (some ⟨W0qa.heap.size, 0, none⟩) [⟨slAd a1 c1 0, c1, b.take I⟩, ⟨none, 0, []⟩, ⟨slAd a1 c1 I, c1 - I, b.drop I⟩]) ∧ (PartsIn w' (some ⟨Wqa_12.heap.size, 0, none⟩) [⟨a1, c1, b⟩])) hHeld ?_
        clear hHeld
        intro Wqa_19 hHeld
        refine region_one 18 (by kernel_rfl) rfl (fun K hK => ?_)
        go_simp
        go_at_call 15
        (with_reducible refine (macOf_eq (some ⟨w5.heap.size, 0, none⟩) (32) 32 lg _ 1 1 [⟨a1, c1, b⟩] b _ HLG.out.1 HFL.out.2 rfl (hHeld.2.2.2.1) HLG.out.2.1 HLG.out.2.2.1 (by omega) (hHeld.2.2.2.2.2.2) (fun h => by cases h) HIN.out.2.lt (by omega) (by decide)).mono ?_)
        rintro e uqa_20 ⟨rfl, hbx⟩
        rw [HLG.out.2.2.2, ← HD.out.1]
        have htqa_20 := Lib.hid (Touch.of_below (S := fun _ => False) hbx)
        refine hK.out _ _ (⟨(((hHeld.1)).trans htqa_20.out), (((hHeld.2.1)).touch htqa_20.out (fun _ _ _ h => h)), (((hHeld.2.2.1)).touch htqa_20.out (fun _ _ _ h => h)), (((hHeld.2.2.2.1)).touch htqa_20.out (fun _ _ _ h => h)), (((hHeld.2.2.2.2.1)).touch htqa_20.out (fun h => h)), (((hHeld.2.2.2.2.2.1)).touch htqa_20.out (fun _ _ _ h => h) (fun _ _ _ _ _ h => h)), (((hHeld.2.2.2.2.2.2)).touch htqa_20.out (fun _ _ _ h => h) (fun _ _ _ _ _ h => h))⟩) (fun hHeld2 => ?_)
        clear hK K hHeld
        have hHeld := hHeld2
        clear hHeld2
        try simp only [Act.put, List.setIfInBounds_toArray, List.set_cons_zero, List.set_cons_succ]
        refine anyH_world (R := fun w' : World => (Touch (fun _ => False) w6 w') ∧ (SlAt w' a0 (bn key)) ∧ (SlAt w' a1 (bn b)) ∧ (SlAt w' (some ⟨w5.heap.size, 0, none⟩) (bn lg)) ∧ (Blk w' n9 24 (bn D).toArray) ∧ (PartsIn w' (some ⟨W0qa.heap.size, 0, none⟩) [⟨slAd a1 c1 0, c1, b.take I⟩, ⟨none, 0, []⟩, ⟨slAd a1 c1 I, c1 - I, b.drop I⟩]) ∧ (PartsIn w' (some ⟨Wqa_12.heap.size, 0, none⟩) [⟨a1, c1, b⟩])) hHeld ?_
        clear hHeld
        intro Wqa_20 hHeld
        refine region_take 20 (v := ?vqa20_21) rfl rfl (by kernel_rfl) (by kernel_rfl) (by kernel_rfl) (fun _ _ _ h => h) hHeld (Or.inl ⟨by rfl, ?yqa20_21⟩) ?rqa20_21
        case yqa20_21 => (intro w hSw; (try dsimp only at hSw); go_simp; try with_reducible rfl)
        try simp only [Act.put, List.setIfInBounds_toArray, List.set_cons_zero, List.set_cons_succ]
        refine region_take 21 (v := ?vqa21_22) rfl rfl (by kernel_rfl) (by kernel_rfl) (by kernel_rfl) (fun _ _ _ h => h) hHeld (Or.inl ⟨by rfl, ?yqa21_22⟩) ?rqa21_22
        case yqa21_22 => (intro w hSw; (try dsimp only at hSw); go_simp; try with_reducible rfl)
        try simp only [Act.put, List.setIfInBounds_toArray, List.set_cons_zero, List.set_cons_succ]
        refine region_take 22 (v := ?vqa22_23) rfl rfl (by kernel_rfl) (by kernel_rfl) (by kernel_rfl) (fun _ _ _ h => h) hHeld (Or.inl ⟨by rfl, ?yqa22_23⟩) ?rqa22_23
        case yqa22_23 => (intro w hSw; (try dsimp only at hSw); go_simp; try with_reducible rfl)
        try simp only [Act.put, List.setIfInBounds_toArray, List.set_cons_zero, List.set_cons_succ]
        refine wpAnyH_done (by kernel_rfl) ?_ _
        go_wp2_with fail
        go_ret
        exact ⟨rfl, (HW.out.trans (hHeld.1)).below (Nat.le_refl _) (fun _ _ h => h)⟩
      · have h64I : (key.length : Int) ≤ 64 := by omega
        have h64b : key.length + z ≤ 64 := by omega
        obtain ⟨w6, rfl⟩ : ∃ w6, w6 = wr := ⟨wr, rfl⟩
        obtain ⟨lg, hlg⟩ : ∃ lg, lg = key ++ List.replicate z 0 := ⟨_, rfl⟩
        have HLG : Hid (lg.length = key.length + z ∧ (aL = none → cL = 0) ∧ (∀ y ∈ lg, y < 256) ∧ hmac lg b = hmac key b) := Lib.hid ⟨by rw [hlg]; simp, HO.out.2.2, (fun y hy => by
          rw [hlg] at hy
          rcases List.mem_append.1 hy with h | h
          · exact HIN.out.1.lt y h
          · rw [List.eq_of_mem_replicate h]; omega), by rw [hlg]; exact hmac_congr (macKey_pad key z h64b) b⟩
        have T36 : Touch (fun _ => False) w3 w6 := Touch.of_below HO.out.2.1
        have T06 : Touch (fun _ => False) w w6 := H3.out.2.2.trans T36
        have hsL : SlAt w6 aL (bn lg) := by rw [hlg]; exact SlAt.of_owns HO.out.1
        have H6 : Hid (SlAt w6 a0 (bn key) ∧ SlAt w6 a1 (bn b) ∧ SlAt w6 aL (bn lg) ∧ Blk w6 n9 24 (bn D).toArray) := Lib.hid ⟨HIN.out.1.cells.touch T06 (fun _ _ _ h => h), HIN.out.2.cells.touch T06 (fun _ _ _ h => h), hsL, by rw [HN9.out]; exact H3.out.1.touch T36 (fun h => h)⟩
        have HW : Hid (Touch (fun _ => False) w w6) := Lib.hid T06
        clear T06 T36
        clear hlg hsL hz64
        go_wp2_with fail
        refine wp_region_held_drew (S := fun w' : World => (Touch (fun _ => False) w6 w') ∧ (SlAt w' a0 (bn key)) ∧ (SlAt w' a1 (bn b)) ∧ (SlAt w' aL (bn lg)) ∧ (Blk w' n9 24 (bn D).toArray)) (by kernel_rfl) (⟨(Touch.refl (fun _ => False) w6).drew, H6.out.1.touch ((Touch.refl (fun _ => False) w6).drew) (fun _ _ _ h => h), H6.out.2.1.touch ((Touch.refl (fun _ => False) w6).drew) (fun _ _ _ h => h), H6.out.2.2.1.touch ((Touch.refl (fun _ => False) w6).drew) (fun _ _ _ h => h), H6.out.2.2.2.touch ((Touch.refl (fun _ => False) w6).drew) (fun h => h)⟩) (fun hHeld => ?_)
        refine anyH_world (R := fun w' : World => (Touch (fun _ => False) w6 w') ∧ (SlAt w' a0 (bn key)) ∧ (SlAt w' a1 (bn b)) ∧ (SlAt w' aL (bn lg)) ∧ (Blk w' n9 24 (bn D).toArray)) hHeld ?_
        clear hHeld
        intro W0sa hHeld
        refine region_take 0 (v := ?vsa0_1) rfl rfl (by kernel_rfl) (by kernel_rfl) (by kernel_rfl) (fun _ _ _ h => h) hHeld (Or.inl ⟨by rfl, ?ysa0_1⟩) ?rsa0_1
        case ysa0_1 => (intro w hSw; (try dsimp only at hSw); go_simp; try with_reducible rfl)
        try simp only [Act.put, List.setIfInBounds_toArray, List.set_cons_zero, List.set_cons_succ]
        refine region_take 1 (v := ?vsa1_2) rfl rfl (by kernel_rfl) (by kernel_rfl) (by kernel_rfl) (fun _ _ _ h => h) hHeld (Or.inl ⟨by rfl, ?ysa1_2⟩) ?rsa1_2
        case ysa1_2 => (intro w hSw; (try dsimp only at hSw); go_simp; try with_reducible rfl)
        try simp only [Act.put, List.setIfInBounds_toArray, List.set_cons_zero, List.set_cons_succ]
        refine region_take 2 (v := ?vsa2_3) rfl rfl (by kernel_rfl) (by kernel_rfl) (by kernel_rfl) (fun _ _ _ h => h) hHeld (Or.inl ⟨by rfl, ?ysa2_3⟩) ?rsa2_3
        case ysa2_3 => (intro w hSw; (try dsimp only at hSw); go_simp; try with_reducible rfl)
        try simp only [Act.put, List.setIfInBounds_toArray, List.set_cons_zero, List.set_cons_succ]
        refine region_take 3 (v := ?vsa3_4) rfl rfl (by kernel_rfl) (by kernel_rfl) (by kernel_rfl) (fun _ _ _ h => h) hHeld (Or.inl ⟨by rfl, ?ysa3_4⟩) ?rsa3_4
        case ysa3_4 => (intro w hSw; (try dsimp only at hSw); go_simp; try with_reducible rfl)
        try simp only [Act.put, List.setIfInBounds_toArray, List.set_cons_zero, List.set_cons_succ]
        refine region_take 4 (v := ?vsa4_5) rfl rfl (by kernel_rfl) (by kernel_rfl) (by kernel_rfl) (fun _ _ _ h => h) hHeld (Or.inl ⟨by rfl, ?ysa4_5⟩) ?rsa4_5
        case ysa4_5 => (intro w hSw; (try dsimp only at hSw); go_simp; try with_reducible rfl)
        try simp only [Act.put, List.setIfInBounds_toArray, List.set_cons_zero, List.set_cons_succ]
        refine region_take 5 (v := ?vsa5_6) rfl rfl (by kernel_rfl) (by kernel_rfl) (by kernel_rfl) (fun _ _ _ h => h) hHeld (Or.inl ⟨by rfl, ?ysa5_6⟩) ?rsa5_6
        case ysa5_6 => (intro w hSw; refine (yields_slice 22 (.tmp 68) none (some (.tmp 69)) rfl (.slice a1 b.length c1) none (some (.int .i64 (I : Int))) rfl rfl rfl (run_slice_h (h := I) Try.underlying22 hi hcl hIc)).trans ?_; with_reducible rfl)
        try simp only [Act.put, List.setIfInBounds_toArray, List.set_cons_zero, List.set_cons_succ]
        refine region_take 6 (v := ?vsa6_7) rfl rfl (by kernel_rfl) (by kernel_rfl) (by kernel_rfl) (fun _ _ _ h => h) hHeld (Or.inl ⟨by rfl, ?ysa6_7⟩) ?rsa6_7
        case ysa6_7 => (intro w hSw; (try dsimp only at hSw); go_simp; try with_reducible rfl)
        try simp only [Act.put, List.setIfInBounds_toArray, List.set_cons_zero, List.set_cons_succ]
        refine region_take 7 (v := ?vsa7_8) rfl rfl (by kernel_rfl) (by kernel_rfl) (by kernel_rfl) (fun _ _ _ h => h) hHeld (Or.inl ⟨by rfl, ?ysa7_8⟩) ?rsa7_8
        case ysa7_8 => (intro w hSw; (try dsimp only at hSw); go_simp; try with_reducible rfl)
        try simp only [Act.put, List.setIfInBounds_toArray, List.set_cons_zero, List.set_cons_succ]
        refine region_take 8 (v := ?vsa8_9) rfl rfl (by kernel_rfl) (by kernel_rfl) (by kernel_rfl) (fun _ _ _ h => h) hHeld (Or.inl ⟨by rfl, ?ysa8_9⟩) ?rsa8_9
        case ysa8_9 => (intro w hSw; refine (yields_slice 22 (.tmp 71) (some (.tmp 72)) none rfl (.slice a1 b.length c1) (some (.int .i64 (I : Int))) none rfl rfl rfl (run_slice_l (l := I) Try.underlying22 hi hcl hIn)).trans ?_; with_reducible rfl)
        try simp only [Act.put, List.setIfInBounds_toArray, List.set_cons_zero, List.set_cons_succ]
        refine region_take 11 (v := ?vsa11_10) rfl rfl (by kernel_rfl) (by kernel_rfl) (by kernel_rfl) (fun _ _ _ h => h) hHeld (Or.inl ⟨by rfl, ?ysa11_10⟩) ?rsa11_10
        case ysa11_10 => (intro w hSw; refine (yields_load_blk 24 (.tmp 10) rfl n9 24 (bn D).toArray _ rfl (hSw.2.2.2.2) Try.underlying24 rfl (by rw [HD.out.2.1]; first | done | kernel_rfl)).trans ?_; with_reducible rfl)
        try simp only [Act.put, List.setIfInBounds_toArray, List.set_cons_zero, List.set_cons_succ]
        refine region_one 9 (by kernel_rfl) rfl (fun K hK => ?_)
        go_simp
        refine K_world (fun w' : World => (Touch (fun _ => False) W0sa w') ∧ (PartsIn w' (some ⟨W0sa.heap.size, 0, none⟩) [⟨slAd a1 c1 0, c1, b.take I⟩, ⟨none, 0, []⟩, ⟨slAd a1 c1 I, c1 - I, b.drop I⟩])) ⟨(Touch.refl _ _).alloc _, partsIn_cut rfl (hHeld.2.2.1) HIN.out.2.nil hbc hIn⟩ ?_
        intro usa_11 hx
        have htsa_11 := Lib.hid (hx.1)
        refine hK.out _ _ (⟨(((hHeld.1)).trans htsa_11.out), (((hHeld.2.1)).touch htsa_11.out (fun _ _ _ h => h)), (((hHeld.2.2.1)).touch htsa_11.out (fun _ _ _ h => h)), (((hHeld.2.2.2.1)).touch htsa_11.out (fun _ _ _ h => h)), (((hHeld.2.2.2.2)).touch htsa_11.out (fun h => h))⟩) (fun hHeld2 => ?_)
        have hn_p1 := Lib.hid (hx.2)
        clear hK K hHeld
        have hHeld := hHeld2
        clear hHeld2
        try simp only [Act.put, List.setIfInBounds_toArray, List.set_cons_zero, List.set_cons_succ]
        refine region_more (S' := fun w' : World => (Touch (fun _ => False) w6 w') ∧ (SlAt w' a0 (bn key)) ∧ (SlAt w' a1 (bn b)) ∧ (SlAt w' aL (bn lg)) ∧ (Blk w' n9 24 (bn D).toArray) ∧ (PartsIn w' (some ⟨W0sa.heap.size, 0, none⟩) [⟨slAd a1 c1 0, c1, b.take I⟩, ⟨none, 0, []⟩, ⟨slAd a1 c1 I, c1 - I, b.drop I⟩])) (fun _ h => ⟨(h.1), (h.2.1), (h.2.2.1), (h.2.2.2.1), (h.2.2.2.2.1)⟩) _ _ _ _ ?_
        have hHeld3 := hHeld
        clear hHeld
        have hHeld := (And.intro (hHeld3.1) (And.intro (hHeld3.2.1) (And.intro (hHeld3.2.2.1) (And.intro (hHeld3.2.2.2.1) (And.intro (hHeld3.2.2.2.2) (hn_p1.out))))))
        clear hHeld3 hn_p1
        refine anyH_world (R := fun w' : World => (Touch (fun _ => False) w6 w') ∧ (SlAt w' a0 (bn key)) ∧ (SlAt w' a1 (bn b)) ∧ (SlAt w' aL (bn lg)) ∧ (Blk w' n9 24 (bn D).toArray) ∧ (PartsIn w' (some ⟨W0sa.heap.size, 0, none⟩) [⟨slAd a1 c1 0, c1, b.take I⟩, ⟨none, 0, []⟩, ⟨slAd a1 c1 I, c1 - I, b.drop I⟩])) hHeld ?_
        clear hHeld
        intro Wsa_11 hHeld
        refine region_one 10 (by kernel_rfl) rfl (fun K hK => ?_)
        go_simp
        go_at_call 15
        (with_reducible refine (macOf_eq a0 key.length c0 key _ 3 3 [⟨slAd a1 c1 0, c1, b.take I⟩, ⟨none, 0, []⟩, ⟨slAd a1 c1 I, c1 - I, b.drop I⟩] b _ rfl HFL.out.1 rfl (hHeld.2.1) HIN.out.1.nil HIN.out.1.lt (by omega) (hHeld.2.2.2.2.2) (fun h => by cases h) HIN.out.2.lt (by omega) (by decide)).mono ?_)
        rintro e usa_12 ⟨rfl, hbx⟩
        rw [← HD.out.1]
        have htsa_12 := Lib.hid (Touch.of_below (S := fun _ => False) hbx)
        refine hK.out _ _ (⟨(((hHeld.1)).trans htsa_12.out), (((hHeld.2.1)).touch htsa_12.out (fun _ _ _ h => h)), (((hHeld.2.2.1)).touch htsa_12.out (fun _ _ _ h => h)), (((hHeld.2.2.2.1)).touch htsa_12.out (fun _ _ _ h => h)), (((hHeld.2.2.2.2.1)).touch htsa_12.out (fun h => h)), (((hHeld.2.2.2.2.2)).touch htsa_12.out (fun _ _ _ h => h) (fun _ _ _ _ _ h => h))⟩) (fun hHeld2 => ?_)
        clear hK K hHeld
        have hHeld := hHeld2
        clear hHeld2
        try simp only [Act.put, List.setIfInBounds_toArray, List.set_cons_zero, List.set_cons_succ]
        refine anyH_world (R := fun w' : World => (Touch (fun _ => False) w6 w') ∧ (SlAt w' a0 (bn key)) ∧ (SlAt w' a1 (bn b)) ∧ (SlAt w' aL (bn lg)) ∧ (Blk w' n9 24 (bn D).toArray) ∧ (PartsIn w' (some ⟨W0sa.heap.size, 0, none⟩) [⟨slAd a1 c1 0, c1, b.take I⟩, ⟨none, 0, []⟩, ⟨slAd a1 c1 I, c1 - I, b.drop I⟩])) hHeld ?_
        clear hHeld
        intro Wsa_12 hHeld
        refine region_take 12 (v := ?vsa12_13) rfl rfl (by kernel_rfl) (by kernel_rfl) (by kernel_rfl) (fun _ _ _ h => h) hHeld (Or.inl ⟨by rfl, ?ysa12_13⟩) ?rsa12_13
        case ysa12_13 => (intro w hSw; (try dsimp only at hSw); go_simp; try with_reducible rfl)
        try simp only [Act.put, List.setIfInBounds_toArray, List.set_cons_zero, List.set_cons_succ]
        refine region_take 13 (v := ?vsa13_14) rfl rfl (by kernel_rfl) (by kernel_rfl) (by kernel_rfl) (fun _ _ _ h => h) hHeld (Or.inl ⟨by rfl, ?ysa13_14⟩) ?rsa13_14
        case ysa13_14 => (intro w hSw; (try dsimp only at hSw); go_simp; try with_reducible rfl)
        try simp only [Act.put, List.setIfInBounds_toArray, List.set_cons_zero, List.set_cons_succ]
        refine region_take 14 (v := ?vsa14_15) rfl rfl (by kernel_rfl) (by kernel_rfl) (by kernel_rfl) (fun _ _ _ h => h) hHeld (Or.inl ⟨by rfl, ?ysa14_15⟩) ?rsa14_15
        case ysa14_15 => (intro w hSw; (try dsimp only at hSw); go_simp; try with_reducible rfl)
        try simp only [Act.put, List.setIfInBounds_toArray, List.set_cons_zero, List.set_cons_succ]
        refine region_take 15 (v := ?vsa15_16) rfl rfl (by kernel_rfl) (by kernel_rfl) (by kernel_rfl) (fun _ _ _ h => h) hHeld (Or.inl ⟨by rfl, ?ysa15_16⟩) ?rsa15_16
        case ysa15_16 => (intro w hSw; (try dsimp only at hSw); go_simp; try with_reducible rfl)
        try simp only [Act.put, List.setIfInBounds_toArray, List.set_cons_zero, List.set_cons_succ]
        refine region_take 16 (v := ?vsa16_17) rfl rfl (by kernel_rfl) (by kernel_rfl) (by kernel_rfl) (fun _ _ _ h => h) hHeld (Or.inl ⟨by rfl, ?ysa16_17⟩) ?rsa16_17
        case ysa16_17 => (intro w hSw; (try dsimp only at hSw); go_simp; try with_reducible rfl)
        try simp only [Act.put, List.setIfInBounds_toArray, List.set_cons_zero, List.set_cons_succ]
        refine region_take 19 (v := ?vsa19_18) rfl rfl (by kernel_rfl) (by kernel_rfl) (by kernel_rfl) (fun _ _ _ h => h) hHeld (Or.inl ⟨by rfl, ?ysa19_18⟩) ?rsa19_18
        case ysa19_18 => (intro w hSw; refine (yields_load_blk 24 (.tmp 10) rfl n9 24 (bn D).toArray _ rfl (hSw.2.2.2.2.1) Try.underlying24 rfl (by rw [HD.out.2.1]; first | done | kernel_rfl)).trans ?_; with_reducible rfl)
        try simp only [Act.put, List.setIfInBounds_toArray, List.set_cons_zero, List.set_cons_succ]
        refine region_one 17 (by kernel_rfl) rfl (fun K hK => ?_)
        go_simp
        refine K_world (fun w' : World => (Touch (fun _ => False) Wsa_12 w') ∧ (PartsIn w' (some ⟨Wsa_12.heap.size, 0, none⟩) [⟨a1, c1, b⟩])) ⟨(Touch.refl _ _).alloc _, partsIn_one1 rfl (hHeld.2.2.1) HIN.out.2.nil⟩ ?_
        intro usa_19 hx
        have htsa_19 := Lib.hid (hx.1)
        refine hK.out _ _ (⟨(((hHeld.1)).trans htsa_19.out), (((hHeld.2.1)).touch htsa_19.out (fun _ _ _ h => h)), (((hHeld.2.2.1)).touch htsa_19.out (fun _ _ _ h => h)), (((hHeld.2.2.2.1)).touch htsa_19.out (fun _ _ _ h => h)), (((hHeld.2.2.2.2.1)).touch htsa_19.out (fun h => h)), (((hHeld.2.2.2.2.2)).touch htsa_19.out (fun _ _ _ h => h) (fun _ _ _ _ _ h => h))⟩) (fun hHeld2 => ?_)
        have hn_p2 := Lib.hid (hx.2)
        clear hK K hHeld
        have hHeld := hHeld2
        clear hHeld2
        try simp only [Act.put, List.setIfInBounds_toArray, List.set_cons_zero, List.set_cons_succ]
        refine region_more (S' := fun w' : World => (Touch (fun _ => False) w6 w') ∧ (SlAt w' a0 (bn key)) ∧ (SlAt w' a1 (bn b)) ∧ (SlAt w' aL (bn lg)) ∧ (Blk w' n9 24 (bn D).toArray) ∧ (PartsIn w' (some ⟨W0sa.heap.size, 0, none⟩) [⟨slAd a1 c1 0, c1, b.take I⟩, ⟨none, 0, []⟩, ⟨slAd a1 c1 I, c1 - I, b.drop I⟩]) ∧ (PartsIn w' (some ⟨Wsa_12.heap.size, 0, none⟩) [⟨a1, c1, b⟩])) (fun _ h => ⟨(h.1), (h.2.1), (h.2.2.1), (h.2.2.2.1), (h.2.2.2.2.1), (h.2.2.2.2.2.1)⟩) _ _ _ _ ?_
        have hHeld3 := hHeld
        clear hHeld
        have hHeld := (And.intro (hHeld3.1) (And.intro (hHeld3.2.1) (And.intro (hHeld3.2.2.1) (And.intro (hHeld3.2.2.2.1) (And.intro (hHeld3.2.2.2.2.1) (And.intro (hHeld3.2.2.2.2.2) (hn_p2.out)))))))
        clear hHeld3 hn_p2
        refine anyH_world (R := fun w' : World => (Touch (fun _ => False) w6 w') ∧ (SlAt w' a0 (bn key)) ∧ (SlAt w' a1 (bn b)) ∧ (SlAt w' aL (bn lg)) ∧ (Blk w' n9 24 (bn D).toArray) ∧ (PartsIn w' (some ⟨W0sa.heap.size, 0, none⟩) [⟨slAd a1 c1 0, c1, b.take I⟩, ⟨none, 0, []⟩, ⟨slAd a1 c1 I, c1 - I, b.drop I⟩]) ∧ (PartsIn w' (some ⟨Wsa_12.heap.size, 0, none⟩) [⟨a1, c1, b⟩])) hHeld ?_
        clear hHeld
        intro Wsa_19 hHeld
        refine region_one 18 (by kernel_rfl) rfl (fun K hK => ?_)
        go_simp
        go_at_call 15
        (with_reducible refine (macOf_eq aL (key.length + z) cL lg _ 1 1 [⟨a1, c1, b⟩] b _ HLG.out.1 HFL.out.2 rfl (hHeld.2.2.2.1) HLG.out.2.1 HLG.out.2.2.1 (by omega) (hHeld.2.2.2.2.2.2) (fun h => by cases h) HIN.out.2.lt (by omega) (by decide)).mono ?_)
        rintro e usa_20 ⟨rfl, hbx⟩
        rw [HLG.out.2.2.2, ← HD.out.1]
        have htsa_20 := Lib.hid (Touch.of_below (S := fun _ => False) hbx)
        refine hK.out _ _ (⟨(((hHeld.1)).trans htsa_20.out), (((hHeld.2.1)).touch htsa_20.out (fun _ _ _ h => h)), (((hHeld.2.2.1)).touch htsa_20.out (fun _ _ _ h => h)), (((hHeld.2.2.2.1)).touch htsa_20.out (fun _ _ _ h => h)), (((hHeld.2.2.2.2.1)).touch htsa_20.out (fun h => h)), (((hHeld.2.2.2.2.2.1)).touch htsa_20.out (fun _ _ _ h => h) (fun _ _ _ _ _ h => h)), (((hHeld.2.2.2.2.2.2)).touch htsa_20.out (fun _ _ _ h => h) (fun _ _ _ _ _ h => h))⟩) (fun hHeld2 => ?_)
        clear hK K hHeld
        have hHeld := hHeld2
        clear hHeld2
        try simp only [Act.put, List.setIfInBounds_toArray, List.set_cons_zero, List.set_cons_succ]
        refine anyH_world (R := fun w' : World => (Touch (fun _ => False) w6 w') ∧ (SlAt w' a0 (bn key)) ∧ (SlAt w' a1 (bn b)) ∧ (SlAt w' aL (bn lg)) ∧ (Blk w' n9 24 (bn D).toArray) ∧ (PartsIn w' (some ⟨W0sa.heap.size, 0, none⟩) [⟨slAd a1 c1 0, c1, b.take I⟩, ⟨none, 0, []⟩, ⟨slAd a1 c1 I, c1 - I, b.drop I⟩]) ∧ (PartsIn w' (some ⟨Wsa_12.heap.size, 0, none⟩) [⟨a1, c1, b⟩])) hHeld ?_
        clear hHeld
        intro Wsa_20 hHeld
        refine region_take 20 (v := ?vsa20_21) rfl rfl (by kernel_rfl) (by kernel_rfl) (by kernel_rfl) (fun _ _ _ h => h) hHeld (Or.inl ⟨by rfl, ?ysa20_21⟩) ?rsa20_21
        case ysa20_21 => (intro w hSw; (try dsimp only at hSw); go_simp; try with_reducible rfl)
        try simp only [Act.put, List.setIfInBounds_toArray, List.set_cons_zero, List.set_cons_succ]
        refine region_take 21 (v := ?vsa21_22) rfl rfl (by kernel_rfl) (by kernel_rfl) (by kernel_rfl) (fun _ _ _ h => h) hHeld (Or.inl ⟨by rfl, ?ysa21_22⟩) ?rsa21_22
        case ysa21_22 => (intro w hSw; (try dsimp only at hSw); go_simp; try with_reducible rfl)
        try simp only [Act.put, List.setIfInBounds_toArray, List.set_cons_zero, List.set_cons_succ]
        refine region_take 22 (v := ?vsa22_23) rfl rfl (by kernel_rfl) (by kernel_rfl) (by kernel_rfl) (fun _ _ _ h => h) hHeld (Or.inl ⟨by rfl, ?ysa22_23⟩) ?rsa22_23
        case ysa22_23 => (intro w hSw; (try dsimp only at hSw); go_simp; try with_reducible rfl)
        try simp only [Act.put, List.setIfInBounds_toArray, List.set_cons_zero, List.set_cons_succ]
        refine wpAnyH_done (by kernel_rfl) ?_ _
        go_wp2_with fail
        go_ret
        exact ⟨rfl, (HW.out.trans (hHeld.1)).below (Nat.le_refl _) (fun _ _ h => h)⟩
    · have g1I : (z : Int) < n := by omega
      have g2I : (64 : Int) ≤ (key.length : Int) + z := by omega
      by_cases h64 : 64 < key.length
      · obtain rfl : z = 0 := by omega
        have h64I : (64 : Int) < key.length := by omega
        clear hz64
        obtain ⟨wq, rfl⟩ : ∃ wq, wq = wr := ⟨wr, rfl⟩
        have tq : Touch (fun _ => False) w wq := H3.out.2.2.trans (Touch.of_below HO.out.2.1)
        have HQ := Lib.hid tq
        clear tq
        go_wp2_with fail
        (with_reducible refine (sum_eq _ 1 1 [⟨a0, c0, key⟩] key _ (partsIn_one1 rfl (HIN.out.1.cells.touch HQ.out (fun _ _ _ h => h)) HIN.out.1.nil) (by simp [flatP]) rfl HIN.out.1.lt (by omega) (by decide)).mono ?_)
        rintro e w5 ⟨rfl, hb5⟩
        obtain ⟨lg, hlg⟩ : ∃ lg, lg = sha key := ⟨_, rfl⟩
        rw [← hlg]
        have hll : lg.length = 32 := by rw [hlg]; exact sha_len _
        have HLG : Hid (lg.length = 32 ∧ ((some ⟨w5.heap.size, 0, none⟩ : Option Addr) = none → 32 = 0) ∧ (∀ y ∈ lg, y < 256) ∧ hmac lg b = hmac key b) := Lib.hid ⟨hll, (fun h => by cases h), by rw [hlg]; exact sha_lt _, by rw [hlg]; exact hmac_congr (macKey_sha key h64) b⟩
        have HL2 := Lib.hid (And.intro (show (bn lg).toArray.size = 32 by rw [bn_size, hll]) (bn_all lg))
        have H5 := Lib.hid hb5
        clear hlg hll hb5
        go_wp2_with (refine wpList_store_blk rfl 24 (.tmp 13) (.tmp 63) rfl w5.heap.size 24 _ (bn lg).toArray rfl rfl (Blk.new _ _ _) (by rw [HL2.out.1]; first | done | kernel_rfl) (by rw [HL2.out.1]; first | done | kernel_rfl) HL2.out.2 ?_; intro w6 hB6 ht6 hs6; have tq6 : Touch (fun _ => False) wq w6 := Touch.then (S := fun _ => False) ((((Touch.refl _ wq).alloc _).trans (Touch.of_below H5.out)).alloc _) ht6 (fun i hi e => by have := H5.out.size; simp at this; omega); have HX := Lib.hid (And.intro hB6 tq6); clear hB6 ht6 hs6 tq6)
        have T36 : Touch (fun _ => False) w3 w6 := (Touch.of_below HO.out.2.1).trans HX.out.2
        have T06 : Touch (fun _ => False) w w6 := HQ.out.trans HX.out.2
        have H6 : Hid (SlAt w6 a0 (bn key) ∧ SlAt w6 a1 (bn b) ∧ SlAt w6 (some ⟨w5.heap.size, 0, none⟩) (bn lg) ∧ Blk w6 n9 24 (bn D).toArray) := Lib.hid ⟨HIN.out.1.cells.touch T06 (fun _ _ _ h => h), HIN.out.2.cells.touch T06 (fun _ _ _ h => h), SlAt.of_blk HX.out.1, by rw [HN9.out]; exact H3.out.1.touch T36 (fun h => h)⟩
        have HW : Hid (Touch (fun _ => False) w w6) := Lib.hid T06
        clear T06 T36
        refine wp_region_held_drew (S := fun w' : World => (Touch (fun _ => False) w6 w') ∧ (SlAt w' a0 (bn key)) ∧ (SlAt w' a1 (bn b)) ∧ (SlAt w' (some ⟨w5.heap.size, 0, none⟩) (bn lg)) ∧ (Blk w' n9 24 (bn D).toArray)) (by kernel_rfl) (⟨(Touch.refl (fun _ => False) w6).drew, H6.out.1.touch ((Touch.refl (fun _ => False) w6).drew) (fun _ _ _ h => h), H6.out.2.1.touch ((Touch.refl (fun _ => False) w6).drew) (fun _ _ _ h => h), H6.out.2.2.1.touch ((Touch.refl (fun _ => False) w6).drew) (fun _ _ _ h => h), H6.out.2.2.2.touch ((Touch.refl (fun _ => False) w6).drew) (fun h => h)⟩) (fun hHeld => ?_)
        refine anyH_world (R := fun w' : World => (Touch (fun _ => False) w6 w') ∧ (SlAt w' a0 (bn key)) ∧ (SlAt w' a1 (bn b)) ∧ (SlAt w' (some ⟨w5.heap.size, 0, none⟩) (bn lg)) ∧ (Blk w' n9 24 (bn D).toArray)) hHeld ?_
        clear hHeld
        intro W0qb hHeld
        refine region_take 0 (v := ?vqb0_1) rfl rfl (by kernel_rfl) (by kernel_rfl) (by kernel_rfl) (fun _ _ _ h => h) hHeld (Or.inl ⟨by rfl, ?yqb0_1⟩) ?rqb0_1
        case yqb0_1 => (intro w hSw; (try dsimp only at hSw); go_simp; try with_reducible rfl)
        try simp only [Act.put, List.setIfInBounds_toArray, List.set_cons_zero, List.set_cons_succ]
        refine region_take 1 (v := ?vqb1_2) rfl rfl (by kernel_rfl) (by kernel_rfl) (by kernel_rfl) (fun _ _ _ h => h) hHeld (Or.inl ⟨by rfl, ?yqb1_2⟩) ?rqb1_2
        case yqb1_2 => (intro w hSw; (try dsimp only at hSw); go_simp; try with_reducible rfl)
        try simp only [Act.put, List.setIfInBounds_toArray, List.set_cons_zero, List.set_cons_succ]
        refine region_take 2 (v := ?vqb2_3) rfl rfl (by kernel_rfl) (by kernel_rfl) (by kernel_rfl) (fun _ _ _ h => h) hHeld (Or.inl ⟨by rfl, ?yqb2_3⟩) ?rqb2_3
        case yqb2_3 => (intro w hSw; (try dsimp only at hSw); go_simp; try with_reducible rfl)
        try simp only [Act.put, List.setIfInBounds_toArray, List.set_cons_zero, List.set_cons_succ]
        refine region_take 3 (v := ?vqb3_4) rfl rfl (by kernel_rfl) (by kernel_rfl) (by kernel_rfl) (fun _ _ _ h => h) hHeld (Or.inl ⟨by rfl, ?yqb3_4⟩) ?rqb3_4
        case yqb3_4 => (intro w hSw; (try dsimp only at hSw); go_simp; try with_reducible rfl)
        try simp only [Act.put, List.setIfInBounds_toArray, List.set_cons_zero, List.set_cons_succ]
        refine region_take 4 (v := ?vqb4_5) rfl rfl (by kernel_rfl) (by kernel_rfl) (by kernel_rfl) (fun _ _ _ h => h) hHeld (Or.inl ⟨by rfl, ?yqb4_5⟩) ?rqb4_5
        case yqb4_5 => (intro w hSw; (try dsimp only at hSw); go_simp; try with_reducible rfl)
        try simp only [Act.put, List.setIfInBounds_toArray, List.set_cons_zero, List.set_cons_succ]
        refine region_take 5 (v := ?vqb5_6) rfl rfl (by kernel_rfl) (by kernel_rfl) (by kernel_rfl) (fun _ _ _ h => h) hHeld (Or.inl ⟨by rfl, ?yqb5_6⟩) ?rqb5_6
        case yqb5_6 => (intro w hSw; refine (yields_slice 22 (.tmp 68) none (some (.tmp 69)) rfl (.slice a1 b.length c1) none (some (.int .i64 (I : Int))) rfl rfl rfl (run_slice_h (h := I) Try.underlying22 hi hcl hIc)).trans ?_; with_reducible rfl)
        try simp only [Act.put, List.setIfInBounds_toArray, List.set_cons_zero, List.set_cons_succ]
        refine region_take 6 (v := ?vqb6_7) rfl rfl (by kernel_rfl) (by kernel_rfl) (by kernel_rfl) (fun _ _ _ h => h) hHeld (Or.inl ⟨by rfl, ?yqb6_7⟩) ?rqb6_7
        case yqb6_7 => (intro w hSw; (try dsimp only at hSw); go_simp; try with_reducible rfl)
        try simp only [Act.put, List.setIfInBounds_toArray, List.set_cons_zero, List.set_cons_succ]
        refine region_take 7 (v := ?vqb7_8) rfl rfl (by kernel_rfl) (by kernel_rfl) (by kernel_rfl) (fun _ _ _ h => h) hHeld (Or.inl ⟨by rfl, ?yqb7_8⟩) ?rqb7_8
        case yqb7_8 => (intro w hSw; (try dsimp only at hSw); go_simp; try with_reducible rfl)
        try simp only [Act.put, List.setIfInBounds_toArray, List.set_cons_zero, List.set_cons_succ]
        refine region_take 8 (v := ?vqb8_9) rfl rfl (by kernel_rfl) (by kernel_rfl) (by kernel_rfl) (fun _ _ _ h => h) hHeld (Or.inl ⟨by rfl, ?yqb8_9⟩) ?rqb8_9
        case yqb8_9 => (intro w hSw; refine (yields_slice 22 (.tmp 71) (some (.tmp 72)) none rfl (.slice a1 b.length c1) (some (.int .i64 (I : Int))) none rfl rfl rfl (run_slice_l (l := I) Try.underlying22 hi hcl hIn)).trans ?_; with_reducible rfl)
        try simp only [Act.put, List.setIfInBounds_toArray, List.set_cons_zero, List.set_cons_succ]
        refine region_take 11 (v := ?vqb11_10) rfl rfl (by kernel_rfl) (by kernel_rfl) (by kernel_rfl) (fun _ _ _ h => h) hHeld (Or.inl ⟨by rfl, ?yqb11_10⟩) ?rqb11_10
        case yqb11_10 => (intro w hSw; refine (yields_load_blk 24 (.tmp 10) rfl n9 24 (bn D).toArray _ rfl (hSw.2.2.2.2) Try.underlying24 rfl (by rw [HD.out.2.1]; first | done | kernel_rfl)).trans ?_; with_reducible rfl)
        try simp only [Act.put, List.setIfInBounds_toArray, List.set_cons_zero, List.set_cons_succ]
        refine region_one 9 (by kernel_rfl) rfl (fun K hK => ?_)
        go_simp
        refine K_world (fun w' : World => (Touch (fun _ => False) W0qb w') ∧ (PartsIn w' (some ⟨W0qb.heap.size, 0, none⟩) [⟨slAd a1 c1 0, c1, b.take I⟩, ⟨none, 0, []⟩, ⟨slAd a1 c1 I, c1 - I, b.drop I⟩])) ⟨(Touch.refl _ _).alloc _, partsIn_cut rfl (hHeld.2.2.1) HIN.out.2.nil hbc hIn⟩ ?_
        intro uqb_11 hx
        have htqb_11 := Lib.hid (hx.1)
        refine hK.out _ _ (⟨(((hHeld.1)).trans htqb_11.out), (((hHeld.2.1)).touch htqb_11.out (fun _ _ _ h => h)), (((hHeld.2.2.1)).touch htqb_11.out (fun _ _ _ h => h)), (((hHeld.2.2.2.1)).touch htqb_11.out (fun _ _ _ h => h)), (((hHeld.2.2.2.2)).touch htqb_11.out (fun h => h))⟩) (fun hHeld2 => ?_)
        have hn_p1 := Lib.hid (hx.2)
        clear hK K hHeld
        have hHeld := hHeld2
        clear hHeld2
        try simp only [Act.put, List.setIfInBounds_toArray, List.set_cons_zero, List.set_cons_succ]
        refine region_more (S' := fun w' : World => (Touch (fun _ => False) w6 w') ∧ (SlAt w' a0 (bn key)) ∧ (SlAt w' a1 (bn b)) ∧ (SlAt w' (some ⟨w5.heap.size, 0, none⟩) (bn lg)) ∧ (Blk w' n9 24 (bn D).toArray) ∧ (PartsIn w' (some ⟨W0qb.heap.size, 0, none⟩) [⟨slAd a1 c1 0, c1, b.take I⟩, ⟨none, 0, []⟩, ⟨slAd a1 c1 I, c1 - I, b.drop I⟩])) (fun _ h => ⟨(h.1), (h.2.1), (h.2.2.1), (h.2.2.2.1), (h.2.2.2.2.1)⟩) _ _ _ _ ?_
        have hHeld3 := hHeld
        clear hHeld
        have hHeld := (And.intro (hHeld3.1) (And.intro (hHeld3.2.1) (And.intro (hHeld3.2.2.1) (And.intro (hHeld3.2.2.2.1) (And.intro (hHeld3.2.2.2.2) (hn_p1.out))))))
        clear hHeld3 hn_p1
        refine anyH_world (R := fun w' : World => (Touch (fun _ => False) w6 w') ∧ (SlAt w' a0 (bn key)) ∧ (SlAt w' a1 (bn b)) ∧ (SlAt w' (some ⟨w5.heap.size, 0, none⟩) (bn lg)) ∧ (Blk w' n9 24 (bn D).toArray) ∧ (PartsIn w' (some ⟨W0qb.heap.size, 0, none⟩) [⟨slAd a1 c1 0, c1, b.take I⟩, ⟨none, 0, []⟩, ⟨slAd a1 c1 I, c1 - I, b.drop I⟩])) hHeld ?_
        clear hHeld
        intro Wqb_11 hHeld
        refine region_one 10 (by kernel_rfl) rfl (fun K hK => ?_)
        go_simp
        go_at_call 15
        (with_reducible refine (macOf_eq a0 key.length c0 key _ 3 3 [⟨slAd a1 c1 0, c1, b.take I⟩, ⟨none, 0, []⟩, ⟨slAd a1 c1 I, c1 - I, b.drop I⟩] b _ rfl HFL.out.1 rfl (hHeld.2.1) HIN.out.1.nil HIN.out.1.lt (by omega) (hHeld.2.2.2.2.2) (fun h => by cases h) HIN.out.2.lt (by omega) (by decide)).mono ?_)
        rintro e uqb_12 ⟨rfl, hbx⟩
        rw [← HD.out.1]
        have htqb_12 := Lib.hid (Touch.of_below (S := fun _ => False) hbx)
        refine hK.out _ _ (⟨(((hHeld.1)).trans htqb_12.out), (((hHeld.2.1)).touch htqb_12.out (fun _ _ _ h => h)), (((hHeld.2.2.1)).touch htqb_12.out (fun _ _ _ h => h)), (((hHeld.2.2.2.1)).touch htqb_12.out (fun _ _ _ h => h)), (((hHeld.2.2.2.2.1)).touch htqb_12.out (fun h => h)), (((hHeld.2.2.2.2.2)).touch htqb_12.out (fun _ _ _ h => h) (fun _ _ _ _ _ h => h))⟩) (fun hHeld2 => ?_)
        clear hK K hHeld
        have hHeld := hHeld2
        clear hHeld2
        try simp only [Act.put, List.setIfInBounds_toArray, List.set_cons_zero, List.set_cons_succ]
        refine anyH_world (R := fun w' : World => (Touch (fun _ => False) w6 w') ∧ (SlAt w' a0 (bn key)) ∧ (SlAt w' a1 (bn b)) ∧ (SlAt w' (some ⟨w5.heap.size, 0, none⟩) (bn lg)) ∧ (Blk w' n9 24 (bn D).toArray) ∧ (PartsIn w' (some ⟨W0qb.heap.size, 0, none⟩) [⟨slAd a1 c1 0, c1, b.take I⟩, ⟨none, 0, []⟩, ⟨slAd a1 c1 I, c1 - I, b.drop I⟩])) hHeld ?_
        clear hHeld
        intro Wqb_12 hHeld
        refine region_take 12 (v := ?vqb12_13) rfl rfl (by kernel_rfl) (by kernel_rfl) (by kernel_rfl) (fun _ _ _ h => h) hHeld (Or.inl ⟨by rfl, ?yqb12_13⟩) ?rqb12_13
        case yqb12_13 => (intro w hSw; (try dsimp only at hSw); go_simp; try with_reducible rfl)
        try simp only [Act.put, List.setIfInBounds_toArray, List.set_cons_zero, List.set_cons_succ]
        refine region_take 13 (v := ?vqb13_14) rfl rfl (by kernel_rfl) (by kernel_rfl) (by kernel_rfl) (fun _ _ _ h => h) hHeld (Or.inl ⟨by rfl, ?yqb13_14⟩) ?rqb13_14
        case yqb13_14 => (intro w hSw; (try dsimp only at hSw); go_simp; try with_reducible rfl)
        try simp only [Act.put, List.setIfInBounds_toArray, List.set_cons_zero, List.set_cons_succ]
        refine region_take 14 (v := ?vqb14_15) rfl rfl (by kernel_rfl) (by kernel_rfl) (by kernel_rfl) (fun _ _ _ h => h) hHeld (Or.inl ⟨by rfl, ?yqb14_15⟩) ?rqb14_15
        case yqb14_15 => (intro w hSw; (try dsimp only at hSw); go_simp; try with_reducible rfl)
        try simp only [Act.put, List.setIfInBounds_toArray, List.set_cons_zero, List.set_cons_succ]
        refine region_take 15 (v := ?vqb15_16) rfl rfl (by kernel_rfl) (by kernel_rfl) (by kernel_rfl) (fun _ _ _ h => h) hHeld (Or.inl ⟨by rfl, ?yqb15_16⟩) ?rqb15_16
        case yqb15_16 => (intro w hSw; (try dsimp only at hSw); go_simp; try with_reducible rfl)
        try simp only [Act.put, List.setIfInBounds_toArray, List.set_cons_zero, List.set_cons_succ]
        refine region_take 16 (v := ?vqb16_17) rfl rfl (by kernel_rfl) (by kernel_rfl) (by kernel_rfl) (fun _ _ _ h => h) hHeld (Or.inl ⟨by rfl, ?yqb16_17⟩) ?rqb16_17
        case yqb16_17 => (intro w hSw; (try dsimp only at hSw); go_simp; try with_reducible rfl)
        try simp only [Act.put, List.setIfInBounds_toArray, List.set_cons_zero, List.set_cons_succ]
        refine region_take 19 (v := ?vqb19_18) rfl rfl (by kernel_rfl) (by kernel_rfl) (by kernel_rfl) (fun _ _ _ h => h) hHeld (Or.inl ⟨by rfl, ?yqb19_18⟩) ?rqb19_18
        case yqb19_18 => (intro w hSw; refine (yields_load_blk 24 (.tmp 10) rfl n9 24 (bn D).toArray _ rfl (hSw.2.2.2.2.1) Try.underlying24 rfl (by rw [HD.out.2.1]; first | done | kernel_rfl)).trans ?_; with_reducible rfl)
        try simp only [Act.put, List.setIfInBounds_toArray, List.set_cons_zero, List.set_cons_succ]
        refine region_one 17 (by kernel_rfl) rfl (fun K hK => ?_)
        go_simp
        refine K_world (fun w' : World => (Touch (fun _ => False) Wqb_12 w') ∧ (PartsIn w' (some ⟨Wqb_12.heap.size, 0, none⟩) [⟨a1, c1, b⟩])) ⟨(Touch.refl _ _).alloc _, partsIn_one1 rfl (hHeld.2.2.1) HIN.out.2.nil⟩ ?_
        intro uqb_19 hx
        have htqb_19 := Lib.hid (hx.1)
        refine hK.out _ _ (⟨(((hHeld.1)).trans htqb_19.out), (((hHeld.2.1)).touch htqb_19.out (fun _ _ _ h => h)), (((hHeld.2.2.1)).touch htqb_19.out (fun _ _ _ h => h)), (((hHeld.2.2.2.1)).touch htqb_19.out (fun _ _ _ h => h)), (((hHeld.2.2.2.2.1)).touch htqb_19.out (fun h => h)), (((hHeld.2.2.2.2.2)).touch htqb_19.out (fun _ _ _ h => h) (fun _ _ _ _ _ h => h))⟩) (fun hHeld2 => ?_)
        have hn_p2 := Lib.hid (hx.2)
        clear hK K hHeld
        have hHeld := hHeld2
        clear hHeld2
        try simp only [Act.put, List.setIfInBounds_toArray, List.set_cons_zero, List.set_cons_succ]
        refine region_more (S' := fun w' : World => (Touch (fun _ => False) w6 w') ∧ (SlAt w' a0 (bn key)) ∧ (SlAt w' a1 (bn b)) ∧ (SlAt w' (some ⟨w5.heap.size, 0, none⟩) (bn lg)) ∧ (Blk w' n9 24 (bn D).toArray) ∧ (PartsIn w' (some ⟨W0qb.heap.size, 0, none⟩) [⟨slAd a1 c1 0, c1, b.take I⟩, ⟨none, 0, []⟩, ⟨slAd a1 c1 I, c1 - I, b.drop I⟩]) ∧ (PartsIn w' (some ⟨Wqb_12.heap.size, 0, none⟩) [⟨a1, c1, b⟩])) (fun _ h => ⟨(h.1), (h.2.1), (h.2.2.1), (h.2.2.2.1), (h.2.2.2.2.1), (h.2.2.2.2.2.1)⟩) _ _ _ _ ?_
        have hHeld3 := hHeld
        clear hHeld
        have hHeld := (And.intro (hHeld3.1) (And.intro (hHeld3.2.1) (And.intro (hHeld3.2.2.1) (And.intro (hHeld3.2.2.2.1) (And.intro (hHeld3.2.2.2.2.1) (And.intro (hHeld3.2.2.2.2.2) (hn_p2.out)))))))
        clear hHeld3 hn_p2
        refine anyH_world (R := fun w' : World => (Touch (fun _ => False) w6 w') ∧ (SlAt w' a0 (bn key)) ∧ (SlAt w' a1 (bn b)) ∧ (SlAt w' (some ⟨w5.heap.size, 0, none⟩) (bn lg)) ∧ (Blk w' n9 24 (bn D).toArray) ∧ (PartsIn w' (some ⟨W0qb.heap.size, 0, none⟩) [⟨slAd a1 c1 0, c1, b.take I⟩, ⟨none, 0, []⟩, ⟨slAd a1 c1 I, c1 - I, b.drop I⟩]) ∧ (PartsIn w' (some ⟨Wqb_12.heap.size, 0, none⟩) [⟨a1, c1, b⟩])) hHeld ?_
        clear hHeld
        intro Wqb_19 hHeld
        refine region_one 18 (by kernel_rfl) rfl (fun K hK => ?_)
        go_simp
        go_at_call 15
        (with_reducible refine (macOf_eq (some ⟨w5.heap.size, 0, none⟩) (32) 32 lg _ 1 1 [⟨a1, c1, b⟩] b _ HLG.out.1 HFL.out.2 rfl (hHeld.2.2.2.1) HLG.out.2.1 HLG.out.2.2.1 (by omega) (hHeld.2.2.2.2.2.2) (fun h => by cases h) HIN.out.2.lt (by omega) (by decide)).mono ?_)
        rintro e uqb_20 ⟨rfl, hbx⟩
        rw [HLG.out.2.2.2, ← HD.out.1]
        have htqb_20 := Lib.hid (Touch.of_below (S := fun _ => False) hbx)
        refine hK.out _ _ (⟨(((hHeld.1)).trans htqb_20.out), (((hHeld.2.1)).touch htqb_20.out (fun _ _ _ h => h)), (((hHeld.2.2.1)).touch htqb_20.out (fun _ _ _ h => h)), (((hHeld.2.2.2.1)).touch htqb_20.out (fun _ _ _ h => h)), (((hHeld.2.2.2.2.1)).touch htqb_20.out (fun h => h)), (((hHeld.2.2.2.2.2.1)).touch htqb_20.out (fun _ _ _ h => h) (fun _ _ _ _ _ h => h)), (((hHeld.2.2.2.2.2.2)).touch htqb_20.out (fun _ _ _ h => h) (fun _ _ _ _ _ h => h))⟩) (fun hHeld2 => ?_)
        clear hK K hHeld
        have hHeld := hHeld2
        clear hHeld2
        try simp only [Act.put, List.setIfInBounds_toArray, List.set_cons_zero, List.set_cons_succ]
        refine anyH_world (R := fun w' : World => (Touch (fun _ => False) w6 w') ∧ (SlAt w' a0 (bn key)) ∧ (SlAt w' a1 (bn b)) ∧ (SlAt w' (some ⟨w5.heap.size, 0, none⟩) (bn lg)) ∧ (Blk w' n9 24 (bn D).toArray) ∧ (PartsIn w' (some ⟨W0qb.heap.size, 0, none⟩) [⟨slAd a1 c1 0, c1, b.take I⟩, ⟨none, 0, []⟩, ⟨slAd a1 c1 I, c1 - I, b.drop I⟩]) ∧ (PartsIn w' (some ⟨Wqb_12.heap.size, 0, none⟩) [⟨a1, c1, b⟩])) hHeld ?_
        clear hHeld
        intro Wqb_20 hHeld
        refine region_take 20 (v := ?vqb20_21) rfl rfl (by kernel_rfl) (by kernel_rfl) (by kernel_rfl) (fun _ _ _ h => h) hHeld (Or.inl ⟨by rfl, ?yqb20_21⟩) ?rqb20_21
        case yqb20_21 => (intro w hSw; (try dsimp only at hSw); go_simp; try with_reducible rfl)
        try simp only [Act.put, List.setIfInBounds_toArray, List.set_cons_zero, List.set_cons_succ]
        refine region_take 21 (v := ?vqb21_22) rfl rfl (by kernel_rfl) (by kernel_rfl) (by kernel_rfl) (fun _ _ _ h => h) hHeld (Or.inl ⟨by rfl, ?yqb21_22⟩) ?rqb21_22
        case yqb21_22 => (intro w hSw; (try dsimp only at hSw); go_simp; try with_reducible rfl)
        try simp only [Act.put, List.setIfInBounds_toArray, List.set_cons_zero, List.set_cons_succ]
        refine region_take 22 (v := ?vqb22_23) rfl rfl (by kernel_rfl) (by kernel_rfl) (by kernel_rfl) (fun _ _ _ h => h) hHeld (Or.inl ⟨by rfl, ?yqb22_23⟩) ?rqb22_23
        case yqb22_23 => (intro w hSw; (try dsimp only at hSw); go_simp; try with_reducible rfl)
        try simp only [Act.put, List.setIfInBounds_toArray, List.set_cons_zero, List.set_cons_succ]
        refine wpAnyH_done (by kernel_rfl) ?_ _
        go_wp2_with fail
        go_ret
        exact ⟨rfl, (HW.out.trans (hHeld.1)).below (Nat.le_refl _) (fun _ _ h => h)⟩
      · have h64I : (key.length : Int) ≤ 64 := by omega
        have h64b : key.length + z ≤ 64 := by omega
        obtain ⟨w6, rfl⟩ : ∃ w6, w6 = wr := ⟨wr, rfl⟩
        obtain ⟨lg, hlg⟩ : ∃ lg, lg = key ++ List.replicate z 0 := ⟨_, rfl⟩
        have HLG : Hid (lg.length = key.length + z ∧ (aL = none → cL = 0) ∧ (∀ y ∈ lg, y < 256) ∧ hmac lg b = hmac key b) := Lib.hid ⟨by rw [hlg]; simp, HO.out.2.2, (fun y hy => by
          rw [hlg] at hy
          rcases List.mem_append.1 hy with h | h
          · exact HIN.out.1.lt y h
          · rw [List.eq_of_mem_replicate h]; omega), by rw [hlg]; exact hmac_congr (macKey_pad key z h64b) b⟩
        have T36 : Touch (fun _ => False) w3 w6 := Touch.of_below HO.out.2.1
        have T06 : Touch (fun _ => False) w w6 := H3.out.2.2.trans T36
        have hsL : SlAt w6 aL (bn lg) := by rw [hlg]; exact SlAt.of_owns HO.out.1
        have H6 : Hid (SlAt w6 a0 (bn key) ∧ SlAt w6 a1 (bn b) ∧ SlAt w6 aL (bn lg) ∧ Blk w6 n9 24 (bn D).toArray) := Lib.hid ⟨HIN.out.1.cells.touch T06 (fun _ _ _ h => h), HIN.out.2.cells.touch T06 (fun _ _ _ h => h), hsL, by rw [HN9.out]; exact H3.out.1.touch T36 (fun h => h)⟩
        have HW : Hid (Touch (fun _ => False) w w6) := Lib.hid T06
        clear T06 T36
        clear hlg hsL hz64
        go_wp2_with fail
        refine wp_region_held_drew (S := fun w' : World => (Touch (fun _ => False) w6 w') ∧ (SlAt w' a0 (bn key)) ∧ (SlAt w' a1 (bn b)) ∧ (SlAt w' aL (bn lg)) ∧ (Blk w' n9 24 (bn D).toArray)) (by kernel_rfl) (⟨(Touch.refl (fun _ => False) w6).drew, H6.out.1.touch ((Touch.refl (fun _ => False) w6).drew) (fun _ _ _ h => h), H6.out.2.1.touch ((Touch.refl (fun _ => False) w6).drew) (fun _ _ _ h => h), H6.out.2.2.1.touch ((Touch.refl (fun _ => False) w6).drew) (fun _ _ _ h => h), H6.out.2.2.2.touch ((Touch.refl (fun _ => False) w6).drew) (fun h => h)⟩) (fun hHeld => ?_)
        refine anyH_world (R := fun w' : World => (Touch (fun _ => False) w6 w') ∧ (SlAt w' a0 (bn key)) ∧ (SlAt w' a1 (bn b)) ∧ (SlAt w' aL (bn lg)) ∧ (Blk w' n9 24 (bn D).toArray)) hHeld ?_
        clear hHeld
        intro W0sb hHeld
        refine region_take 0 (v := ?vsb0_1) rfl rfl (by kernel_rfl) (by kernel_rfl) (by kernel_rfl) (fun _ _ _ h => h) hHeld (Or.inl ⟨by rfl, ?ysb0_1⟩) ?rsb0_1
        case ysb0_1 => (intro w hSw; (try dsimp only at hSw); go_simp; try with_reducible rfl)
        try simp only [Act.put, List.setIfInBounds_toArray, List.set_cons_zero, List.set_cons_succ]
        refine region_take 1 (v := ?vsb1_2) rfl rfl (by kernel_rfl) (by kernel_rfl) (by kernel_rfl) (fun _ _ _ h => h) hHeld (Or.inl ⟨by rfl, ?ysb1_2⟩) ?rsb1_2
        case ysb1_2 => (intro w hSw; (try dsimp only at hSw); go_simp; try with_reducible rfl)
        try simp only [Act.put, List.setIfInBounds_toArray, List.set_cons_zero, List.set_cons_succ]
        refine region_take 2 (v := ?vsb2_3) rfl rfl (by kernel_rfl) (by kernel_rfl) (by kernel_rfl) (fun _ _ _ h => h) hHeld (Or.inl ⟨by rfl, ?ysb2_3⟩) ?rsb2_3
        case ysb2_3 => (intro w hSw; (try dsimp only at hSw); go_simp; try with_reducible rfl)
        try simp only [Act.put, List.setIfInBounds_toArray, List.set_cons_zero, List.set_cons_succ]
        refine region_take 3 (v := ?vsb3_4) rfl rfl (by kernel_rfl) (by kernel_rfl) (by kernel_rfl) (fun _ _ _ h => h) hHeld (Or.inl ⟨by rfl, ?ysb3_4⟩) ?rsb3_4
        case ysb3_4 => (intro w hSw; (try dsimp only at hSw); go_simp; try with_reducible rfl)
        try simp only [Act.put, List.setIfInBounds_toArray, List.set_cons_zero, List.set_cons_succ]
        refine region_take 4 (v := ?vsb4_5) rfl rfl (by kernel_rfl) (by kernel_rfl) (by kernel_rfl) (fun _ _ _ h => h) hHeld (Or.inl ⟨by rfl, ?ysb4_5⟩) ?rsb4_5
        case ysb4_5 => (intro w hSw; (try dsimp only at hSw); go_simp; try with_reducible rfl)
        try simp only [Act.put, List.setIfInBounds_toArray, List.set_cons_zero, List.set_cons_succ]
        refine region_take 5 (v := ?vsb5_6) rfl rfl (by kernel_rfl) (by kernel_rfl) (by kernel_rfl) (fun _ _ _ h => h) hHeld (Or.inl ⟨by rfl, ?ysb5_6⟩) ?rsb5_6
        case ysb5_6 => (intro w hSw; refine (yields_slice 22 (.tmp 68) none (some (.tmp 69)) rfl (.slice a1 b.length c1) none (some (.int .i64 (I : Int))) rfl rfl rfl (run_slice_h (h := I) Try.underlying22 hi hcl hIc)).trans ?_; with_reducible rfl)
        try simp only [Act.put, List.setIfInBounds_toArray, List.set_cons_zero, List.set_cons_succ]
        refine region_take 6 (v := ?vsb6_7) rfl rfl (by kernel_rfl) (by kernel_rfl) (by kernel_rfl) (fun _ _ _ h => h) hHeld (Or.inl ⟨by rfl, ?ysb6_7⟩) ?rsb6_7
        case ysb6_7 => (intro w hSw; (try dsimp only at hSw); go_simp; try with_reducible rfl)
        try simp only [Act.put, List.setIfInBounds_toArray, List.set_cons_zero, List.set_cons_succ]
        refine region_take 7 (v := ?vsb7_8) rfl rfl (by kernel_rfl) (by kernel_rfl) (by kernel_rfl) (fun _ _ _ h => h) hHeld (Or.inl ⟨by rfl, ?ysb7_8⟩) ?rsb7_8
        case ysb7_8 => (intro w hSw; (try dsimp only at hSw); go_simp; try with_reducible rfl)
        try simp only [Act.put, List.setIfInBounds_toArray, List.set_cons_zero, List.set_cons_succ]
        refine region_take 8 (v := ?vsb8_9) rfl rfl (by kernel_rfl) (by kernel_rfl) (by kernel_rfl) (fun _ _ _ h => h) hHeld (Or.inl ⟨by rfl, ?ysb8_9⟩) ?rsb8_9
        case ysb8_9 => (intro w hSw; refine (yields_slice 22 (.tmp 71) (some (.tmp 72)) none rfl (.slice a1 b.length c1) (some (.int .i64 (I : Int))) none rfl rfl rfl (run_slice_l (l := I) Try.underlying22 hi hcl hIn)).trans ?_; with_reducible rfl)
        try simp only [Act.put, List.setIfInBounds_toArray, List.set_cons_zero, List.set_cons_succ]
        refine region_take 11 (v := ?vsb11_10) rfl rfl (by kernel_rfl) (by kernel_rfl) (by kernel_rfl) (fun _ _ _ h => h) hHeld (Or.inl ⟨by rfl, ?ysb11_10⟩) ?rsb11_10
        case ysb11_10 => (intro w hSw; refine (yields_load_blk 24 (.tmp 10) rfl n9 24 (bn D).toArray _ rfl (hSw.2.2.2.2) Try.underlying24 rfl (by rw [HD.out.2.1]; first | done | kernel_rfl)).trans ?_; with_reducible rfl)
        try simp only [Act.put, List.setIfInBounds_toArray, List.set_cons_zero, List.set_cons_succ]
        refine region_one 9 (by kernel_rfl) rfl (fun K hK => ?_)
        go_simp
        refine K_world (fun w' : World => (Touch (fun _ => False) W0sb w') ∧ (PartsIn w' (some ⟨W0sb.heap.size, 0, none⟩) [⟨slAd a1 c1 0, c1, b.take I⟩, ⟨none, 0, []⟩, ⟨slAd a1 c1 I, c1 - I, b.drop I⟩])) ⟨(Touch.refl _ _).alloc _, partsIn_cut rfl (hHeld.2.2.1) HIN.out.2.nil hbc hIn⟩ ?_
        intro usb_11 hx
        have htsb_11 := Lib.hid (hx.1)
        refine hK.out _ _ (⟨(((hHeld.1)).trans htsb_11.out), (((hHeld.2.1)).touch htsb_11.out (fun _ _ _ h => h)), (((hHeld.2.2.1)).touch htsb_11.out (fun _ _ _ h => h)), (((hHeld.2.2.2.1)).touch htsb_11.out (fun _ _ _ h => h)), (((hHeld.2.2.2.2)).touch htsb_11.out (fun h => h))⟩) (fun hHeld2 => ?_)
        have hn_p1 := Lib.hid (hx.2)
        clear hK K hHeld
        have hHeld := hHeld2
        clear hHeld2
        try simp only [Act.put, List.setIfInBounds_toArray, List.set_cons_zero, List.set_cons_succ]
        refine region_more (S' := fun w' : World => (Touch (fun _ => False) w6 w') ∧ (SlAt w' a0 (bn key)) ∧ (SlAt w' a1 (bn b)) ∧ (SlAt w' aL (bn lg)) ∧ (Blk w' n9 24 (bn D).toArray) ∧ (PartsIn w' (some ⟨W0sb.heap.size, 0, none⟩) [⟨slAd a1 c1 0, c1, b.take I⟩, ⟨none, 0, []⟩, ⟨slAd a1 c1 I, c1 - I, b.drop I⟩])) (fun _ h => ⟨(h.1), (h.2.1), (h.2.2.1), (h.2.2.2.1), (h.2.2.2.2.1)⟩) _ _ _ _ ?_
        have hHeld3 := hHeld
        clear hHeld
        have hHeld := (And.intro (hHeld3.1) (And.intro (hHeld3.2.1) (And.intro (hHeld3.2.2.1) (And.intro (hHeld3.2.2.2.1) (And.intro (hHeld3.2.2.2.2) (hn_p1.out))))))
        clear hHeld3 hn_p1
        refine anyH_world (R := fun w' : World => (Touch (fun _ => False) w6 w') ∧ (SlAt w' a0 (bn key)) ∧ (SlAt w' a1 (bn b)) ∧ (SlAt w' aL (bn lg)) ∧ (Blk w' n9 24 (bn D).toArray) ∧ (PartsIn w' (some ⟨W0sb.heap.size, 0, none⟩) [⟨slAd a1 c1 0, c1, b.take I⟩, ⟨none, 0, []⟩, ⟨slAd a1 c1 I, c1 - I, b.drop I⟩])) hHeld ?_
        clear hHeld
        intro Wsb_11 hHeld
        refine region_one 10 (by kernel_rfl) rfl (fun K hK => ?_)
        go_simp
        go_at_call 15
        (with_reducible refine (macOf_eq a0 key.length c0 key _ 3 3 [⟨slAd a1 c1 0, c1, b.take I⟩, ⟨none, 0, []⟩, ⟨slAd a1 c1 I, c1 - I, b.drop I⟩] b _ rfl HFL.out.1 rfl (hHeld.2.1) HIN.out.1.nil HIN.out.1.lt (by omega) (hHeld.2.2.2.2.2) (fun h => by cases h) HIN.out.2.lt (by omega) (by decide)).mono ?_)
        rintro e usb_12 ⟨rfl, hbx⟩
        rw [← HD.out.1]
        have htsb_12 := Lib.hid (Touch.of_below (S := fun _ => False) hbx)
        refine hK.out _ _ (⟨(((hHeld.1)).trans htsb_12.out), (((hHeld.2.1)).touch htsb_12.out (fun _ _ _ h => h)), (((hHeld.2.2.1)).touch htsb_12.out (fun _ _ _ h => h)), (((hHeld.2.2.2.1)).touch htsb_12.out (fun _ _ _ h => h)), (((hHeld.2.2.2.2.1)).touch htsb_12.out (fun h => h)), (((hHeld.2.2.2.2.2)).touch htsb_12.out (fun _ _ _ h => h) (fun _ _ _ _ _ h => h))⟩) (fun hHeld2 => ?_)
        clear hK K hHeld
        have hHeld := hHeld2
        clear hHeld2
        try simp only [Act.put, List.setIfInBounds_toArray, List.set_cons_zero, List.set_cons_succ]
        refine anyH_world (R := fun w' : World => (Touch (fun _ => False) w6 w') ∧ (SlAt w' a0 (bn key)) ∧ (SlAt w' a1 (bn b)) ∧ (SlAt w' aL (bn lg)) ∧ (Blk w' n9 24 (bn D).toArray) ∧ (PartsIn w' (some ⟨W0sb.heap.size, 0, none⟩) [⟨slAd a1 c1 0, c1, b.take I⟩, ⟨none, 0, []⟩, ⟨slAd a1 c1 I, c1 - I, b.drop I⟩])) hHeld ?_
        clear hHeld
        intro Wsb_12 hHeld
        refine region_take 12 (v := ?vsb12_13) rfl rfl (by kernel_rfl) (by kernel_rfl) (by kernel_rfl) (fun _ _ _ h => h) hHeld (Or.inl ⟨by rfl, ?ysb12_13⟩) ?rsb12_13
        case ysb12_13 => (intro w hSw; (try dsimp only at hSw); go_simp; try with_reducible rfl)
        try simp only [Act.put, List.setIfInBounds_toArray, List.set_cons_zero, List.set_cons_succ]
        refine region_take 13 (v := ?vsb13_14) rfl rfl (by kernel_rfl) (by kernel_rfl) (by kernel_rfl) (fun _ _ _ h => h) hHeld (Or.inl ⟨by rfl, ?ysb13_14⟩) ?rsb13_14
        case ysb13_14 => (intro w hSw; (try dsimp only at hSw); go_simp; try with_reducible rfl)
        try simp only [Act.put, List.setIfInBounds_toArray, List.set_cons_zero, List.set_cons_succ]
        refine region_take 14 (v := ?vsb14_15) rfl rfl (by kernel_rfl) (by kernel_rfl) (by kernel_rfl) (fun _ _ _ h => h) hHeld (Or.inl ⟨by rfl, ?ysb14_15⟩) ?rsb14_15
        case ysb14_15 => (intro w hSw; (try dsimp only at hSw); go_simp; try with_reducible rfl)
        try simp only [Act.put, List.setIfInBounds_toArray, List.set_cons_zero, List.set_cons_succ]
        refine region_take 15 (v := ?vsb15_16) rfl rfl (by kernel_rfl) (by kernel_rfl) (by kernel_rfl) (fun _ _ _ h => h) hHeld (Or.inl ⟨by rfl, ?ysb15_16⟩) ?rsb15_16
        case ysb15_16 => (intro w hSw; (try dsimp only at hSw); go_simp; try with_reducible rfl)
        try simp only [Act.put, List.setIfInBounds_toArray, List.set_cons_zero, List.set_cons_succ]
        refine region_take 16 (v := ?vsb16_17) rfl rfl (by kernel_rfl) (by kernel_rfl) (by kernel_rfl) (fun _ _ _ h => h) hHeld (Or.inl ⟨by rfl, ?ysb16_17⟩) ?rsb16_17
        case ysb16_17 => (intro w hSw; (try dsimp only at hSw); go_simp; try with_reducible rfl)
        try simp only [Act.put, List.setIfInBounds_toArray, List.set_cons_zero, List.set_cons_succ]
        refine region_take 19 (v := ?vsb19_18) rfl rfl (by kernel_rfl) (by kernel_rfl) (by kernel_rfl) (fun _ _ _ h => h) hHeld (Or.inl ⟨by rfl, ?ysb19_18⟩) ?rsb19_18
        case ysb19_18 => (intro w hSw; refine (yields_load_blk 24 (.tmp 10) rfl n9 24 (bn D).toArray _ rfl (hSw.2.2.2.2.1) Try.underlying24 rfl (by rw [HD.out.2.1]; first | done | kernel_rfl)).trans ?_; with_reducible rfl)
        try simp only [Act.put, List.setIfInBounds_toArray, List.set_cons_zero, List.set_cons_succ]
        refine region_one 17 (by kernel_rfl) rfl (fun K hK => ?_)
        go_simp
        refine K_world (fun w' : World => (Touch (fun _ => False) Wsb_12 w') ∧ (PartsIn w' (some ⟨Wsb_12.heap.size, 0, none⟩) [⟨a1, c1, b⟩])) ⟨(Touch.refl _ _).alloc _, partsIn_one1 rfl (hHeld.2.2.1) HIN.out.2.nil⟩ ?_
        intro usb_19 hx
        have htsb_19 := Lib.hid (hx.1)
        refine hK.out _ _ (⟨(((hHeld.1)).trans htsb_19.out), (((hHeld.2.1)).touch htsb_19.out (fun _ _ _ h => h)), (((hHeld.2.2.1)).touch htsb_19.out (fun _ _ _ h => h)), (((hHeld.2.2.2.1)).touch htsb_19.out (fun _ _ _ h => h)), (((hHeld.2.2.2.2.1)).touch htsb_19.out (fun h => h)), (((hHeld.2.2.2.2.2)).touch htsb_19.out (fun _ _ _ h => h) (fun _ _ _ _ _ h => h))⟩) (fun hHeld2 => ?_)
        have hn_p2 := Lib.hid (hx.2)
        clear hK K hHeld
        have hHeld := hHeld2
        clear hHeld2
        try simp only [Act.put, List.setIfInBounds_toArray, List.set_cons_zero, List.set_cons_succ]
        refine region_more (S' := fun w' : World => (Touch (fun _ => False) w6 w') ∧ (SlAt w' a0 (bn key)) ∧ (SlAt w' a1 (bn b)) ∧ (SlAt w' aL (bn lg)) ∧ (Blk w' n9 24 (bn D).toArray) ∧ (PartsIn w' (some ⟨W0sb.heap.size, 0, none⟩) [⟨slAd a1 c1 0, c1, b.take I⟩, ⟨none, 0, []⟩, ⟨slAd a1 c1 I, c1 - I, b.drop I⟩]) ∧ (PartsIn w' (some ⟨Wsb_12.heap.size, 0, none⟩) [⟨a1, c1, b⟩])) (fun _ h => ⟨(h.1), (h.2.1), (h.2.2.1), (h.2.2.2.1), (h.2.2.2.2.1), (h.2.2.2.2.2.1)⟩) _ _ _ _ ?_
        have hHeld3 := hHeld
        clear hHeld
        have hHeld := (And.intro (hHeld3.1) (And.intro (hHeld3.2.1) (And.intro (hHeld3.2.2.1) (And.intro (hHeld3.2.2.2.1) (And.intro (hHeld3.2.2.2.2.1) (And.intro (hHeld3.2.2.2.2.2) (hn_p2.out)))))))
        clear hHeld3 hn_p2
        refine anyH_world (R := fun w' : World => (Touch (fun _ => False) w6 w') ∧ (SlAt w' a0 (bn key)) ∧ (SlAt w' a1 (bn b)) ∧ (SlAt w' aL (bn lg)) ∧ (Blk w' n9 24 (bn D).toArray) ∧ (PartsIn w' (some ⟨W0sb.heap.size, 0, none⟩) [⟨slAd a1 c1 0, c1, b.take I⟩, ⟨none, 0, []⟩, ⟨slAd a1 c1 I, c1 - I, b.drop I⟩]) ∧ (PartsIn w' (some ⟨Wsb_12.heap.size, 0, none⟩) [⟨a1, c1, b⟩])) hHeld ?_
        clear hHeld
        intro Wsb_19 hHeld
        refine region_one 18 (by kernel_rfl) rfl (fun K hK => ?_)
        go_simp
        go_at_call 15
        (with_reducible refine (macOf_eq aL (key.length + z) cL lg _ 1 1 [⟨a1, c1, b⟩] b _ HLG.out.1 HFL.out.2 rfl (hHeld.2.2.2.1) HLG.out.2.1 HLG.out.2.2.1 (by omega) (hHeld.2.2.2.2.2.2) (fun h => by cases h) HIN.out.2.lt (by omega) (by decide)).mono ?_)
        rintro e usb_20 ⟨rfl, hbx⟩
        rw [HLG.out.2.2.2, ← HD.out.1]
        have htsb_20 := Lib.hid (Touch.of_below (S := fun _ => False) hbx)
        refine hK.out _ _ (⟨(((hHeld.1)).trans htsb_20.out), (((hHeld.2.1)).touch htsb_20.out (fun _ _ _ h => h)), (((hHeld.2.2.1)).touch htsb_20.out (fun _ _ _ h => h)), (((hHeld.2.2.2.1)).touch htsb_20.out (fun _ _ _ h => h)), (((hHeld.2.2.2.2.1)).touch htsb_20.out (fun h => h)), (((hHeld.2.2.2.2.2.1)).touch htsb_20.out (fun _ _ _ h => h) (fun _ _ _ _ _ h => h)), (((hHeld.2.2.2.2.2.2)).touch htsb_20.out (fun _ _ _ h => h) (fun _ _ _ _ _ h => h))⟩) (fun hHeld2 => ?_)
        clear hK K hHeld
        have hHeld := hHeld2
        clear hHeld2
        try simp only [Act.put, List.setIfInBounds_toArray, List.set_cons_zero, List.set_cons_succ]
        refine anyH_world (R := fun w' : World => (Touch (fun _ => False) w6 w') ∧ (SlAt w' a0 (bn key)) ∧ (SlAt w' a1 (bn b)) ∧ (SlAt w' aL (bn lg)) ∧ (Blk w' n9 24 (bn D).toArray) ∧ (PartsIn w' (some ⟨W0sb.heap.size, 0, none⟩) [⟨slAd a1 c1 0, c1, b.take I⟩, ⟨none, 0, []⟩, ⟨slAd a1 c1 I, c1 - I, b.drop I⟩]) ∧ (PartsIn w' (some ⟨Wsb_12.heap.size, 0, none⟩) [⟨a1, c1, b⟩])) hHeld ?_
        clear hHeld
        intro Wsb_20 hHeld
        refine region_take 20 (v := ?vsb20_21) rfl rfl (by kernel_rfl) (by kernel_rfl) (by kernel_rfl) (fun _ _ _ h => h) hHeld (Or.inl ⟨by rfl, ?ysb20_21⟩) ?rsb20_21
        case ysb20_21 => (intro w hSw; (try dsimp only at hSw); go_simp; try with_reducible rfl)
        try simp only [Act.put, List.setIfInBounds_toArray, List.set_cons_zero, List.set_cons_succ]
        refine region_take 21 (v := ?vsb21_22) rfl rfl (by kernel_rfl) (by kernel_rfl) (by kernel_rfl) (fun _ _ _ h => h) hHeld (Or.inl ⟨by rfl, ?ysb21_22⟩) ?rsb21_22
        case ysb21_22 => (intro w hSw; (try dsimp only at hSw); go_simp; try with_reducible rfl)
        try simp only [Act.put, List.setIfInBounds_toArray, List.set_cons_zero, List.set_cons_succ]
        refine region_take 22 (v := ?vsb22_23) rfl rfl (by kernel_rfl) (by kernel_rfl) (by kernel_rfl) (fun _ _ _ h => h) hHeld (Or.inl ⟨by rfl, ?ysb22_23⟩) ?rsb22_23
        case ysb22_23 => (intro w hSw; (try dsimp only at hSw); go_simp; try with_reducible rfl)
        try simp only [Act.put, List.setIfInBounds_toArray, List.set_cons_zero, List.set_cons_succ]
        refine wpAnyH_done (by kernel_rfl) ?_ _
        go_wp2_with fail
        go_ret
        exact ⟨rfl, (HW.out.trans (hHeld.1)).below (Nat.le_refl _) (fun _ _ h => h)⟩

theorem macParts_walk (w : World) (a0 : Option Addr) (l0 c0 : Nat) (z0 : List Int) (h0 : RowIn .u8 w a0 l0 c0 z0) (a1 : Option Addr) (l1 c1 : Nat) (z1 : List Int) (h1 : RowIn .u8 w a1 l1 c1 z1) (i : Int) (_w2 : (Lit.int .i64 i).wf = true) (n : Int) (w3 : (Lit.int .i64 n).wf = true) :
    Calls Try.prog 7 #[.slice a0 l0 c0, .slice a1 l1 c1, .int .i64 i, .int .i64 n] w fun e w' => e = .returned (.bool true) ∧ Below w.heap.size w w' := by
  have i0 := h0.bytes
  have i1 := h1.bytes
  obtain ⟨key, hk⟩ : ∃ b, b = nats z0 := ⟨_, rfl⟩
  obtain ⟨b, hb⟩ : ∃ b, b = nats z1 := ⟨_, rfl⟩
  rw [← hk] at i0
  rw [← hb] at i1
  clear hk hb h0 h1
  have e0 := i0.hlen
  have e1 := i1.hlen
  subst e0 e1
  have hw3 : n ≤ 9223372036854775807 := by
    simp [Lit.wf, IntKind.min, IntKind.max, IntKind.bits, IntKind.signed] at w3
    omega
  have hcc : 300 < key.length ∨ (¬ 300 < key.length ∧ 300 < b.length) ∨ (¬ 300 < key.length ∧ ¬ 300 < b.length ∧ i < 0) ∨ (¬ 300 < key.length ∧ ¬ 300 < b.length ∧ 0 ≤ i ∧ (b.length : Int) < i) ∨ (¬ 300 < key.length ∧ ¬ 300 < b.length ∧ 0 ≤ i ∧ i ≤ (b.length : Int) ∧ n < 0) ∨ (¬ 300 < key.length ∧ ¬ 300 < b.length ∧ 0 ≤ i ∧ i ≤ (b.length : Int) ∧ 0 ≤ n) := by omega
  rcases hcc with k0 | ⟨k0, k1⟩ | ⟨k0, k1, k2⟩ | ⟨k0, k1, k2, k3⟩ | ⟨k0, k1, k2, k3, k4⟩ | ⟨k0, k1, k2, k3, k4⟩
  case inr.inr.inr.inr.inr =>
    obtain ⟨I, rfl⟩ : ∃ I : Nat, i = (I : Int) := ⟨i.toNat, by omega⟩
    obtain ⟨M, rfl⟩ : ∃ M : Nat, n = (M : Int) := ⟨n.toNat, by omega⟩
    exact macParts_in w a0 c0 key i0 a1 c1 b i1 I M k0 k1 (by omega) (by omega)
  all_goals
    clear i0 i1
    go_enter Try.func7, Try.ntmps7
    go_wp2_with fail
    (with_reducible refine (macSmall_any w).mono ?_)
    rintro e w1 ⟨rfl, hb⟩
    have HB := Lib.hid hb
    clear hb
    go_wp2_with fail
    go_ret
    exact ⟨rfl, HB.out⟩

/-! ### the row's step, and the row -/
theorem macParts_own : ownKnob Try.prog.godebug = none := by kernel_rfl
theorem macParts_laidOut : laidOutB Try.prog = true := by kernel_rfl

set_option linter.unusedVariables false in
set_option maxRecDepth 100000 in
theorem macParts_lifted (os : Os) (started : os.Started) (H : Type) (enc : TypeId × Value → H) :
    ReturnsInHanded {} Try.checked os 7 .any (Rows.macPartsSpec.pre6 enc Try.prog Try.f7 Rows.macPartsRow.domain false) (Rows.macPartsSpec.post enc Try.prog Try.f7 false true false false) := by
  refine returnsInHanded_of_change (C := Try.checked) macParts_own started (by kernel_rfl) Try.func7
    (ChangeSpec.witness6 (enc := enc) (C := Try.checked) false ⟨#[], #[.slice none 0 0, .slice none 0 0, .int .i64 0, .int .i64 0], []⟩ 8 (by kernel_rfl) (by kernel_rfl) (by kernel_rfl) (by kernel_rfl)) ?_
  intro W base args ds gs before hval0 hW hcnd _
  have hval : ∀ (j : Nat) t v, Try.f7.params[j]? = some t → args[j]? = some v → Value.okWide Try.prog W .any base t v := hval0
  have hW' := hW
  obtain ⟨p, q, hA0, hV, rfl, hfz, hnd⟩ := hW
  have hA : DataW.TrodAll enc Try.prog W 0 (fun _ => true) true Try.f7.params.toList args.toList ds p := hA0
  rw [Try.params7] at hA hval
  obtain ⟨v0, vs0, d0, ds0, p0, q0, hargs, rfl, rfl, h0, r0⟩ := trodAll_cons hA
  obtain ⟨v1, vs1, d1, ds1, p1, q1, rfl, rfl, rfl, h1, r1⟩ := trodAll_cons r0
  obtain ⟨v2, vs2, d2, ds2, p2, q2, rfl, rfl, rfl, h2, r2⟩ := trodAll_cons r1
  obtain ⟨v3, vs3, d3, ds3, p3, q3, rfl, rfl, rfl, h3, r3⟩ := trodAll_cons r2
  obtain ⟨rfl, rfl, rfl⟩ := trodAll_nil r3
  obtain rfl : args = #[v0, v1, v2, v3] := by cases args; simp_all
  obtain ⟨rfl, rfl⟩ := trodVars_none hV
  have k0 := h0
  have lt0 : ∀ x ∈ p0, x.block < W.heap.size := by obtain ⟨m, hm⟩ := k0; exact DataW.trod_lt m _ _ _ hm
  obtain ⟨a0, len0, cap0, rfl⟩ := okWide_slice Try.underlying22 (hval 0 22 v0 rfl rfl)
  obtain ⟨z0, w0⟩ := row_of (k := .u8) Try.underlying22 Try.underlying5 (by kernel_rfl) h0
  have k1 := h1
  have lt1 : ∀ x ∈ p1, x.block < W.heap.size := by obtain ⟨m, hm⟩ := k1; exact DataW.trod_lt m _ _ _ hm
  obtain ⟨a1, len1, cap1, rfl⟩ := okWide_slice Try.underlying22 (hval 1 22 v1 rfl rfl)
  obtain ⟨z1, w1⟩ := row_of (k := .u8) Try.underlying22 Try.underlying5 (by kernel_rfl) h1
  obtain ⟨a2, rfl, rfl, rfl, w2⟩ := open_int Try.underlying3 (hval 2 3 v2 rfl rfl) h2
  obtain ⟨a3, rfl, rfl, rfl, w3⟩ := open_int Try.underlying3 (hval 3 3 v3 rfl rfl) h3
  clear hA0 hval0
  refine (macParts_walk W a0 len0 cap0 z0 w0 a1 len1 cap1 z1 w1 a2 w2 a3 w3).mono fun e W' ⟨he, bel⟩ => ?_
  subst he
  exact ⟨_, rfl, _, _, _, [], _, [], hW', trodAll_mk1 (shut_bool Try.underlying4 _), (trodAll_cons_mk (Below.trod macParts_laidOut (by kernel_rfl) (of_decide_eq_true (by kernel_rfl)) k0 bel lt0) (trodAll_cons_mk (Below.trod macParts_laidOut (by kernel_rfl) (of_decide_eq_true (by kernel_rfl)) k1 bel lt1) (trodAll_cons_mk (shut_int Try.underlying3 w2) (trodAll_cons_mk (shut_int Try.underlying3 w3) trodAll_mk0)))), rfl, bel.frame _, fun h => by cases h⟩

theorem macParts_over : Rows.macPartsRow.holds Try.pinned (OpenSpec.ofChange Rows.macPartsSpec) :=
  OpenClaim.holds_of_wide 7 Try.f7 rfl rfl rfl rfl rfl rfl rfl ⟨rfl, rfl, rfl, rfl, rfl⟩ rfl rfl rfl rfl rfl (by kernel_rfl) Try.func7 (by kernel_rfl)
    (of_decide_eq_true (by kernel_rfl)) (by unfold Func.isWrapper; first | (rw [if_pos (by decide +kernel)]; kernel_rfl) | (rw [if_neg (by decide +kernel)]; exact ⟨rfl, rfl⟩))
    (fun os started H enc _ => macParts_lifted os started H enc)

/-- THE STATEMENT. -/
theorem macParts_proved : Rows.MacPartsSaid := macParts_over
#print axioms macParts_proved
end Go.Proofs.Ytanjhalhpllcaaa
