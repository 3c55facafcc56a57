/-
  nightjarlaw03.MacRows: for all keys and parts the law returns true. No conditions: for every input that can be read.
-/
import Derived.Test.YtanjhalhpllcaaaRows
import Derived.Test.YtanjhalhpllcaaaMacLib
import Derived.Test.YtanjhalhpllcaaaPartsArg
namespace Go.Proofs.Ytanjhalhpllcaaa
open Go.ChangeShapes Go.WideShapes Go.ChangeAt Go.RowKit

theorem partsIn_one1 {w : World} {n : Nat} (hn : w.heap.size = n) {a : Option Addr} {c : Nat} {b : List Nat} (hs : SlAt w a (bn b)) (hc : a = none → c = 0) :
    PartsIn (w.alloc (.cells #[.slice a b.length c] 22)) (some ⟨n, 0, none⟩) [⟨a, c, b⟩] :=
  PartsIn.lay hn [⟨a, c, b⟩] _ (fun p hp => by
    rw [List.mem_singleton] at hp
    subst hp
    exact ⟨hs, hc⟩)

set_option maxRecDepth 100000 in
set_option maxHeartbeats 4000000 in
theorem macRows_in (w : World) (a0 : Option Addr) (c0 : Nat) (key : List Nat) (h0 : BytesIn w a0 key.length c0 key) (a1 : Option Addr) (cp : Nat) (L : List Part) (h1 : PartsArg w a1 L.length cp L) (k0 : ¬ 300 < key.length) (k1 : ¬ 20 < L.length) :
    Calls Try.prog 10 #[.slice a0 key.length c0, .slice a1 L.length cp] w fun e w' => e = .returned (.bool true) ∧ Below w.heap.size w w' := by
  obtain ⟨i0, hi, hz0, hz1, hz2⟩ := info_parts Try.info5
  have HIN := Lib.hid (And.intro h0 h1)
  clear h0 h1
  go_enter Try.func10, Try.ntmps10
  go_wp2_with fail
  (with_reducible refine (macSmall_any w).mono ?_)
  rintro e wa ⟨rfl, hba⟩
  have H1 := Lib.hid (Touch.of_below (S := fun _ => False) hba)
  have HA := Lib.hid (And.intro hba (HIN.out.2.parts.touch (Touch.of_below (S := fun _ => False) hba) (fun _ _ _ h => h) (fun _ _ _ _ _ h => h)))
  clear hba
  go_wp2_with fail
  go_loopw [6, 7] (fun s c wz => ∃ k : Nat, k ≤ L.length ∧ c = .int .i64 k ∧ (flatP (L.take k)).length ≤ 100 * k ∧ wz.ownsRow wa.heap.size 5 1 s (flatP (L.take k)).length (bn (flatP (L.take k))) ∧ Below wa.heap.size wa wz) (fun _ c _ => (20 - intOf c).toNat)
  case atStart => exact ⟨0, Nat.zero_le _, rfl, Nat.le_refl _, World.ownsRow_nil wa _ _ _, Below.refl _ _⟩
  case round =>
    obtain ⟨k, hk1, rfl, hle, ho, hb⟩ := hrel
    have HO := Lib.hid (And.intro ho hb)
    clear ho hb
    by_cases hq : k < L.length
    · have hqI : (k : Int) < L.length := by omega
      have hat : (L.map Part.v)[k]? = some (L[k]'hq).v := by rw [List.getElem?_map, List.getElem?_eq_getElem hq]; rfl
      have hpw := HA.out.2.touch (Touch.of_below (S := fun _ => False) HO.out.2) (fun _ _ _ h => h) (fun _ _ _ _ _ h => h)
      obtain ⟨b, o, rfl, hc⟩ := hpw.cells.get hat
      have hpe := hpw.each _ (List.getElem_mem hq)
      have htk := flatP_take L hq
      obtain ⟨p, hpk⟩ : ∃ p, p = L[k]'hq := ⟨_, rfl⟩
      rw [← hpk] at hc hpe htk
      have hlen : (flatP (L.take k)).length + p.bs.length = (flatP (L.take (k + 1))).length := by rw [htk, List.length_append]
      have HN := Lib.hid (And.intro htk (And.intro hlen (And.intro hpe HO.out.2.size)))
      unfold Part.v at hc
      clear htk hpk hat hpw hpe hlen
      by_cases h100 : 100 < p.bs.length
      · have h100I : (100 : Int) < p.bs.length := by omega
        go_wp2_with fail
        go_ret
        exact ⟨rfl, HA.out.1.trans (HO.out.2.mono HA.out.1.size)⟩
      · have h100I : (p.bs.length : Int) ≤ 100 := by omega
        go_wp2_with (at_builtin; refine wpList_append_any rfl (.tmp 35) (.tmp 39) 22 rfl wa.heap.size 5 i0 (.int .u8 0) 1 Try.underlying22 hi hz0 hz1 hz2 rfl _ _ _ rfl HO.out.1 p.a p.bs.length p.cap (bn p.bs) rfl (bn_len _) HN.out.2.2.1.1 HN.out.2.2.1.2 (bn_one _) (by unfold maxLen; omega) (by omega) HN.out.2.2.2 ?_; intro v2 w2 ho2 hg2 hn2; have H2 := Lib.hid (And.intro ho2 hg2); clear ho2 hg2 hn2)
        go_roundw
        case rel =>
          refine ⟨k + 1, by omega, by first | rfl | (congr 1; omega), by have := HN.out.2.1; omega, ?_, ?_⟩
          · have h := H2.out.1
            rw [HN.out.2.1, ← bn_append, ← HN.out.1] at h
            exact h
          · exact HO.out.2.grown H2.out.2 (by have := HO.out.2.size; omega) (fun q hq => (HO.out.1.lt q hq).1)
        case measure => simp [intOf]; omega
    · have hke : k = L.length := by omega
      subst hke
      have hfl : flatP (L.take L.length) = flatP L := by rw [List.take_length]
      rw [hfl] at HO hle
      obtain ⟨a6, c6, rfl, hn6, -, -, -⟩ := owns_form HO.out.1
      have hk6 := (HIN.out.1.cells.touch H1.out (fun _ _ _ h => h)).touch (Touch.of_below (S := fun _ => False) HO.out.2) (fun _ _ _ h => h)
      have H4 := Lib.hid (And.intro (SlAt.of_owns HO.out.1) (And.intro (fun h => (hn6 h).2) (And.intro (hk6.alloc (.cells #[] 5)) (HA.out.2.touch (Touch.of_below (S := fun _ => False) HO.out.2) (fun _ _ _ h => h) (fun _ _ _ _ _ h => h)))))
      have hlL : (flatP L).length ≤ 2000 := by omega
      clear hn6 hfl hk6 hle
      obtain ⟨w4, rfl⟩ : ∃ w4, w4 = wr := ⟨wr, rfl⟩
      go_wp2_with (at_builtin; refine wpList_append_any rfl (.tmp 41) (.tmp 42) 22 rfl w4.heap.size 5 i0 (.int .u8 0) 1 Try.underlying22 hi hz0 hz1 hz2 rfl _ 0 [] rfl (World.ownsRow_made w4 #[] 0 (Nat.le_refl _) (Nat.zero_le _) rfl) a0 key.length c0 (bn key) rfl (bn_len _) H4.out.2.2.1 HIN.out.1.nil (bn_one _) (by unfold maxLen; omega) (by omega) (by simp) ?_; intro v8 w5 ho8 hg8 _; have hb8 : Below w4.heap.size w4 w5 := ((Below.refl _ _).alloc (Nat.le_refl _) _).grown hg8 (by simp) (fun k hk => by cases hk; exact Nat.le_refl _); (try simp only [Nat.zero_add, List.nil_append] at ho8); obtain ⟨a8, c8, rfl, hn8, hl8, hm8, _⟩ := owns_form ho8; have H5 := Lib.hid (And.intro (SlAt.of_owns ho8) (And.intro (fun h => (hn8 h).2) hb8)); clear ho8 hg8 hb8 hn8 hm8)
      have hpw5 := H4.out.2.2.2.touch (Touch.of_below (S := fun _ => False) H5.out.2.2) (fun _ _ _ h => h) (fun _ _ _ _ _ h => h)
      (with_reducible refine (macOf_eq a8 key.length c8 key a1 L.length cp L (flatP L) w5 rfl rfl rfl H5.out.1 H5.out.2.1 HIN.out.1.lt (by omega) hpw5 HIN.out.2.nil (flatP_lt (fun p hp => (HIN.out.2.lt p hp).2.2)) (by omega) (by omega)).mono ?_)
      rintro e w7 ⟨rfl, hb7⟩
      obtain ⟨D, hD⟩ : ∃ D, D = hmac key (flatP L) := ⟨_, rfl⟩
      rw [← hD]
      have HD := Lib.hid (And.intro hD (And.intro (show (bn D).toArray.size = 32 by rw [bn_size, hD, hmac_len]) (bn_all D)))
      have eF := fun w : World => run_eql_same w D (by rw [hD]; exact hmac_len _ _) (by rw [hD]; exact hmac_lt _ _)
      have H7 := Lib.hid (And.intro hb7 hpw5)
      clear hD hb7 hpw5
      go_wp2_with (refine wpList_store_blk rfl 24 (.tmp 9) (.tmp 46) rfl w7.heap.size 24 _ (bn D).toArray rfl rfl (Blk.new _ _ _) (by rw [HD.out.2.1]; first | done | kernel_rfl) (by rw [HD.out.2.1]; first | done | kernel_rfl) HD.out.2.2 ?_; intro w8 hB8 ht8 hs8)
      obtain ⟨n9, hn9⟩ : ∃ n9, n9 = w7.heap.size := ⟨_, rfl⟩
      rw [← hn9]
      have t58 : Touch (fun _ => False) w5 w8 := Touch.then (S := fun _ => False) ((Touch.of_below H7.out.1).alloc _) ht8 (fun i hi e => by have := H7.out.1.size; omega)
      have t48 : Touch (fun _ => False) w4 w8 := (Touch.of_below H5.out.2.2).trans t58
      have H8 : Hid (SlAt w8 a0 (bn key) ∧ SlAt w8 a8 (bn key) ∧ SlAt w8 a6 (bn (flatP L)) ∧ Blk w8 n9 24 (bn D).toArray ∧ PartsIn w8 a1 L ∧ Touch (fun _ => False) w w8) := Lib.hid ⟨HIN.out.1.cells.touch ((H1.out.trans (Touch.of_below HO.out.2)).trans t48) (fun _ _ _ h => h), H5.out.1.touch t58 (fun _ _ _ h => h), H4.out.1.touch t48 (fun _ _ _ h => h), by rw [hn9]; exact hB8, H7.out.2.touch t58 (fun _ _ _ h => h) (fun _ _ _ _ _ h => h), (H1.out.trans (Touch.of_below HO.out.2)).trans t48⟩
      clear hB8 ht8 hs8 hn9 t58 t48
      go_wp2_with fail
      go_loopw [10, 11] (fun s c wz => ∃ k : Nat, k ≤ L.length ∧ c = .int .i64 k ∧ (flatP (L.take k)).length ≤ 2000 ∧ wz.ownsRow w8.heap.size 5 1 s (flatP (L.take k)).length (bn (flatP (L.take k))) ∧ Below w8.heap.size w8 wz) (fun _ c _ => (20 - intOf c).toNat)
      case atStart => exact ⟨0, Nat.zero_le _, rfl, Nat.zero_le _, World.ownsRow_nil w8 _ _ _, Below.refl _ _⟩
      case round =>
        obtain ⟨k, hk1, rfl, hle, ho, hb⟩ := hrel
        have HO2 := Lib.hid (And.intro ho hb)
        clear ho hb
        by_cases hq : k < L.length
        · have hqI : (k : Int) < L.length := by omega
          have hat : (L.map Part.v)[k]? = some (L[k]'hq).v := by rw [List.getElem?_map, List.getElem?_eq_getElem hq]; rfl
          have hpw := H8.out.2.2.2.2.1.touch (Touch.of_below (S := fun _ => False) HO2.out.2) (fun _ _ _ h => h) (fun _ _ _ _ _ h => h)
          obtain ⟨b, o, rfl, hc⟩ := hpw.cells.get hat
          have hpe := hpw.each _ (List.getElem_mem hq)
          have htk := flatP_take L hq
          have hle1 := flatP_take_le L (k + 1)
          obtain ⟨p, hpk⟩ : ∃ p, p = L[k]'hq := ⟨_, rfl⟩
          rw [← hpk] at hc hpe htk
          have hlen : (flatP (L.take k)).length + p.bs.length = (flatP (L.take (k + 1))).length := by rw [htk, List.length_append]
          have hsm : (flatP (L.take k)).length + p.bs.length ≤ 2000 := by omega
          have HN := Lib.hid (And.intro htk (And.intro hlen (And.intro hpe HO2.out.2.size)))
          unfold Part.v at hc
          clear htk hpk hat hpw hpe hlen hle1
          go_wp2_with (at_builtin; refine wpList_append_any rfl (.tmp 53) (.tmp 57) 22 rfl w8.heap.size 5 i0 (.int .u8 0) 1 Try.underlying22 hi hz0 hz1 hz2 rfl _ _ _ rfl HO2.out.1 p.a p.bs.length p.cap (bn p.bs) rfl (bn_len _) HN.out.2.2.1.1 HN.out.2.2.1.2 (bn_one _) (by unfold maxLen; omega) (by omega) HN.out.2.2.2 ?_; intro v2 w2 ho2 hg2 hn2; have H2 := Lib.hid (And.intro ho2 hg2); clear ho2 hg2 hn2)
          go_roundw
          case rel =>
            refine ⟨k + 1, by omega, by first | rfl | (congr 1; omega), by have := HN.out.2.1; omega, ?_, ?_⟩
            · have h := H2.out.1
              rw [HN.out.2.1, ← bn_append, ← HN.out.1] at h
              exact h
            · exact HO2.out.2.grown H2.out.2 (by have := HO2.out.2.size; omega) (fun q hq => (HO2.out.1.lt q hq).1)
          case measure => simp [intOf]; omega
        · have hke : k = L.length := by omega
          subst hke
          have hfl : flatP (L.take L.length) = flatP L := by rw [List.take_length]
          rw [hfl] at HO2 hle
          obtain ⟨a10, c10, rfl, hn10, -, -, -⟩ := owns_form HO2.out.1
          clear hn10 hfl
          obtain ⟨w6, rfl⟩ : ∃ w6, w6 = wr := ⟨wr, rfl⟩
          have t86 : Touch (fun _ => False) w8 w6 := Touch.of_below HO2.out.2
          have H6 : Hid (SlAt w6 a0 (bn key) ∧ SlAt w6 a8 (bn key) ∧ SlAt w6 a6 (bn (flatP L)) ∧ SlAt w6 a10 (bn (flatP L)) ∧ Blk w6 n9 24 (bn D).toArray) := Lib.hid ⟨H8.out.1.touch t86 (fun _ _ _ h => h), H8.out.2.1.touch t86 (fun _ _ _ h => h), H8.out.2.2.1.touch t86 (fun _ _ _ h => h), SlAt.of_owns HO2.out.1, H8.out.2.2.2.1.touch t86 (fun h => h)⟩
          have HW : Hid (Touch (fun _ => False) w w6) := Lib.hid (H8.out.2.2.2.2.2.trans t86)
          have HN : Hid ((a6 = none → c6 = 0) ∧ ∀ y ∈ flatP L, y < 256) := Lib.hid ⟨H4.out.2.1, flatP_lt (fun p hp => (HIN.out.2.lt p hp).2.2)⟩
          have HFL : Hid (flatP [⟨a6, c6, flatP L⟩] = flatP L) := Lib.hid (by simp [flatP])
          clear t86
          go_wp2_with fail
          refine wp_region_held_drew (S := fun w' : World => (Touch (fun _ => False) w6 w') ∧ (SlAt w' a0 (bn key)) ∧ (SlAt w' a8 (bn key)) ∧ (SlAt w' a6 (bn (flatP L))) ∧ (SlAt w' a10 (bn (flatP L))) ∧ (Blk w' n9 24 (bn D).toArray)) (by kernel_rfl) (⟨(Touch.refl (fun _ => False) w6).drew, H6.out.1.touch ((Touch.refl (fun _ => False) w6).drew) (fun _ _ _ h => h), H6.out.2.1.touch ((Touch.refl (fun _ => False) w6).drew) (fun _ _ _ h => h), H6.out.2.2.1.touch ((Touch.refl (fun _ => False) w6).drew) (fun _ _ _ h => h), H6.out.2.2.2.1.touch ((Touch.refl (fun _ => False) w6).drew) (fun _ _ _ h => h), H6.out.2.2.2.2.touch ((Touch.refl (fun _ => False) w6).drew) (fun h => h)⟩) (fun hHeld => ?_)
          refine anyH_world (R := fun w' : World => (Touch (fun _ => False) w6 w') ∧ (SlAt w' a0 (bn key)) ∧ (SlAt w' a8 (bn key)) ∧ (SlAt w' a6 (bn (flatP L))) ∧ (SlAt w' a10 (bn (flatP L))) ∧ (Blk w' n9 24 (bn D).toArray)) hHeld ?_
          clear hHeld
          intro W0q hHeld
          refine region_take 0 (v := ?vq0_1) rfl rfl (by kernel_rfl) (by kernel_rfl) (by kernel_rfl) (fun _ _ _ h => h) hHeld (Or.inl ⟨by rfl, ?yq0_1⟩) ?rq0_1
          case yq0_1 => (intro w hSw; (try dsimp only at hSw); go_simp; try with_reducible rfl)
          try simp only [Act.put, List.setIfInBounds_toArray, List.set_cons_zero, List.set_cons_succ]
          refine region_take 1 (v := ?vq1_2) rfl rfl (by kernel_rfl) (by kernel_rfl) (by kernel_rfl) (fun _ _ _ h => h) hHeld (Or.inl ⟨by rfl, ?yq1_2⟩) ?rq1_2
          case yq1_2 => (intro w hSw; (try dsimp only at hSw); go_simp; try with_reducible rfl)
          try simp only [Act.put, List.setIfInBounds_toArray, List.set_cons_zero, List.set_cons_succ]
          refine region_take 2 (v := ?vq2_3) rfl rfl (by kernel_rfl) (by kernel_rfl) (by kernel_rfl) (fun _ _ _ h => h) hHeld (Or.inl ⟨by rfl, ?yq2_3⟩) ?rq2_3
          case yq2_3 => (intro w hSw; refine (yields_load_blk 24 (.tmp 9) rfl n9 24 (bn D).toArray _ rfl (hSw.2.2.2.2.2) Try.underlying24 rfl (by rw [HD.out.2.1]; first | done | kernel_rfl)).trans ?_; with_reducible rfl)
          try simp only [Act.put, List.setIfInBounds_toArray, List.set_cons_zero, List.set_cons_succ]
          refine region_take 3 (v := ?vq3_4) rfl rfl (by kernel_rfl) (by kernel_rfl) (by kernel_rfl) (fun _ _ _ h => h) hHeld (Or.inl ⟨by rfl, ?yq3_4⟩) ?rq3_4
          case yq3_4 => (intro w hSw; (try dsimp only at hSw); go_simp; try with_reducible rfl)
          try simp only [Act.put, List.setIfInBounds_toArray, List.set_cons_zero, List.set_cons_succ]
          refine region_take 4 (v := ?vq4_5) rfl rfl (by kernel_rfl) (by kernel_rfl) (by kernel_rfl) (fun _ _ _ h => h) hHeld (Or.inl ⟨by rfl, ?yq4_5⟩) ?rq4_5
          case yq4_5 => (intro w hSw; (try dsimp only at hSw); go_simp; try with_reducible rfl)
          try simp only [Act.put, List.setIfInBounds_toArray, List.set_cons_zero, List.set_cons_succ]
          refine region_one 5 (by kernel_rfl) rfl (fun K hK => ?_)
          go_simp
          refine K_world (fun w' : World => (Touch (fun _ => False) W0q w') ∧ (PartsIn w' (some ⟨W0q.heap.size, 0, none⟩) [⟨a6, c6, flatP L⟩])) ⟨(Touch.refl _ _).alloc _, partsIn_one1 rfl (hHeld.2.2.2.1) HN.out.1⟩ ?_
          intro uq_6 hx
          have htq_6 := Lib.hid (hx.1)
          refine hK.out _ _ (⟨(((hHeld.1)).trans htq_6.out), (((hHeld.2.1)).touch htq_6.out (fun _ _ _ h => h)), (((hHeld.2.2.1)).touch htq_6.out (fun _ _ _ h => h)), (((hHeld.2.2.2.1)).touch htq_6.out (fun _ _ _ h => h)), (((hHeld.2.2.2.2.1)).touch htq_6.out (fun _ _ _ h => h)), (((hHeld.2.2.2.2.2)).touch htq_6.out (fun h => h))⟩) (fun hHeld2 => ?_)
          have hn_p1 := Lib.hid (hx.2)
          clear hK K hHeld
          have hHeld := hHeld2
          clear hHeld2
          try simp only [Act.put, List.setIfInBounds_toArray, List.set_cons_zero, List.set_cons_succ]
          refine region_more (S' := fun w' : World => (Touch (fun _ => False) w6 w') ∧ (SlAt w' a0 (bn key)) ∧ (SlAt w' a8 (bn key)) ∧ (SlAt w' a6 (bn (flatP L))) ∧ (SlAt w' a10 (bn (flatP L))) ∧ (Blk w' n9 24 (bn D).toArray) ∧ (PartsIn w' (some ⟨W0q.heap.size, 0, none⟩) [⟨a6, c6, flatP L⟩])) (fun _ h => ⟨(h.1), (h.2.1), (h.2.2.1), (h.2.2.2.1), (h.2.2.2.2.1), (h.2.2.2.2.2.1)⟩) _ _ _ _ ?_
          have hHeld3 := hHeld
          clear hHeld
          have hHeld := (And.intro (hHeld3.1) (And.intro (hHeld3.2.1) (And.intro (hHeld3.2.2.1) (And.intro (hHeld3.2.2.2.1) (And.intro (hHeld3.2.2.2.2.1) (And.intro (hHeld3.2.2.2.2.2) (hn_p1.out)))))))
          clear hHeld3 hn_p1
          refine anyH_world (R := fun w' : World => (Touch (fun _ => False) w6 w') ∧ (SlAt w' a0 (bn key)) ∧ (SlAt w' a8 (bn key)) ∧ (SlAt w' a6 (bn (flatP L))) ∧ (SlAt w' a10 (bn (flatP L))) ∧ (Blk w' n9 24 (bn D).toArray) ∧ (PartsIn w' (some ⟨W0q.heap.size, 0, none⟩) [⟨a6, c6, flatP L⟩])) hHeld ?_
          clear hHeld
          intro Wq_6 hHeld
          refine region_one 6 (by kernel_rfl) rfl (fun K hK => ?_)
          go_simp
          go_at_call 15
          (with_reducible refine (macOf_eq a0 key.length c0 key _ 1 1 [⟨a6, c6, flatP L⟩] (flatP L) _ rfl HFL.out rfl (hHeld.2.1) HIN.out.1.nil HIN.out.1.lt (by omega) (hHeld.2.2.2.2.2.2) (fun h => by cases h) HN.out.2 (by omega) (by decide)).mono ?_)
          rintro e uq_7 ⟨rfl, hbx⟩
          rw [← HD.out.1]
          have htq_7 := Lib.hid (Touch.of_below (S := fun _ => False) hbx)
          refine hK.out _ _ (⟨(((hHeld.1)).trans htq_7.out), (((hHeld.2.1)).touch htq_7.out (fun _ _ _ h => h)), (((hHeld.2.2.1)).touch htq_7.out (fun _ _ _ h => h)), (((hHeld.2.2.2.1)).touch htq_7.out (fun _ _ _ h => h)), (((hHeld.2.2.2.2.1)).touch htq_7.out (fun _ _ _ h => h)), (((hHeld.2.2.2.2.2.1)).touch htq_7.out (fun h => h)), (((hHeld.2.2.2.2.2.2)).touch htq_7.out (fun _ _ _ h => h) (fun _ _ _ _ _ h => h))⟩) (fun hHeld2 => ?_)
          clear hK K hHeld
          have hHeld := hHeld2
          clear hHeld2
          try simp only [Act.put, List.setIfInBounds_toArray, List.set_cons_zero, List.set_cons_succ]
          refine anyH_world (R := fun w' : World => (Touch (fun _ => False) w6 w') ∧ (SlAt w' a0 (bn key)) ∧ (SlAt w' a8 (bn key)) ∧ (SlAt w' a6 (bn (flatP L))) ∧ (SlAt w' a10 (bn (flatP L))) ∧ (Blk w' n9 24 (bn D).toArray) ∧ (PartsIn w' (some ⟨W0q.heap.size, 0, none⟩) [⟨a6, c6, flatP L⟩])) hHeld ?_
          clear hHeld
          intro Wq_7 hHeld
          refine region_take 7 (v := ?vq7_8) rfl rfl (by kernel_rfl) (by kernel_rfl) (by kernel_rfl) (fun _ _ _ h => h) hHeld (Or.inl ⟨by rfl, ?yq7_8⟩) ?rq7_8
          case yq7_8 => (intro w hSw; (try dsimp only at hSw); go_simp; try with_reducible rfl)
          try simp only [Act.put, List.setIfInBounds_toArray, List.set_cons_zero, List.set_cons_succ]
          refine region_take 8 (v := ?vq8_9) rfl rfl (by kernel_rfl) (by kernel_rfl) (by kernel_rfl) (fun _ _ _ h => h) hHeld (Or.inl ⟨by rfl, ?yq8_9⟩) ?rq8_9
          case yq8_9 => (intro w hSw; (try dsimp only at hSw); go_simp; try with_reducible rfl)
          try simp only [Act.put, List.setIfInBounds_toArray, List.set_cons_zero, List.set_cons_succ]
          refine region_take 9 (v := ?vq9_10) rfl rfl (by kernel_rfl) (by kernel_rfl) (by kernel_rfl) (fun _ _ _ h => h) hHeld (Or.inl ⟨by rfl, ?yq9_10⟩) ?rq9_10
          case yq9_10 => (intro w hSw; (try dsimp only at hSw); go_simp; try with_reducible rfl)
          try simp only [Act.put, List.setIfInBounds_toArray, List.set_cons_zero, List.set_cons_succ]
          refine region_take 10 (v := ?vq10_11) rfl rfl (by kernel_rfl) (by kernel_rfl) (by kernel_rfl) (fun _ _ _ h => h) hHeld (Or.inl ⟨by rfl, ?yq10_11⟩) ?rq10_11
          case yq10_11 => (intro w hSw; (try dsimp only at hSw); go_simp; try with_reducible rfl)
          try simp only [Act.put, List.setIfInBounds_toArray, List.set_cons_zero, List.set_cons_succ]
          refine region_take 11 (v := ?vq11_12) rfl rfl (by kernel_rfl) (by kernel_rfl) (by kernel_rfl) (fun _ _ _ h => h) hHeld (Or.inl ⟨by rfl, ?yq11_12⟩) ?rq11_12
          case yq11_12 => (intro w hSw; refine (yields_str 22 9 5 (.tmp 69) rfl Try.underlying22 Try.underlying5 Try.underlying9 a8 key.length c8 (natsD key) rfl (by simp [natsD]) (hSw.2.2.1)).trans ?_; with_reducible rfl)
          try simp only [Act.put, List.setIfInBounds_toArray, List.set_cons_zero, List.set_cons_succ]
          refine region_take 12 (v := ?vq12_13) rfl rfl (by kernel_rfl) (by kernel_rfl) (by kernel_rfl) (fun _ _ _ h => h) hHeld (Or.inl ⟨by rfl, ?yq12_13⟩) ?rq12_13
          case yq12_13 => (intro w hSw; (try dsimp only at hSw); go_simp; try with_reducible rfl)
          try simp only [Act.put, List.setIfInBounds_toArray, List.set_cons_zero, List.set_cons_succ]
          refine region_take 13 (v := ?vq13_14) rfl rfl (by kernel_rfl) (by kernel_rfl) (by kernel_rfl) (fun _ _ _ h => h) hHeld (Or.inl ⟨by rfl, ?yq13_14⟩) ?rq13_14
          case yq13_14 => (intro w hSw; refine (yields_str 22 9 5 (.tmp 71) rfl Try.underlying22 Try.underlying5 Try.underlying9 a0 key.length c0 (natsD key) rfl (by simp [natsD]) (hSw.2.1)).trans ?_; with_reducible rfl)
          try simp only [Act.put, List.setIfInBounds_toArray, List.set_cons_zero, List.set_cons_succ]
          refine region_take 14 (v := ?vq14_15) rfl rfl (by kernel_rfl) (by kernel_rfl) (by kernel_rfl) (fun _ _ _ h => h) hHeld (Or.inl ⟨by rfl, ?yq14_15⟩) ?rq14_15
          case yq14_15 => (intro w hSw; (try dsimp only at hSw); go_simp; try with_reducible rfl)
          try simp only [Act.put, List.setIfInBounds_toArray, List.set_cons_zero, List.set_cons_succ]
          refine region_take 15 (v := ?vq15_16) rfl rfl (by kernel_rfl) (by kernel_rfl) (by kernel_rfl) (fun _ _ _ h => h) hHeld (Or.inl ⟨by rfl, ?yq15_16⟩) ?rq15_16
          case yq15_16 => (intro w hSw; (try dsimp only at hSw); go_simp; try with_reducible rfl)
          try simp only [Act.put, List.setIfInBounds_toArray, List.set_cons_zero, List.set_cons_succ]
          refine region_take 16 (v := ?vq16_17) rfl rfl (by kernel_rfl) (by kernel_rfl) (by kernel_rfl) (fun _ _ _ h => h) hHeld (Or.inl ⟨by rfl, ?yq16_17⟩) ?rq16_17
          case yq16_17 => (intro w hSw; (try dsimp only at hSw); go_simp; try with_reducible rfl)
          try simp only [Act.put, List.setIfInBounds_toArray, List.set_cons_zero, List.set_cons_succ]
          refine region_take 17 (v := ?vq17_18) rfl rfl (by kernel_rfl) (by kernel_rfl) (by kernel_rfl) (fun _ _ _ h => h) hHeld (Or.inl ⟨by rfl, ?yq17_18⟩) ?rq17_18
          case yq17_18 => (intro w hSw; (try dsimp only at hSw); go_simp; try with_reducible rfl)
          try simp only [Act.put, List.setIfInBounds_toArray, List.set_cons_zero, List.set_cons_succ]
          refine region_take 18 (v := ?vq18_19) rfl rfl (by kernel_rfl) (by kernel_rfl) (by kernel_rfl) (fun _ _ _ h => h) hHeld (Or.inl ⟨by rfl, ?yq18_19⟩) ?rq18_19
          case yq18_19 => (intro w hSw; refine (yields_str 22 9 5 (.tmp 76) rfl Try.underlying22 Try.underlying5 Try.underlying9 a10 (flatP L).length c10 (natsD (flatP L)) rfl (by simp [natsD]) (hSw.2.2.2.2.1)).trans ?_; with_reducible rfl)
          try simp only [Act.put, List.setIfInBounds_toArray, List.set_cons_zero, List.set_cons_succ]
          refine region_take 19 (v := ?vq19_20) rfl rfl (by kernel_rfl) (by kernel_rfl) (by kernel_rfl) (fun _ _ _ h => h) hHeld (Or.inl ⟨by rfl, ?yq19_20⟩) ?rq19_20
          case yq19_20 => (intro w hSw; (try dsimp only at hSw); go_simp; try with_reducible rfl)
          try simp only [Act.put, List.setIfInBounds_toArray, List.set_cons_zero, List.set_cons_succ]
          refine region_take 20 (v := ?vq20_21) rfl rfl (by kernel_rfl) (by kernel_rfl) (by kernel_rfl) (fun _ _ _ h => h) hHeld (Or.inl ⟨by rfl, ?yq20_21⟩) ?rq20_21
          case yq20_21 => (intro w hSw; refine (yields_str 22 9 5 (.tmp 78) rfl Try.underlying22 Try.underlying5 Try.underlying9 a6 (flatP L).length c6 (natsD (flatP L)) rfl (by simp [natsD]) (hSw.2.2.2.1)).trans ?_; with_reducible rfl)
          try simp only [Act.put, List.setIfInBounds_toArray, List.set_cons_zero, List.set_cons_succ]
          refine region_take 21 (v := ?vq21_22) rfl rfl (by kernel_rfl) (by kernel_rfl) (by kernel_rfl) (fun _ _ _ h => h) hHeld (Or.inl ⟨by rfl, ?yq21_22⟩) ?rq21_22
          case yq21_22 => (intro w hSw; (try dsimp only at hSw); go_simp; try with_reducible rfl)
          try simp only [Act.put, List.setIfInBounds_toArray, List.set_cons_zero, List.set_cons_succ]
          refine region_take 22 (v := ?vq22_23) rfl rfl (by kernel_rfl) (by kernel_rfl) (by kernel_rfl) (fun _ _ _ h => h) hHeld (Or.inl ⟨by rfl, ?yq22_23⟩) ?rq22_23
          case yq22_23 => (intro w hSw; (try dsimp only at hSw); go_simp; try with_reducible rfl)
          try simp only [Act.put, List.setIfInBounds_toArray, List.set_cons_zero, List.set_cons_succ]
          refine region_take 23 (v := ?vq23_24) rfl rfl (by kernel_rfl) (by kernel_rfl) (by kernel_rfl) (fun _ _ _ h => h) hHeld (Or.inl ⟨by rfl, ?yq23_24⟩) ?rq23_24
          case yq23_24 => (intro w hSw; (try dsimp only at hSw); go_simp; try with_reducible rfl)
          try simp only [Act.put, List.setIfInBounds_toArray, List.set_cons_zero, List.set_cons_succ]
          refine wpAnyH_done (by kernel_rfl) ?_ _
          go_wp2_with fail
          go_ret
          exact ⟨rfl, (HW.out.trans (hHeld.1)).below (Nat.le_refl _) (fun _ _ h => h)⟩

theorem macRows_walk (w : World) (a0 : Option Addr) (l0 c0 : Nat) (z0 : List Int) (h0 : RowIn .u8 w a0 l0 c0 z0) (a1 : Option Addr) (len cap : Nat) (A : Nat → Option Addr) (C : Nat → Nat) (Z : Nat → List Int) (h1 : RowsIn .u8 w a1 len cap A C Z) :
    Calls Try.prog 10 #[.slice a0 l0 c0, .slice a1 len cap] w fun e w' => e = .returned (.bool true) ∧ Below w.heap.size w w' := by
  have i0 := h0.bytes
  obtain ⟨L, i1⟩ := h1.parts
  obtain ⟨key, hk⟩ : ∃ b, b = nats z0 := ⟨_, rfl⟩
  rw [← hk] at i0
  clear hk h0 h1
  have e0 := i0.hlen
  have e1 := i1.hlen
  subst e0 e1
  have hcc : 300 < key.length ∨ (¬ 300 < key.length ∧ 20 < L.length) ∨ (¬ 300 < key.length ∧ ¬ 20 < L.length) := by omega
  rcases hcc with k0 | ⟨k0, k1⟩ | ⟨k0, k1⟩
  case inr.inr => exact macRows_in w a0 c0 key i0 a1 cap L i1 k0 k1
  all_goals
    clear i0 i1
    go_enter Try.func10, Try.ntmps10
    go_wp2_with fail
    (with_reducible refine (macSmall_any w).mono ?_)
    rintro e w1 ⟨rfl, hb⟩
    have HB := Lib.hid hb
    clear hb
    go_wp2_with fail
    go_ret
    exact ⟨rfl, HB.out⟩

/-! ### the row's step, and the row -/
theorem macRows_own : ownKnob Try.prog.godebug = none := by kernel_rfl
theorem macRows_laidOut : laidOutB Try.prog = true := by kernel_rfl

set_option linter.unusedVariables false in
set_option maxRecDepth 100000 in
theorem macRows_lifted (os : Os) (started : os.Started) (H : Type) (enc : TypeId × Value → H) :
    ReturnsInHanded {} Try.checked os 10 .any (Rows.macRowsSpec.pre6 enc Try.prog Try.f10 Rows.macRowsRow.domain false) (Rows.macRowsSpec.post enc Try.prog Try.f10 false true false false) := by
  refine returnsInHanded_of_change (C := Try.checked) macRows_own started (by kernel_rfl) Try.func10
    (ChangeSpec.witness6 (enc := enc) (C := Try.checked) false ⟨#[], #[.slice none 0 0, .slice none 0 0], []⟩ 8 (by kernel_rfl) (by kernel_rfl) (by kernel_rfl) (by kernel_rfl)) ?_
  intro W base args ds gs before hval0 hW hcnd _
  have hval : ∀ (j : Nat) t v, Try.f10.params[j]? = some t → args[j]? = some v → Value.okWide Try.prog W .any base t v := hval0
  have hW' := hW
  obtain ⟨p, q, hA0, hV, rfl, hfz, hnd⟩ := hW
  have hA : DataW.TrodAll enc Try.prog W 0 (fun _ => true) true Try.f10.params.toList args.toList ds p := hA0
  rw [Try.params10] at hA hval
  obtain ⟨v0, vs0, d0, ds0, p0, q0, hargs, rfl, rfl, h0, r0⟩ := trodAll_cons hA
  obtain ⟨v1, vs1, d1, ds1, p1, q1, rfl, rfl, rfl, h1, r1⟩ := trodAll_cons r0
  obtain ⟨rfl, rfl, rfl⟩ := trodAll_nil r1
  obtain rfl : args = #[v0, v1] := by cases args; simp_all
  obtain ⟨rfl, rfl⟩ := trodVars_none hV
  have k0 := h0
  have lt0 : ∀ x ∈ p0, x.block < W.heap.size := by obtain ⟨m, hm⟩ := k0; exact DataW.trod_lt m _ _ _ hm
  obtain ⟨a0, len0, cap0, rfl⟩ := okWide_slice Try.underlying22 (hval 0 22 v0 rfl rfl)
  obtain ⟨z0, w0⟩ := row_of (k := .u8) Try.underlying22 Try.underlying5 (by kernel_rfl) h0
  have k1 := h1
  have lt1 : ∀ x ∈ p1, x.block < W.heap.size := by obtain ⟨m, hm⟩ := k1; exact DataW.trod_lt m _ _ _ hm
  have o1 := hval 1 29 v1 rfl rfl
  obtain ⟨a1, len1, cap1, rfl⟩ := okWide_slice Try.underlying29 o1
  obtain ⟨A1, C1, Z1, w1⟩ := rows_of (k := .u8) Try.underlying29 Try.underlying22 Try.underlying5 (by kernel_rfl) (by kernel_rfl) h1
  clear hA0 hval0
  refine (macRows_walk W a0 len0 cap0 z0 w0 a1 len1 cap1 A1 C1 Z1 w1).mono fun e W' ⟨he, bel⟩ => ?_
  subst he
  exact ⟨_, rfl, _, _, _, [], _, [], hW', trodAll_mk1 (shut_bool Try.underlying4 _), (trodAll_cons_mk (Below.trod macRows_laidOut (by kernel_rfl) (of_decide_eq_true (by kernel_rfl)) k0 bel lt0) (trodAll_cons_mk (Below.trod macRows_laidOut (by kernel_rfl) (of_decide_eq_true (by kernel_rfl)) k1 bel lt1) trodAll_mk0)), rfl, bel.frame _, fun h => by cases h⟩

theorem macRows_over : Rows.macRowsRow.holds Try.pinned (OpenSpec.ofChange Rows.macRowsSpec) :=
  OpenClaim.holds_of_wide 10 Try.f10 rfl rfl rfl rfl rfl rfl rfl ⟨rfl, rfl, rfl, rfl, rfl⟩ rfl rfl rfl rfl rfl (by kernel_rfl) Try.func10 (by kernel_rfl)
    (of_decide_eq_true (by kernel_rfl)) (by unfold Func.isWrapper; first | (rw [if_pos (by decide +kernel)]; kernel_rfl) | (rw [if_neg (by decide +kernel)]; exact ⟨rfl, rfl⟩))
    (fun os started H enc _ => macRows_lifted os started H enc)

/-- THE STATEMENT. -/
theorem macRows_proved : Rows.MacRowsSaid := macRows_over
#print axioms macRows_proved
end Go.Proofs.Ytanjhalhpllcaaa
