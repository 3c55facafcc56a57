/-
  THE WALK of the document's Key (layer 7).
-/
import Derived.Test.YthlkmofemnepbaaRows
import Derived.Test.YthlkmofemnepbaaRMint
import Derived.Test.YthlkmofemnepbaaTKey
namespace Go.Proofs.Ythlkmofemnepbaa
open Go.RowKit

set_option maxRecDepth 100000 in
theorem tbytes_any (n : Int) (w : World) : Calls Try.prog 61 #[.int .i64 n] w (Num7 n w) := by
  go_enter Try.func61, Try.ntmps61
  go_wp2_with fail
  (with_reducible refine (refput7 n _).mono ?_)
  rintro e w1 ⟨a, c, rfl, ho, hs, hc, hb⟩
  go_wp2_with fail
  go_ret
  exact ⟨a, c, rfl, ho, hs, hc, hb⟩

set_option maxRecDepth 100000 in
set_option maxHeartbeats 4000000 in
theorem refKey_any (a : Option Addr) (nk cap : Nat) (s : List Nat) (se no : Int) (w : World) (hk : s.length = nk) (hs : SlAt w a (bn s)) (hc : a = none → cap = 0) (hr : ∀ y ∈ s, y < 256) (hn : nk ≤ 100000) :
    Calls Try.prog 38 #[.slice a nk cap, .int .i64 se, .int .i64 no] w fun e w' => e = .returned (.agg (bn (keyN s se no)).toArray) ∧ Below w.heap.size w w' := by
  obtain ⟨i0, hi8, hz0, hz1, hz2⟩ := info_parts Try.info5
  have HH := Lib.hid (And.intro hc hr)
  have hsz : SlAt (w.alloc (.cells #[.int .u8 0, .int .u8 0, .int .u8 0, .int .u8 0, .int .u8 0, .int .u8 0, .int .u8 0, .int .u8 0, .int .u8 0, .int .u8 0, .int .u8 0, .int .u8 0, .int .u8 0, .int .u8 0, .int .u8 0, .int .u8 0] 22)) a (bn s) := hs.alloc _
  obtain ⟨F, hF⟩ : ∃ F, F = hmac s (num7 se ++ num7 no) := ⟨_, rfl⟩
  have hFl : F.length = 32 := by rw [hF]; exact hmac_len _ _
  have hFT : (F.take 16).length = 16 := by rw [List.length_take, hFl]; rfl
  have HFS := Lib.hid (And.intro (show (bn F).toArray.size = 32 by rw [bn_size, hFl]) (bn_all F))
  have HFT := Lib.hid (And.intro (show (bn (F.take 16)).toArray.size = 16 by rw [bn_size, hFT]) (bn_all (F.take 16)))
  have HF32 := Lib.hid hFl
  have HF := Lib.hid hF
  have HF2 : Hid (keyN s se no = F.take 16) := Lib.hid (by rw [hF]; rfl)
  have HB : Hid (∀ y ∈ num7 se ++ num7 no, y < 256) := Lib.hid (fun y hy => by
    rcases List.mem_append.1 hy with h | h
    · exact num7_lt _ y h
    · exact num7_lt _ y h)
  clear hF hFl hFT hs hc hr
  go_enter Try.func38, Try.ntmps38
  go_wp2_with fail
  obtain ⟨wz, hwz⟩ : ∃ wz, wz = w.alloc (.cells #[.int .u8 0, .int .u8 0, .int .u8 0, .int .u8 0, .int .u8 0, .int .u8 0, .int .u8 0, .int .u8 0, .int .u8 0, .int .u8 0, .int .u8 0, .int .u8 0, .int .u8 0, .int .u8 0, .int .u8 0, .int .u8 0] 22) := ⟨_, rfl⟩
  rw [← hwz]
  rw [← hwz] at hsz
  have HK3 : Hid (SlAt wz a (bn s) ∧ Blk wz w.heap.size 22 (bn (List.replicate 16 0)).toArray ∧ Touch (fun _ => False) w wz) := Lib.hid ⟨hsz, by rw [hwz]; exact Blk.new w (bn (List.replicate 16 0)).toArray 22, by rw [hwz]; exact (Touch.refl _ w).alloc _⟩
  clear hwz hsz
  (with_reducible refine (tbytes_any se _).mono ?_)
  rintro e w1 ⟨a1, c1, rfl, ho1, hs1, hn1, hb1⟩
  have H1 := Lib.hid (And.intro ho1 (And.intro hn1 (And.intro (Touch.of_below (S := fun _ => False) hb1) hb1.size)))
  clear ho1 hs1 hn1 hb1
  go_wp2_with fail
  (with_reducible refine (tbytes_any no _).mono ?_)
  rintro e w2 ⟨a2, c2, rfl, ho2, hs2, hn2, hb2⟩
  have H2 : Hid (SlAt w2 a2 (bn (num7 no)) ∧ (a2 = none → c2 = 0) ∧ Touch (fun _ => False) w1 w2 ∧ w2.ownsRow wz.heap.size 5 1 (.slice a1 7 c1) 7 (bn (num7 se)) ∧ wz.heap.size ≤ w2.heap.size) := Lib.hid ⟨hs2, hn2, Touch.of_below hb2, owns_touch H1.out.1 (Touch.of_below (S := fun _ => False) hb2) (fun _ _ h => h), Nat.le_trans H1.out.2.2.2 hb2.size⟩
  clear ho2 hs2 hn2 hb2
  go_wp2_with (at_builtin; refine wpList_append_any rfl (.tmp 12) (.tmp 14) 26 rfl wz.heap.size 5 i0 (.int .u8 0) 1 Try.underlying26 hi8 hz0 hz1 hz2 rfl (.slice a1 7 c1) 7 (bn (num7 se)) rfl H2.out.2.2.2.1 a2 7 c2 (bn (num7 no)) rfl (by rw [bn_len, num7_len]) H2.out.1 H2.out.2.1 (bn_one _) (by unfold maxLen; omega) (by omega) H2.out.2.2.2.2 ?_; intro v3 w3 ho3 hg3 hnn3; obtain ⟨a3, c3, rfl, hn3, _, _, _⟩ := owns_form ho3; have H3 : Hid (SlAt w3 a3 (bn (num7 se ++ num7 no)) ∧ (a3 = none → c3 = 0) ∧ Touch (fun _ => False) wz w3) := Lib.hid ⟨by rw [bn_append]; exact SlAt.of_owns ho3, fun h => (hn3 h).2, (H1.out.2.2.1.trans H2.out.2.2.1).grown hg3 (fun k hk hlt => by have := (H2.out.2.2.2.1.lt k hk).1; omega)⟩; clear ho3 hg3 hnn3 hn3)
  have D1 : (num7 se ++ num7 no).length = 14 := by rw [List.length_append, num7_len, num7_len]
  have D2 : SlAt w3 a (bn s) := HK3.out.1.touch H3.out.2.2 (fun _ _ _ h => h)
  (with_reducible refine (refMacOf_eq a nk cap s a3 14 c3 (num7 se ++ num7 no) _ hk D1 D2 HH.out.1 HH.out.2 hn H3.out.1 H3.out.2.1 HB.out (by decide)).mono ?_)
  rintro e w4 ⟨rfl, hb4⟩
  rw [← HF.out]
  have H4 : Hid (Touch (fun _ => False) wz w4) := Lib.hid (H3.out.2.2.trans (Touch.of_below hb4))
  clear hb4 D1 D2
  go_wp2_with (refine wpList_store_blk rfl 73 (.tmp 7) (.tmp 16) rfl w4.heap.size 73 _ (bn F).toArray rfl rfl (Blk.new _ _ _) (by rw [HFS.out.1]; first | done | kernel_rfl) (by rw [HFS.out.1]; first | done | kernel_rfl) HFS.out.2 ?_; intro w5 hB5 ht5 hs5; have H5 : Hid (Blk w5 w4.heap.size 73 (bn F).toArray ∧ Touch (fun _ => False) wz w5) := Lib.hid ⟨hB5, Touch.then (S := fun _ => False) (H4.out.alloc _) ht5 (fun i hi e => by have := H4.out.size; omega)⟩; clear hB5 ht5 hs5)
  go_loopw [9] (fun c wz' => ∃ i : Nat, i ≤ 16 ∧ c = .int .i64 i ∧ Blk wz' w5.heap.size 22 (bn (F.take i ++ List.replicate (16 - i) 0)).toArray ∧ TG w5 wz') (fun c _ => (16 - intOf c).toNat)
  case atStart => exact ⟨0, Nat.zero_le _, rfl, by rw [List.take_zero]; exact Blk.new _ _ _, (TG.refl _).still ((Touch.refl _ _).alloc _)⟩
  case round =>
    obtain ⟨i, hi16, rfl, hB, hTG⟩ := hrel
    by_cases hq : i = 16
    · subst hq
      rw [Nat.sub_self, List.replicate_zero, List.append_nil] at hB
      have HE := Lib.hid (And.intro hB hTG)
      clear hB hTG
      go_wp2_with (first
        | (refine wpList_load_blk rfl 22 (.tmp 8) rfl _ 22 (bn (F.take 16)).toArray _ rfl HE.out.1 Try.underlying22 rfl (by rw [HFT.out.1]; first | done | kernel_rfl) ?_)
        | (refine wpList_store_blk rfl 22 (.tmp 6) (.tmp 26) rfl w.heap.size 22 _ (bn (F.take 16)).toArray rfl rfl ((HK3.out.2.1.touch H5.out.2 (fun h => h)).tg HE.out.2) (by rw [HFT.out.1]; first | done | kernel_rfl) (by rw [HFT.out.1]; first | done | kernel_rfl) HFT.out.2 ?_; intro w9 hB9 ht9 hs9))
      refine bodyPost_ret (results_cell_row rfl _ _ w.heap.size 22 (bn (F.take 16)).toArray (0, 0) _ rfl hB9 Try.underlying22 rfl (by rw [HFT.out.1]; first | done | kernel_rfl)) rfl ⟨by rw [HF2.out], ?_⟩
      exact (Touch.then ((HK3.out.2.2.trans H5.out.2).trans (HE.out.2).still2) ht9 (fun i hi e => by omega)).below (Nat.le_refl _) (fun _ _ h => h)
    · have hil : i < 16 := by omega
      have hiI : (i : Int) < 16 := by omega
      obtain ⟨y, hy⟩ : ∃ y, F[i]? = some y := ⟨_, List.getElem?_eq_getElem (by have := HF32.out; omega)⟩
      have cs := (H5.out.1.tg hTG).cell i (v := .int .u8 (y : Int)) (by simp [bn, bys, natsD, hy])
      have ct := hB.cell i (v := .int .u8 0) (bn_pad F i 16 hil (by have := HF32.out; omega))
      have fi := hB.frozen i
      have HK4 := Lib.hid (And.intro hB (And.intro hTG hy))
      clear hB hTG hy
      go_wp2_with fail
      go_roundw
      case rel =>
        obtain ⟨hB, hTG, hy⟩ := HK4.out
        refine ⟨i + 1, by omega, by first | rfl | (congr 1; omega), ?_, hTG.next (Touch.setCell (S := fun k => k = w5.heap.size) (Touch.refl _ _) (p := ⟨w5.heap.size, i, none⟩) (fun _ => rfl) _) (fun k hk => hk ▸ Nat.le_refl _)⟩
        have h := hB.set_bn i _ y rfl
        rw [take_set F i 16 y hil hy] at h
        exact h
      case measure => simp [intOf]; omega
end Go.Proofs.Ythlkmofemnepbaa
