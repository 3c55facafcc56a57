/-
  THE WALK of tag.Key (layer 7).
-/
import Derived.Test.YthlkmofemnepbaaRows
import Derived.Test.YthlkmofemnepbaaMint
import Derived.Test.YthlkmofemnepbaaPutLib
namespace Go.Proofs.Ythlkmofemnepbaa
open Go.RowKit

/-- A session's key. -/
def keyN (s : List Nat) (se no : Int) : List Nat := (hmac s (num7 se ++ num7 no)).take 16
theorem keyN_len (s : List Nat) (se no : Int) : (keyN s se no).length = 16 := by rw [keyN, List.length_take, hmac_len]; rfl
theorem keyN_lt (s : List Nat) (se no : Int) : ∀ y ∈ keyN s se no, y < 256 := fun y hy => hmac_lt _ _ y (List.mem_of_mem_take hy)

set_option maxRecDepth 100000 in
set_option maxHeartbeats 4000000 in
theorem key_any (a : Option Addr) (nk cap : Nat) (s : List Nat) (se no : Int) (w : World) (hk : s.length = nk) (hs : SlAt w a (bn s)) (hc : a = none → cap = 0) (hr : ∀ y ∈ s, y < 256) (hn : nk ≤ 100000) :
    Calls Try.prog 37 #[.slice a nk cap, .int .i64 se, .int .i64 no] w fun e w' => e = .returned (.agg (bn (keyN s se no)).toArray) ∧ Below w.heap.size w w' := by
  have HH := Lib.hid (And.intro hc hr)
  have hsz : SlAt (w.alloc (.cells #[.int .u8 0, .int .u8 0, .int .u8 0, .int .u8 0, .int .u8 0, .int .u8 0, .int .u8 0, .int .u8 0, .int .u8 0, .int .u8 0, .int .u8 0, .int .u8 0, .int .u8 0, .int .u8 0, .int .u8 0, .int .u8 0] 22)) a (bn s) := hs.alloc _
  obtain ⟨F, hF⟩ : ∃ F, F = hmac s (num7 se ++ num7 no) := ⟨_, rfl⟩
  have hFl : F.length = 32 := by rw [hF]; exact hmac_len _ _
  have hFT : (F.take 16).length = 16 := by rw [List.length_take, hFl]; rfl
  have HFS := Lib.hid (And.intro (show (bn F).toArray.size = 32 by rw [bn_size, hFl]) (bn_all F))
  have HFT := Lib.hid (And.intro (show (bn (F.take 16)).toArray.size = 16 by rw [bn_size, hFT]) (bn_all (F.take 16)))
  have HFL := Lib.hid hFT
  have HF := Lib.hid hF
  have HF2 : Hid (keyN s se no = F.take 16) := Lib.hid (by rw [hF]; rfl)
  have HF7 : Hid (fitN 7 = 7) := Lib.hid rfl
  have HB : Hid (∀ y ∈ num7 se ++ num7 no, y < 256) := Lib.hid (fun y hy => by
    rcases List.mem_append.1 hy with h | h
    · exact num7_lt _ y h
    · exact num7_lt _ y h)
  clear hF hFl hFT hs hc hr
  go_enter Try.func37, Try.ntmps37
  go_wp2_with fail
  obtain ⟨wz, hwz⟩ : ∃ wz, wz = w.alloc (.cells #[.int .u8 0, .int .u8 0, .int .u8 0, .int .u8 0, .int .u8 0, .int .u8 0, .int .u8 0, .int .u8 0, .int .u8 0, .int .u8 0, .int .u8 0, .int .u8 0, .int .u8 0, .int .u8 0, .int .u8 0, .int .u8 0] 22) := ⟨_, rfl⟩
  rw [← hwz]
  rw [← hwz] at hsz
  have HK3 : Hid (SlAt wz a (bn s) ∧ Blk wz w.heap.size 22 (bn (List.replicate 16 0)).toArray ∧ Touch (fun _ => False) w wz) := Lib.hid ⟨hsz, by rw [hwz]; exact Blk.new w (bn (List.replicate 16 0)).toArray 22, by rw [hwz]; exact (Touch.refl _ w).alloc _⟩
  clear hwz hsz
  (with_reducible refine (put_nil se 7 7 (putList se 7 7) _ HF7.out rfl).mono ?_)
  rintro e w1 ⟨a1, c1, rfl, ho1, -, hn1, hb1⟩
  have H1 : Hid (SlAt w1 a1 (bn (num7 se)) ∧ (a1 = none → c1 = 0) ∧ Touch (fun _ => False) wz w1) := Lib.hid ⟨by rw [bn_num7]; exact SlAt.of_owns ho1, hn1, Touch.of_below hb1⟩
  clear ho1 hn1 hb1
  go_wp2_with fail
  (with_reducible refine (put_nil no 7 7 (putList no 7 7) _ HF7.out rfl).mono ?_)
  rintro e w2 ⟨a2, c2, rfl, ho2, -, hn2, hb2⟩
  have H2 : Hid (SlAt w2 a2 (bn (num7 no)) ∧ (a2 = none → c2 = 0) ∧ Touch (fun _ => False) wz w2 ∧ SlAt w2 a1 (bn (num7 se))) := Lib.hid ⟨by rw [bn_num7]; exact SlAt.of_owns ho2, hn2, H1.out.2.2.trans (Touch.of_below hb2), H1.out.1.touch (Touch.of_below (S := fun _ => False) hb2) (fun _ _ _ h => h)⟩
  clear ho2 hn2 hb2
  go_wp2_with fail
  (with_reducible refine (macOf_eq a nk cap s _ 2 2 [⟨a1, c1, num7 se⟩, ⟨a2, c2, num7 no⟩] (num7 se ++ num7 no) _ hk (by simp [flatP]) rfl (HK3.out.1.touch (H2.out.2.2.1.alloc _) (fun _ _ _ h => h)) HH.out.1 HH.out.2 hn ?_ (fun h => by cases h) HB.out (by simp [num7_len]) (by decide)).mono ?_)
  · have h := PartsIn.lay (w := w2) rfl [⟨a1, c1, num7 se⟩, ⟨a2, c2, num7 no⟩] 26 (fun p hp => by
      simp only [List.mem_cons, List.not_mem_nil, or_false] at hp
      rcases hp with rfl | rfl
      · exact ⟨H2.out.2.2.2, H1.out.2.1⟩
      · exact ⟨H2.out.1, H2.out.2.1⟩)
    simp only [List.map_cons, List.map_nil, Part.v, num7_len] at h
    exact h
  rintro e w3 ⟨rfl, hb3⟩
  rw [← HF.out]
  have H3 : Hid (Touch (fun _ => False) wz w3) := Lib.hid ((H2.out.2.2.1.alloc _).trans (Touch.of_below hb3))
  clear hb3
  go_wp2_with (first
    | (refine wpList_store_blk rfl 73 (.tmp 7) (.tmp 14) rfl w3.heap.size 73 _ (bn F).toArray rfl rfl (Blk.new _ _ _) (by rw [HFS.out.1]; first | done | kernel_rfl) (by rw [HFS.out.1]; first | done | kernel_rfl) HFS.out.2 ?_; intro w4 hB4 ht4 hs4; have H4 : Hid (Blk w4 w3.heap.size 73 (bn F).toArray ∧ Touch (fun _ => False) wz w4) := Lib.hid ⟨hB4, Touch.then (S := fun _ => False) (H3.out.alloc _) ht4 (fun i hi e => by have := H3.out.size; omega)⟩; clear hB4 ht4 hs4)
    | (refine wpList_arr rfl 22 (.tmp 15) rfl 16 5 _ 32 32 Try.underlying22 rfl (by decide) ?_)
    | (refine wpList_load_mid rfl 22 (.tmp 16) rfl _ 0 rfl (bn (F.take 16)) _ (rangeAt_take H4.out.1 16) Try.underlying22 rfl (by rw [bn_len, HFL.out]; kernel_rfl) ?_)
    | (refine wpList_store_blk rfl 22 (.tmp 6) (.tmp 17) rfl w.heap.size 22 _ (bn (F.take 16)).toArray rfl rfl (HK3.out.2.1.touch H4.out.2 (fun h => h)) (by rw [HFT.out.1]; first | done | kernel_rfl) (by rw [HFT.out.1]; first | done | kernel_rfl) HFT.out.2 ?_; intro w9 hB9 ht9 hs9))
  refine bodyPost_ret (results_cell_row rfl _ _ w.heap.size 22 (bn (F.take 16)).toArray (0, 0) _ rfl hB9 Try.underlying22 rfl (by rw [HFT.out.1]; first | done | kernel_rfl)) rfl ⟨by rw [HF2.out], ?_⟩
  exact (Touch.then (HK3.out.2.2.trans H4.out.2) ht9 (fun i hi e => by omega)).below (Nat.le_refl _) (fun _ _ h => h)
end Go.Proofs.Ythlkmofemnepbaa
