/-
  THE WALK of the laws' small (layer 5).
-/
import Derived.Test.YthlkmofemnepbaaRows
import Derived.Test.YthlkmofemnepbaaDec
import Derived.Test.YthlkmofemnepbaaStr
namespace Go.Proofs.Ythlkmofemnepbaa
open Go.RowKit

set_option maxRecDepth 100000 in
theorem enc_lit (V : Array Value) (p : Pk) (hV : V = pkV p) (hp : p.Ok) (hR : RightN p) (zs : List Int) (n : Nat) (hz : encN p = zs) (hn : zs.length = n) (w : World) :
    Calls Try.prog 21 #[.agg V] w fun e w' => ∃ a c, e = .returned (.tuple #[.slice a n c, .int .i64 0]) ∧ w'.ownsRow w.heap.size 5 1 (.slice a n c) n (bys zs) ∧ (a = none → c = 0) ∧ Below w.heap.size w w' := by
  subst hV hz hn
  refine (wireEnc_yes p hp hR w).mono ?_
  rintro e w' ⟨⟨v, rfl, ho⟩, hb⟩
  obtain ⟨a, c, rfl, h1, _, _, _⟩ := owns_form ho.own
  exact ⟨a, c, rfl, ho.own, fun h => (h1 h).2, hb⟩

set_option maxRecDepth 100000 in
theorem enc_lit_no (V : Array Value) (p : Pk) (hV : V = pkV p) (hp : p.Ok) (hR : ¬ RightN p) (w : World) :
    Calls Try.prog 21 #[.agg V] w fun e w' => e = .returned (.tuple #[.slice none 0 0, .int .i64 1]) ∧ Below w.heap.size w w' := by
  subst hV
  exact wireEnc_no p hp hR w

set_option maxRecDepth 100000 in
theorem dec_yes (a : Option Addr) (n c : Nat) (zs : List Int) (q : Pk) (w : World) (hl : zs.length = n) (hs : SlAt w a (bys zs)) (hc : a = none → c = 0) (hn : n ≤ 90000) (hr : ∀ z ∈ zs, 0 ≤ z ∧ z < 256) (hD : DecOk zs) (hq : decP zs = q) :
    Calls Try.prog 23 #[.slice a n c] w fun e w' => e = .returned (.tuple #[.agg (pkV q), .int .i64 0]) ∧ Below w.heap.size w w' := by
  subst hq
  have h := wireDec_any a n c zs w hl hs hc hn hr
  rw [if_pos hD, if_pos hD] at h
  exact h

set_option maxRecDepth 100000 in
theorem dec_no (a : Option Addr) (n c : Nat) (zs : List Int) (w : World) (hl : zs.length = n) (hs : SlAt w a (bys zs)) (hc : a = none → c = 0) (hn : n ≤ 90000) (hr : ∀ z ∈ zs, 0 ≤ z ∧ z < 256) (hD : ¬ DecOk zs) :
    Calls Try.prog 23 #[.slice a n c] w fun e w' => e = .returned (.tuple #[.agg (pkV Pk.zero), .int .i64 2]) ∧ Below w.heap.size w w' := by
  have h := wireDec_any a n c zs w hl hs hc hn hr
  rw [if_neg hD, if_neg hD] at h
  exact h

theorem slat_nil0 (w : World) : SlAt w none (bys []) := rfl
theorem zero_ok : Pk.zero.Ok := pk_zero_ok _ rfl
set_option maxRecDepth 100000 in
theorem right_lit (V : Array Value) (p : Pk) (r : Bool) (hV : V = pkV p) (hp : p.Ok) (hr : decide (RightN p) = r) (w : World) :
    Calls Try.prog 25 #[.agg V] w fun e w' => e = .returned (.bool r) ∧ Below w.heap.size w w' := by
  subst hV hr
  exact wireRight_any p hp w

theorem touch_alloc {w w' : World} {o : Obj} (h : Below (w.alloc o).heap.size (w.alloc o) w') : Touch (fun _ => False) w w' := ((Touch.refl (fun _ => False) w).alloc o).trans (Touch.of_below h)
theorem touch_store {w w' : World} {o : Obj} (t : Touch (fun k => k = w.heap.size) (w.alloc o) w') : Touch (fun _ => False) w w' :=
  Touch.then (S := fun _ => False) ((Touch.refl (fun _ => False) w).alloc o) t (fun i hi e => by omega)

theorem str_at {w : World} {base : Nat} {a : Option Addr} {n c : Nat} {zs : List Int} {u : World} (ho : w.ownsRow base 5 1 (.slice a n c) n (bys zs)) (t : Touch (fun _ => False) w u) (hn : zs.length = n) :
    (convert 26 9 (.slice a n c)).run Try.prog u = .ok (.string (strOfNums zs)) u :=
  run_str (P := Try.prog) u 26 9 5 Try.underlying26 Try.underlying5 Try.underlying9 a n c zs hn ((SlAt.of_owns ho).touch t (fun _ _ _ h => h))

set_option maxRecDepth 100000 in
set_option maxHeartbeats 8000000 in
theorem wireSmall_any (w : World) : Calls Try.prog 20 #[] w fun e w' => e = .returned (.bool true) ∧ Below w.heap.size w w' := by
  obtain ⟨F, hF⟩ : ∃ F : Pk, F = ⟨[12, 0, 0, 0, 7, 0, 0, 0, 0, 0, 5, 0], List.replicate 16 0, List.replicate 8 0⟩ := ⟨_, rfl⟩
  have hFO : F.Ok := by rw [hF]; exact ⟨rfl, rfl, rfl, by decide, by decide⟩
  have HF := Lib.hid (And.intro hF hFO)
  clear hF hFO
  have b1 : ((strOfNums [1, 0, 0, 1, 2]).toList == ([1, 0, 0, 1, 2] : List UInt8)) = true := by kernel_rfl
  have b2 : ((strOfNums [7, 0, 0, 0, 1, 0, 0, 0, 2, 3, 4, 9, 8, 7, 0, 0, 0, 0, 0]).toList == ([7, 0, 0, 0, 1, 0, 0, 0, 2, 3, 4, 9, 8, 7, 0, 0, 0, 0, 0] : List UInt8)) = true := by kernel_rfl
  go_enter Try.func20, Try.ntmps20
  go_wp2_with fail
  (with_reducible refine (enc_lit _ ⟨[1, 0, 0, 0, 0, 0, 0, 0, 0, 0, 258, 0], List.replicate 16 0, List.replicate 8 0⟩ (by kernel_rfl) ⟨rfl, rfl, rfl, by decide, by decide⟩ (by decide +kernel) [1, 0, 0, 1, 2] 5 (by decide +kernel) rfl _).mono ?_)
  rintro e w1 ⟨a1, c1, rfl, ho1, hc1, hb1⟩
  have H1 := Lib.hid (And.intro ho1 (Touch.of_below (S := fun _ => False) hb1))
  clear ho1 hc1 hb1
  go_wp2_with fail
  (with_reducible refine (enc_lit _ ⟨[7, 1, 2, 4, 3, 0, 0, 0, 0, 0, 0, 0], List.replicate 16 0, [9, 8, 7, 0, 0, 0, 0, 0]⟩ (by kernel_rfl) ⟨rfl, rfl, rfl, by decide, by decide⟩ (by decide +kernel) [7, 0, 0, 0, 1, 0, 0, 0, 2, 3, 4, 9, 8, 7, 0, 0, 0, 0, 0] 19 (by decide +kernel) rfl _).mono ?_)
  rintro e w2 ⟨a2, c2, rfl, ho2, hc2, hb2⟩
  have H2 := Lib.hid (And.intro ho2 (Touch.of_below (S := fun _ => False) hb2))
  clear ho2 hc2 hb2
  go_wp2_with fail
  (with_reducible refine (enc_lit_no _ ⟨[1, 0, 1, 0, 0, 0, 0, 0, 0, 0, 1, 0], List.replicate 16 0, List.replicate 8 0⟩ (by kernel_rfl) ⟨rfl, rfl, rfl, by decide, by decide⟩ (by decide +kernel) _).mono ?_)
  rintro e w3 ⟨rfl, hb3⟩
  have H3 : Hid (Touch (fun _ => False) w2 w3) := Lib.hid (Touch.of_below hb3)
  clear hb3
  go_wp2_with fail
  (with_reducible refine (dec_yes (some ⟨w3.heap.size, 0, none⟩) 6 6 [12, 0, 0, 0, 5, 7] F _ rfl (SlAt.new_at rfl #[.int .u8 12, .int .u8 0, .int .u8 0, .int .u8 0, .int .u8 5, .int .u8 7] _ _) (fun h => by cases h) (by decide) (by decide) (by decide +kernel) (by rw [HF.out.1]; kernel_rfl)).mono ?_)
  rintro e w4 ⟨rfl, hb4⟩
  have H4 : Hid (Touch (fun _ => False) w2 w4) := Lib.hid (H3.out.trans (touch_alloc hb4))
  clear hb4
  go_wp2_with ((with_reducible refine at_op (.store 25 (.tmp 7) (.tmp 34)) rfl ?_); refine wpList_store_blk rfl 25 (.tmp 7) (.tmp 34) rfl w4.heap.size 25 _ (pkV F) rfl rfl (Blk.new _ _ _) (by rw [pkV_size HF.out.2]; first | done | kernel_rfl) (by rw [pkV_size HF.out.2]; first | done | kernel_rfl) (pkV_one _) ?_; intro w5 hB ht hs; have H5 : Hid (Touch (fun _ => False) w2 w5 ∧ Blk w5 w4.heap.size 25 (pkV F)) := Lib.hid (⟨H4.out.trans (touch_store ht), hB⟩); clear hB ht hs)
  (with_reducible refine (dec_no (some ⟨w5.heap.size, 0, none⟩) 6 6 [12, 0, 0, 0, 5, 16] _ rfl (SlAt.new_at rfl #[.int .u8 12, .int .u8 0, .int .u8 0, .int .u8 0, .int .u8 5, .int .u8 16] _ _) (fun h => by cases h) (by decide) (by decide) (by decide +kernel)).mono ?_)
  rintro e w6 ⟨rfl, hb6⟩
  have H6 : Hid (Touch (fun _ => False) w5 w6) := Lib.hid (touch_alloc hb6)
  clear hb6
  go_wp2_with ((with_reducible refine at_op (.store 25 (.tmp 9) (.tmp 39)) rfl ?_); refine wpList_store_blk rfl 25 (.tmp 9) (.tmp 39) rfl w6.heap.size 25 _ (pkV Pk.zero) rfl rfl (Blk.new _ _ _) (by rw [pkV_size zero_ok]; first | done | kernel_rfl) (by rw [pkV_size zero_ok]; first | done | kernel_rfl) (pkV_one _) ?_; intro w7 hB ht hs; have H7 : Hid (Touch (fun _ => False) w5 w7) := Lib.hid (H6.out.trans (touch_store ht)); clear hB ht hs)
  (with_reducible refine (dec_no (some ⟨w7.heap.size, 0, none⟩) 7 7 [12, 0, 0, 0, 5, 7, 0] _ rfl (SlAt.new_at rfl #[.int .u8 12, .int .u8 0, .int .u8 0, .int .u8 0, .int .u8 5, .int .u8 7, .int .u8 0] _ _) (fun h => by cases h) (by decide) (by decide) (by decide +kernel)).mono ?_)
  rintro e w8 ⟨rfl, hb8⟩
  have H8 : Hid (Touch (fun _ => False) w5 w8) := Lib.hid (H7.out.trans (touch_alloc hb8))
  clear hb8
  go_wp2_with ((with_reducible refine at_op (.store 25 (.tmp 11) (.tmp 44)) rfl ?_); refine wpList_store_blk rfl 25 (.tmp 11) (.tmp 44) rfl w8.heap.size 25 _ (pkV Pk.zero) rfl rfl (Blk.new _ _ _) (by rw [pkV_size zero_ok]; first | done | kernel_rfl) (by rw [pkV_size zero_ok]; first | done | kernel_rfl) (pkV_one _) ?_; intro w9 hB ht hs; have H9 : Hid (Touch (fun _ => False) w5 w9) := Lib.hid (H8.out.trans (touch_store ht)); clear hB ht hs)
  (with_reducible refine (dec_no none 0 0 [] _ rfl (slat_nil0 _) (fun _ => rfl) (by decide) (by decide) (by decide +kernel)).mono ?_)
  rintro e w10 ⟨rfl, hb10⟩
  have H10 : Hid (Touch (fun _ => False) w5 w10) := Lib.hid (H9.out.trans (Touch.of_below hb10))
  clear hb10
  obtain ⟨n7, hn7⟩ : ∃ n7, n7 = w4.heap.size := ⟨_, rfl⟩
  rw [← hn7]
  have HN7 : Hid (Blk w5 n7 25 (pkV F)) := Lib.hid (by rw [hn7]; exact H5.out.2)
  clear hn7
  go_wp2_with (first
    | ((with_reducible refine at_op (.store 25 (.tmp 13) (.tmp 48)) rfl ?_); refine wpList_store_blk rfl 25 (.tmp 13) (.tmp 48) rfl w10.heap.size 25 _ (pkV Pk.zero) rfl rfl (Blk.new _ _ _) (by rw [pkV_size zero_ok]; first | done | kernel_rfl) (by rw [pkV_size zero_ok]; first | done | kernel_rfl) (pkV_one _) ?_; intro w11 hB ht hs; have H11 : Hid (Touch (fun _ => False) w5 w11) := Lib.hid (H10.out.trans (touch_store ht)); clear hB ht hs; have q1 := str_at H1.out.1 (H2.out.2.trans (H5.out.1.trans H11.out)) rfl; have q2 := str_at H2.out.1 (H5.out.1.trans H11.out) rfl)
    | ((with_reducible refine at_op (.load 25 (.tmp 7)) rfl ?_); refine wpList_load_blk_g (by rfl) 25 (.tmp 7) rfl n7 25 (pkV F) _ rfl (HN7.out.touch H11.out (fun h => h)) Try.underlying25 rfl (by rw [pkV_size HF.out.2]; first | done | kernel_rfl) ?_)
    | ((with_reducible refine at_op (.binOp .eql 25 (.tmp 71) (.tmp 72) 25) rfl ?_); refine wpList_eql_g (by rfl) .eql 25 25 (.tmp 71) (.tmp 72) rfl (pkV F) (pkV F) rfl (by rw [HF.out.1]; rfl) (by kernel_rfl) true (run_eql_pk _ F F HF.out.2 HF.out.2 true (by simp)) ?_))
  (with_reducible refine (tagged_any 5 _).mono ?_)
  rintro e _ ⟨rfl, rfl⟩
  rw [show taggedN 5 = true from rfl]
  clear q1 q2
  go_wp2_with fail
  (with_reducible refine (tagged_any 4 _).mono ?_)
  rintro e _ ⟨rfl, rfl⟩
  rw [show taggedN 4 = false from rfl]
  go_wp2_with fail
  (with_reducible refine (right_lit _ ⟨[8, 1, 1, 0, 0, 0, 1, 0, 0, 0, 0, 0], List.replicate 16 0, List.replicate 8 0⟩ false (by kernel_rfl) ⟨rfl, rfl, rfl, by decide, by decide⟩ (by decide +kernel) _).mono ?_)
  rintro e w12 ⟨rfl, hb12⟩
  have H12 : Hid (Touch (fun _ => False) w w12) := Lib.hid ((H1.out.2.trans (H2.out.2.trans (H5.out.1.trans H11.out))).trans (Touch.of_below hb12))
  clear hb12
  go_wp2_with fail
  go_ret
  exact ⟨by first | rfl | simp, H12.out.below (Nat.le_refl _) (fun _ _ h => h)⟩
end Go.Proofs.Ythlkmofemnepbaa
