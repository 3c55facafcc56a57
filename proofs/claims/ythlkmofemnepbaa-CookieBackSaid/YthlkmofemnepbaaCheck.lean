/-
  THE WALK of cookie.Check (layer 6).
-/
import Derived.Test.YthlkmofemnepbaaRows
import Derived.Test.YthlkmofemnepbaaMint
namespace Go.Proofs.Ythlkmofemnepbaa
open Go.RowKit

set_option maxRecDepth 100000 in
set_option maxHeartbeats 4000000 in
theorem check_any (a : Option Addr) (nk cap : Nat) (s : List Nat) (ad no ep now : Int) (c : List Nat) (w : World) (hk : s.length = nk) (hs : SlAt w a (bn s)) (hc : a = none → cap = 0) (hr : ∀ y ∈ s, y < 256) (hn : nk ≤ 100000)
    (hcl : c.length = 16) (hcr : ∀ y ∈ c, y < 256) (hm : now ≤ 9223372036854775807) :
    Calls Try.prog 32 #[.slice a nk cap, .int .i64 ad, .int .i64 no, .int .i64 ep, .int .i64 now, .agg (bn c).toArray] w fun e w' => e = .returned (.int .i64 (checkN s ad no ep now c)) ∧ Below w.heap.size w w' := by
  have HH := Lib.hid (And.intro hs (And.intro hc hr))
  have HC := Lib.hid (And.intro hcl hcr)
  clear hs hc hr hcl hcr
  obtain ⟨M, hM⟩ : ∃ M, M = mintN s ad no ep := ⟨_, rfl⟩
  have HMS : Hid ((bn M).toArray.size = 16 ∧ (bn M).toArray.all (·.oneCell') = true) := Lib.hid ⟨by rw [bn_size, hM]; exact mintN_len _ _ _ _, bn_all M⟩
  have HML : Hid (M.length = 16 ∧ ∀ y ∈ M, y < 256) := Lib.hid ⟨by rw [hM]; exact mintN_len _ _ _ _, by rw [hM]; exact mintN_lt _ _ _ _⟩
  have HM := Lib.hid hM
  clear hM
  go_enter Try.func32, Try.ntmps32
  go_wp2_with fail
  (with_reducible refine (mint_any a nk cap s ad no ep _ hk (HH.out.1.touch ((Touch.refl (fun _ => False) w).alloc _) (fun _ _ _ h => h)) HH.out.2.1 HH.out.2.2 hn).mono ?_)
  rintro e w1 ⟨rfl, hb1⟩
  rw [← HM.out]
  have ht1 : Touch (fun _ => False) w w1 := ((Touch.refl _ w).alloc _).trans (Touch.of_below hb1)
  have H1 : Hid (Touch (fun _ => False) w w1 ∧ Blk w1 w.heap.size 22 (bn c).toArray) := Lib.hid ⟨ht1, (Blk.new w (bn c).toArray 22).touch (Touch.of_below (S := fun _ => False) hb1) (fun h => h)⟩
  clear hb1 ht1
  obtain ⟨q, hq⟩ : ∃ q, decide (M = c) = q := ⟨_, rfl⟩
  have HQ := Lib.hid hq
  clear hq
  by_cases h1 : ep < 0
  · go_wp2_with (refine wpList_store_blk rfl 22 (.tmp 13) (.tmp 18) rfl w1.heap.size 22 _ (bn M).toArray rfl rfl (Blk.new _ _ _) (by rw [HMS.out.1]; first | done | kernel_rfl) (by rw [HMS.out.1]; first | done | kernel_rfl) HMS.out.2 ?_; intro w3 hB3 ht3 hs3; have H3 := Lib.hid (And.intro hB3 ht3); clear hB3 ht3 hs3)
    go_ret
    refine ⟨by rw [show checkN s ad no ep now c = 4 by unfold checkN; rw [if_pos (by omega)]]; first | done | rfl, (Touch.then (S := fun _ => False) (H1.out.1.alloc _) H3.out.2 (fun i hi e => by have := H1.out.1.size; omega)).below (Nat.le_refl _) (fun _ _ h => h)⟩
  by_cases h2 : now < ep
  · go_wp2_with (refine wpList_store_blk rfl 22 (.tmp 13) (.tmp 18) rfl w1.heap.size 22 _ (bn M).toArray rfl rfl (Blk.new _ _ _) (by rw [HMS.out.1]; first | done | kernel_rfl) (by rw [HMS.out.1]; first | done | kernel_rfl) HMS.out.2 ?_; intro w3 hB3 ht3 hs3; have H3 := Lib.hid (And.intro hB3 ht3); clear hB3 ht3 hs3)
    go_ret
    refine ⟨by rw [show checkN s ad no ep now c = 4 by unfold checkN; rw [if_pos (by omega)]]; first | done | rfl, (Touch.then (S := fun _ => False) (H1.out.1.alloc _) H3.out.2 (fun i hi e => by have := H1.out.1.size; omega)).below (Nat.le_refl _) (fun _ _ h => h)⟩
  by_cases h3 : 1 < now - ep
  · go_wp2_with (refine wpList_store_blk rfl 22 (.tmp 13) (.tmp 18) rfl w1.heap.size 22 _ (bn M).toArray rfl rfl (Blk.new _ _ _) (by rw [HMS.out.1]; first | done | kernel_rfl) (by rw [HMS.out.1]; first | done | kernel_rfl) HMS.out.2 ?_; intro w3 hB3 ht3 hs3; have H3 := Lib.hid (And.intro hB3 ht3); clear hB3 ht3 hs3)
    go_ret
    refine ⟨by rw [show checkN s ad no ep now c = 4 by unfold checkN; rw [if_pos (by omega)]]; first | done | rfl, (Touch.then (S := fun _ => False) (H1.out.1.alloc _) H3.out.2 (fun i hi e => by have := H1.out.1.size; omega)).below (Nat.le_refl _) (fun _ _ h => h)⟩
  · go_wp2_with (refine wpList_store_blk rfl 22 (.tmp 13) (.tmp 18) rfl w1.heap.size 22 _ (bn M).toArray rfl rfl (Blk.new _ _ _) (by rw [HMS.out.1]; first | done | kernel_rfl) (by rw [HMS.out.1]; first | done | kernel_rfl) HMS.out.2 ?_; intro w3 hB3 ht3 hs3; have H3 := Lib.hid (And.intro hB3 ht3); clear hB3 ht3 hs3)
    obtain ⟨n13, hn13⟩ : ∃ n13, n13 = w1.heap.size := ⟨_, rfl⟩
    rw [← hn13]
    have HK3 : Hid (Blk w3 n13 22 (bn M).toArray ∧ Blk w3 w.heap.size 22 (bn c).toArray ∧ Touch (fun _ => False) w w3) := by
      have hl := H1.out.2.lt
      have hz := H1.out.1.size
      exact Lib.hid ⟨by rw [hn13]; exact H3.out.1, (H1.out.2.alloc _).touch H3.out.2 (fun h => by omega), Touch.then (S := fun _ => False) (H1.out.1.alloc _) H3.out.2 (fun i hi e => by omega)⟩
    clear hn13
    refine wp_region_held_drew (S := fun _ => True) (by kernel_rfl) trivial (fun _ => ?_)
    refine anyH_world (R := fun w' : World => TG w3 w') ((TG.refl w3).drew) ?_
    intro W0q hHeld
    refine region_take 0 (v := ?vq0_1) rfl rfl (by kernel_rfl) (by kernel_rfl) (by kernel_rfl) (fun _ _ _ h => h) trivial (Or.inl ⟨by rfl, ?yq0_1⟩) ?rq0_1
    case yq0_1 => (intro w hSw; (try dsimp only at hSw); go_simp; try with_reducible rfl)
    try simp only [Act.put, List.setIfInBounds_toArray, List.set_cons_zero, List.set_cons_succ]
    refine region_take 1 (v := ?vq1_2) rfl rfl (by kernel_rfl) (by kernel_rfl) (by kernel_rfl) (fun _ _ _ h => h) trivial (Or.inl ⟨by rfl, ?yq1_2⟩) ?rq1_2
    case yq1_2 => (intro w hSw; (try dsimp only at hSw); go_simp; try with_reducible rfl)
    try simp only [Act.put, List.setIfInBounds_toArray, List.set_cons_zero, List.set_cons_succ]
    refine region_one 2 (by kernel_rfl) rfl (fun K hK => ?_)
    go_simp
    go_at_call 60
    (with_reducible refine (macEqual_eq q (some ⟨n13, 0, none⟩) 16 16 M (some ⟨w.heap.size, 0, none⟩) 16 16 c _ HQ.out HML.out.1 HC.out.1 (SlAt.of_blk (HK3.out.1.tg hHeld)) (SlAt.of_blk (HK3.out.2.1.tg hHeld)) HML.out.2 HC.out.2 (by decide) (by decide)).mono ?_)
    rintro e uq_3 ⟨rfl, hb8⟩
    have ht := hb8
    have hHeld2 := (((hHeld).still ht))
    clear hHeld ht
    have hHeld := hHeld2
    clear hHeld2
    refine hK.out _ _ trivial (fun _ => ?_)
    clear hK K
    try simp only [Act.put, List.setIfInBounds_toArray, List.set_cons_zero, List.set_cons_succ]
    refine region_take 3 (v := ?vq3_4) rfl rfl (by kernel_rfl) (by kernel_rfl) (by kernel_rfl) (fun _ _ _ h => h) trivial (Or.inl ⟨by rfl, ?yq3_4⟩) ?rq3_4
    case yq3_4 => (intro w hSw; (try dsimp only at hSw); go_simp; try with_reducible rfl)
    try simp only [Act.put, List.setIfInBounds_toArray, List.set_cons_zero, List.set_cons_succ]
    refine region_take 4 (v := ?vq4_5) rfl rfl (by kernel_rfl) (by kernel_rfl) (by kernel_rfl) (fun _ _ _ h => h) trivial (Or.inl ⟨by rfl, ?yq4_5⟩) ?rq4_5
    case yq4_5 => (intro w hSw; (try dsimp only at hSw); go_simp; try with_reducible rfl)
    try simp only [Act.put, List.setIfInBounds_toArray, List.set_cons_zero, List.set_cons_succ]
    refine wpAnyH_done (by kernel_rfl) ?_ _
    have HT := Lib.hid (HK3.out.2.2.trans (hHeld).still2)
    clear hHeld
    cases q
    · go_wp2_with fail
      go_ret
      refine ⟨by rw [show checkN s ad no ep now c = 3 by unfold checkN; rw [if_neg (by omega), if_neg (by rw [← HM.out]; exact of_decide_eq_false HQ.out)]]; first | done | rfl, HT.out.below (Nat.le_refl _) (fun _ _ h => h)⟩
    · go_wp2_with fail
      go_ret
      refine ⟨by rw [show checkN s ad no ep now c = 0 by unfold checkN; rw [if_neg (by omega), if_pos (by rw [← HM.out]; exact of_decide_eq_true HQ.out)]]; first | done | rfl, HT.out.below (Nat.le_refl _) (fun _ _ h => h)⟩

end Go.Proofs.Ythlkmofemnepbaa
