/-
  THE WALK of the document's Check (layer 6).
-/
import Derived.Test.YthlkmofemnepbaaRows
import Derived.Test.YthlkmofemnepbaaRMint
import Derived.Test.YthlkmofemnepbaaCheck
namespace Go.Proofs.Ythlkmofemnepbaa
open Go.RowKit

theorem run_neq_of {P : Program} (w : World) (t : TypeId) (x y : Array Value) (b : Bool) (h : (binOp .eql t (.agg x) (.agg y)).run P w = .ok (.bool b) w) : (binOp .neq t (.agg x) (.agg y)).run P w = .ok (.bool (!b)) w := by
  have h1 : ((Op.equal t (.agg x) (.agg y) >>= fun r => pure (.bool r) : Sem Value)).run P w = .ok (.bool b) w := h
  show ((Op.equal t (.agg x) (.agg y) >>= fun r => pure (.bool (!r)) : Sem Value)).run P w = _
  rw [Sem.run_bind] at h1 ⊢
  cases hq : (Op.equal t (.agg x) (.agg y)).run P w with
  | ok v w' =>
    rw [hq] at h1
    simp only [Result.andThen_ok, Sem.run_pure] at h1 ⊢
    injection h1 with h2 h3
    injection h2 with h4
    rw [h4, h3]
  | _ => rw [hq] at h1; cases h1
set_option maxRecDepth 100000 in
theorem run_neq16 (w : World) (M c : List Nat) (q : Bool) (hq : decide (M = c) = q) (h1 : M.length = 16) (h2 : c.length = 16) (h3 : ∀ y ∈ M, y < 256) (h4 : ∀ y ∈ c, y < 256) : (binOp .neq 22 (.agg (bn M).toArray) (.agg (bn c).toArray)).run Try.prog w = .ok (.bool (!q)) w := by
  obtain ⟨i0, hi, hz0, hz1, hz2⟩ := info_parts Try.info5
  refine run_neq_of w _ _ _ q ?_
  have h := run_eql_bn (P := Try.prog) w 22 5 16 Try.underlying22 Try.underlying5 (fun w => by rw [run_sizeOf w hi]; rfl) M c h1 h2 h3 h4
  rw [h, ← hq]
  congr 2
  rw [Bool.eq_iff_iff, beq_iff_eq, decide_eq_true_iff]
set_option maxRecDepth 100000 in
set_option maxHeartbeats 4000000 in
theorem refCheck_any (a : Option Addr) (nk cap : Nat) (s : List Nat) (ad no ep now : Int) (c : List Nat) (w : World) (hk : s.length = nk) (hs : SlAt w a (bn s)) (hc : a = none → cap = 0) (hr : ∀ y ∈ s, y < 256) (hn : nk ≤ 100000)
    (hcl : c.length = 16) (hcr : ∀ y ∈ c, y < 256) (hm0 : -9223372036854775808 ≤ now) (hm : now ≤ 9223372036854775807) :
    Calls Try.prog 33 #[.slice a nk cap, .int .i64 ad, .int .i64 no, .int .i64 ep, .int .i64 now, .agg (bn c).toArray] w fun e w' => e = .returned (.int .i64 (checkN s ad no ep now c)) ∧ Below w.heap.size w w' := by
  have HH := Lib.hid (And.intro hs (And.intro hc hr))
  have HC := Lib.hid (And.intro hcl hcr)
  clear hs hc hr hcl hcr
  obtain ⟨M, hM⟩ : ∃ M, M = mintN s ad no ep := ⟨_, rfl⟩
  have HMS : Hid ((bn M).toArray.size = 16 ∧ (bn M).toArray.all (·.oneCell') = true) := Lib.hid ⟨by rw [bn_size, hM]; exact mintN_len _ _ _ _, bn_all M⟩
  have HML : Hid (M.length = 16 ∧ ∀ y ∈ M, y < 256) := Lib.hid ⟨by rw [hM]; exact mintN_len _ _ _ _, by rw [hM]; exact mintN_lt _ _ _ _⟩
  have HM := Lib.hid hM
  clear hM
  obtain ⟨q, hq⟩ : ∃ q, decide (M = c) = q := ⟨_, rfl⟩
  have HQ := Lib.hid hq
  have e1 : ∀ w, (binOp .neq 22 (.agg (bn M).toArray) (.agg (bn c).toArray)).run Try.prog w = .ok (.bool (!q)) w := fun w => run_neq16 w M c q HQ.out HML.out.1 HC.out.1 HML.out.2 HC.out.2
  have HCS : Hid ((bn c).toArray.size = 16) := Lib.hid (by rw [bn_size]; exact HC.out.1)
  clear hq
  go_enter Try.func33, Try.ntmps33
  by_cases h1 : ep < 0
  · skip
    go_wp2_with fail
    go_ret
    refine ⟨by rw [show checkN s ad no ep now c = 4 by unfold checkN; rw [if_pos (by omega)]]; first | done | rfl, ((Touch.refl (fun _ => False) w).alloc _).below (Nat.le_refl _) (fun _ _ h => h)⟩
  by_cases h2 : ep = now
  · subst h2
    have HK3 : Hid (Blk (w.alloc (.cells (bn c).toArray 22)) w.heap.size 22 (bn c).toArray ∧ Touch (fun _ => False) w (w.alloc (.cells (bn c).toArray 22)) ∧ SlAt (w.alloc (.cells (bn c).toArray 22)) a (bn s)) := Lib.hid ⟨Blk.new _ _ _, (Touch.refl _ _).alloc _, HH.out.1.alloc _⟩
    go_wp2_with fail
    refine wp_region_held_drew (S := fun _ => True) (by kernel_rfl) trivial (fun _ => ?_)
    refine anyH_world (R := fun w' : World => TG (w.alloc (.cells (bn c).toArray 22)) w') ((TG.refl (w.alloc (.cells (bn c).toArray 22))).drew) ?_
    intro W0q hHeld
    refine region_take 0 (v := ?vq0_1) rfl rfl (by kernel_rfl) (by kernel_rfl) (by kernel_rfl) (fun _ _ _ h => h) trivial (Or.inl ⟨by rfl, ?yq0_1⟩) ?rq0_1
    case yq0_1 => (intro w hSw; (try dsimp only at hSw); go_simp; try with_reducible rfl)
    try simp only [Act.put, List.setIfInBounds_toArray, List.set_cons_zero, List.set_cons_succ]
    refine region_take 1 (v := ?vq1_2) rfl rfl (by kernel_rfl) (by kernel_rfl) (by kernel_rfl) (fun _ _ _ h => h) trivial (Or.inl ⟨by rfl, ?yq1_2⟩) ?rq1_2
    case yq1_2 => (intro w hSw; (try dsimp only at hSw); go_simp; try with_reducible rfl)
    try simp only [Act.put, List.setIfInBounds_toArray, List.set_cons_zero, List.set_cons_succ]
    refine region_take 2 (v := ?vq2_3) rfl rfl (by kernel_rfl) (by kernel_rfl) (by kernel_rfl) (fun _ _ _ h => h) trivial (Or.inl ⟨by rfl, ?yq2_3⟩) ?rq2_3
    case yq2_3 => (intro w hSw; (try dsimp only at hSw); go_simp; try with_reducible rfl)
    try simp only [Act.put, List.setIfInBounds_toArray, List.set_cons_zero, List.set_cons_succ]
    refine region_take 3 (v := ?vq3_4) rfl rfl (by kernel_rfl) (by kernel_rfl) (by kernel_rfl) (fun _ _ _ h => h) trivial (Or.inl ⟨by rfl, ?yq3_4⟩) ?rq3_4
    case yq3_4 => (intro w hSw; (try dsimp only at hSw); go_simp; try with_reducible rfl)
    try simp only [Act.put, List.setIfInBounds_toArray, List.set_cons_zero, List.set_cons_succ]
    refine region_two 4 5 (by kernel_rfl) rfl rfl (fun K hK => ?_) (fun K hK => ?_)
    · go_simp
      go_at_call 31
      (with_reducible refine (refMint_any a nk cap s ad no (ep) _ hk (HK3.out.2.2.tg hHeld) HH.out.2.1 HH.out.2.2 hn).mono ?_)
      rintro e uq_5 ⟨rfl, hb8⟩
      rw [← HM.out]
      have ht := Touch.of_below (S := fun _ => False) hb8
      have hHeld2 := (((hHeld).still ht))
      clear hHeld ht
      have hHeld := hHeld2
      clear hHeld2
      refine hK.out _ _ trivial (fun _ => ?_)
      clear hK K
      try simp only [Act.put, List.setIfInBounds_toArray, List.set_cons_zero, List.set_cons_succ]
      refine region_one 5 (by kernel_rfl) rfl (fun K hK => ?_)
      refine step_load_blk rfl 22 (.tmp 11) rfl w.heap.size 22 (bn c).toArray _ rfl (HK3.out.1.tg hHeld) Try.underlying22 rfl (by rw [HCS.out]; first | done | kernel_rfl) ?_
      refine K_world (fun w' : World => Touch (fun _ => False) uq_5 w') (Touch.refl _ _) ?_
      intro uq_6 hx
      have ht := hx
      have hHeld2 := (((hHeld).still ht))
      clear hHeld ht
      have hHeld := hHeld2
      clear hHeld2
      refine hK.out _ _ trivial (fun _ => ?_)
      clear hK K
      try simp only [Act.put, List.setIfInBounds_toArray, List.set_cons_zero, List.set_cons_succ]
      refine region_take 6 (v := ?vq6_7) rfl rfl (by kernel_rfl) (by kernel_rfl) (by kernel_rfl) (fun _ _ _ h => h) trivial (Or.inl ⟨by rfl, ?yq6_7⟩) ?rq6_7
      case yq6_7 => (intro w hSw; (try dsimp only at hSw); go_simp; try with_reducible rfl)
      try simp only [Act.put, List.setIfInBounds_toArray, List.set_cons_zero, List.set_cons_succ]
      refine wpAnyH_done (by kernel_rfl) ?_ _
      have HT := Lib.hid (HK3.out.2.1.trans (hHeld).still2)
      clear hHeld
      cases q
      · go_wp2_with fail
        go_ret
        refine ⟨by rw [show checkN s ad no (ep) (ep) c = 3 by unfold checkN; rw [if_neg (by omega), if_neg (by rw [← HM.out]; exact of_decide_eq_false HQ.out)]]; first | done | rfl, HT.out.below (Nat.le_refl _) (fun _ _ h => h)⟩
      · go_wp2_with fail
        go_ret
        refine ⟨by rw [show checkN s ad no (ep) (ep) c = 0 by unfold checkN; rw [if_neg (by omega), if_pos (by rw [← HM.out]; exact of_decide_eq_true HQ.out)]]; first | done | rfl, HT.out.below (Nat.le_refl _) (fun _ _ h => h)⟩
    · refine step_load_blk rfl 22 (.tmp 11) rfl w.heap.size 22 (bn c).toArray _ rfl (HK3.out.1.tg hHeld) Try.underlying22 rfl (by rw [HCS.out]; first | done | kernel_rfl) ?_
      refine K_world (fun w' : World => Touch (fun _ => False) W0q w') (Touch.refl _ _) ?_
      intro uq_8 hx
      have ht := hx
      have hHeld2 := (((hHeld).still ht))
      clear hHeld ht
      have hHeld := hHeld2
      clear hHeld2
      refine hK.out _ _ trivial (fun _ => ?_)
      clear hK K
      try simp only [Act.put, List.setIfInBounds_toArray, List.set_cons_zero, List.set_cons_succ]
      refine region_one 4 (by kernel_rfl) rfl (fun K hK => ?_)
      go_simp
      go_at_call 31
      (with_reducible refine (refMint_any a nk cap s ad no (ep) _ hk (HK3.out.2.2.tg hHeld) HH.out.2.1 HH.out.2.2 hn).mono ?_)
      rintro e uq_9 ⟨rfl, hb8⟩
      rw [← HM.out]
      have ht := Touch.of_below (S := fun _ => False) hb8
      have hHeld2 := (((hHeld).still ht))
      clear hHeld ht
      have hHeld := hHeld2
      clear hHeld2
      refine hK.out _ _ trivial (fun _ => ?_)
      clear hK K
      try simp only [Act.put, List.setIfInBounds_toArray, List.set_cons_zero, List.set_cons_succ]
      refine region_take 6 (v := ?vq6_10) rfl rfl (by kernel_rfl) (by kernel_rfl) (by kernel_rfl) (fun _ _ _ h => h) trivial (Or.inl ⟨by rfl, ?yq6_10⟩) ?rq6_10
      case yq6_10 => (intro w hSw; (try dsimp only at hSw); go_simp; try with_reducible rfl)
      try simp only [Act.put, List.setIfInBounds_toArray, List.set_cons_zero, List.set_cons_succ]
      refine wpAnyH_done (by kernel_rfl) ?_ _
      have HT := Lib.hid (HK3.out.2.1.trans (hHeld).still2)
      clear hHeld
      cases q
      · go_wp2_with fail
        go_ret
        refine ⟨by rw [show checkN s ad no (ep) (ep) c = 3 by unfold checkN; rw [if_neg (by omega), if_neg (by rw [← HM.out]; exact of_decide_eq_false HQ.out)]]; first | done | rfl, HT.out.below (Nat.le_refl _) (fun _ _ h => h)⟩
      · go_wp2_with fail
        go_ret
        refine ⟨by rw [show checkN s ad no (ep) (ep) c = 0 by unfold checkN; rw [if_neg (by omega), if_pos (by rw [← HM.out]; exact of_decide_eq_true HQ.out)]]; first | done | rfl, HT.out.below (Nat.le_refl _) (fun _ _ h => h)⟩
  have b2 : (ep != now) = true := bne_iff_ne.2 h2
  by_cases h3 : now = -9223372036854775808
  · subst h3
    go_wp2_with fail
    go_ret
    refine ⟨by rw [show checkN s ad no ep (-9223372036854775808) c = 4 by unfold checkN; rw [if_pos (by omega)]]; first | done | rfl, ((Touch.refl (fun _ => False) w).alloc _).below (Nat.le_refl _) (fun _ _ h => h)⟩
  have b3 : (now == -9223372036854775808) = false := beq_eq_false_iff_ne.2 h3
  by_cases h4 : ep = now - 1
  · subst h4
    have kw : IntKind.i64.wrap (now - 1) = now - 1 := by
      simp [IntKind.wrap, IntKind.bits, IntKind.signed]
      omega
    have HK3 : Hid (Blk (w.alloc (.cells (bn c).toArray 22)) w.heap.size 22 (bn c).toArray ∧ Touch (fun _ => False) w (w.alloc (.cells (bn c).toArray 22)) ∧ SlAt (w.alloc (.cells (bn c).toArray 22)) a (bn s)) := Lib.hid ⟨Blk.new _ _ _, (Touch.refl _ _).alloc _, HH.out.1.alloc _⟩
    go_wp2_with fail
    refine wp_region_held_drew (S := fun _ => True) (by kernel_rfl) trivial (fun _ => ?_)
    refine anyH_world (R := fun w' : World => TG (w.alloc (.cells (bn c).toArray 22)) w') ((TG.refl (w.alloc (.cells (bn c).toArray 22))).drew) ?_
    intro W0p hHeld
    refine region_take 0 (v := ?vp0_1) rfl rfl (by kernel_rfl) (by kernel_rfl) (by kernel_rfl) (fun _ _ _ h => h) trivial (Or.inl ⟨by rfl, ?yp0_1⟩) ?rp0_1
    case yp0_1 => (intro w hSw; (try dsimp only at hSw); go_simp; try with_reducible rfl)
    try simp only [Act.put, List.setIfInBounds_toArray, List.set_cons_zero, List.set_cons_succ]
    refine region_take 1 (v := ?vp1_2) rfl rfl (by kernel_rfl) (by kernel_rfl) (by kernel_rfl) (fun _ _ _ h => h) trivial (Or.inl ⟨by rfl, ?yp1_2⟩) ?rp1_2
    case yp1_2 => (intro w hSw; (try dsimp only at hSw); go_simp; try with_reducible rfl)
    try simp only [Act.put, List.setIfInBounds_toArray, List.set_cons_zero, List.set_cons_succ]
    refine region_take 2 (v := ?vp2_3) rfl rfl (by kernel_rfl) (by kernel_rfl) (by kernel_rfl) (fun _ _ _ h => h) trivial (Or.inl ⟨by rfl, ?yp2_3⟩) ?rp2_3
    case yp2_3 => (intro w hSw; (try dsimp only at hSw); go_simp; try with_reducible rfl)
    try simp only [Act.put, List.setIfInBounds_toArray, List.set_cons_zero, List.set_cons_succ]
    refine region_take 3 (v := ?vp3_4) rfl rfl (by kernel_rfl) (by kernel_rfl) (by kernel_rfl) (fun _ _ _ h => h) trivial (Or.inl ⟨by rfl, ?yp3_4⟩) ?rp3_4
    case yp3_4 => (intro w hSw; (try dsimp only at hSw); go_simp; try with_reducible rfl)
    try simp only [Act.put, List.setIfInBounds_toArray, List.set_cons_zero, List.set_cons_succ]
    refine region_two 4 5 (by kernel_rfl) rfl rfl (fun K hK => ?_) (fun K hK => ?_)
    · go_simp
      go_at_call 31
      (with_reducible refine (refMint_any a nk cap s ad no (now - 1) _ hk (HK3.out.2.2.tg hHeld) HH.out.2.1 HH.out.2.2 hn).mono ?_)
      rintro e up_5 ⟨rfl, hb8⟩
      rw [← HM.out]
      have ht := Touch.of_below (S := fun _ => False) hb8
      have hHeld2 := (((hHeld).still ht))
      clear hHeld ht
      have hHeld := hHeld2
      clear hHeld2
      refine hK.out _ _ trivial (fun _ => ?_)
      clear hK K
      try simp only [Act.put, List.setIfInBounds_toArray, List.set_cons_zero, List.set_cons_succ]
      refine region_one 5 (by kernel_rfl) rfl (fun K hK => ?_)
      refine step_load_blk rfl 22 (.tmp 11) rfl w.heap.size 22 (bn c).toArray _ rfl (HK3.out.1.tg hHeld) Try.underlying22 rfl (by rw [HCS.out]; first | done | kernel_rfl) ?_
      refine K_world (fun w' : World => Touch (fun _ => False) up_5 w') (Touch.refl _ _) ?_
      intro up_6 hx
      have ht := hx
      have hHeld2 := (((hHeld).still ht))
      clear hHeld ht
      have hHeld := hHeld2
      clear hHeld2
      refine hK.out _ _ trivial (fun _ => ?_)
      clear hK K
      try simp only [Act.put, List.setIfInBounds_toArray, List.set_cons_zero, List.set_cons_succ]
      refine region_take 6 (v := ?vp6_7) rfl rfl (by kernel_rfl) (by kernel_rfl) (by kernel_rfl) (fun _ _ _ h => h) trivial (Or.inl ⟨by rfl, ?yp6_7⟩) ?rp6_7
      case yp6_7 => (intro w hSw; (try dsimp only at hSw); go_simp; try with_reducible rfl)
      try simp only [Act.put, List.setIfInBounds_toArray, List.set_cons_zero, List.set_cons_succ]
      refine wpAnyH_done (by kernel_rfl) ?_ _
      have HT := Lib.hid (HK3.out.2.1.trans (hHeld).still2)
      clear hHeld
      cases q
      · go_wp2_with fail
        go_ret
        refine ⟨by rw [show checkN s ad no (now - 1) (now) c = 3 by unfold checkN; rw [if_neg (by omega), if_neg (by rw [← HM.out]; exact of_decide_eq_false HQ.out)]]; first | done | rfl, HT.out.below (Nat.le_refl _) (fun _ _ h => h)⟩
      · go_wp2_with fail
        go_ret
        refine ⟨by rw [show checkN s ad no (now - 1) (now) c = 0 by unfold checkN; rw [if_neg (by omega), if_pos (by rw [← HM.out]; exact of_decide_eq_true HQ.out)]]; first | done | rfl, HT.out.below (Nat.le_refl _) (fun _ _ h => h)⟩
    · refine step_load_blk rfl 22 (.tmp 11) rfl w.heap.size 22 (bn c).toArray _ rfl (HK3.out.1.tg hHeld) Try.underlying22 rfl (by rw [HCS.out]; first | done | kernel_rfl) ?_
      refine K_world (fun w' : World => Touch (fun _ => False) W0p w') (Touch.refl _ _) ?_
      intro up_8 hx
      have ht := hx
      have hHeld2 := (((hHeld).still ht))
      clear hHeld ht
      have hHeld := hHeld2
      clear hHeld2
      refine hK.out _ _ trivial (fun _ => ?_)
      clear hK K
      try simp only [Act.put, List.setIfInBounds_toArray, List.set_cons_zero, List.set_cons_succ]
      refine region_one 4 (by kernel_rfl) rfl (fun K hK => ?_)
      go_simp
      go_at_call 31
      (with_reducible refine (refMint_any a nk cap s ad no (now - 1) _ hk (HK3.out.2.2.tg hHeld) HH.out.2.1 HH.out.2.2 hn).mono ?_)
      rintro e up_9 ⟨rfl, hb8⟩
      rw [← HM.out]
      have ht := Touch.of_below (S := fun _ => False) hb8
      have hHeld2 := (((hHeld).still ht))
      clear hHeld ht
      have hHeld := hHeld2
      clear hHeld2
      refine hK.out _ _ trivial (fun _ => ?_)
      clear hK K
      try simp only [Act.put, List.setIfInBounds_toArray, List.set_cons_zero, List.set_cons_succ]
      refine region_take 6 (v := ?vp6_10) rfl rfl (by kernel_rfl) (by kernel_rfl) (by kernel_rfl) (fun _ _ _ h => h) trivial (Or.inl ⟨by rfl, ?yp6_10⟩) ?rp6_10
      case yp6_10 => (intro w hSw; (try dsimp only at hSw); go_simp; try with_reducible rfl)
      try simp only [Act.put, List.setIfInBounds_toArray, List.set_cons_zero, List.set_cons_succ]
      refine wpAnyH_done (by kernel_rfl) ?_ _
      have HT := Lib.hid (HK3.out.2.1.trans (hHeld).still2)
      clear hHeld
      cases q
      · go_wp2_with fail
        go_ret
        refine ⟨by rw [show checkN s ad no (now - 1) (now) c = 3 by unfold checkN; rw [if_neg (by omega), if_neg (by rw [← HM.out]; exact of_decide_eq_false HQ.out)]]; first | done | rfl, HT.out.below (Nat.le_refl _) (fun _ _ h => h)⟩
      · go_wp2_with fail
        go_ret
        refine ⟨by rw [show checkN s ad no (now - 1) (now) c = 0 by unfold checkN; rw [if_neg (by omega), if_pos (by rw [← HM.out]; exact of_decide_eq_true HQ.out)]]; first | done | rfl, HT.out.below (Nat.le_refl _) (fun _ _ h => h)⟩
  · have b4 : (ep != now - 1) = true := bne_iff_ne.2 h4
    go_wp2_with fail
    go_ret
    refine ⟨by rw [show checkN s ad no ep now c = 4 by unfold checkN; rw [if_pos (by omega)]]; first | done | rfl, ((Touch.refl (fun _ => False) w).alloc _).below (Nat.le_refl _) (fun _ _ h => h)⟩

end Go.Proofs.Ythlkmofemnepbaa
