/-
  THE WALK of cookie.Mint (layer 6).
-/
import Derived.Test.YthlkmofemnepbaaRows
import Derived.Test.YthlkmofemnepbaaCookie
import Derived.Test.YthlkmofemnepbaaRegionTwo
import Derived.Deep.MidRow
namespace Go.Proofs.Ythlkmofemnepbaa
open Go.RowKit

/-- A slice is taken as a pointer to an array. -/
theorem wpList_arr {P : Program} {ops : Array Oper} {rest : List Oper} {o : Oper} {a : Act} {w : World} {Q : Exit → Act → World → Prop} (hg : o.guard = none) (ty : TypeId) (x : Operand) (ho : o.op = .sliceToArrayPointer ty x)
    (n : Nat) (e : TypeId) (ad : Option Addr) (len cap : Nat) (hu : P.underlying ty = some (.array n e)) (hx : a.eval x = .slice ad len cap) (hn : ¬ len < n)
    (h : wpList P ops Q rest (a.put o.dst (.pointer ad)) w) : wpList P ops Q (o :: rest) a w :=
  wpList_plain hg fun _ hK => by
    unfold Oper.wp execOp
    simp only [ho, hx, Instr.arrayAt, Sem.run_bind, Sem.run_pure, run_underlying hu w, if_neg hn, Result.andThen_ok]
    exact hK _ _ h

/-- The first cells of a block. -/
theorem rangeAt_take {w : World} {b : Nat} {T : TypeId} {F : List Nat} (h : Blk w b T (bn F).toArray) (k : Nat) : w.rangeAt b 0 (bn (F.take k)) := by
  intro j v hj
  rw [Nat.zero_add]
  refine h.cell j ?_
  rw [← bn_take, List.getElem?_take] at hj
  split at hj
  · simpa using hj
  · cases hj

set_option maxRecDepth 100000 in
set_option maxHeartbeats 4000000 in
theorem mint_any (a : Option Addr) (nk cap : Nat) (s : List Nat) (ad no ep : Int) (w : World) (hk : s.length = nk) (hs : SlAt w a (bn s)) (hc : a = none → cap = 0) (hr : ∀ y ∈ s, y < 256) (hn : nk ≤ 100000) :
    Calls Try.prog 30 #[.slice a nk cap, .int .i64 ad, .int .i64 no, .int .i64 ep] w fun e w' => e = .returned (.agg (bn (mintN s ad no ep)).toArray) ∧ Below w.heap.size w w' := by
  have HH := Lib.hid (And.intro hs (And.intro hc hr))
  clear hs hc hr
  obtain ⟨D, hD⟩ : ∃ D, D = hmac s (num7 ep) := ⟨_, rfl⟩
  obtain ⟨F, hF⟩ : ∃ F, F = hmac D (num7 ad ++ (num7 no ++ num7 ep)) := ⟨_, rfl⟩
  have hFl : F.length = 32 := by rw [hF]; exact hmac_len _ _
  have hFT : (F.take 16).length = 16 := by rw [List.length_take, hFl]; rfl
  have HFS := Lib.hid (And.intro (show (bn F).toArray.size = 32 by rw [bn_size, hFl]) (bn_all F))
  have HFT := Lib.hid (And.intro (show (bn (F.take 16)).toArray.size = 16 by rw [bn_size, hFT]) (bn_all (F.take 16)))
  have HFL := Lib.hid hFT
  have HF := Lib.hid hF
  have HF2 : Hid (mintN s ad no ep = F.take 16) := Lib.hid (by rw [hF, hD]; rfl)
  have HD : Hid (D.length = 32 ∧ ∀ y ∈ D, y < 256) := Lib.hid ⟨by rw [hD]; exact hmac_len _ _, by rw [hD]; exact hmac_lt _ _⟩
  have HDS := Lib.hid (And.intro (show (bn D).toArray.size = 32 by rw [bn_size, HD.out.1]) (bn_all D))
  have HD0 := Lib.hid hD
  have HB : Hid (∀ y ∈ num7 ad ++ (num7 no ++ num7 ep), y < 256) := Lib.hid (fun y hy => by
    simp only [List.mem_append] at hy
    rcases hy with h | h | h
    · exact num7_lt _ y h
    · exact num7_lt _ y h
    · exact num7_lt _ y h)
  clear hD hF hFl hFT
  go_enter Try.func30, Try.ntmps30
  go_wp2_with fail
  (with_reducible refine (number_any ep _).mono ?_)
  rintro e w1 ⟨a0, c0, rfl, -, hs0, hn0, hb0⟩
  have ht1 : Touch (fun _ => False) w w1 := ((Touch.refl _ w).alloc _).trans (Touch.of_below hb0)
  have H1 := Lib.hid (And.intro hs0 (And.intro hn0 (And.intro ht1 (And.intro ((Blk.new w (bn (List.replicate 16 0)).toArray 22).touch (Touch.of_below (S := fun _ => False) hb0) (fun h => h)) (HH.out.1.touch ht1 (fun _ _ _ h => h))))))
  clear hs0 hn0 hb0 ht1
  go_wp2_with fail
  (with_reducible refine (macOf_eq a nk cap s _ 1 1 [⟨a0, c0, num7 ep⟩] (num7 ep) _ hk (by simp [flatP]) rfl (H1.out.2.2.2.2.touch ((Touch.refl (fun _ => False) w1).alloc _) (fun _ _ _ h => h)) HH.out.2.1 HH.out.2.2 hn ?_ (fun h => by cases h) (num7_lt ep) (by rw [num7_len]; decide) (by decide)).mono ?_)
  · have h := PartsIn.lay (w := w1) rfl [⟨a0, c0, num7 ep⟩] 26 (fun p hp => by
      simp only [List.mem_cons, List.not_mem_nil, or_false] at hp
      obtain rfl := hp
      exact ⟨H1.out.1, H1.out.2.1⟩)
    simp only [List.map_cons, List.map_nil, Part.v, num7_len] at h
    exact h
  rintro e w2 ⟨rfl, hb2⟩
  rw [← HD0.out]
  have ht2 : Touch (fun _ => False) w1 w2 := ((Touch.refl _ w1).alloc _).trans (Touch.of_below hb2)
  have H2 := Lib.hid ht2
  clear hb2 ht2
  go_wp2_with (refine wpList_store_blk rfl 73 (.tmp 9) (.tmp 15) rfl w2.heap.size 73 _ (bn D).toArray rfl rfl (Blk.new _ _ _) (by rw [HDS.out.1]; first | done | kernel_rfl) (by rw [HDS.out.1]; first | done | kernel_rfl) HDS.out.2 ?_; intro w3 hB3 ht3 hs3)
  obtain ⟨n9, hn9⟩ : ∃ n9, n9 = w2.heap.size := ⟨_, rfl⟩
  rw [← hn9]
  have ht13 : Touch (fun _ => False) w1 w3 := Touch.then (S := fun _ => False) (H2.out.alloc _) ht3 (fun i hi e => by have := H2.out.size; omega)
  have HK3 : Hid (Blk w3 n9 73 (bn D).toArray ∧ Blk w3 w.heap.size 22 (bn (List.replicate 16 0)).toArray ∧ Touch (fun _ => False) w w3) := Lib.hid ⟨by rw [hn9]; exact hB3, H1.out.2.2.2.1.touch ht13 (fun h => h), H1.out.2.2.1.trans ht13⟩
  clear ht13 hB3 ht3 hs3 hn9
  go_wp2_with fail
  refine wp_region_held_drew (S := fun _ => True) (by kernel_rfl) trivial (fun _ => ?_)
  refine anyH_world (R := fun w' : World => TG w3 w') ((TG.refl w3).drew) ?_
  intro W0q hHeld
  refine region_take 0 (v := ?vq0_1) rfl rfl (by kernel_rfl) (by kernel_rfl) (by kernel_rfl) (fun _ _ _ h => h) trivial (Or.inl ⟨by rfl, ?yq0_1⟩) ?rq0_1
  case yq0_1 => (intro w hSw; (try dsimp only at hSw); go_simp; try with_reducible rfl)
  try simp only [Act.put, List.setIfInBounds_toArray, List.set_cons_zero, List.set_cons_succ]
  refine region_take 1 (v := ?vq1_2) rfl rfl (by kernel_rfl) (by kernel_rfl) (by kernel_rfl) (fun _ _ _ h => h) trivial (Or.inl ⟨by rfl, ?yq1_2⟩) ?rq1_2
  case yq1_2 => (intro w hSw; (try dsimp only at hSw); go_simp; try with_reducible rfl)
  try simp only [Act.put, List.setIfInBounds_toArray, List.set_cons_zero, List.set_cons_succ]
  refine region_take 3 (v := ?vq3_3) rfl rfl (by kernel_rfl) (by kernel_rfl) (by kernel_rfl) (fun _ _ _ h => h) trivial (Or.inl ⟨by rfl, ?yq3_3⟩) ?rq3_3
  case yq3_3 => (intro w hSw; (try dsimp only at hSw); go_simp; try with_reducible rfl)
  try simp only [Act.put, List.setIfInBounds_toArray, List.set_cons_zero, List.set_cons_succ]
  refine region_take 5 (v := ?vq5_4) rfl rfl (by kernel_rfl) (by kernel_rfl) (by kernel_rfl) (fun _ _ _ h => h) trivial (Or.inl ⟨by rfl, ?yq5_4⟩) ?rq5_4
  case yq5_4 => (intro w hSw; (try dsimp only at hSw); go_simp; try with_reducible rfl)
  try simp only [Act.put, List.setIfInBounds_toArray, List.set_cons_zero, List.set_cons_succ]
  refine region_two 2 9 (by kernel_rfl) rfl rfl (fun K hK => ?_) (fun K hK => ?_)
  · go_simp
    go_at_call 57
    (with_reducible refine (number_any ad _).mono ?_)
    rintro e uq_5 ⟨a1, c1, rfl, -, hs1, hn1, hb1⟩
    have HN1 := Lib.hid (And.intro hs1 hn1)
    clear hs1 hn1
    have ht := Touch.of_below (S := fun _ => False) hb1
    have hHeld2 := (And.intro ((hHeld).still ht) ((TG.refl uq_5)))
    clear hHeld ht
    have hHeld := hHeld2
    clear hHeld2
    refine hK.out _ _ trivial (fun _ => ?_)
    clear hK K
    try simp only [Act.put, List.setIfInBounds_toArray, List.set_cons_zero, List.set_cons_succ]
    refine region_two 4 9 (by kernel_rfl) rfl rfl (fun K hK => ?_) (fun K hK => ?_)
    · go_simp
      go_at_call 57
      (with_reducible refine (number_any no _).mono ?_)
      rintro e uq_6 ⟨a2, c2, rfl, -, hs2, hn2, hb2⟩
      have HN2 := Lib.hid (And.intro hs2 hn2)
      clear hs2 hn2
      have ht := Touch.of_below (S := fun _ => False) hb2
      have hHeld2 := (And.intro (((hHeld.1)).still ht) (And.intro (((hHeld.2)).still ht) ((TG.refl uq_6))))
      clear hHeld ht
      have hHeld := hHeld2
      clear hHeld2
      refine hK.out _ _ trivial (fun _ => ?_)
      clear hK K
      try simp only [Act.put, List.setIfInBounds_toArray, List.set_cons_zero, List.set_cons_succ]
      refine region_two 6 9 (by kernel_rfl) rfl rfl (fun K hK => ?_) (fun K hK => ?_)
      · go_simp
        go_at_call 57
        (with_reducible refine (number_any ep _).mono ?_)
        rintro e uq_7 ⟨a3, c3, rfl, -, hs3, hn3, hb3⟩
        have HN3 := Lib.hid (And.intro hs3 hn3)
        clear hs3 hn3
        have ht := Touch.of_below (S := fun _ => False) hb3
        have hHeld2 := (And.intro (((hHeld.1)).still ht) (And.intro (((hHeld.2.1)).still ht) (And.intro (((hHeld.2.2)).still ht) ((TG.refl uq_7)))))
        clear hHeld ht
        have hHeld := hHeld2
        clear hHeld2
        refine hK.out _ _ trivial (fun _ => ?_)
        clear hK K
        try simp only [Act.put, List.setIfInBounds_toArray, List.set_cons_zero, List.set_cons_succ]
        refine region_two 7 9 (by kernel_rfl) rfl rfl (fun K hK => ?_) (fun K hK => ?_)
        · go_simp
          refine K_world (fun w' : World => (Touch (fun _ => False) uq_7 w') ∧ (PartsIn w' (some ⟨uq_7.heap.size, 0, none⟩) [⟨a1, c1, num7 ad⟩, ⟨a2, c2, num7 no⟩, ⟨a3, c3, num7 ep⟩])) ⟨(Touch.refl _ _).alloc _, (by
      have h := PartsIn.lay (w := uq_7) rfl [⟨a1, c1, num7 ad⟩, ⟨a2, c2, num7 no⟩, ⟨a3, c3, num7 ep⟩] 26 (fun p hp => by
        simp only [List.mem_cons, List.not_mem_nil, or_false] at hp
        rcases hp with rfl | rfl | rfl
        · exact ⟨HN1.out.1.tg (hHeld.2.1), HN1.out.2⟩
        · exact ⟨HN2.out.1.tg (hHeld.2.2.1), HN2.out.2⟩
        · exact ⟨HN3.out.1.tg (hHeld.2.2.2), HN3.out.2⟩)
      simp only [List.map_cons, List.map_nil, Part.v, num7_len] at h
      exact h)⟩ ?_
          intro uq_8 hx
          have HP := Lib.hid hx.2
          have ht := hx.1
          have hHeld2 := (And.intro (((hHeld.1)).still ht) (And.intro (((hHeld.2.1)).still ht) (And.intro (((hHeld.2.2.1)).still ht) (And.intro (((hHeld.2.2.2)).still ht) ((TG.refl uq_8))))))
          clear hHeld ht
          have hHeld := hHeld2
          clear hHeld2
          refine hK.out _ _ trivial (fun _ => ?_)
          clear hK K
          try simp only [Act.put, List.setIfInBounds_toArray, List.set_cons_zero, List.set_cons_succ]
          refine region_two 8 9 (by kernel_rfl) rfl rfl (fun K hK => ?_) (fun K hK => ?_)
          · go_simp
            go_at_call 56
            (with_reducible refine (macOf_eq (some ⟨n9, 0, none⟩) 32 32 D _ 3 3 [⟨a1, c1, num7 ad⟩, ⟨a2, c2, num7 no⟩, ⟨a3, c3, num7 ep⟩] (num7 ad ++ (num7 no ++ num7 ep)) _ HD.out.1 (by simp [flatP]) rfl (SlAt.of_blk (HK3.out.1.tg (hHeld.1))) (fun h => by cases h) HD.out.2 (by decide) (HP.out.tg (hHeld.2.2.2.2)) (fun h => by cases h) HB.out (by simp [num7_len]) (by decide)).mono ?_)
            rintro e uq_9 ⟨rfl, hb8⟩
            rw [← HF.out]
            have ht := Touch.of_below (S := fun _ => False) hb8
            have hHeld2 := (And.intro (((hHeld.1)).still ht) (And.intro (((hHeld.2.1)).still ht) (And.intro (((hHeld.2.2.1)).still ht) (And.intro (((hHeld.2.2.2.1)).still ht) ((((hHeld.2.2.2.2)).still ht))))))
            clear hHeld ht
            have hHeld := hHeld2
            clear hHeld2
            refine hK.out _ _ trivial (fun _ => ?_)
            clear hK K
            try simp only [Act.put, List.setIfInBounds_toArray, List.set_cons_zero, List.set_cons_succ]
            refine region_one 9 (by kernel_rfl) rfl (fun K hK => ?_)
            go_simp
            refine K_world (fun w' : World => (Touch (fun _ => False) uq_9 w') ∧ (Blk w' uq_9.heap.size 73 (bn (List.replicate 32 0)).toArray ∧ TG w3 uq_9)) ⟨(Touch.refl _ _).alloc _, ⟨Blk.new _ _ _, (hHeld.1)⟩⟩ ?_
            intro uq_10 hx
            have HZ := Lib.hid hx.2
            have ht := hx.1
            have hHeld2 := (And.intro (((hHeld.1)).still ht) (And.intro (((hHeld.2.1)).still ht) (And.intro (((hHeld.2.2.1)).still ht) (And.intro (((hHeld.2.2.2.1)).still ht) (And.intro (((hHeld.2.2.2.2)).still ht) ((TG.refl uq_10)))))))
            clear hHeld ht
            have hHeld := hHeld2
            clear hHeld2
            refine hK.out _ _ trivial (fun _ => ?_)
            clear hK K
            try simp only [Act.put, List.setIfInBounds_toArray, List.set_cons_zero, List.set_cons_succ]
            refine region_one 10 (by kernel_rfl) rfl (fun K hK => ?_)
            refine step_store_blk rfl 73 (.tmp 10) (.tmp 24) rfl _ 73 _ (bn F).toArray rfl rfl (HZ.out.1.tg (hHeld.2.2.2.2.2)) (by rw [HFS.out.1]; first | done | kernel_rfl) (by rw [HFS.out.1]; first | done | kernel_rfl) HFS.out.2 ?_
            intro uq_11 hB10 hts hs10
            have HBF := Lib.hid hB10
            clear hB10 hs10
            have ht := hts
            have hHeld2 := ((((hHeld.1)).next ht (fun i hi => hi ▸ HZ.out.2.size)))
            clear hHeld ht
            have hHeld := hHeld2
            clear hHeld2
            refine hK.out _ _ trivial (fun _ => ?_)
            clear hK K
            try simp only [Act.put]
            refine wpAnyH_done (by kernel_rfl) ?_ _
            go_wp2_with (first
              | (refine wpList_arr rfl 22 (.tmp 25) rfl 16 5 _ 32 32 Try.underlying22 rfl (by decide) ?_)
              | (refine wpList_load_mid rfl 22 (.tmp 26) rfl _ 0 rfl (bn (F.take 16)) _ (rangeAt_take HBF.out 16) Try.underlying22 rfl (by rw [bn_len, HFL.out]; kernel_rfl) ?_)
              | (refine wpList_store_blk rfl 22 (.tmp 8) (.tmp 27) rfl w.heap.size 22 _ (bn (F.take 16)).toArray rfl rfl (HK3.out.2.1.tg hHeld) (by rw [HFT.out.1]; first | done | kernel_rfl) (by rw [HFT.out.1]; first | done | kernel_rfl) HFT.out.2 ?_; intro w9 hB9 ht9 hs9))
            refine bodyPost_ret (results_cell_row rfl _ _ w.heap.size 22 (bn (F.take 16)).toArray (0, 0) _ rfl hB9 Try.underlying22 rfl (by rw [HFT.out.1]; first | done | kernel_rfl)) rfl ⟨by rw [HF2.out], ?_⟩
            exact (Touch.then (HK3.out.2.2.trans (hHeld).still2) ht9 (fun i hi e => by omega)).below (Nat.le_refl _) (fun _ _ h => h)
          · go_simp
            refine K_world (fun w' : World => (Touch (fun _ => False) uq_8 w') ∧ (Blk w' uq_8.heap.size 73 (bn (List.replicate 32 0)).toArray ∧ TG w3 uq_8)) ⟨(Touch.refl _ _).alloc _, ⟨Blk.new _ _ _, (hHeld.1)⟩⟩ ?_
            intro uq_12 hx
            have HZ := Lib.hid hx.2
            have ht := hx.1
            have hHeld2 := (And.intro (((hHeld.1)).still ht) (And.intro (((hHeld.2.1)).still ht) (And.intro (((hHeld.2.2.1)).still ht) (And.intro (((hHeld.2.2.2.1)).still ht) (And.intro (((hHeld.2.2.2.2)).still ht) ((TG.refl uq_12)))))))
            clear hHeld ht
            have hHeld := hHeld2
            clear hHeld2
            refine hK.out _ _ trivial (fun _ => ?_)
            clear hK K
            try simp only [Act.put, List.setIfInBounds_toArray, List.set_cons_zero, List.set_cons_succ]
            refine region_one 8 (by kernel_rfl) rfl (fun K hK => ?_)
            go_simp
            go_at_call 56
            (with_reducible refine (macOf_eq (some ⟨n9, 0, none⟩) 32 32 D _ 3 3 [⟨a1, c1, num7 ad⟩, ⟨a2, c2, num7 no⟩, ⟨a3, c3, num7 ep⟩] (num7 ad ++ (num7 no ++ num7 ep)) _ HD.out.1 (by simp [flatP]) rfl (SlAt.of_blk (HK3.out.1.tg (hHeld.1))) (fun h => by cases h) HD.out.2 (by decide) (HP.out.tg (hHeld.2.2.2.2.1)) (fun h => by cases h) HB.out (by simp [num7_len]) (by decide)).mono ?_)
            rintro e uq_13 ⟨rfl, hb8⟩
            rw [← HF.out]
            have ht := Touch.of_below (S := fun _ => False) hb8
            have hHeld2 := (And.intro (((hHeld.1)).still ht) (And.intro (((hHeld.2.1)).still ht) (And.intro (((hHeld.2.2.1)).still ht) (And.intro (((hHeld.2.2.2.1)).still ht) (And.intro (((hHeld.2.2.2.2.1)).still ht) ((((hHeld.2.2.2.2.2)).still ht)))))))
            clear hHeld ht
            have hHeld := hHeld2
            clear hHeld2
            refine hK.out _ _ trivial (fun _ => ?_)
            clear hK K
            try simp only [Act.put, List.setIfInBounds_toArray, List.set_cons_zero, List.set_cons_succ]
            refine region_one 10 (by kernel_rfl) rfl (fun K hK => ?_)
            refine step_store_blk rfl 73 (.tmp 10) (.tmp 24) rfl _ 73 _ (bn F).toArray rfl rfl (HZ.out.1.tg (hHeld.2.2.2.2.2)) (by rw [HFS.out.1]; first | done | kernel_rfl) (by rw [HFS.out.1]; first | done | kernel_rfl) HFS.out.2 ?_
            intro uq_14 hB10 hts hs10
            have HBF := Lib.hid hB10
            clear hB10 hs10
            have ht := hts
            have hHeld2 := ((((hHeld.1)).next ht (fun i hi => hi ▸ HZ.out.2.size)))
            clear hHeld ht
            have hHeld := hHeld2
            clear hHeld2
            refine hK.out _ _ trivial (fun _ => ?_)
            clear hK K
            try simp only [Act.put]
            refine wpAnyH_done (by kernel_rfl) ?_ _
            go_wp2_with (first
              | (refine wpList_arr rfl 22 (.tmp 25) rfl 16 5 _ 32 32 Try.underlying22 rfl (by decide) ?_)
              | (refine wpList_load_mid rfl 22 (.tmp 26) rfl _ 0 rfl (bn (F.take 16)) _ (rangeAt_take HBF.out 16) Try.underlying22 rfl (by rw [bn_len, HFL.out]; kernel_rfl) ?_)
              | (refine wpList_store_blk rfl 22 (.tmp 8) (.tmp 27) rfl w.heap.size 22 _ (bn (F.take 16)).toArray rfl rfl (HK3.out.2.1.tg hHeld) (by rw [HFT.out.1]; first | done | kernel_rfl) (by rw [HFT.out.1]; first | done | kernel_rfl) HFT.out.2 ?_; intro w9 hB9 ht9 hs9))
            refine bodyPost_ret (results_cell_row rfl _ _ w.heap.size 22 (bn (F.take 16)).toArray (0, 0) _ rfl hB9 Try.underlying22 rfl (by rw [HFT.out.1]; first | done | kernel_rfl)) rfl ⟨by rw [HF2.out], ?_⟩
            exact (Touch.then (HK3.out.2.2.trans (hHeld).still2) ht9 (fun i hi e => by omega)).below (Nat.le_refl _) (fun _ _ h => h)
        · go_simp
          refine K_world (fun w' : World => (Touch (fun _ => False) uq_7 w') ∧ (Blk w' uq_7.heap.size 73 (bn (List.replicate 32 0)).toArray ∧ TG w3 uq_7)) ⟨(Touch.refl _ _).alloc _, ⟨Blk.new _ _ _, (hHeld.1)⟩⟩ ?_
          intro uq_15 hx
          have HZ := Lib.hid hx.2
          have ht := hx.1
          have hHeld2 := (And.intro (((hHeld.1)).still ht) (And.intro (((hHeld.2.1)).still ht) (And.intro (((hHeld.2.2.1)).still ht) (And.intro (((hHeld.2.2.2)).still ht) ((TG.refl uq_15))))))
          clear hHeld ht
          have hHeld := hHeld2
          clear hHeld2
          refine hK.out _ _ trivial (fun _ => ?_)
          clear hK K
          try simp only [Act.put, List.setIfInBounds_toArray, List.set_cons_zero, List.set_cons_succ]
          refine region_one 7 (by kernel_rfl) rfl (fun K hK => ?_)
          go_simp
          refine K_world (fun w' : World => (Touch (fun _ => False) uq_15 w') ∧ (PartsIn w' (some ⟨uq_15.heap.size, 0, none⟩) [⟨a1, c1, num7 ad⟩, ⟨a2, c2, num7 no⟩, ⟨a3, c3, num7 ep⟩])) ⟨(Touch.refl _ _).alloc _, (by
      have h := PartsIn.lay (w := uq_15) rfl [⟨a1, c1, num7 ad⟩, ⟨a2, c2, num7 no⟩, ⟨a3, c3, num7 ep⟩] 26 (fun p hp => by
        simp only [List.mem_cons, List.not_mem_nil, or_false] at hp
        rcases hp with rfl | rfl | rfl
        · exact ⟨HN1.out.1.tg (hHeld.2.1), HN1.out.2⟩
        · exact ⟨HN2.out.1.tg (hHeld.2.2.1), HN2.out.2⟩
        · exact ⟨HN3.out.1.tg (hHeld.2.2.2.1), HN3.out.2⟩)
      simp only [List.map_cons, List.map_nil, Part.v, num7_len] at h
      exact h)⟩ ?_
          intro uq_16 hx
          have HP := Lib.hid hx.2
          have ht := hx.1
          have hHeld2 := (And.intro (((hHeld.1)).still ht) (And.intro (((hHeld.2.1)).still ht) (And.intro (((hHeld.2.2.1)).still ht) (And.intro (((hHeld.2.2.2.1)).still ht) (And.intro (((hHeld.2.2.2.2)).still ht) ((TG.refl uq_16)))))))
          clear hHeld ht
          have hHeld := hHeld2
          clear hHeld2
          refine hK.out _ _ trivial (fun _ => ?_)
          clear hK K
          try simp only [Act.put, List.setIfInBounds_toArray, List.set_cons_zero, List.set_cons_succ]
          refine region_one 8 (by kernel_rfl) rfl (fun K hK => ?_)
          go_simp
          go_at_call 56
          (with_reducible refine (macOf_eq (some ⟨n9, 0, none⟩) 32 32 D _ 3 3 [⟨a1, c1, num7 ad⟩, ⟨a2, c2, num7 no⟩, ⟨a3, c3, num7 ep⟩] (num7 ad ++ (num7 no ++ num7 ep)) _ HD.out.1 (by simp [flatP]) rfl (SlAt.of_blk (HK3.out.1.tg (hHeld.1))) (fun h => by cases h) HD.out.2 (by decide) (HP.out.tg (hHeld.2.2.2.2.2)) (fun h => by cases h) HB.out (by simp [num7_len]) (by decide)).mono ?_)
          rintro e uq_17 ⟨rfl, hb8⟩
          rw [← HF.out]
          have ht := Touch.of_below (S := fun _ => False) hb8
          have hHeld2 := (And.intro (((hHeld.1)).still ht) (And.intro (((hHeld.2.1)).still ht) (And.intro (((hHeld.2.2.1)).still ht) (And.intro (((hHeld.2.2.2.1)).still ht) (And.intro (((hHeld.2.2.2.2.1)).still ht) ((((hHeld.2.2.2.2.2)).still ht)))))))
          clear hHeld ht
          have hHeld := hHeld2
          clear hHeld2
          refine hK.out _ _ trivial (fun _ => ?_)
          clear hK K
          try simp only [Act.put, List.setIfInBounds_toArray, List.set_cons_zero, List.set_cons_succ]
          refine region_one 10 (by kernel_rfl) rfl (fun K hK => ?_)
          refine step_store_blk rfl 73 (.tmp 10) (.tmp 24) rfl _ 73 _ (bn F).toArray rfl rfl (HZ.out.1.tg (hHeld.2.2.2.2.1)) (by rw [HFS.out.1]; first | done | kernel_rfl) (by rw [HFS.out.1]; first | done | kernel_rfl) HFS.out.2 ?_
          intro uq_18 hB10 hts hs10
          have HBF := Lib.hid hB10
          clear hB10 hs10
          have ht := hts
          have hHeld2 := ((((hHeld.1)).next ht (fun i hi => hi ▸ HZ.out.2.size)))
          clear hHeld ht
          have hHeld := hHeld2
          clear hHeld2
          refine hK.out _ _ trivial (fun _ => ?_)
          clear hK K
          try simp only [Act.put]
          refine wpAnyH_done (by kernel_rfl) ?_ _
          go_wp2_with (first
            | (refine wpList_arr rfl 22 (.tmp 25) rfl 16 5 _ 32 32 Try.underlying22 rfl (by decide) ?_)
            | (refine wpList_load_mid rfl 22 (.tmp 26) rfl _ 0 rfl (bn (F.take 16)) _ (rangeAt_take HBF.out 16) Try.underlying22 rfl (by rw [bn_len, HFL.out]; kernel_rfl) ?_)
            | (refine wpList_store_blk rfl 22 (.tmp 8) (.tmp 27) rfl w.heap.size 22 _ (bn (F.take 16)).toArray rfl rfl (HK3.out.2.1.tg hHeld) (by rw [HFT.out.1]; first | done | kernel_rfl) (by rw [HFT.out.1]; first | done | kernel_rfl) HFT.out.2 ?_; intro w9 hB9 ht9 hs9))
          refine bodyPost_ret (results_cell_row rfl _ _ w.heap.size 22 (bn (F.take 16)).toArray (0, 0) _ rfl hB9 Try.underlying22 rfl (by rw [HFT.out.1]; first | done | kernel_rfl)) rfl ⟨by rw [HF2.out], ?_⟩
          exact (Touch.then (HK3.out.2.2.trans (hHeld).still2) ht9 (fun i hi e => by omega)).below (Nat.le_refl _) (fun _ _ h => h)
      · go_simp
        refine K_world (fun w' : World => (Touch (fun _ => False) uq_6 w') ∧ (Blk w' uq_6.heap.size 73 (bn (List.replicate 32 0)).toArray ∧ TG w3 uq_6)) ⟨(Touch.refl _ _).alloc _, ⟨Blk.new _ _ _, (hHeld.1)⟩⟩ ?_
        intro uq_19 hx
        have HZ := Lib.hid hx.2
        have ht := hx.1
        have hHeld2 := (And.intro (((hHeld.1)).still ht) (And.intro (((hHeld.2.1)).still ht) (And.intro (((hHeld.2.2)).still ht) ((TG.refl uq_19)))))
        clear hHeld ht
        have hHeld := hHeld2
        clear hHeld2
        refine hK.out _ _ trivial (fun _ => ?_)
        clear hK K
        try simp only [Act.put, List.setIfInBounds_toArray, List.set_cons_zero, List.set_cons_succ]
        refine region_one 6 (by kernel_rfl) rfl (fun K hK => ?_)
        go_simp
        go_at_call 57
        (with_reducible refine (number_any ep _).mono ?_)
        rintro e uq_20 ⟨a3, c3, rfl, -, hs3, hn3, hb3⟩
        have HN3 := Lib.hid (And.intro hs3 hn3)
        clear hs3 hn3
        have ht := Touch.of_below (S := fun _ => False) hb3
        have hHeld2 := (And.intro (((hHeld.1)).still ht) (And.intro (((hHeld.2.1)).still ht) (And.intro (((hHeld.2.2.1)).still ht) (And.intro (((hHeld.2.2.2)).still ht) ((TG.refl uq_20))))))
        clear hHeld ht
        have hHeld := hHeld2
        clear hHeld2
        refine hK.out _ _ trivial (fun _ => ?_)
        clear hK K
        try simp only [Act.put, List.setIfInBounds_toArray, List.set_cons_zero, List.set_cons_succ]
        refine region_one 7 (by kernel_rfl) rfl (fun K hK => ?_)
        go_simp
        refine K_world (fun w' : World => (Touch (fun _ => False) uq_20 w') ∧ (PartsIn w' (some ⟨uq_20.heap.size, 0, none⟩) [⟨a1, c1, num7 ad⟩, ⟨a2, c2, num7 no⟩, ⟨a3, c3, num7 ep⟩])) ⟨(Touch.refl _ _).alloc _, (by
      have h := PartsIn.lay (w := uq_20) rfl [⟨a1, c1, num7 ad⟩, ⟨a2, c2, num7 no⟩, ⟨a3, c3, num7 ep⟩] 26 (fun p hp => by
        simp only [List.mem_cons, List.not_mem_nil, or_false] at hp
        rcases hp with rfl | rfl | rfl
        · exact ⟨HN1.out.1.tg (hHeld.2.1), HN1.out.2⟩
        · exact ⟨HN2.out.1.tg (hHeld.2.2.1), HN2.out.2⟩
        · exact ⟨HN3.out.1.tg (hHeld.2.2.2.2), HN3.out.2⟩)
      simp only [List.map_cons, List.map_nil, Part.v, num7_len] at h
      exact h)⟩ ?_
        intro uq_21 hx
        have HP := Lib.hid hx.2
        have ht := hx.1
        have hHeld2 := (And.intro (((hHeld.1)).still ht) (And.intro (((hHeld.2.1)).still ht) (And.intro (((hHeld.2.2.1)).still ht) (And.intro (((hHeld.2.2.2.1)).still ht) (And.intro (((hHeld.2.2.2.2)).still ht) ((TG.refl uq_21)))))))
        clear hHeld ht
        have hHeld := hHeld2
        clear hHeld2
        refine hK.out _ _ trivial (fun _ => ?_)
        clear hK K
        try simp only [Act.put, List.setIfInBounds_toArray, List.set_cons_zero, List.set_cons_succ]
        refine region_one 8 (by kernel_rfl) rfl (fun K hK => ?_)
        go_simp
        go_at_call 56
        (with_reducible refine (macOf_eq (some ⟨n9, 0, none⟩) 32 32 D _ 3 3 [⟨a1, c1, num7 ad⟩, ⟨a2, c2, num7 no⟩, ⟨a3, c3, num7 ep⟩] (num7 ad ++ (num7 no ++ num7 ep)) _ HD.out.1 (by simp [flatP]) rfl (SlAt.of_blk (HK3.out.1.tg (hHeld.1))) (fun h => by cases h) HD.out.2 (by decide) (HP.out.tg (hHeld.2.2.2.2.2)) (fun h => by cases h) HB.out (by simp [num7_len]) (by decide)).mono ?_)
        rintro e uq_22 ⟨rfl, hb8⟩
        rw [← HF.out]
        have ht := Touch.of_below (S := fun _ => False) hb8
        have hHeld2 := (And.intro (((hHeld.1)).still ht) (And.intro (((hHeld.2.1)).still ht) (And.intro (((hHeld.2.2.1)).still ht) (And.intro (((hHeld.2.2.2.1)).still ht) (And.intro (((hHeld.2.2.2.2.1)).still ht) ((((hHeld.2.2.2.2.2)).still ht)))))))
        clear hHeld ht
        have hHeld := hHeld2
        clear hHeld2
        refine hK.out _ _ trivial (fun _ => ?_)
        clear hK K
        try simp only [Act.put, List.setIfInBounds_toArray, List.set_cons_zero, List.set_cons_succ]
        refine region_one 10 (by kernel_rfl) rfl (fun K hK => ?_)
        refine step_store_blk rfl 73 (.tmp 10) (.tmp 24) rfl _ 73 _ (bn F).toArray rfl rfl (HZ.out.1.tg (hHeld.2.2.2.1)) (by rw [HFS.out.1]; first | done | kernel_rfl) (by rw [HFS.out.1]; first | done | kernel_rfl) HFS.out.2 ?_
        intro uq_23 hB10 hts hs10
        have HBF := Lib.hid hB10
        clear hB10 hs10
        have ht := hts
        have hHeld2 := ((((hHeld.1)).next ht (fun i hi => hi ▸ HZ.out.2.size)))
        clear hHeld ht
        have hHeld := hHeld2
        clear hHeld2
        refine hK.out _ _ trivial (fun _ => ?_)
        clear hK K
        try simp only [Act.put]
        refine wpAnyH_done (by kernel_rfl) ?_ _
        go_wp2_with (first
          | (refine wpList_arr rfl 22 (.tmp 25) rfl 16 5 _ 32 32 Try.underlying22 rfl (by decide) ?_)
          | (refine wpList_load_mid rfl 22 (.tmp 26) rfl _ 0 rfl (bn (F.take 16)) _ (rangeAt_take HBF.out 16) Try.underlying22 rfl (by rw [bn_len, HFL.out]; kernel_rfl) ?_)
          | (refine wpList_store_blk rfl 22 (.tmp 8) (.tmp 27) rfl w.heap.size 22 _ (bn (F.take 16)).toArray rfl rfl (HK3.out.2.1.tg hHeld) (by rw [HFT.out.1]; first | done | kernel_rfl) (by rw [HFT.out.1]; first | done | kernel_rfl) HFT.out.2 ?_; intro w9 hB9 ht9 hs9))
        refine bodyPost_ret (results_cell_row rfl _ _ w.heap.size 22 (bn (F.take 16)).toArray (0, 0) _ rfl hB9 Try.underlying22 rfl (by rw [HFT.out.1]; first | done | kernel_rfl)) rfl ⟨by rw [HF2.out], ?_⟩
        exact (Touch.then (HK3.out.2.2.trans (hHeld).still2) ht9 (fun i hi e => by omega)).below (Nat.le_refl _) (fun _ _ h => h)
    · go_simp
      refine K_world (fun w' : World => (Touch (fun _ => False) uq_5 w') ∧ (Blk w' uq_5.heap.size 73 (bn (List.replicate 32 0)).toArray ∧ TG w3 uq_5)) ⟨(Touch.refl _ _).alloc _, ⟨Blk.new _ _ _, (hHeld.1)⟩⟩ ?_
      intro uq_24 hx
      have HZ := Lib.hid hx.2
      have ht := hx.1
      have hHeld2 := (And.intro (((hHeld.1)).still ht) (And.intro (((hHeld.2)).still ht) ((TG.refl uq_24))))
      clear hHeld ht
      have hHeld := hHeld2
      clear hHeld2
      refine hK.out _ _ trivial (fun _ => ?_)
      clear hK K
      try simp only [Act.put, List.setIfInBounds_toArray, List.set_cons_zero, List.set_cons_succ]
      refine region_one 4 (by kernel_rfl) rfl (fun K hK => ?_)
      go_simp
      go_at_call 57
      (with_reducible refine (number_any no _).mono ?_)
      rintro e uq_25 ⟨a2, c2, rfl, -, hs2, hn2, hb2⟩
      have HN2 := Lib.hid (And.intro hs2 hn2)
      clear hs2 hn2
      have ht := Touch.of_below (S := fun _ => False) hb2
      have hHeld2 := (And.intro (((hHeld.1)).still ht) (And.intro (((hHeld.2.1)).still ht) (And.intro (((hHeld.2.2)).still ht) ((TG.refl uq_25)))))
      clear hHeld ht
      have hHeld := hHeld2
      clear hHeld2
      refine hK.out _ _ trivial (fun _ => ?_)
      clear hK K
      try simp only [Act.put, List.setIfInBounds_toArray, List.set_cons_zero, List.set_cons_succ]
      refine region_one 6 (by kernel_rfl) rfl (fun K hK => ?_)
      go_simp
      go_at_call 57
      (with_reducible refine (number_any ep _).mono ?_)
      rintro e uq_26 ⟨a3, c3, rfl, -, hs3, hn3, hb3⟩
      have HN3 := Lib.hid (And.intro hs3 hn3)
      clear hs3 hn3
      have ht := Touch.of_below (S := fun _ => False) hb3
      have hHeld2 := (And.intro (((hHeld.1)).still ht) (And.intro (((hHeld.2.1)).still ht) (And.intro (((hHeld.2.2.1)).still ht) (And.intro (((hHeld.2.2.2)).still ht) ((TG.refl uq_26))))))
      clear hHeld ht
      have hHeld := hHeld2
      clear hHeld2
      refine hK.out _ _ trivial (fun _ => ?_)
      clear hK K
      try simp only [Act.put, List.setIfInBounds_toArray, List.set_cons_zero, List.set_cons_succ]
      refine region_one 7 (by kernel_rfl) rfl (fun K hK => ?_)
      go_simp
      refine K_world (fun w' : World => (Touch (fun _ => False) uq_26 w') ∧ (PartsIn w' (some ⟨uq_26.heap.size, 0, none⟩) [⟨a1, c1, num7 ad⟩, ⟨a2, c2, num7 no⟩, ⟨a3, c3, num7 ep⟩])) ⟨(Touch.refl _ _).alloc _, (by
      have h := PartsIn.lay (w := uq_26) rfl [⟨a1, c1, num7 ad⟩, ⟨a2, c2, num7 no⟩, ⟨a3, c3, num7 ep⟩] 26 (fun p hp => by
        simp only [List.mem_cons, List.not_mem_nil, or_false] at hp
        rcases hp with rfl | rfl | rfl
        · exact ⟨HN1.out.1.tg (hHeld.2.1), HN1.out.2⟩
        · exact ⟨HN2.out.1.tg (hHeld.2.2.2.1), HN2.out.2⟩
        · exact ⟨HN3.out.1.tg (hHeld.2.2.2.2), HN3.out.2⟩)
      simp only [List.map_cons, List.map_nil, Part.v, num7_len] at h
      exact h)⟩ ?_
      intro uq_27 hx
      have HP := Lib.hid hx.2
      have ht := hx.1
      have hHeld2 := (And.intro (((hHeld.1)).still ht) (And.intro (((hHeld.2.1)).still ht) (And.intro (((hHeld.2.2.1)).still ht) (And.intro (((hHeld.2.2.2.1)).still ht) (And.intro (((hHeld.2.2.2.2)).still ht) ((TG.refl uq_27)))))))
      clear hHeld ht
      have hHeld := hHeld2
      clear hHeld2
      refine hK.out _ _ trivial (fun _ => ?_)
      clear hK K
      try simp only [Act.put, List.setIfInBounds_toArray, List.set_cons_zero, List.set_cons_succ]
      refine region_one 8 (by kernel_rfl) rfl (fun K hK => ?_)
      go_simp
      go_at_call 56
      (with_reducible refine (macOf_eq (some ⟨n9, 0, none⟩) 32 32 D _ 3 3 [⟨a1, c1, num7 ad⟩, ⟨a2, c2, num7 no⟩, ⟨a3, c3, num7 ep⟩] (num7 ad ++ (num7 no ++ num7 ep)) _ HD.out.1 (by simp [flatP]) rfl (SlAt.of_blk (HK3.out.1.tg (hHeld.1))) (fun h => by cases h) HD.out.2 (by decide) (HP.out.tg (hHeld.2.2.2.2.2)) (fun h => by cases h) HB.out (by simp [num7_len]) (by decide)).mono ?_)
      rintro e uq_28 ⟨rfl, hb8⟩
      rw [← HF.out]
      have ht := Touch.of_below (S := fun _ => False) hb8
      have hHeld2 := (And.intro (((hHeld.1)).still ht) (And.intro (((hHeld.2.1)).still ht) (And.intro (((hHeld.2.2.1)).still ht) (And.intro (((hHeld.2.2.2.1)).still ht) (And.intro (((hHeld.2.2.2.2.1)).still ht) ((((hHeld.2.2.2.2.2)).still ht)))))))
      clear hHeld ht
      have hHeld := hHeld2
      clear hHeld2
      refine hK.out _ _ trivial (fun _ => ?_)
      clear hK K
      try simp only [Act.put, List.setIfInBounds_toArray, List.set_cons_zero, List.set_cons_succ]
      refine region_one 10 (by kernel_rfl) rfl (fun K hK => ?_)
      refine step_store_blk rfl 73 (.tmp 10) (.tmp 24) rfl _ 73 _ (bn F).toArray rfl rfl (HZ.out.1.tg (hHeld.2.2.1)) (by rw [HFS.out.1]; first | done | kernel_rfl) (by rw [HFS.out.1]; first | done | kernel_rfl) HFS.out.2 ?_
      intro uq_29 hB10 hts hs10
      have HBF := Lib.hid hB10
      clear hB10 hs10
      have ht := hts
      have hHeld2 := ((((hHeld.1)).next ht (fun i hi => hi ▸ HZ.out.2.size)))
      clear hHeld ht
      have hHeld := hHeld2
      clear hHeld2
      refine hK.out _ _ trivial (fun _ => ?_)
      clear hK K
      try simp only [Act.put]
      refine wpAnyH_done (by kernel_rfl) ?_ _
      go_wp2_with (first
        | (refine wpList_arr rfl 22 (.tmp 25) rfl 16 5 _ 32 32 Try.underlying22 rfl (by decide) ?_)
        | (refine wpList_load_mid rfl 22 (.tmp 26) rfl _ 0 rfl (bn (F.take 16)) _ (rangeAt_take HBF.out 16) Try.underlying22 rfl (by rw [bn_len, HFL.out]; kernel_rfl) ?_)
        | (refine wpList_store_blk rfl 22 (.tmp 8) (.tmp 27) rfl w.heap.size 22 _ (bn (F.take 16)).toArray rfl rfl (HK3.out.2.1.tg hHeld) (by rw [HFT.out.1]; first | done | kernel_rfl) (by rw [HFT.out.1]; first | done | kernel_rfl) HFT.out.2 ?_; intro w9 hB9 ht9 hs9))
      refine bodyPost_ret (results_cell_row rfl _ _ w.heap.size 22 (bn (F.take 16)).toArray (0, 0) _ rfl hB9 Try.underlying22 rfl (by rw [HFT.out.1]; first | done | kernel_rfl)) rfl ⟨by rw [HF2.out], ?_⟩
      exact (Touch.then (HK3.out.2.2.trans (hHeld).still2) ht9 (fun i hi e => by omega)).below (Nat.le_refl _) (fun _ _ h => h)
  · go_simp
    refine K_world (fun w' : World => (Touch (fun _ => False) W0q w') ∧ (Blk w' W0q.heap.size 73 (bn (List.replicate 32 0)).toArray ∧ TG w3 W0q)) ⟨(Touch.refl _ _).alloc _, ⟨Blk.new _ _ _, hHeld⟩⟩ ?_
    intro uq_30 hx
    have HZ := Lib.hid hx.2
    have ht := hx.1
    have hHeld2 := (And.intro ((hHeld).still ht) ((TG.refl uq_30)))
    clear hHeld ht
    have hHeld := hHeld2
    clear hHeld2
    refine hK.out _ _ trivial (fun _ => ?_)
    clear hK K
    try simp only [Act.put, List.setIfInBounds_toArray, List.set_cons_zero, List.set_cons_succ]
    refine region_one 2 (by kernel_rfl) rfl (fun K hK => ?_)
    go_simp
    go_at_call 57
    (with_reducible refine (number_any ad _).mono ?_)
    rintro e uq_31 ⟨a1, c1, rfl, -, hs1, hn1, hb1⟩
    have HN1 := Lib.hid (And.intro hs1 hn1)
    clear hs1 hn1
    have ht := Touch.of_below (S := fun _ => False) hb1
    have hHeld2 := (And.intro (((hHeld.1)).still ht) (And.intro (((hHeld.2)).still ht) ((TG.refl uq_31))))
    clear hHeld ht
    have hHeld := hHeld2
    clear hHeld2
    refine hK.out _ _ trivial (fun _ => ?_)
    clear hK K
    try simp only [Act.put, List.setIfInBounds_toArray, List.set_cons_zero, List.set_cons_succ]
    refine region_one 4 (by kernel_rfl) rfl (fun K hK => ?_)
    go_simp
    go_at_call 57
    (with_reducible refine (number_any no _).mono ?_)
    rintro e uq_32 ⟨a2, c2, rfl, -, hs2, hn2, hb2⟩
    have HN2 := Lib.hid (And.intro hs2 hn2)
    clear hs2 hn2
    have ht := Touch.of_below (S := fun _ => False) hb2
    have hHeld2 := (And.intro (((hHeld.1)).still ht) (And.intro (((hHeld.2.1)).still ht) (And.intro (((hHeld.2.2)).still ht) ((TG.refl uq_32)))))
    clear hHeld ht
    have hHeld := hHeld2
    clear hHeld2
    refine hK.out _ _ trivial (fun _ => ?_)
    clear hK K
    try simp only [Act.put, List.setIfInBounds_toArray, List.set_cons_zero, List.set_cons_succ]
    refine region_one 6 (by kernel_rfl) rfl (fun K hK => ?_)
    go_simp
    go_at_call 57
    (with_reducible refine (number_any ep _).mono ?_)
    rintro e uq_33 ⟨a3, c3, rfl, -, hs3, hn3, hb3⟩
    have HN3 := Lib.hid (And.intro hs3 hn3)
    clear hs3 hn3
    have ht := Touch.of_below (S := fun _ => False) hb3
    have hHeld2 := (And.intro (((hHeld.1)).still ht) (And.intro (((hHeld.2.1)).still ht) (And.intro (((hHeld.2.2.1)).still ht) (And.intro (((hHeld.2.2.2)).still ht) ((TG.refl uq_33))))))
    clear hHeld ht
    have hHeld := hHeld2
    clear hHeld2
    refine hK.out _ _ trivial (fun _ => ?_)
    clear hK K
    try simp only [Act.put, List.setIfInBounds_toArray, List.set_cons_zero, List.set_cons_succ]
    refine region_one 7 (by kernel_rfl) rfl (fun K hK => ?_)
    go_simp
    refine K_world (fun w' : World => (Touch (fun _ => False) uq_33 w') ∧ (PartsIn w' (some ⟨uq_33.heap.size, 0, none⟩) [⟨a1, c1, num7 ad⟩, ⟨a2, c2, num7 no⟩, ⟨a3, c3, num7 ep⟩])) ⟨(Touch.refl _ _).alloc _, (by
      have h := PartsIn.lay (w := uq_33) rfl [⟨a1, c1, num7 ad⟩, ⟨a2, c2, num7 no⟩, ⟨a3, c3, num7 ep⟩] 26 (fun p hp => by
        simp only [List.mem_cons, List.not_mem_nil, or_false] at hp
        rcases hp with rfl | rfl | rfl
        · exact ⟨HN1.out.1.tg (hHeld.2.2.1), HN1.out.2⟩
        · exact ⟨HN2.out.1.tg (hHeld.2.2.2.1), HN2.out.2⟩
        · exact ⟨HN3.out.1.tg (hHeld.2.2.2.2), HN3.out.2⟩)
      simp only [List.map_cons, List.map_nil, Part.v, num7_len] at h
      exact h)⟩ ?_
    intro uq_34 hx
    have HP := Lib.hid hx.2
    have ht := hx.1
    have hHeld2 := (And.intro (((hHeld.1)).still ht) (And.intro (((hHeld.2.1)).still ht) (And.intro (((hHeld.2.2.1)).still ht) (And.intro (((hHeld.2.2.2.1)).still ht) (And.intro (((hHeld.2.2.2.2)).still ht) ((TG.refl uq_34)))))))
    clear hHeld ht
    have hHeld := hHeld2
    clear hHeld2
    refine hK.out _ _ trivial (fun _ => ?_)
    clear hK K
    try simp only [Act.put, List.setIfInBounds_toArray, List.set_cons_zero, List.set_cons_succ]
    refine region_one 8 (by kernel_rfl) rfl (fun K hK => ?_)
    go_simp
    go_at_call 56
    (with_reducible refine (macOf_eq (some ⟨n9, 0, none⟩) 32 32 D _ 3 3 [⟨a1, c1, num7 ad⟩, ⟨a2, c2, num7 no⟩, ⟨a3, c3, num7 ep⟩] (num7 ad ++ (num7 no ++ num7 ep)) _ HD.out.1 (by simp [flatP]) rfl (SlAt.of_blk (HK3.out.1.tg (hHeld.1))) (fun h => by cases h) HD.out.2 (by decide) (HP.out.tg (hHeld.2.2.2.2.2)) (fun h => by cases h) HB.out (by simp [num7_len]) (by decide)).mono ?_)
    rintro e uq_35 ⟨rfl, hb8⟩
    rw [← HF.out]
    have ht := Touch.of_below (S := fun _ => False) hb8
    have hHeld2 := (And.intro (((hHeld.1)).still ht) (And.intro (((hHeld.2.1)).still ht) (And.intro (((hHeld.2.2.1)).still ht) (And.intro (((hHeld.2.2.2.1)).still ht) (And.intro (((hHeld.2.2.2.2.1)).still ht) ((((hHeld.2.2.2.2.2)).still ht)))))))
    clear hHeld ht
    have hHeld := hHeld2
    clear hHeld2
    refine hK.out _ _ trivial (fun _ => ?_)
    clear hK K
    try simp only [Act.put, List.setIfInBounds_toArray, List.set_cons_zero, List.set_cons_succ]
    refine region_one 10 (by kernel_rfl) rfl (fun K hK => ?_)
    refine step_store_blk rfl 73 (.tmp 10) (.tmp 24) rfl _ 73 _ (bn F).toArray rfl rfl (HZ.out.1.tg (hHeld.2.1)) (by rw [HFS.out.1]; first | done | kernel_rfl) (by rw [HFS.out.1]; first | done | kernel_rfl) HFS.out.2 ?_
    intro uq_36 hB10 hts hs10
    have HBF := Lib.hid hB10
    clear hB10 hs10
    have ht := hts
    have hHeld2 := ((((hHeld.1)).next ht (fun i hi => hi ▸ HZ.out.2.size)))
    clear hHeld ht
    have hHeld := hHeld2
    clear hHeld2
    refine hK.out _ _ trivial (fun _ => ?_)
    clear hK K
    try simp only [Act.put]
    refine wpAnyH_done (by kernel_rfl) ?_ _
    go_wp2_with (first
      | (refine wpList_arr rfl 22 (.tmp 25) rfl 16 5 _ 32 32 Try.underlying22 rfl (by decide) ?_)
      | (refine wpList_load_mid rfl 22 (.tmp 26) rfl _ 0 rfl (bn (F.take 16)) _ (rangeAt_take HBF.out 16) Try.underlying22 rfl (by rw [bn_len, HFL.out]; kernel_rfl) ?_)
      | (refine wpList_store_blk rfl 22 (.tmp 8) (.tmp 27) rfl w.heap.size 22 _ (bn (F.take 16)).toArray rfl rfl (HK3.out.2.1.tg hHeld) (by rw [HFT.out.1]; first | done | kernel_rfl) (by rw [HFT.out.1]; first | done | kernel_rfl) HFT.out.2 ?_; intro w9 hB9 ht9 hs9))
    refine bodyPost_ret (results_cell_row rfl _ _ w.heap.size 22 (bn (F.take 16)).toArray (0, 0) _ rfl hB9 Try.underlying22 rfl (by rw [HFT.out.1]; first | done | kernel_rfl)) rfl ⟨by rw [HF2.out], ?_⟩
    exact (Touch.then (HK3.out.2.2.trans (hHeld).still2) ht9 (fun i hi e => by omega)).below (Nat.le_refl _) (fun _ _ h => h)

end Go.Proofs.Ythlkmofemnepbaa
