/-
  THE WALK of the document's Mint (layer 6).
-/
import Derived.Test.YthlkmofemnepbaaRows
import Derived.Test.YthlkmofemnepbaaMint
namespace Go.Proofs.Ythlkmofemnepbaa
open Go.RowKit

theorem own_ge {w : World} {base : Nat} {e : TypeId} {size : Nat} {v : Value} {n k : Nat} {xs : List Value} (h : w.ownsRow base e size v n xs) (hk : v.ownBlock = some k) : base ≤ k := by
  rcases h.2 with ⟨rfl, rfl⟩ | ⟨g, cap, cur, rfl, hb, _⟩
  · cases hk
  · cases hk; exact hb
theorem own_ne_blk {w : World} {base : Nat} {e : TypeId} {size : Nat} {v : Value} {n b : Nat} {T : TypeId} {xs : List Value} {c : Array Value} (h : w.ownsRow base e size v n xs) (hB : Blk w b T c) (hT : e ≠ T) (hk : v.ownBlock = some b) : False := by
  rcases h.2 with ⟨rfl, rfl⟩ | ⟨g, cap, cur, rfl, hb, hg, _⟩
  · cases hk
  · cases hk
    have e1 := hg.symm.trans hB
    injection e1 with e2
    injection e2 with _ e3 _
    exact hT e3
theorem take_set (F : List Nat) (i m y : Nat) (hi : i < m) (hy : F[i]? = some y) : (F.take i ++ List.replicate (m - i) 0).set i y = F.take (i + 1) ++ List.replicate (m - (i + 1)) 0 := by
  have hlt : i < F.length := (List.getElem?_eq_some_iff.1 hy).1
  have hl : (F.take i).length = i := by rw [List.length_take]; omega
  obtain ⟨k, hk⟩ : ∃ k, m - i = k + 1 := ⟨m - i - 1, by omega⟩
  rw [List.set_append_right _ _ (by omega), hl, Nat.sub_self, hk, List.replicate_succ, List.set_cons_zero, List.take_add_one, hy, show m - (i + 1) = k by omega]
  simp
theorem bn_pad (F : List Nat) (i m : Nat) (hi : i < m) (hl : i ≤ F.length) : (bn (F.take i ++ List.replicate (m - i) 0)).toArray[i]? = some (.int .u8 0) := by
  have h : (F.take i).length = i := by rw [List.length_take]; omega
  have e : (F.take i ++ List.replicate (m - i) 0)[i]? = some 0 := by
    rw [List.getElem?_append_right (by omega), h, Nat.sub_self, List.getElem?_replicate, if_pos (by omega)]
  rw [List.getElem?_toArray]
  simp only [bn, bys, natsD, List.getElem?_map, e]
  rfl
theorem refMacOf_eq (a : Option Addr) (nk cap : Nat) (key : List Nat) (ab : Option Addr) (nb cb : Nat) (b : List Nat) (w : World) (hk : key.length = nk) (hb : b.length = nb) (hs : SlAt w a (bn key)) (hc : a = none → cap = 0) (hr : ∀ y ∈ key, y < 256) (hn : nk ≤ 100000)
    (hsb : SlAt w ab (bn b)) (hcb : ab = none → cb = 0) (hrb : ∀ y ∈ b, y < 256) (hnb : nb ≤ 100000) :
    Calls Try.prog 58 #[.slice a nk cap, .slice ab nb cb] w fun e w' => e = .returned (.agg (bn (hmac key b)).toArray) ∧ Below w.heap.size w w' := by
  subst hk hb
  exact refMacOf_any a cap key ab cb b w hs hc hr hn hsb hcb hrb hnb

set_option maxRecDepth 100000 in
set_option maxHeartbeats 4000000 in
theorem refMint_any (a : Option Addr) (nk cap : Nat) (s : List Nat) (ad no ep : Int) (w : World) (hk : s.length = nk) (hs : SlAt w a (bn s)) (hc : a = none → cap = 0) (hr : ∀ y ∈ s, y < 256) (hn : nk ≤ 100000) :
    Calls Try.prog 31 #[.slice a nk cap, .int .i64 ad, .int .i64 no, .int .i64 ep] w fun e w' => e = .returned (.agg (bn (mintN s ad no ep)).toArray) ∧ Below w.heap.size w w' := by
  obtain ⟨i0, hi, iz0, iz1, iz2⟩ := info_parts Try.info5
  have HH := Lib.hid (And.intro hs (And.intro hc hr))
  clear hs hc hr
  obtain ⟨D, hD⟩ : ∃ D, D = hmac s (num7 ep) := ⟨_, rfl⟩
  obtain ⟨F, hF⟩ : ∃ F, F = hmac D (num7 ad ++ (num7 no ++ num7 ep)) := ⟨_, rfl⟩
  have hFl : F.length = 32 := by rw [hF]; exact hmac_len _ _
  have hFT : (F.take 16).length = 16 := by rw [List.length_take, hFl]; rfl
  have HFS := Lib.hid (And.intro (show (bn F).toArray.size = 32 by rw [bn_size, hFl]) (bn_all F))
  have HFT := Lib.hid (And.intro (show (bn (F.take 16)).toArray.size = 16 by rw [bn_size, hFT]) (bn_all (F.take 16)))
  have HFL := Lib.hid hFT
  have HF32 := Lib.hid hFl
  have HF := Lib.hid hF
  have HF2 : Hid (mintN s ad no ep = F.take 16) := Lib.hid (by rw [hF, hD]; rfl)
  have HD : Hid (D.length = 32 ∧ ∀ y ∈ D, y < 256) := Lib.hid ⟨by rw [hD]; exact hmac_len _ _, by rw [hD]; exact hmac_lt _ _⟩
  have HDS := Lib.hid (And.intro (show (bn D).toArray.size = 32 by rw [bn_size, HD.out.1]) (bn_all D))
  have HD0 := Lib.hid hD
  have HB : Hid (∀ y ∈ (num7 ad ++ num7 no) ++ num7 ep, y < 256) := Lib.hid (fun y hy => by
    simp only [List.mem_append] at hy
    rcases hy with (h | h) | h
    · exact num7_lt _ y h
    · exact num7_lt _ y h
    · exact num7_lt _ y h)
  clear hD hF hFl hFT
  go_enter Try.func31, Try.ntmps31
  go_wp2_with fail
  (with_reducible refine (bytes_any ep _).mono ?_)
  rintro e w1 ⟨a0, c0, rfl, -, hs0, hn0, hb0⟩
  have ht1 : Touch (fun _ => False) w w1 := ((Touch.refl _ w).alloc _).trans (Touch.of_below hb0)
  have H1 := Lib.hid (And.intro hs0 (And.intro hn0 (And.intro ht1 (And.intro ((Blk.new w (bn (List.replicate 16 0)).toArray 22).touch (Touch.of_below (S := fun _ => False) hb0) (fun h => h)) (HH.out.1.touch ht1 (fun _ _ _ h => h))))))
  clear hs0 hn0 hb0 ht1
  go_wp2_with fail
  (with_reducible refine (refMacOf_eq a nk cap s a0 7 c0 (num7 ep) _ hk (num7_len ep) H1.out.2.2.2.2 HH.out.2.1 HH.out.2.2 hn H1.out.1 H1.out.2.1 (num7_lt ep) (by decide)).mono ?_)
  rintro e w2 ⟨rfl, hb2⟩
  rw [← HD0.out]
  have ht2 : Touch (fun _ => False) w1 w2 := Touch.of_below hb2
  have H2 := Lib.hid ht2
  clear hb2 ht2
  go_wp2_with (refine wpList_store_blk rfl 73 (.tmp 9) (.tmp 16) rfl w2.heap.size 73 _ (bn D).toArray rfl rfl (Blk.new _ _ _) (by rw [HDS.out.1]; first | done | kernel_rfl) (by rw [HDS.out.1]; first | done | kernel_rfl) HDS.out.2 ?_; intro w3 hB3 ht3 hs3)
  obtain ⟨n9, hn9⟩ : ∃ n9, n9 = w2.heap.size := ⟨_, rfl⟩
  rw [← hn9]
  have ht13 : Touch (fun _ => False) w1 w3 := Touch.then (S := fun _ => False) (H2.out.alloc _) ht3 (fun i hi e => by have := H2.out.size; omega)
  have HK3 : Hid (Blk w3 n9 73 (bn D).toArray ∧ Blk w3 w.heap.size 22 (bn (List.replicate 16 0)).toArray ∧ Touch (fun _ => False) w w3) := Lib.hid ⟨by rw [hn9]; exact hB3, H1.out.2.2.2.1.touch ht13 (fun h => h), H1.out.2.2.1.trans ht13⟩
  clear ht13 hB3 ht3 hs3 hn9
  go_wp2_with fail
  refine wp_region_held_drew (S := fun _ => True) (by kernel_rfl) trivial (fun _ => ?_)
  refine anyH_world (R := fun w' : World => TG w3 w') ((TG.refl w3).drew) ?_
  intro W0q hHeld
  refine region_take 0 (v := ?vq0_1) rfl rfl (by kernel_rfl) (by kernel_rfl) (by kernel_rfl) (fun _ _ _ h => h) trivial (Or.inl ⟨by rfl, ?yq0_1⟩) ?rq0_1
  case yq0_1 => (intro w hSw; (try dsimp only at hSw); go_simp; try with_reducible rfl)
  try simp only [Act.put, List.setIfInBounds_toArray, List.set_cons_zero, List.set_cons_succ]
  refine region_take 1 (v := ?vq1_2) rfl rfl (by kernel_rfl) (by kernel_rfl) (by kernel_rfl) (fun _ _ _ h => h) trivial (Or.inl ⟨by rfl, ?yq1_2⟩) ?rq1_2
  case yq1_2 => (intro w hSw; (try dsimp only at hSw); go_simp; try with_reducible rfl)
  try simp only [Act.put, List.setIfInBounds_toArray, List.set_cons_zero, List.set_cons_succ]
  refine region_take 3 (v := ?vq3_3) rfl rfl (by kernel_rfl) (by kernel_rfl) (by kernel_rfl) (fun _ _ _ h => h) trivial (Or.inl ⟨by rfl, ?yq3_3⟩) ?rq3_3
  case yq3_3 => (intro w hSw; (try dsimp only at hSw); go_simp; try with_reducible rfl)
  try simp only [Act.put, List.setIfInBounds_toArray, List.set_cons_zero, List.set_cons_succ]
  refine region_take 6 (v := ?vq6_4) rfl rfl (by kernel_rfl) (by kernel_rfl) (by kernel_rfl) (fun _ _ _ h => h) trivial (Or.inl ⟨by rfl, ?yq6_4⟩) ?rq6_4
  case yq6_4 => (intro w hSw; (try dsimp only at hSw); go_simp; try with_reducible rfl)
  try simp only [Act.put, List.setIfInBounds_toArray, List.set_cons_zero, List.set_cons_succ]
  refine region_two 2 10 (by kernel_rfl) rfl rfl (fun K hK => ?_) (fun K hK => ?_)
  · go_simp
    go_at_call 59
    (with_reducible refine (bytes_any ad _).mono ?_)
    rintro e uq_5 ⟨a1, c1, rfl, ho1, hs1, hn1, hb1⟩
    have HN1 := Lib.hid (And.intro hs1 hn1)
    have hz1 := hb1.size
    obtain ⟨m1, hm1⟩ : ∃ m, m = W0q.heap.size := ⟨_, rfl⟩
    rw [← hm1] at ho1 hz1
    have HO1 := Lib.hid (And.intro ho1 (And.intro hz1 (show w3.heap.size ≤ m1 by rw [hm1]; exact (hHeld).size)))
    clear ho1 hm1
    clear hs1 hn1
    have ht := Touch.of_below (S := fun _ => False) hb1
    have hHeld2 := (And.intro ((hHeld).still ht) ((TG.refl uq_5)))
    clear hHeld ht
    have hHeld := hHeld2
    clear hHeld2
    refine hK.out _ _ trivial (fun _ => ?_)
    clear hK K
    try simp only [Act.put, List.setIfInBounds_toArray, List.set_cons_zero, List.set_cons_succ]
    refine region_two 4 10 (by kernel_rfl) rfl rfl (fun K hK => ?_) (fun K hK => ?_)
    · go_simp
      go_at_call 59
      (with_reducible refine (bytes_any no _).mono ?_)
      rintro e uq_6 ⟨a2, c2, rfl, ho2, hs2, hn2, hb2⟩
      have HN2 := Lib.hid (And.intro hs2 hn2)
      have hz2 := hb2.size
      clear hs2 hn2
      have ht := Touch.of_below (S := fun _ => False) hb2
      have hHeld2 := (And.intro (((hHeld.1)).still ht) (And.intro (((hHeld.2)).still ht) ((TG.refl uq_6))))
      clear hHeld ht
      have hHeld := hHeld2
      clear hHeld2
      refine hK.out _ _ trivial (fun _ => ?_)
      clear hK K
      try simp only [Act.put, List.setIfInBounds_toArray, List.set_cons_zero, List.set_cons_succ]
      refine region_two 5 10 (by kernel_rfl) rfl rfl (fun K hK => ?_) (fun K hK => ?_)
      · refine step_append_any rfl (.tmp 19) (.tmp 21) 26 rfl m1 5 i0 (.int .u8 0) 1 Try.underlying26 hi iz0 iz1 iz2 rfl (Value.slice a1 7 c1) 7 (bn (num7 ad)) rfl (owns_tg HO1.out.1 (hHeld.2.1)) a2 7 c2 (bn (num7 no)) rfl (by rw [bn_len, num7_len]) (HN2.out.1.tg (hHeld.2.2)) HN2.out.2 (bn_one _) (by unfold maxLen; omega) (by omega) (Nat.le_trans HO1.out.2.1 ((hHeld.2.1)).size) ?_
        intro v5 uq_7 ho5 hg5 _
        rw [← bn_append] at ho5
        obtain ⟨a5, c5, rfl, hn5, _, _, _⟩ := owns_form ho5
        have HO5 := Lib.hid (And.intro ho5 (And.intro (Nat.le_trans HO1.out.2.1 (Nat.le_trans ((hHeld.2.1)).size hg5.size)) HO1.out.2.2))
        clear ho5 hn5
        have ht := Touch.grown (S := fun k => (Value.slice a1 7 c1).ownBlock = some k) (Touch.refl _ _) hg5 (fun k hk _ => hk)
        have hHeld2 := (And.intro (((hHeld.1)).next ht (fun i hi => Nat.le_trans HO1.out.2.2 (own_ge HO1.out.1 hi))) ((TG.refl uq_7)))
        clear hHeld ht
        have hHeld := hHeld2
        clear hHeld2
        refine hK.out _ _ trivial (fun _ => ?_)
        clear hK K
        try simp only [Act.put, List.setIfInBounds_toArray, List.set_cons_zero, List.set_cons_succ]
        refine region_two 7 10 (by kernel_rfl) rfl rfl (fun K hK => ?_) (fun K hK => ?_)
        · go_simp
          go_at_call 59
          (with_reducible refine (bytes_any ep _).mono ?_)
          rintro e uq_8 ⟨a3, c3, rfl, ho3, hs3, hn3, hb3⟩
          have HN3 := Lib.hid (And.intro hs3 hn3)
          have hz3 := hb3.size
          clear hs3 hn3
          have ht := Touch.of_below (S := fun _ => False) hb3
          have hHeld2 := (And.intro (((hHeld.1)).still ht) (And.intro (((hHeld.2)).still ht) ((TG.refl uq_8))))
          clear hHeld ht
          have hHeld := hHeld2
          clear hHeld2
          refine hK.out _ _ trivial (fun _ => ?_)
          clear hK K
          try simp only [Act.put, List.setIfInBounds_toArray, List.set_cons_zero, List.set_cons_succ]
          refine region_two 8 10 (by kernel_rfl) rfl rfl (fun K hK => ?_) (fun K hK => ?_)
          · refine step_append_any rfl (.tmp 22) (.tmp 24) 26 rfl m1 5 i0 (.int .u8 0) 1 Try.underlying26 hi iz0 iz1 iz2 rfl (Value.slice a5 14 c5) 14 (bn (num7 ad ++ num7 no)) rfl (owns_tg HO5.out.1 (hHeld.2.1)) a3 7 c3 (bn (num7 ep)) rfl (by rw [bn_len, num7_len]) (HN3.out.1.tg (hHeld.2.2)) HN3.out.2 (bn_one _) (by unfold maxLen; omega) (by omega) (Nat.le_trans HO5.out.2.1 ((hHeld.2.1)).size) ?_
            intro v8 uq_9 ho8 hg8 _
            rw [← bn_append] at ho8
            obtain ⟨a8, c8, rfl, hn8, _, _, _⟩ := owns_form ho8
            have HE8 := Lib.hid (fun h => (hn8 h).2)
            have HO8 := Lib.hid (And.intro ho8 (And.intro (Nat.le_trans HO5.out.2.1 (Nat.le_trans ((hHeld.2.1)).size hg8.size)) HO5.out.2.2))
            clear ho8 hn8
            have ht := Touch.grown (S := fun k => (Value.slice a5 14 c5).ownBlock = some k) (Touch.refl _ _) hg8 (fun k hk _ => hk)
            have hHeld2 := (And.intro (((hHeld.1)).next ht (fun i hi => Nat.le_trans HO5.out.2.2 (own_ge HO5.out.1 hi))) ((TG.refl uq_9)))
            clear hHeld ht
            have hHeld := hHeld2
            clear hHeld2
            refine hK.out _ _ trivial (fun _ => ?_)
            clear hK K
            try simp only [Act.put, List.setIfInBounds_toArray, List.set_cons_zero, List.set_cons_succ]
            refine region_two 9 10 (by kernel_rfl) rfl rfl (fun K hK => ?_) (fun K hK => ?_)
            · go_simp
              go_at_call 58
              (with_reducible refine (refMacOf_eq (some ⟨n9, 0, none⟩) 32 32 D a8 21 c8 ((num7 ad ++ num7 no) ++ num7 ep) _ HD.out.1 (by simp [num7_len]) (SlAt.of_blk (HK3.out.1.tg (hHeld.1))) (fun h => by cases h) HD.out.2 (by decide) ((SlAt.of_owns HO8.out.1).tg (hHeld.2)) (fun h => (HE8.out h)) HB.out (by decide)).mono ?_)
              rintro e uq_10 ⟨rfl, hb9⟩
              rw [List.append_assoc, ← HF.out]
              have ht := Touch.of_below (S := fun _ => False) hb9
              have hHeld2 := (And.intro (((hHeld.1)).still ht) ((((hHeld.2)).still ht)))
              clear hHeld ht
              have hHeld := hHeld2
              clear hHeld2
              refine hK.out _ _ trivial (fun _ => ?_)
              clear hK K
              try simp only [Act.put, List.setIfInBounds_toArray, List.set_cons_zero, List.set_cons_succ]
              refine region_one 10 (by kernel_rfl) rfl (fun K hK => ?_)
              go_simp
              refine K_world (fun w' : World => (Touch (fun _ => False) uq_10 w') ∧ (Blk w' uq_10.heap.size 73 (bn (List.replicate 32 0)).toArray)) ⟨(Touch.refl _ _).alloc _, Blk.new _ _ _⟩ ?_
              intro uq_11 hx
              have HX := Lib.hid hx.2
              obtain ⟨n10, hn10⟩ : ∃ n, n = uq_10.heap.size := ⟨_, rfl⟩
              rw [← hn10]
              have HZ : Hid (Blk uq_11 n10 73 (bn (List.replicate 32 0)).toArray) := Lib.hid (by rw [hn10]; exact HX.out)
              have HZN : Hid (w3.heap.size ≤ n10) := Lib.hid (by rw [hn10]; exact ((hHeld.1)).size)
              clear hn10 HX
              have ht := hx.1
              have hHeld2 := (And.intro (((hHeld.1)).still ht) ((((hHeld.2)).still ht)))
              clear hHeld ht
              have hHeld := hHeld2
              clear hHeld2
              refine hK.out _ _ trivial (fun _ => ?_)
              clear hK K
              try simp only [Act.put, List.setIfInBounds_toArray, List.set_cons_zero, List.set_cons_succ]
              refine region_one 11 (by kernel_rfl) rfl (fun K hK => ?_)
              refine step_store_blk rfl 73 (.tmp 10) (.tmp 26) rfl n10 73 _ (bn F).toArray rfl rfl HZ.out (by rw [HFS.out.1]; first | done | kernel_rfl) (by rw [HFS.out.1]; first | done | kernel_rfl) HFS.out.2 ?_
              intro uq_12 hB10 hts hs10
              have HBF := Lib.hid hB10
              clear hB10 hs10
              have ht := hts
              have hHeld2 := ((((hHeld.1)).next ht (fun i hi => hi ▸ HZN.out)))
              clear hHeld ht
              have hHeld := hHeld2
              clear hHeld2
              refine hK.out _ _ trivial (fun _ => ?_)
              clear hK K
              try simp only [Act.put]
              refine wpAnyH_done (by kernel_rfl) ?_ _
              have HT0 := Lib.hid hHeld
              clear hHeld
              go_wp2_with fail
              go_loopw [12] (fun c wz => ∃ i : Nat, i ≤ 16 ∧ c = .int .i64 i ∧ Blk wz uq_12.heap.size 22 (bn (F.take i ++ List.replicate (16 - i) 0)).toArray ∧ TG uq_12 wz) (fun c _ => (16 - intOf c).toNat)
              case atStart => exact ⟨0, Nat.zero_le _, rfl, by rw [List.take_zero]; exact Blk.new _ _ _, (TG.refl _).still ((Touch.refl _ _).alloc _)⟩
              case round =>
                obtain ⟨i, hi16, rfl, hB, hTG⟩ := hrel
                by_cases hq : i = 16
                · subst hq
                  rw [Nat.sub_self, List.replicate_zero, List.append_nil] at hB
                  have HE := Lib.hid (And.intro hB (HT0.out.trans hTG))
                  clear hB hTG
                  go_wp2_with (first
                    | (refine wpList_load_blk rfl 22 (.tmp 11) rfl _ 22 (bn (F.take 16)).toArray _ rfl HE.out.1 Try.underlying22 rfl (by rw [HFT.out.1]; first | done | kernel_rfl) ?_)
                    | (refine wpList_store_blk rfl 22 (.tmp 8) (.tmp 36) rfl w.heap.size 22 _ (bn (F.take 16)).toArray rfl rfl (HK3.out.2.1.tg HE.out.2) (by rw [HFT.out.1]; first | done | kernel_rfl) (by rw [HFT.out.1]; first | done | kernel_rfl) HFT.out.2 ?_; intro w9 hB9 ht9 hs9))
                  refine bodyPost_ret (results_cell_row rfl _ _ w.heap.size 22 (bn (F.take 16)).toArray (0, 0) _ rfl hB9 Try.underlying22 rfl (by rw [HFT.out.1]; first | done | kernel_rfl)) rfl ⟨by rw [HF2.out], ?_⟩
                  exact (Touch.then (HK3.out.2.2.trans (HE.out.2).still2) ht9 (fun i hi e => by omega)).below (Nat.le_refl _) (fun _ _ h => h)
                · have hil : i < 16 := by omega
                  have hiI : (i : Int) < 16 := by omega
                  obtain ⟨y, hy⟩ : ∃ y, F[i]? = some y := ⟨_, List.getElem?_eq_getElem (by have := HF32.out; omega)⟩
                  have cs := (HBF.out.tg hTG).cell i (v := .int .u8 (y : Int)) (by simp [bn, bys, natsD, hy])
                  have ct := hB.cell i (v := .int .u8 0) (bn_pad F i 16 hil (by have := HF32.out; omega))
                  have fi := hB.frozen i
                  have HK4 := Lib.hid (And.intro hB (And.intro hTG hy))
                  clear hB hTG hy
                  go_wp2_with fail
                  go_roundw
                  case rel =>
                    obtain ⟨hB, hTG, hy⟩ := HK4.out
                    refine ⟨i + 1, by omega, by first | rfl | (congr 1; omega), ?_, hTG.next (Touch.setCell (S := fun k => k = uq_12.heap.size) (Touch.refl _ _) (p := ⟨uq_12.heap.size, i, none⟩) (fun _ => rfl) _) (fun k hk => hk ▸ Nat.le_refl _)⟩
                    have h := hB.set_bn i _ y rfl
                    rw [take_set F i 16 y hil hy] at h
                    exact h
                  case measure => simp [intOf]; omega
            · go_simp
              refine K_world (fun w' : World => (Touch (fun _ => False) uq_9 w') ∧ (Blk w' uq_9.heap.size 73 (bn (List.replicate 32 0)).toArray)) ⟨(Touch.refl _ _).alloc _, Blk.new _ _ _⟩ ?_
              intro uq_13 hx
              have HX := Lib.hid hx.2
              obtain ⟨n10, hn10⟩ : ∃ n, n = uq_9.heap.size := ⟨_, rfl⟩
              rw [← hn10]
              have HZ : Hid (Blk uq_13 n10 73 (bn (List.replicate 32 0)).toArray) := Lib.hid (by rw [hn10]; exact HX.out)
              have HZN : Hid (w3.heap.size ≤ n10) := Lib.hid (by rw [hn10]; exact ((hHeld.1)).size)
              clear hn10 HX
              have ht := hx.1
              have hHeld2 := (And.intro (((hHeld.1)).still ht) ((((hHeld.2)).still ht)))
              clear hHeld ht
              have hHeld := hHeld2
              clear hHeld2
              refine hK.out _ _ trivial (fun _ => ?_)
              clear hK K
              try simp only [Act.put, List.setIfInBounds_toArray, List.set_cons_zero, List.set_cons_succ]
              refine region_one 9 (by kernel_rfl) rfl (fun K hK => ?_)
              go_simp
              go_at_call 58
              (with_reducible refine (refMacOf_eq (some ⟨n9, 0, none⟩) 32 32 D a8 21 c8 ((num7 ad ++ num7 no) ++ num7 ep) _ HD.out.1 (by simp [num7_len]) (SlAt.of_blk (HK3.out.1.tg (hHeld.1))) (fun h => by cases h) HD.out.2 (by decide) ((SlAt.of_owns HO8.out.1).tg (hHeld.2)) (fun h => (HE8.out h)) HB.out (by decide)).mono ?_)
              rintro e uq_14 ⟨rfl, hb9⟩
              rw [List.append_assoc, ← HF.out]
              have ht := Touch.of_below (S := fun _ => False) hb9
              have hF2 := Lib.hid ((HZ.out).touch ht (fun h => h))
              clear HZ
              have HZ := hF2
              clear hF2
              have hHeld2 := (And.intro (((hHeld.1)).still ht) ((((hHeld.2)).still ht)))
              clear hHeld ht
              have hHeld := hHeld2
              clear hHeld2
              refine hK.out _ _ trivial (fun _ => ?_)
              clear hK K
              try simp only [Act.put, List.setIfInBounds_toArray, List.set_cons_zero, List.set_cons_succ]
              refine region_one 11 (by kernel_rfl) rfl (fun K hK => ?_)
              refine step_store_blk rfl 73 (.tmp 10) (.tmp 26) rfl n10 73 _ (bn F).toArray rfl rfl HZ.out (by rw [HFS.out.1]; first | done | kernel_rfl) (by rw [HFS.out.1]; first | done | kernel_rfl) HFS.out.2 ?_
              intro uq_15 hB10 hts hs10
              have HBF := Lib.hid hB10
              clear hB10 hs10
              have ht := hts
              have hHeld2 := ((((hHeld.1)).next ht (fun i hi => hi ▸ HZN.out)))
              clear hHeld ht
              have hHeld := hHeld2
              clear hHeld2
              refine hK.out _ _ trivial (fun _ => ?_)
              clear hK K
              try simp only [Act.put]
              refine wpAnyH_done (by kernel_rfl) ?_ _
              have HT0 := Lib.hid hHeld
              clear hHeld
              go_wp2_with fail
              go_loopw [12] (fun c wz => ∃ i : Nat, i ≤ 16 ∧ c = .int .i64 i ∧ Blk wz uq_15.heap.size 22 (bn (F.take i ++ List.replicate (16 - i) 0)).toArray ∧ TG uq_15 wz) (fun c _ => (16 - intOf c).toNat)
              case atStart => exact ⟨0, Nat.zero_le _, rfl, by rw [List.take_zero]; exact Blk.new _ _ _, (TG.refl _).still ((Touch.refl _ _).alloc _)⟩
              case round =>
                obtain ⟨i, hi16, rfl, hB, hTG⟩ := hrel
                by_cases hq : i = 16
                · subst hq
                  rw [Nat.sub_self, List.replicate_zero, List.append_nil] at hB
                  have HE := Lib.hid (And.intro hB (HT0.out.trans hTG))
                  clear hB hTG
                  go_wp2_with (first
                    | (refine wpList_load_blk rfl 22 (.tmp 11) rfl _ 22 (bn (F.take 16)).toArray _ rfl HE.out.1 Try.underlying22 rfl (by rw [HFT.out.1]; first | done | kernel_rfl) ?_)
                    | (refine wpList_store_blk rfl 22 (.tmp 8) (.tmp 36) rfl w.heap.size 22 _ (bn (F.take 16)).toArray rfl rfl (HK3.out.2.1.tg HE.out.2) (by rw [HFT.out.1]; first | done | kernel_rfl) (by rw [HFT.out.1]; first | done | kernel_rfl) HFT.out.2 ?_; intro w9 hB9 ht9 hs9))
                  refine bodyPost_ret (results_cell_row rfl _ _ w.heap.size 22 (bn (F.take 16)).toArray (0, 0) _ rfl hB9 Try.underlying22 rfl (by rw [HFT.out.1]; first | done | kernel_rfl)) rfl ⟨by rw [HF2.out], ?_⟩
                  exact (Touch.then (HK3.out.2.2.trans (HE.out.2).still2) ht9 (fun i hi e => by omega)).below (Nat.le_refl _) (fun _ _ h => h)
                · have hil : i < 16 := by omega
                  have hiI : (i : Int) < 16 := by omega
                  obtain ⟨y, hy⟩ : ∃ y, F[i]? = some y := ⟨_, List.getElem?_eq_getElem (by have := HF32.out; omega)⟩
                  have cs := (HBF.out.tg hTG).cell i (v := .int .u8 (y : Int)) (by simp [bn, bys, natsD, hy])
                  have ct := hB.cell i (v := .int .u8 0) (bn_pad F i 16 hil (by have := HF32.out; omega))
                  have fi := hB.frozen i
                  have HK4 := Lib.hid (And.intro hB (And.intro hTG hy))
                  clear hB hTG hy
                  go_wp2_with fail
                  go_roundw
                  case rel =>
                    obtain ⟨hB, hTG, hy⟩ := HK4.out
                    refine ⟨i + 1, by omega, by first | rfl | (congr 1; omega), ?_, hTG.next (Touch.setCell (S := fun k => k = uq_15.heap.size) (Touch.refl _ _) (p := ⟨uq_15.heap.size, i, none⟩) (fun _ => rfl) _) (fun k hk => hk ▸ Nat.le_refl _)⟩
                    have h := hB.set_bn i _ y rfl
                    rw [take_set F i 16 y hil hy] at h
                    exact h
                  case measure => simp [intOf]; omega
          · go_simp
            refine K_world (fun w' : World => (Touch (fun _ => False) uq_8 w') ∧ (Blk w' uq_8.heap.size 73 (bn (List.replicate 32 0)).toArray)) ⟨(Touch.refl _ _).alloc _, Blk.new _ _ _⟩ ?_
            intro uq_16 hx
            have HX := Lib.hid hx.2
            obtain ⟨n10, hn10⟩ : ∃ n, n = uq_8.heap.size := ⟨_, rfl⟩
            rw [← hn10]
            have HZ : Hid (Blk uq_16 n10 73 (bn (List.replicate 32 0)).toArray) := Lib.hid (by rw [hn10]; exact HX.out)
            have HZN : Hid (w3.heap.size ≤ n10) := Lib.hid (by rw [hn10]; exact ((hHeld.1)).size)
            clear hn10 HX
            have ht := hx.1
            have hHeld2 := (And.intro (((hHeld.1)).still ht) (And.intro (((hHeld.2.1)).still ht) ((((hHeld.2.2)).still ht))))
            clear hHeld ht
            have hHeld := hHeld2
            clear hHeld2
            refine hK.out _ _ trivial (fun _ => ?_)
            clear hK K
            try simp only [Act.put, List.setIfInBounds_toArray, List.set_cons_zero, List.set_cons_succ]
            refine region_one 8 (by kernel_rfl) rfl (fun K hK => ?_)
            refine step_append_any rfl (.tmp 22) (.tmp 24) 26 rfl m1 5 i0 (.int .u8 0) 1 Try.underlying26 hi iz0 iz1 iz2 rfl (Value.slice a5 14 c5) 14 (bn (num7 ad ++ num7 no)) rfl (owns_tg HO5.out.1 (hHeld.2.1)) a3 7 c3 (bn (num7 ep)) rfl (by rw [bn_len, num7_len]) (HN3.out.1.tg (hHeld.2.2)) HN3.out.2 (bn_one _) (by unfold maxLen; omega) (by omega) (Nat.le_trans HO5.out.2.1 ((hHeld.2.1)).size) ?_
            intro v8 uq_17 ho8 hg8 _
            rw [← bn_append] at ho8
            obtain ⟨a8, c8, rfl, hn8, _, _, _⟩ := owns_form ho8
            have HE8 := Lib.hid (fun h => (hn8 h).2)
            have HO8 := Lib.hid (And.intro ho8 (And.intro (Nat.le_trans HO5.out.2.1 (Nat.le_trans ((hHeld.2.1)).size hg8.size)) HO5.out.2.2))
            clear ho8 hn8
            have ht := Touch.grown (S := fun k => (Value.slice a5 14 c5).ownBlock = some k) (Touch.refl _ _) hg8 (fun k hk _ => hk)
            have hF2 := Lib.hid ((HZ.out).touch ht (fun h => own_ne_blk (owns_tg HO5.out.1 (hHeld.2.1)) HZ.out (by decide) h))
            clear HZ
            have HZ := hF2
            clear hF2
            have hHeld2 := (And.intro (((hHeld.1)).next ht (fun i hi => Nat.le_trans HO5.out.2.2 (own_ge HO5.out.1 hi))) ((TG.refl uq_17)))
            clear hHeld ht
            have hHeld := hHeld2
            clear hHeld2
            refine hK.out _ _ trivial (fun _ => ?_)
            clear hK K
            try simp only [Act.put, List.setIfInBounds_toArray, List.set_cons_zero, List.set_cons_succ]
            refine region_one 9 (by kernel_rfl) rfl (fun K hK => ?_)
            go_simp
            go_at_call 58
            (with_reducible refine (refMacOf_eq (some ⟨n9, 0, none⟩) 32 32 D a8 21 c8 ((num7 ad ++ num7 no) ++ num7 ep) _ HD.out.1 (by simp [num7_len]) (SlAt.of_blk (HK3.out.1.tg (hHeld.1))) (fun h => by cases h) HD.out.2 (by decide) ((SlAt.of_owns HO8.out.1).tg (hHeld.2)) (fun h => (HE8.out h)) HB.out (by decide)).mono ?_)
            rintro e uq_18 ⟨rfl, hb9⟩
            rw [List.append_assoc, ← HF.out]
            have ht := Touch.of_below (S := fun _ => False) hb9
            have hF2 := Lib.hid ((HZ.out).touch ht (fun h => h))
            clear HZ
            have HZ := hF2
            clear hF2
            have hHeld2 := (And.intro (((hHeld.1)).still ht) ((((hHeld.2)).still ht)))
            clear hHeld ht
            have hHeld := hHeld2
            clear hHeld2
            refine hK.out _ _ trivial (fun _ => ?_)
            clear hK K
            try simp only [Act.put, List.setIfInBounds_toArray, List.set_cons_zero, List.set_cons_succ]
            refine region_one 11 (by kernel_rfl) rfl (fun K hK => ?_)
            refine step_store_blk rfl 73 (.tmp 10) (.tmp 26) rfl n10 73 _ (bn F).toArray rfl rfl HZ.out (by rw [HFS.out.1]; first | done | kernel_rfl) (by rw [HFS.out.1]; first | done | kernel_rfl) HFS.out.2 ?_
            intro uq_19 hB10 hts hs10
            have HBF := Lib.hid hB10
            clear hB10 hs10
            have ht := hts
            have hHeld2 := ((((hHeld.1)).next ht (fun i hi => hi ▸ HZN.out)))
            clear hHeld ht
            have hHeld := hHeld2
            clear hHeld2
            refine hK.out _ _ trivial (fun _ => ?_)
            clear hK K
            try simp only [Act.put]
            refine wpAnyH_done (by kernel_rfl) ?_ _
            have HT0 := Lib.hid hHeld
            clear hHeld
            go_wp2_with fail
            go_loopw [12] (fun c wz => ∃ i : Nat, i ≤ 16 ∧ c = .int .i64 i ∧ Blk wz uq_19.heap.size 22 (bn (F.take i ++ List.replicate (16 - i) 0)).toArray ∧ TG uq_19 wz) (fun c _ => (16 - intOf c).toNat)
            case atStart => exact ⟨0, Nat.zero_le _, rfl, by rw [List.take_zero]; exact Blk.new _ _ _, (TG.refl _).still ((Touch.refl _ _).alloc _)⟩
            case round =>
              obtain ⟨i, hi16, rfl, hB, hTG⟩ := hrel
              by_cases hq : i = 16
              · subst hq
                rw [Nat.sub_self, List.replicate_zero, List.append_nil] at hB
                have HE := Lib.hid (And.intro hB (HT0.out.trans hTG))
                clear hB hTG
                go_wp2_with (first
                  | (refine wpList_load_blk rfl 22 (.tmp 11) rfl _ 22 (bn (F.take 16)).toArray _ rfl HE.out.1 Try.underlying22 rfl (by rw [HFT.out.1]; first | done | kernel_rfl) ?_)
                  | (refine wpList_store_blk rfl 22 (.tmp 8) (.tmp 36) rfl w.heap.size 22 _ (bn (F.take 16)).toArray rfl rfl (HK3.out.2.1.tg HE.out.2) (by rw [HFT.out.1]; first | done | kernel_rfl) (by rw [HFT.out.1]; first | done | kernel_rfl) HFT.out.2 ?_; intro w9 hB9 ht9 hs9))
                refine bodyPost_ret (results_cell_row rfl _ _ w.heap.size 22 (bn (F.take 16)).toArray (0, 0) _ rfl hB9 Try.underlying22 rfl (by rw [HFT.out.1]; first | done | kernel_rfl)) rfl ⟨by rw [HF2.out], ?_⟩
                exact (Touch.then (HK3.out.2.2.trans (HE.out.2).still2) ht9 (fun i hi e => by omega)).below (Nat.le_refl _) (fun _ _ h => h)
              · have hil : i < 16 := by omega
                have hiI : (i : Int) < 16 := by omega
                obtain ⟨y, hy⟩ : ∃ y, F[i]? = some y := ⟨_, List.getElem?_eq_getElem (by have := HF32.out; omega)⟩
                have cs := (HBF.out.tg hTG).cell i (v := .int .u8 (y : Int)) (by simp [bn, bys, natsD, hy])
                have ct := hB.cell i (v := .int .u8 0) (bn_pad F i 16 hil (by have := HF32.out; omega))
                have fi := hB.frozen i
                have HK4 := Lib.hid (And.intro hB (And.intro hTG hy))
                clear hB hTG hy
                go_wp2_with fail
                go_roundw
                case rel =>
                  obtain ⟨hB, hTG, hy⟩ := HK4.out
                  refine ⟨i + 1, by omega, by first | rfl | (congr 1; omega), ?_, hTG.next (Touch.setCell (S := fun k => k = uq_19.heap.size) (Touch.refl _ _) (p := ⟨uq_19.heap.size, i, none⟩) (fun _ => rfl) _) (fun k hk => hk ▸ Nat.le_refl _)⟩
                  have h := hB.set_bn i _ y rfl
                  rw [take_set F i 16 y hil hy] at h
                  exact h
                case measure => simp [intOf]; omega
        · go_simp
          refine K_world (fun w' : World => (Touch (fun _ => False) uq_7 w') ∧ (Blk w' uq_7.heap.size 73 (bn (List.replicate 32 0)).toArray)) ⟨(Touch.refl _ _).alloc _, Blk.new _ _ _⟩ ?_
          intro uq_20 hx
          have HX := Lib.hid hx.2
          obtain ⟨n10, hn10⟩ : ∃ n, n = uq_7.heap.size := ⟨_, rfl⟩
          rw [← hn10]
          have HZ : Hid (Blk uq_20 n10 73 (bn (List.replicate 32 0)).toArray) := Lib.hid (by rw [hn10]; exact HX.out)
          have HZN : Hid (w3.heap.size ≤ n10) := Lib.hid (by rw [hn10]; exact ((hHeld.1)).size)
          clear hn10 HX
          have ht := hx.1
          have hHeld2 := (And.intro (((hHeld.1)).still ht) ((((hHeld.2)).still ht)))
          clear hHeld ht
          have hHeld := hHeld2
          clear hHeld2
          refine hK.out _ _ trivial (fun _ => ?_)
          clear hK K
          try simp only [Act.put, List.setIfInBounds_toArray, List.set_cons_zero, List.set_cons_succ]
          refine region_one 7 (by kernel_rfl) rfl (fun K hK => ?_)
          go_simp
          go_at_call 59
          (with_reducible refine (bytes_any ep _).mono ?_)
          rintro e uq_21 ⟨a3, c3, rfl, ho3, hs3, hn3, hb3⟩
          have HN3 := Lib.hid (And.intro hs3 hn3)
          have hz3 := hb3.size
          clear hs3 hn3
          have ht := Touch.of_below (S := fun _ => False) hb3
          have hF2 := Lib.hid ((HZ.out).touch ht (fun h => h))
          clear HZ
          have HZ := hF2
          clear hF2
          have hHeld2 := (And.intro (((hHeld.1)).still ht) (And.intro (((hHeld.2)).still ht) ((TG.refl uq_21))))
          clear hHeld ht
          have hHeld := hHeld2
          clear hHeld2
          refine hK.out _ _ trivial (fun _ => ?_)
          clear hK K
          try simp only [Act.put, List.setIfInBounds_toArray, List.set_cons_zero, List.set_cons_succ]
          refine region_one 8 (by kernel_rfl) rfl (fun K hK => ?_)
          refine step_append_any rfl (.tmp 22) (.tmp 24) 26 rfl m1 5 i0 (.int .u8 0) 1 Try.underlying26 hi iz0 iz1 iz2 rfl (Value.slice a5 14 c5) 14 (bn (num7 ad ++ num7 no)) rfl (owns_tg HO5.out.1 (hHeld.2.1)) a3 7 c3 (bn (num7 ep)) rfl (by rw [bn_len, num7_len]) (HN3.out.1.tg (hHeld.2.2)) HN3.out.2 (bn_one _) (by unfold maxLen; omega) (by omega) (Nat.le_trans HO5.out.2.1 ((hHeld.2.1)).size) ?_
          intro v8 uq_22 ho8 hg8 _
          rw [← bn_append] at ho8
          obtain ⟨a8, c8, rfl, hn8, _, _, _⟩ := owns_form ho8
          have HE8 := Lib.hid (fun h => (hn8 h).2)
          have HO8 := Lib.hid (And.intro ho8 (And.intro (Nat.le_trans HO5.out.2.1 (Nat.le_trans ((hHeld.2.1)).size hg8.size)) HO5.out.2.2))
          clear ho8 hn8
          have ht := Touch.grown (S := fun k => (Value.slice a5 14 c5).ownBlock = some k) (Touch.refl _ _) hg8 (fun k hk _ => hk)
          have hF2 := Lib.hid ((HZ.out).touch ht (fun h => own_ne_blk (owns_tg HO5.out.1 (hHeld.2.1)) HZ.out (by decide) h))
          clear HZ
          have HZ := hF2
          clear hF2
          have hHeld2 := (And.intro (((hHeld.1)).next ht (fun i hi => Nat.le_trans HO5.out.2.2 (own_ge HO5.out.1 hi))) ((TG.refl uq_22)))
          clear hHeld ht
          have hHeld := hHeld2
          clear hHeld2
          refine hK.out _ _ trivial (fun _ => ?_)
          clear hK K
          try simp only [Act.put, List.setIfInBounds_toArray, List.set_cons_zero, List.set_cons_succ]
          refine region_one 9 (by kernel_rfl) rfl (fun K hK => ?_)
          go_simp
          go_at_call 58
          (with_reducible refine (refMacOf_eq (some ⟨n9, 0, none⟩) 32 32 D a8 21 c8 ((num7 ad ++ num7 no) ++ num7 ep) _ HD.out.1 (by simp [num7_len]) (SlAt.of_blk (HK3.out.1.tg (hHeld.1))) (fun h => by cases h) HD.out.2 (by decide) ((SlAt.of_owns HO8.out.1).tg (hHeld.2)) (fun h => (HE8.out h)) HB.out (by decide)).mono ?_)
          rintro e uq_23 ⟨rfl, hb9⟩
          rw [List.append_assoc, ← HF.out]
          have ht := Touch.of_below (S := fun _ => False) hb9
          have hF2 := Lib.hid ((HZ.out).touch ht (fun h => h))
          clear HZ
          have HZ := hF2
          clear hF2
          have hHeld2 := (And.intro (((hHeld.1)).still ht) ((((hHeld.2)).still ht)))
          clear hHeld ht
          have hHeld := hHeld2
          clear hHeld2
          refine hK.out _ _ trivial (fun _ => ?_)
          clear hK K
          try simp only [Act.put, List.setIfInBounds_toArray, List.set_cons_zero, List.set_cons_succ]
          refine region_one 11 (by kernel_rfl) rfl (fun K hK => ?_)
          refine step_store_blk rfl 73 (.tmp 10) (.tmp 26) rfl n10 73 _ (bn F).toArray rfl rfl HZ.out (by rw [HFS.out.1]; first | done | kernel_rfl) (by rw [HFS.out.1]; first | done | kernel_rfl) HFS.out.2 ?_
          intro uq_24 hB10 hts hs10
          have HBF := Lib.hid hB10
          clear hB10 hs10
          have ht := hts
          have hHeld2 := ((((hHeld.1)).next ht (fun i hi => hi ▸ HZN.out)))
          clear hHeld ht
          have hHeld := hHeld2
          clear hHeld2
          refine hK.out _ _ trivial (fun _ => ?_)
          clear hK K
          try simp only [Act.put]
          refine wpAnyH_done (by kernel_rfl) ?_ _
          have HT0 := Lib.hid hHeld
          clear hHeld
          go_wp2_with fail
          go_loopw [12] (fun c wz => ∃ i : Nat, i ≤ 16 ∧ c = .int .i64 i ∧ Blk wz uq_24.heap.size 22 (bn (F.take i ++ List.replicate (16 - i) 0)).toArray ∧ TG uq_24 wz) (fun c _ => (16 - intOf c).toNat)
          case atStart => exact ⟨0, Nat.zero_le _, rfl, by rw [List.take_zero]; exact Blk.new _ _ _, (TG.refl _).still ((Touch.refl _ _).alloc _)⟩
          case round =>
            obtain ⟨i, hi16, rfl, hB, hTG⟩ := hrel
            by_cases hq : i = 16
            · subst hq
              rw [Nat.sub_self, List.replicate_zero, List.append_nil] at hB
              have HE := Lib.hid (And.intro hB (HT0.out.trans hTG))
              clear hB hTG
              go_wp2_with (first
                | (refine wpList_load_blk rfl 22 (.tmp 11) rfl _ 22 (bn (F.take 16)).toArray _ rfl HE.out.1 Try.underlying22 rfl (by rw [HFT.out.1]; first | done | kernel_rfl) ?_)
                | (refine wpList_store_blk rfl 22 (.tmp 8) (.tmp 36) rfl w.heap.size 22 _ (bn (F.take 16)).toArray rfl rfl (HK3.out.2.1.tg HE.out.2) (by rw [HFT.out.1]; first | done | kernel_rfl) (by rw [HFT.out.1]; first | done | kernel_rfl) HFT.out.2 ?_; intro w9 hB9 ht9 hs9))
              refine bodyPost_ret (results_cell_row rfl _ _ w.heap.size 22 (bn (F.take 16)).toArray (0, 0) _ rfl hB9 Try.underlying22 rfl (by rw [HFT.out.1]; first | done | kernel_rfl)) rfl ⟨by rw [HF2.out], ?_⟩
              exact (Touch.then (HK3.out.2.2.trans (HE.out.2).still2) ht9 (fun i hi e => by omega)).below (Nat.le_refl _) (fun _ _ h => h)
            · have hil : i < 16 := by omega
              have hiI : (i : Int) < 16 := by omega
              obtain ⟨y, hy⟩ : ∃ y, F[i]? = some y := ⟨_, List.getElem?_eq_getElem (by have := HF32.out; omega)⟩
              have cs := (HBF.out.tg hTG).cell i (v := .int .u8 (y : Int)) (by simp [bn, bys, natsD, hy])
              have ct := hB.cell i (v := .int .u8 0) (bn_pad F i 16 hil (by have := HF32.out; omega))
              have fi := hB.frozen i
              have HK4 := Lib.hid (And.intro hB (And.intro hTG hy))
              clear hB hTG hy
              go_wp2_with fail
              go_roundw
              case rel =>
                obtain ⟨hB, hTG, hy⟩ := HK4.out
                refine ⟨i + 1, by omega, by first | rfl | (congr 1; omega), ?_, hTG.next (Touch.setCell (S := fun k => k = uq_24.heap.size) (Touch.refl _ _) (p := ⟨uq_24.heap.size, i, none⟩) (fun _ => rfl) _) (fun k hk => hk ▸ Nat.le_refl _)⟩
                have h := hB.set_bn i _ y rfl
                rw [take_set F i 16 y hil hy] at h
                exact h
              case measure => simp [intOf]; omega
      · go_simp
        refine K_world (fun w' : World => (Touch (fun _ => False) uq_6 w') ∧ (Blk w' uq_6.heap.size 73 (bn (List.replicate 32 0)).toArray)) ⟨(Touch.refl _ _).alloc _, Blk.new _ _ _⟩ ?_
        intro uq_25 hx
        have HX := Lib.hid hx.2
        obtain ⟨n10, hn10⟩ : ∃ n, n = uq_6.heap.size := ⟨_, rfl⟩
        rw [← hn10]
        have HZ : Hid (Blk uq_25 n10 73 (bn (List.replicate 32 0)).toArray) := Lib.hid (by rw [hn10]; exact HX.out)
        have HZN : Hid (w3.heap.size ≤ n10) := Lib.hid (by rw [hn10]; exact ((hHeld.1)).size)
        clear hn10 HX
        have ht := hx.1
        have hHeld2 := (And.intro (((hHeld.1)).still ht) (And.intro (((hHeld.2.1)).still ht) ((((hHeld.2.2)).still ht))))
        clear hHeld ht
        have hHeld := hHeld2
        clear hHeld2
        refine hK.out _ _ trivial (fun _ => ?_)
        clear hK K
        try simp only [Act.put, List.setIfInBounds_toArray, List.set_cons_zero, List.set_cons_succ]
        refine region_one 5 (by kernel_rfl) rfl (fun K hK => ?_)
        refine step_append_any rfl (.tmp 19) (.tmp 21) 26 rfl m1 5 i0 (.int .u8 0) 1 Try.underlying26 hi iz0 iz1 iz2 rfl (Value.slice a1 7 c1) 7 (bn (num7 ad)) rfl (owns_tg HO1.out.1 (hHeld.2.1)) a2 7 c2 (bn (num7 no)) rfl (by rw [bn_len, num7_len]) (HN2.out.1.tg (hHeld.2.2)) HN2.out.2 (bn_one _) (by unfold maxLen; omega) (by omega) (Nat.le_trans HO1.out.2.1 ((hHeld.2.1)).size) ?_
        intro v5 uq_26 ho5 hg5 _
        rw [← bn_append] at ho5
        obtain ⟨a5, c5, rfl, hn5, _, _, _⟩ := owns_form ho5
        have HO5 := Lib.hid (And.intro ho5 (And.intro (Nat.le_trans HO1.out.2.1 (Nat.le_trans ((hHeld.2.1)).size hg5.size)) HO1.out.2.2))
        clear ho5 hn5
        have ht := Touch.grown (S := fun k => (Value.slice a1 7 c1).ownBlock = some k) (Touch.refl _ _) hg5 (fun k hk _ => hk)
        have hF2 := Lib.hid ((HZ.out).touch ht (fun h => own_ne_blk (owns_tg HO1.out.1 (hHeld.2.1)) HZ.out (by decide) h))
        clear HZ
        have HZ := hF2
        clear hF2
        have hHeld2 := (And.intro (((hHeld.1)).next ht (fun i hi => Nat.le_trans HO1.out.2.2 (own_ge HO1.out.1 hi))) ((TG.refl uq_26)))
        clear hHeld ht
        have hHeld := hHeld2
        clear hHeld2
        refine hK.out _ _ trivial (fun _ => ?_)
        clear hK K
        try simp only [Act.put, List.setIfInBounds_toArray, List.set_cons_zero, List.set_cons_succ]
        refine region_one 7 (by kernel_rfl) rfl (fun K hK => ?_)
        go_simp
        go_at_call 59
        (with_reducible refine (bytes_any ep _).mono ?_)
        rintro e uq_27 ⟨a3, c3, rfl, ho3, hs3, hn3, hb3⟩
        have HN3 := Lib.hid (And.intro hs3 hn3)
        have hz3 := hb3.size
        clear hs3 hn3
        have ht := Touch.of_below (S := fun _ => False) hb3
        have hF2 := Lib.hid ((HZ.out).touch ht (fun h => h))
        clear HZ
        have HZ := hF2
        clear hF2
        have hHeld2 := (And.intro (((hHeld.1)).still ht) (And.intro (((hHeld.2)).still ht) ((TG.refl uq_27))))
        clear hHeld ht
        have hHeld := hHeld2
        clear hHeld2
        refine hK.out _ _ trivial (fun _ => ?_)
        clear hK K
        try simp only [Act.put, List.setIfInBounds_toArray, List.set_cons_zero, List.set_cons_succ]
        refine region_one 8 (by kernel_rfl) rfl (fun K hK => ?_)
        refine step_append_any rfl (.tmp 22) (.tmp 24) 26 rfl m1 5 i0 (.int .u8 0) 1 Try.underlying26 hi iz0 iz1 iz2 rfl (Value.slice a5 14 c5) 14 (bn (num7 ad ++ num7 no)) rfl (owns_tg HO5.out.1 (hHeld.2.1)) a3 7 c3 (bn (num7 ep)) rfl (by rw [bn_len, num7_len]) (HN3.out.1.tg (hHeld.2.2)) HN3.out.2 (bn_one _) (by unfold maxLen; omega) (by omega) (Nat.le_trans HO5.out.2.1 ((hHeld.2.1)).size) ?_
        intro v8 uq_28 ho8 hg8 _
        rw [← bn_append] at ho8
        obtain ⟨a8, c8, rfl, hn8, _, _, _⟩ := owns_form ho8
        have HE8 := Lib.hid (fun h => (hn8 h).2)
        have HO8 := Lib.hid (And.intro ho8 (And.intro (Nat.le_trans HO5.out.2.1 (Nat.le_trans ((hHeld.2.1)).size hg8.size)) HO5.out.2.2))
        clear ho8 hn8
        have ht := Touch.grown (S := fun k => (Value.slice a5 14 c5).ownBlock = some k) (Touch.refl _ _) hg8 (fun k hk _ => hk)
        have hF2 := Lib.hid ((HZ.out).touch ht (fun h => own_ne_blk (owns_tg HO5.out.1 (hHeld.2.1)) HZ.out (by decide) h))
        clear HZ
        have HZ := hF2
        clear hF2
        have hHeld2 := (And.intro (((hHeld.1)).next ht (fun i hi => Nat.le_trans HO5.out.2.2 (own_ge HO5.out.1 hi))) ((TG.refl uq_28)))
        clear hHeld ht
        have hHeld := hHeld2
        clear hHeld2
        refine hK.out _ _ trivial (fun _ => ?_)
        clear hK K
        try simp only [Act.put, List.setIfInBounds_toArray, List.set_cons_zero, List.set_cons_succ]
        refine region_one 9 (by kernel_rfl) rfl (fun K hK => ?_)
        go_simp
        go_at_call 58
        (with_reducible refine (refMacOf_eq (some ⟨n9, 0, none⟩) 32 32 D a8 21 c8 ((num7 ad ++ num7 no) ++ num7 ep) _ HD.out.1 (by simp [num7_len]) (SlAt.of_blk (HK3.out.1.tg (hHeld.1))) (fun h => by cases h) HD.out.2 (by decide) ((SlAt.of_owns HO8.out.1).tg (hHeld.2)) (fun h => (HE8.out h)) HB.out (by decide)).mono ?_)
        rintro e uq_29 ⟨rfl, hb9⟩
        rw [List.append_assoc, ← HF.out]
        have ht := Touch.of_below (S := fun _ => False) hb9
        have hF2 := Lib.hid ((HZ.out).touch ht (fun h => h))
        clear HZ
        have HZ := hF2
        clear hF2
        have hHeld2 := (And.intro (((hHeld.1)).still ht) ((((hHeld.2)).still ht)))
        clear hHeld ht
        have hHeld := hHeld2
        clear hHeld2
        refine hK.out _ _ trivial (fun _ => ?_)
        clear hK K
        try simp only [Act.put, List.setIfInBounds_toArray, List.set_cons_zero, List.set_cons_succ]
        refine region_one 11 (by kernel_rfl) rfl (fun K hK => ?_)
        refine step_store_blk rfl 73 (.tmp 10) (.tmp 26) rfl n10 73 _ (bn F).toArray rfl rfl HZ.out (by rw [HFS.out.1]; first | done | kernel_rfl) (by rw [HFS.out.1]; first | done | kernel_rfl) HFS.out.2 ?_
        intro uq_30 hB10 hts hs10
        have HBF := Lib.hid hB10
        clear hB10 hs10
        have ht := hts
        have hHeld2 := ((((hHeld.1)).next ht (fun i hi => hi ▸ HZN.out)))
        clear hHeld ht
        have hHeld := hHeld2
        clear hHeld2
        refine hK.out _ _ trivial (fun _ => ?_)
        clear hK K
        try simp only [Act.put]
        refine wpAnyH_done (by kernel_rfl) ?_ _
        have HT0 := Lib.hid hHeld
        clear hHeld
        go_wp2_with fail
        go_loopw [12] (fun c wz => ∃ i : Nat, i ≤ 16 ∧ c = .int .i64 i ∧ Blk wz uq_30.heap.size 22 (bn (F.take i ++ List.replicate (16 - i) 0)).toArray ∧ TG uq_30 wz) (fun c _ => (16 - intOf c).toNat)
        case atStart => exact ⟨0, Nat.zero_le _, rfl, by rw [List.take_zero]; exact Blk.new _ _ _, (TG.refl _).still ((Touch.refl _ _).alloc _)⟩
        case round =>
          obtain ⟨i, hi16, rfl, hB, hTG⟩ := hrel
          by_cases hq : i = 16
          · subst hq
            rw [Nat.sub_self, List.replicate_zero, List.append_nil] at hB
            have HE := Lib.hid (And.intro hB (HT0.out.trans hTG))
            clear hB hTG
            go_wp2_with (first
              | (refine wpList_load_blk rfl 22 (.tmp 11) rfl _ 22 (bn (F.take 16)).toArray _ rfl HE.out.1 Try.underlying22 rfl (by rw [HFT.out.1]; first | done | kernel_rfl) ?_)
              | (refine wpList_store_blk rfl 22 (.tmp 8) (.tmp 36) rfl w.heap.size 22 _ (bn (F.take 16)).toArray rfl rfl (HK3.out.2.1.tg HE.out.2) (by rw [HFT.out.1]; first | done | kernel_rfl) (by rw [HFT.out.1]; first | done | kernel_rfl) HFT.out.2 ?_; intro w9 hB9 ht9 hs9))
            refine bodyPost_ret (results_cell_row rfl _ _ w.heap.size 22 (bn (F.take 16)).toArray (0, 0) _ rfl hB9 Try.underlying22 rfl (by rw [HFT.out.1]; first | done | kernel_rfl)) rfl ⟨by rw [HF2.out], ?_⟩
            exact (Touch.then (HK3.out.2.2.trans (HE.out.2).still2) ht9 (fun i hi e => by omega)).below (Nat.le_refl _) (fun _ _ h => h)
          · have hil : i < 16 := by omega
            have hiI : (i : Int) < 16 := by omega
            obtain ⟨y, hy⟩ : ∃ y, F[i]? = some y := ⟨_, List.getElem?_eq_getElem (by have := HF32.out; omega)⟩
            have cs := (HBF.out.tg hTG).cell i (v := .int .u8 (y : Int)) (by simp [bn, bys, natsD, hy])
            have ct := hB.cell i (v := .int .u8 0) (bn_pad F i 16 hil (by have := HF32.out; omega))
            have fi := hB.frozen i
            have HK4 := Lib.hid (And.intro hB (And.intro hTG hy))
            clear hB hTG hy
            go_wp2_with fail
            go_roundw
            case rel =>
              obtain ⟨hB, hTG, hy⟩ := HK4.out
              refine ⟨i + 1, by omega, by first | rfl | (congr 1; omega), ?_, hTG.next (Touch.setCell (S := fun k => k = uq_30.heap.size) (Touch.refl _ _) (p := ⟨uq_30.heap.size, i, none⟩) (fun _ => rfl) _) (fun k hk => hk ▸ Nat.le_refl _)⟩
              have h := hB.set_bn i _ y rfl
              rw [take_set F i 16 y hil hy] at h
              exact h
            case measure => simp [intOf]; omega
    · go_simp
      refine K_world (fun w' : World => (Touch (fun _ => False) uq_5 w') ∧ (Blk w' uq_5.heap.size 73 (bn (List.replicate 32 0)).toArray)) ⟨(Touch.refl _ _).alloc _, Blk.new _ _ _⟩ ?_
      intro uq_31 hx
      have HX := Lib.hid hx.2
      obtain ⟨n10, hn10⟩ : ∃ n, n = uq_5.heap.size := ⟨_, rfl⟩
      rw [← hn10]
      have HZ : Hid (Blk uq_31 n10 73 (bn (List.replicate 32 0)).toArray) := Lib.hid (by rw [hn10]; exact HX.out)
      have HZN : Hid (w3.heap.size ≤ n10) := Lib.hid (by rw [hn10]; exact ((hHeld.1)).size)
      clear hn10 HX
      have ht := hx.1
      have hHeld2 := (And.intro (((hHeld.1)).still ht) ((((hHeld.2)).still ht)))
      clear hHeld ht
      have hHeld := hHeld2
      clear hHeld2
      refine hK.out _ _ trivial (fun _ => ?_)
      clear hK K
      try simp only [Act.put, List.setIfInBounds_toArray, List.set_cons_zero, List.set_cons_succ]
      refine region_one 4 (by kernel_rfl) rfl (fun K hK => ?_)
      go_simp
      go_at_call 59
      (with_reducible refine (bytes_any no _).mono ?_)
      rintro e uq_32 ⟨a2, c2, rfl, ho2, hs2, hn2, hb2⟩
      have HN2 := Lib.hid (And.intro hs2 hn2)
      have hz2 := hb2.size
      clear hs2 hn2
      have ht := Touch.of_below (S := fun _ => False) hb2
      have hF2 := Lib.hid ((HZ.out).touch ht (fun h => h))
      clear HZ
      have HZ := hF2
      clear hF2
      have hHeld2 := (And.intro (((hHeld.1)).still ht) (And.intro (((hHeld.2)).still ht) ((TG.refl uq_32))))
      clear hHeld ht
      have hHeld := hHeld2
      clear hHeld2
      refine hK.out _ _ trivial (fun _ => ?_)
      clear hK K
      try simp only [Act.put, List.setIfInBounds_toArray, List.set_cons_zero, List.set_cons_succ]
      refine region_one 5 (by kernel_rfl) rfl (fun K hK => ?_)
      refine step_append_any rfl (.tmp 19) (.tmp 21) 26 rfl m1 5 i0 (.int .u8 0) 1 Try.underlying26 hi iz0 iz1 iz2 rfl (Value.slice a1 7 c1) 7 (bn (num7 ad)) rfl (owns_tg HO1.out.1 (hHeld.2.1)) a2 7 c2 (bn (num7 no)) rfl (by rw [bn_len, num7_len]) (HN2.out.1.tg (hHeld.2.2)) HN2.out.2 (bn_one _) (by unfold maxLen; omega) (by omega) (Nat.le_trans HO1.out.2.1 ((hHeld.2.1)).size) ?_
      intro v5 uq_33 ho5 hg5 _
      rw [← bn_append] at ho5
      obtain ⟨a5, c5, rfl, hn5, _, _, _⟩ := owns_form ho5
      have HO5 := Lib.hid (And.intro ho5 (And.intro (Nat.le_trans HO1.out.2.1 (Nat.le_trans ((hHeld.2.1)).size hg5.size)) HO1.out.2.2))
      clear ho5 hn5
      have ht := Touch.grown (S := fun k => (Value.slice a1 7 c1).ownBlock = some k) (Touch.refl _ _) hg5 (fun k hk _ => hk)
      have hF2 := Lib.hid ((HZ.out).touch ht (fun h => own_ne_blk (owns_tg HO1.out.1 (hHeld.2.1)) HZ.out (by decide) h))
      clear HZ
      have HZ := hF2
      clear hF2
      have hHeld2 := (And.intro (((hHeld.1)).next ht (fun i hi => Nat.le_trans HO1.out.2.2 (own_ge HO1.out.1 hi))) ((TG.refl uq_33)))
      clear hHeld ht
      have hHeld := hHeld2
      clear hHeld2
      refine hK.out _ _ trivial (fun _ => ?_)
      clear hK K
      try simp only [Act.put, List.setIfInBounds_toArray, List.set_cons_zero, List.set_cons_succ]
      refine region_one 7 (by kernel_rfl) rfl (fun K hK => ?_)
      go_simp
      go_at_call 59
      (with_reducible refine (bytes_any ep _).mono ?_)
      rintro e uq_34 ⟨a3, c3, rfl, ho3, hs3, hn3, hb3⟩
      have HN3 := Lib.hid (And.intro hs3 hn3)
      have hz3 := hb3.size
      clear hs3 hn3
      have ht := Touch.of_below (S := fun _ => False) hb3
      have hF2 := Lib.hid ((HZ.out).touch ht (fun h => h))
      clear HZ
      have HZ := hF2
      clear hF2
      have hHeld2 := (And.intro (((hHeld.1)).still ht) (And.intro (((hHeld.2)).still ht) ((TG.refl uq_34))))
      clear hHeld ht
      have hHeld := hHeld2
      clear hHeld2
      refine hK.out _ _ trivial (fun _ => ?_)
      clear hK K
      try simp only [Act.put, List.setIfInBounds_toArray, List.set_cons_zero, List.set_cons_succ]
      refine region_one 8 (by kernel_rfl) rfl (fun K hK => ?_)
      refine step_append_any rfl (.tmp 22) (.tmp 24) 26 rfl m1 5 i0 (.int .u8 0) 1 Try.underlying26 hi iz0 iz1 iz2 rfl (Value.slice a5 14 c5) 14 (bn (num7 ad ++ num7 no)) rfl (owns_tg HO5.out.1 (hHeld.2.1)) a3 7 c3 (bn (num7 ep)) rfl (by rw [bn_len, num7_len]) (HN3.out.1.tg (hHeld.2.2)) HN3.out.2 (bn_one _) (by unfold maxLen; omega) (by omega) (Nat.le_trans HO5.out.2.1 ((hHeld.2.1)).size) ?_
      intro v8 uq_35 ho8 hg8 _
      rw [← bn_append] at ho8
      obtain ⟨a8, c8, rfl, hn8, _, _, _⟩ := owns_form ho8
      have HE8 := Lib.hid (fun h => (hn8 h).2)
      have HO8 := Lib.hid (And.intro ho8 (And.intro (Nat.le_trans HO5.out.2.1 (Nat.le_trans ((hHeld.2.1)).size hg8.size)) HO5.out.2.2))
      clear ho8 hn8
      have ht := Touch.grown (S := fun k => (Value.slice a5 14 c5).ownBlock = some k) (Touch.refl _ _) hg8 (fun k hk _ => hk)
      have hF2 := Lib.hid ((HZ.out).touch ht (fun h => own_ne_blk (owns_tg HO5.out.1 (hHeld.2.1)) HZ.out (by decide) h))
      clear HZ
      have HZ := hF2
      clear hF2
      have hHeld2 := (And.intro (((hHeld.1)).next ht (fun i hi => Nat.le_trans HO5.out.2.2 (own_ge HO5.out.1 hi))) ((TG.refl uq_35)))
      clear hHeld ht
      have hHeld := hHeld2
      clear hHeld2
      refine hK.out _ _ trivial (fun _ => ?_)
      clear hK K
      try simp only [Act.put, List.setIfInBounds_toArray, List.set_cons_zero, List.set_cons_succ]
      refine region_one 9 (by kernel_rfl) rfl (fun K hK => ?_)
      go_simp
      go_at_call 58
      (with_reducible refine (refMacOf_eq (some ⟨n9, 0, none⟩) 32 32 D a8 21 c8 ((num7 ad ++ num7 no) ++ num7 ep) _ HD.out.1 (by simp [num7_len]) (SlAt.of_blk (HK3.out.1.tg (hHeld.1))) (fun h => by cases h) HD.out.2 (by decide) ((SlAt.of_owns HO8.out.1).tg (hHeld.2)) (fun h => (HE8.out h)) HB.out (by decide)).mono ?_)
      rintro e uq_36 ⟨rfl, hb9⟩
      rw [List.append_assoc, ← HF.out]
      have ht := Touch.of_below (S := fun _ => False) hb9
      have hF2 := Lib.hid ((HZ.out).touch ht (fun h => h))
      clear HZ
      have HZ := hF2
      clear hF2
      have hHeld2 := (And.intro (((hHeld.1)).still ht) ((((hHeld.2)).still ht)))
      clear hHeld ht
      have hHeld := hHeld2
      clear hHeld2
      refine hK.out _ _ trivial (fun _ => ?_)
      clear hK K
      try simp only [Act.put, List.setIfInBounds_toArray, List.set_cons_zero, List.set_cons_succ]
      refine region_one 11 (by kernel_rfl) rfl (fun K hK => ?_)
      refine step_store_blk rfl 73 (.tmp 10) (.tmp 26) rfl n10 73 _ (bn F).toArray rfl rfl HZ.out (by rw [HFS.out.1]; first | done | kernel_rfl) (by rw [HFS.out.1]; first | done | kernel_rfl) HFS.out.2 ?_
      intro uq_37 hB10 hts hs10
      have HBF := Lib.hid hB10
      clear hB10 hs10
      have ht := hts
      have hHeld2 := ((((hHeld.1)).next ht (fun i hi => hi ▸ HZN.out)))
      clear hHeld ht
      have hHeld := hHeld2
      clear hHeld2
      refine hK.out _ _ trivial (fun _ => ?_)
      clear hK K
      try simp only [Act.put]
      refine wpAnyH_done (by kernel_rfl) ?_ _
      have HT0 := Lib.hid hHeld
      clear hHeld
      go_wp2_with fail
      go_loopw [12] (fun c wz => ∃ i : Nat, i ≤ 16 ∧ c = .int .i64 i ∧ Blk wz uq_37.heap.size 22 (bn (F.take i ++ List.replicate (16 - i) 0)).toArray ∧ TG uq_37 wz) (fun c _ => (16 - intOf c).toNat)
      case atStart => exact ⟨0, Nat.zero_le _, rfl, by rw [List.take_zero]; exact Blk.new _ _ _, (TG.refl _).still ((Touch.refl _ _).alloc _)⟩
      case round =>
        obtain ⟨i, hi16, rfl, hB, hTG⟩ := hrel
        by_cases hq : i = 16
        · subst hq
          rw [Nat.sub_self, List.replicate_zero, List.append_nil] at hB
          have HE := Lib.hid (And.intro hB (HT0.out.trans hTG))
          clear hB hTG
          go_wp2_with (first
            | (refine wpList_load_blk rfl 22 (.tmp 11) rfl _ 22 (bn (F.take 16)).toArray _ rfl HE.out.1 Try.underlying22 rfl (by rw [HFT.out.1]; first | done | kernel_rfl) ?_)
            | (refine wpList_store_blk rfl 22 (.tmp 8) (.tmp 36) rfl w.heap.size 22 _ (bn (F.take 16)).toArray rfl rfl (HK3.out.2.1.tg HE.out.2) (by rw [HFT.out.1]; first | done | kernel_rfl) (by rw [HFT.out.1]; first | done | kernel_rfl) HFT.out.2 ?_; intro w9 hB9 ht9 hs9))
          refine bodyPost_ret (results_cell_row rfl _ _ w.heap.size 22 (bn (F.take 16)).toArray (0, 0) _ rfl hB9 Try.underlying22 rfl (by rw [HFT.out.1]; first | done | kernel_rfl)) rfl ⟨by rw [HF2.out], ?_⟩
          exact (Touch.then (HK3.out.2.2.trans (HE.out.2).still2) ht9 (fun i hi e => by omega)).below (Nat.le_refl _) (fun _ _ h => h)
        · have hil : i < 16 := by omega
          have hiI : (i : Int) < 16 := by omega
          obtain ⟨y, hy⟩ : ∃ y, F[i]? = some y := ⟨_, List.getElem?_eq_getElem (by have := HF32.out; omega)⟩
          have cs := (HBF.out.tg hTG).cell i (v := .int .u8 (y : Int)) (by simp [bn, bys, natsD, hy])
          have ct := hB.cell i (v := .int .u8 0) (bn_pad F i 16 hil (by have := HF32.out; omega))
          have fi := hB.frozen i
          have HK4 := Lib.hid (And.intro hB (And.intro hTG hy))
          clear hB hTG hy
          go_wp2_with fail
          go_roundw
          case rel =>
            obtain ⟨hB, hTG, hy⟩ := HK4.out
            refine ⟨i + 1, by omega, by first | rfl | (congr 1; omega), ?_, hTG.next (Touch.setCell (S := fun k => k = uq_37.heap.size) (Touch.refl _ _) (p := ⟨uq_37.heap.size, i, none⟩) (fun _ => rfl) _) (fun k hk => hk ▸ Nat.le_refl _)⟩
            have h := hB.set_bn i _ y rfl
            rw [take_set F i 16 y hil hy] at h
            exact h
          case measure => simp [intOf]; omega
  · go_simp
    refine K_world (fun w' : World => (Touch (fun _ => False) W0q w') ∧ (Blk w' W0q.heap.size 73 (bn (List.replicate 32 0)).toArray)) ⟨(Touch.refl _ _).alloc _, Blk.new _ _ _⟩ ?_
    intro uq_38 hx
    have HX := Lib.hid hx.2
    obtain ⟨n10, hn10⟩ : ∃ n, n = W0q.heap.size := ⟨_, rfl⟩
    rw [← hn10]
    have HZ : Hid (Blk uq_38 n10 73 (bn (List.replicate 32 0)).toArray) := Lib.hid (by rw [hn10]; exact HX.out)
    have HZN : Hid (w3.heap.size ≤ n10) := Lib.hid (by rw [hn10]; exact (hHeld).size)
    clear hn10 HX
    have ht := hx.1
    have hHeld2 := (((hHeld).still ht))
    clear hHeld ht
    have hHeld := hHeld2
    clear hHeld2
    refine hK.out _ _ trivial (fun _ => ?_)
    clear hK K
    try simp only [Act.put, List.setIfInBounds_toArray, List.set_cons_zero, List.set_cons_succ]
    refine region_one 2 (by kernel_rfl) rfl (fun K hK => ?_)
    go_simp
    go_at_call 59
    (with_reducible refine (bytes_any ad _).mono ?_)
    rintro e uq_39 ⟨a1, c1, rfl, ho1, hs1, hn1, hb1⟩
    have HN1 := Lib.hid (And.intro hs1 hn1)
    have hz1 := hb1.size
    obtain ⟨m1, hm1⟩ : ∃ m, m = uq_38.heap.size := ⟨_, rfl⟩
    rw [← hm1] at ho1 hz1
    have HO1 := Lib.hid (And.intro ho1 (And.intro hz1 (show w3.heap.size ≤ m1 by rw [hm1]; exact (hHeld).size)))
    clear ho1 hm1
    clear hs1 hn1
    have ht := Touch.of_below (S := fun _ => False) hb1
    have hF2 := Lib.hid ((HZ.out).touch ht (fun h => h))
    clear HZ
    have HZ := hF2
    clear hF2
    have hHeld2 := (And.intro ((hHeld).still ht) ((TG.refl uq_39)))
    clear hHeld ht
    have hHeld := hHeld2
    clear hHeld2
    refine hK.out _ _ trivial (fun _ => ?_)
    clear hK K
    try simp only [Act.put, List.setIfInBounds_toArray, List.set_cons_zero, List.set_cons_succ]
    refine region_one 4 (by kernel_rfl) rfl (fun K hK => ?_)
    go_simp
    go_at_call 59
    (with_reducible refine (bytes_any no _).mono ?_)
    rintro e uq_40 ⟨a2, c2, rfl, ho2, hs2, hn2, hb2⟩
    have HN2 := Lib.hid (And.intro hs2 hn2)
    have hz2 := hb2.size
    clear hs2 hn2
    have ht := Touch.of_below (S := fun _ => False) hb2
    have hF2 := Lib.hid ((HZ.out).touch ht (fun h => h))
    clear HZ
    have HZ := hF2
    clear hF2
    have hHeld2 := (And.intro (((hHeld.1)).still ht) (And.intro (((hHeld.2)).still ht) ((TG.refl uq_40))))
    clear hHeld ht
    have hHeld := hHeld2
    clear hHeld2
    refine hK.out _ _ trivial (fun _ => ?_)
    clear hK K
    try simp only [Act.put, List.setIfInBounds_toArray, List.set_cons_zero, List.set_cons_succ]
    refine region_one 5 (by kernel_rfl) rfl (fun K hK => ?_)
    refine step_append_any rfl (.tmp 19) (.tmp 21) 26 rfl m1 5 i0 (.int .u8 0) 1 Try.underlying26 hi iz0 iz1 iz2 rfl (Value.slice a1 7 c1) 7 (bn (num7 ad)) rfl (owns_tg HO1.out.1 (hHeld.2.1)) a2 7 c2 (bn (num7 no)) rfl (by rw [bn_len, num7_len]) (HN2.out.1.tg (hHeld.2.2)) HN2.out.2 (bn_one _) (by unfold maxLen; omega) (by omega) (Nat.le_trans HO1.out.2.1 ((hHeld.2.1)).size) ?_
    intro v5 uq_41 ho5 hg5 _
    rw [← bn_append] at ho5
    obtain ⟨a5, c5, rfl, hn5, _, _, _⟩ := owns_form ho5
    have HO5 := Lib.hid (And.intro ho5 (And.intro (Nat.le_trans HO1.out.2.1 (Nat.le_trans ((hHeld.2.1)).size hg5.size)) HO1.out.2.2))
    clear ho5 hn5
    have ht := Touch.grown (S := fun k => (Value.slice a1 7 c1).ownBlock = some k) (Touch.refl _ _) hg5 (fun k hk _ => hk)
    have hF2 := Lib.hid ((HZ.out).touch ht (fun h => own_ne_blk (owns_tg HO1.out.1 (hHeld.2.1)) HZ.out (by decide) h))
    clear HZ
    have HZ := hF2
    clear hF2
    have hHeld2 := (And.intro (((hHeld.1)).next ht (fun i hi => Nat.le_trans HO1.out.2.2 (own_ge HO1.out.1 hi))) ((TG.refl uq_41)))
    clear hHeld ht
    have hHeld := hHeld2
    clear hHeld2
    refine hK.out _ _ trivial (fun _ => ?_)
    clear hK K
    try simp only [Act.put, List.setIfInBounds_toArray, List.set_cons_zero, List.set_cons_succ]
    refine region_one 7 (by kernel_rfl) rfl (fun K hK => ?_)
    go_simp
    go_at_call 59
    (with_reducible refine (bytes_any ep _).mono ?_)
    rintro e uq_42 ⟨a3, c3, rfl, ho3, hs3, hn3, hb3⟩
    have HN3 := Lib.hid (And.intro hs3 hn3)
    have hz3 := hb3.size
    clear hs3 hn3
    have ht := Touch.of_below (S := fun _ => False) hb3
    have hF2 := Lib.hid ((HZ.out).touch ht (fun h => h))
    clear HZ
    have HZ := hF2
    clear hF2
    have hHeld2 := (And.intro (((hHeld.1)).still ht) (And.intro (((hHeld.2)).still ht) ((TG.refl uq_42))))
    clear hHeld ht
    have hHeld := hHeld2
    clear hHeld2
    refine hK.out _ _ trivial (fun _ => ?_)
    clear hK K
    try simp only [Act.put, List.setIfInBounds_toArray, List.set_cons_zero, List.set_cons_succ]
    refine region_one 8 (by kernel_rfl) rfl (fun K hK => ?_)
    refine step_append_any rfl (.tmp 22) (.tmp 24) 26 rfl m1 5 i0 (.int .u8 0) 1 Try.underlying26 hi iz0 iz1 iz2 rfl (Value.slice a5 14 c5) 14 (bn (num7 ad ++ num7 no)) rfl (owns_tg HO5.out.1 (hHeld.2.1)) a3 7 c3 (bn (num7 ep)) rfl (by rw [bn_len, num7_len]) (HN3.out.1.tg (hHeld.2.2)) HN3.out.2 (bn_one _) (by unfold maxLen; omega) (by omega) (Nat.le_trans HO5.out.2.1 ((hHeld.2.1)).size) ?_
    intro v8 uq_43 ho8 hg8 _
    rw [← bn_append] at ho8
    obtain ⟨a8, c8, rfl, hn8, _, _, _⟩ := owns_form ho8
    have HE8 := Lib.hid (fun h => (hn8 h).2)
    have HO8 := Lib.hid (And.intro ho8 (And.intro (Nat.le_trans HO5.out.2.1 (Nat.le_trans ((hHeld.2.1)).size hg8.size)) HO5.out.2.2))
    clear ho8 hn8
    have ht := Touch.grown (S := fun k => (Value.slice a5 14 c5).ownBlock = some k) (Touch.refl _ _) hg8 (fun k hk _ => hk)
    have hF2 := Lib.hid ((HZ.out).touch ht (fun h => own_ne_blk (owns_tg HO5.out.1 (hHeld.2.1)) HZ.out (by decide) h))
    clear HZ
    have HZ := hF2
    clear hF2
    have hHeld2 := (And.intro (((hHeld.1)).next ht (fun i hi => Nat.le_trans HO5.out.2.2 (own_ge HO5.out.1 hi))) ((TG.refl uq_43)))
    clear hHeld ht
    have hHeld := hHeld2
    clear hHeld2
    refine hK.out _ _ trivial (fun _ => ?_)
    clear hK K
    try simp only [Act.put, List.setIfInBounds_toArray, List.set_cons_zero, List.set_cons_succ]
    refine region_one 9 (by kernel_rfl) rfl (fun K hK => ?_)
    go_simp
    go_at_call 58
    (with_reducible refine (refMacOf_eq (some ⟨n9, 0, none⟩) 32 32 D a8 21 c8 ((num7 ad ++ num7 no) ++ num7 ep) _ HD.out.1 (by simp [num7_len]) (SlAt.of_blk (HK3.out.1.tg (hHeld.1))) (fun h => by cases h) HD.out.2 (by decide) ((SlAt.of_owns HO8.out.1).tg (hHeld.2)) (fun h => (HE8.out h)) HB.out (by decide)).mono ?_)
    rintro e uq_44 ⟨rfl, hb9⟩
    rw [List.append_assoc, ← HF.out]
    have ht := Touch.of_below (S := fun _ => False) hb9
    have hF2 := Lib.hid ((HZ.out).touch ht (fun h => h))
    clear HZ
    have HZ := hF2
    clear hF2
    have hHeld2 := (And.intro (((hHeld.1)).still ht) ((((hHeld.2)).still ht)))
    clear hHeld ht
    have hHeld := hHeld2
    clear hHeld2
    refine hK.out _ _ trivial (fun _ => ?_)
    clear hK K
    try simp only [Act.put, List.setIfInBounds_toArray, List.set_cons_zero, List.set_cons_succ]
    refine region_one 11 (by kernel_rfl) rfl (fun K hK => ?_)
    refine step_store_blk rfl 73 (.tmp 10) (.tmp 26) rfl n10 73 _ (bn F).toArray rfl rfl HZ.out (by rw [HFS.out.1]; first | done | kernel_rfl) (by rw [HFS.out.1]; first | done | kernel_rfl) HFS.out.2 ?_
    intro uq_45 hB10 hts hs10
    have HBF := Lib.hid hB10
    clear hB10 hs10
    have ht := hts
    have hHeld2 := ((((hHeld.1)).next ht (fun i hi => hi ▸ HZN.out)))
    clear hHeld ht
    have hHeld := hHeld2
    clear hHeld2
    refine hK.out _ _ trivial (fun _ => ?_)
    clear hK K
    try simp only [Act.put]
    refine wpAnyH_done (by kernel_rfl) ?_ _
    have HT0 := Lib.hid hHeld
    clear hHeld
    go_wp2_with fail
    go_loopw [12] (fun c wz => ∃ i : Nat, i ≤ 16 ∧ c = .int .i64 i ∧ Blk wz uq_45.heap.size 22 (bn (F.take i ++ List.replicate (16 - i) 0)).toArray ∧ TG uq_45 wz) (fun c _ => (16 - intOf c).toNat)
    case atStart => exact ⟨0, Nat.zero_le _, rfl, by rw [List.take_zero]; exact Blk.new _ _ _, (TG.refl _).still ((Touch.refl _ _).alloc _)⟩
    case round =>
      obtain ⟨i, hi16, rfl, hB, hTG⟩ := hrel
      by_cases hq : i = 16
      · subst hq
        rw [Nat.sub_self, List.replicate_zero, List.append_nil] at hB
        have HE := Lib.hid (And.intro hB (HT0.out.trans hTG))
        clear hB hTG
        go_wp2_with (first
          | (refine wpList_load_blk rfl 22 (.tmp 11) rfl _ 22 (bn (F.take 16)).toArray _ rfl HE.out.1 Try.underlying22 rfl (by rw [HFT.out.1]; first | done | kernel_rfl) ?_)
          | (refine wpList_store_blk rfl 22 (.tmp 8) (.tmp 36) rfl w.heap.size 22 _ (bn (F.take 16)).toArray rfl rfl (HK3.out.2.1.tg HE.out.2) (by rw [HFT.out.1]; first | done | kernel_rfl) (by rw [HFT.out.1]; first | done | kernel_rfl) HFT.out.2 ?_; intro w9 hB9 ht9 hs9))
        refine bodyPost_ret (results_cell_row rfl _ _ w.heap.size 22 (bn (F.take 16)).toArray (0, 0) _ rfl hB9 Try.underlying22 rfl (by rw [HFT.out.1]; first | done | kernel_rfl)) rfl ⟨by rw [HF2.out], ?_⟩
        exact (Touch.then (HK3.out.2.2.trans (HE.out.2).still2) ht9 (fun i hi e => by omega)).below (Nat.le_refl _) (fun _ _ h => h)
      · have hil : i < 16 := by omega
        have hiI : (i : Int) < 16 := by omega
        obtain ⟨y, hy⟩ : ∃ y, F[i]? = some y := ⟨_, List.getElem?_eq_getElem (by have := HF32.out; omega)⟩
        have cs := (HBF.out.tg hTG).cell i (v := .int .u8 (y : Int)) (by simp [bn, bys, natsD, hy])
        have ct := hB.cell i (v := .int .u8 0) (bn_pad F i 16 hil (by have := HF32.out; omega))
        have fi := hB.frozen i
        have HK4 := Lib.hid (And.intro hB (And.intro hTG hy))
        clear hB hTG hy
        go_wp2_with fail
        go_roundw
        case rel =>
          obtain ⟨hB, hTG, hy⟩ := HK4.out
          refine ⟨i + 1, by omega, by first | rfl | (congr 1; omega), ?_, hTG.next (Touch.setCell (S := fun k => k = uq_45.heap.size) (Touch.refl _ _) (p := ⟨uq_45.heap.size, i, none⟩) (fun _ => rfl) _) (fun k hk => hk ▸ Nat.le_refl _)⟩
          have h := hB.set_bn i _ y rfl
          rw [take_set F i 16 y hil hy] at h
          exact h
        case measure => simp [intOf]; omega

end Go.Proofs.Ythlkmofemnepbaa
