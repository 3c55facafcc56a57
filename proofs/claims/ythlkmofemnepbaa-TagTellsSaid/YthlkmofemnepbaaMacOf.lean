/-
  THE WALKS of mac.Of and mac.Equal (layer 3).
-/
import Derived.Test.YthlkmofemnepbaaRows
import Derived.Test.YthlkmofemnepbaaMacBlock
import Derived.Test.YthlkmofemnepbaaDigestRSum
import Derived.Test.YthlkmofemnepbaaRegionTwo
namespace Go.Proofs.Ythlkmofemnepbaa
open Go.RowKit

set_option maxRecDepth 100000 in
theorem Try.info26 : (Try.prog.info? 26).map (fun i => (i.zero, i.size, i.bytes)) = some (some (.slice none 0 0), 1, 24) := by kernel_rfl
/-- A row that the text lays, as one of the call's own. -/
theorem owns_lit (w : World) (C : Array Value) (e : TypeId) (n : Nat) (hn : C.size = n) (hm : n ≤ maxLen) : (w.alloc (.cells C e)).ownsRow w.heap.size e 1 (.slice (some ⟨w.heap.size, 0, none⟩) n n) n C.toList :=
  ⟨by simp [hn], .inr ⟨w.heap.size, n, C, rfl, Nat.le_refl _, heap_alloc_new w _, Nat.le_refl _, hm, by simp [hn], by rw [Nat.mul_one]; exact List.take_of_length_le (by simp [hn])⟩⟩
theorem part_one (L : List Part) : ∀ u ∈ L.map Part.v, u.oneCell' = true := by
  intro u hu
  rw [List.mem_map] at hu
  obtain ⟨p, _, rfl⟩ := hu
  rfl

set_option maxRecDepth 100000 in
theorem macBlock_int (a : Option Addr) (cap : Nat) (key : List Nat) (n : Int) (bt : Nat) (hbt : n = bt) (w : World) (hs : SlAt w a (bn key)) (hc : a = none → cap = 0) (hr : ∀ y ∈ key, y < 256) (hn : key.length ≤ 100000) (hb : bt < 256) :
    Calls Try.prog 79 #[.slice a key.length cap, .int .u8 n] w (Made 5 (bn (macBlock key bt)) w) := by
  subst hbt
  exact macBlock_any a cap key bt w hs hc hr hn hb

set_option maxRecDepth 100000 in
set_option maxHeartbeats 4000000 in
theorem macOf_any (a : Option Addr) (cap : Nat) (key : List Nat) (ap : Option Addr) (cp : Nat) (L : List Part) (w : World) (hs : SlAt w a (bn key)) (hc : a = none → cap = 0) (hr : ∀ y ∈ key, y < 256) (hn : key.length ≤ 100000)
    (hp : PartsIn w ap L) (hpc : ap = none → cp = 0) (hpr : ∀ y ∈ flatP L, y < 256) (hpn : (flatP L).length ≤ 100000) (hm : L.length ≤ 1000) :
    Calls Try.prog 56 #[.slice a key.length cap, .slice ap L.length cp] w fun e w' => e = .returned (.agg (bn (hmac key (flatP L))).toArray) ∧ Below w.heap.size w w' := by
  obtain ⟨i0, hi, hz0, hz1, hz2⟩ := info_parts Try.info26
  have HH := Lib.hid (And.intro hs (And.intro hc (And.intro hr (And.intro hp (And.intro hpc hpr)))))
  clear hs hc hr hp hpc hpr
  go_enter Try.func56, Try.ntmps56
  go_wp2_with fail
  (with_reducible refine (macBlock_int a cap key 54 54 rfl _ (HH.out.1.touch ((Touch.refl (fun _ => False) w).alloc _) (fun _ _ _ h => h)) HH.out.2.1 HH.out.2.2.1 hn (by decide)).mono ?_)
  rintro e w1 ⟨v1, rfl, ho1, hb1⟩
  rw [bn_len, macBlock_len] at ho1
  obtain ⟨a1, c1, rfl, hn1, hl1, hm1, _⟩ := owns_form ho1
  have ht1 : Touch (fun _ => False) w w1 := ((Touch.refl _ w).alloc _).trans (Touch.of_below hb1)
  have H1 := Lib.hid (And.intro (SlAt.of_owns ho1) (And.intro (fun h => (hn1 h).2) (And.intro ht1 (And.intro ((Blk.new w (bn (List.replicate 32 0)).toArray 73).touch (Touch.of_below (S := fun _ => False) hb1) (fun h => h)) (HH.out.2.2.2.1.touch ht1 (fun _ _ _ h => h) (fun _ _ _ _ _ h => h))))))
  clear ho1 hb1 hn1 ht1
  go_wp2_with (at_builtin; refine wpList_append_any rfl (.tmp 8) (.tmp 9) 85 rfl w1.heap.size 26 i0 (.slice none 0 0) 24 Try.underlying85 hi hz0 hz1 hz2 rfl _ 1 [.slice a1 64 c1] rfl (owns_lit w1 #[.slice a1 64 c1] _ 1 rfl (by unfold maxLen; omega)) ap L.length cp (L.map Part.v) rfl (List.length_map _) (H1.out.2.2.2.2.cells.alloc _) HH.out.2.2.2.2.1 (part_one L) (by unfold maxLen; omega) (by omega) (by simp) ?_; intro v2 w2 ho2 hg2 _; obtain ⟨a2, c2, rfl, hn2, _, _, _⟩ := owns_form ho2; have H2 := Lib.hid (And.intro ho2 (((Touch.refl (fun _ => False) w1).alloc _).grown hg2 (fun k hk h => by cases hk; exact absurd h (Nat.lt_irrefl _)))); clear ho2 hg2)
  have hL : PartsIn w2 a2 (⟨a1, c1, macBlock key 54⟩ :: L) := ⟨by
    have h := SlAt.of_owns H2.out.1
    simp only [List.map_cons, Part.v, macBlock_len]
    exact h, fun p hp => by
    rcases List.mem_cons.1 hp with rfl | hp
    · exact ⟨H1.out.1.touch H2.out.2 (fun _ _ _ h => h), H1.out.2.1⟩
    · have := (H1.out.2.2.2.2.each p hp)
      exact ⟨this.1.touch H2.out.2 (fun _ _ _ h => h), this.2⟩⟩
  have hrf : ∀ y ∈ macBlock key 54 ++ flatP L, y < 256 := fun y hy => by
    rcases List.mem_append.1 hy with h | h
    · exact macBlock_lt key 54 HH.out.2.2.1 (by decide) y h
    · exact HH.out.2.2.2.2.2 y h
  (with_reducible refine (sum_eq a2 (1 + L.length) c2 (⟨a1, c1, macBlock key 54⟩ :: L) (macBlock key 54 ++ flatP L) w2 hL rfl (by rw [List.length_cons, Nat.add_comm]) hrf (by rw [List.length_append, macBlock_len]; omega) (by omega)).mono ?_)
  rintro e w3 ⟨rfl, hb3⟩
  obtain ⟨D, hD⟩ : ∃ D, D = sha (macBlock key 54 ++ flatP L) := ⟨_, rfl⟩
  rw [← hD]
  have hDl : D.length = 32 := by rw [hD]; exact sha_len _
  have hDr : ∀ y ∈ D, y < 256 := by rw [hD]; exact sha_lt _
  obtain ⟨F, hF⟩ : ∃ F, F = sha (macBlock key 92 ++ D) := ⟨_, rfl⟩
  have HF := Lib.hid hF
  have HF2 : Hid (hmac key (flatP L) = F) := Lib.hid (by rw [hF, hD]; rfl)
  have HFS := Lib.hid (And.intro (show (bn F).toArray.size = 32 by rw [bn_size, hF, sha_len]) (bn_all F))
  have HD := Lib.hid (And.intro hDl (And.intro (show (bn D).toArray.size = 32 by rw [bn_size, hDl]) (bn_all D)))
  have HR2 : Hid (∀ y ∈ macBlock key 92 ++ D, y < 256) := Lib.hid (fun y hy => by
    rcases List.mem_append.1 hy with h | h
    · exact macBlock_lt key 92 HH.out.2.2.1 (by decide) y h
    · exact hDr y h)
  have H3 := Lib.hid hb3
  clear hD hDl hDr hF hL hrf hb3
  go_wp2_with (refine wpList_store_blk rfl 73 (.tmp 5) (.tmp 11) rfl w3.heap.size 73 _ (bn D).toArray rfl rfl (Blk.new _ _ _) (by rw [HD.out.2.1]; first | done | kernel_rfl) (by rw [HD.out.2.1]; first | done | kernel_rfl) HD.out.2.2 ?_; intro w6 hB6 ht6 hs6)
  obtain ⟨n5, hn5⟩ : ∃ n5, n5 = w3.heap.size := ⟨_, rfl⟩
  rw [← hn5]
  have ht13 : Touch (fun _ => False) w1 w3 := H2.out.2.trans (Touch.of_below H3.out)
  have hlt1 := H1.out.2.2.2.1.lt
  have ht16 : Touch (fun _ => False) w1 w6 := Touch.then (S := fun _ => False) (ht13.alloc _) ht6 (fun i hi e => by have := ht13.size; omega)
  have HK6 : Hid (SlAt w6 a (bn key) ∧ Blk w6 n5 73 (bn D).toArray ∧ Blk w6 w.heap.size 73 (bn (List.replicate 32 0)).toArray ∧ Touch (fun _ => False) w w6) := Lib.hid ⟨(HH.out.1.touch H1.out.2.2.1 (fun _ _ _ h => h)).touch ht16 (fun _ _ _ h => h), by rw [hn5]; exact hB6, H1.out.2.2.2.1.touch ht16 (fun h => h), H1.out.2.2.1.trans ht16⟩
  clear ht13 hlt1 ht16 hB6 ht6 hs6 hn5
  go_wp2_with fail
  refine wp_region_held_drew (S := fun _ => True) (by kernel_rfl) (trivial) (fun hHeld => ?_)
  refine region_take 0 (v := ?vq0_1) rfl rfl (by kernel_rfl) (by kernel_rfl) (by kernel_rfl) (fun _ _ _ h => h) hHeld (Or.inl ⟨by rfl, ?yq0_1⟩) ?rq0_1
  case yq0_1 => (intro w hSw; (try dsimp only at hSw); go_simp; try with_reducible rfl)
  try simp only [Act.put, List.setIfInBounds_toArray, List.set_cons_zero, List.set_cons_succ]
  refine region_take 2 (v := ?vq2_2) rfl rfl (by kernel_rfl) (by kernel_rfl) (by kernel_rfl) (fun _ _ _ h => h) hHeld (Or.inl ⟨by rfl, ?yq2_2⟩) ?rq2_2
  case yq2_2 => (intro w hSw; (try dsimp only at hSw); go_simp; try with_reducible rfl)
  try simp only [Act.put, List.setIfInBounds_toArray, List.set_cons_zero, List.set_cons_succ]
  refine region_one 1 (by kernel_rfl) rfl (fun K hK => ?_)
  go_simp
  go_at_call 79
  (with_reducible refine (macBlock_int a cap key 92 92 rfl _ (HK6.out.1.touch ((Touch.refl (fun _ => False) w6).drew) (fun _ _ _ h => h)) HH.out.2.1 HH.out.2.2.1 hn (by decide)).mono ?_)
  rintro e u1 ⟨v7, rfl, ho7, hb7⟩
  rw [bn_len, macBlock_len] at ho7
  obtain ⟨a7, c7, rfl, hn7, _, _, _⟩ := owns_form ho7
  have H7 := Lib.hid (And.intro (SlAt.of_owns ho7) (And.intro (fun h => (hn7 h).2) (((Touch.refl (fun _ => False) w6).drew).trans (Touch.of_below hb7))))
  clear ho7 hb7 hn7
  refine hK.out _ _ (trivial) (fun hHeld2 => ?_)
  clear hK K hHeld
  have hHeld := hHeld2
  clear hHeld2
  try simp only [Act.put, List.setIfInBounds_toArray, List.set_cons_zero, List.set_cons_succ]
  refine region_one 3 (by kernel_rfl) rfl (fun K hK => ?_)
  go_simp
  refine hK.out _ _ (trivial) (fun hHeld2 => ?_)
  clear hK K hHeld
  have hHeld := hHeld2
  clear hHeld2
  try simp only [Act.put, List.setIfInBounds_toArray, List.set_cons_zero, List.set_cons_succ]
  refine region_one 4 (by kernel_rfl) rfl (fun K hK => ?_)
  go_simp
  go_at_call 78
  (with_reducible refine (sum_eq _ 2 2 [⟨a7, c7, macBlock key 92⟩, ⟨some ⟨n5, 0, none⟩, 32, D⟩] (macBlock key 92 ++ D) _ ?_ (by simp [flatP]) rfl HR2.out (by rw [List.length_append, macBlock_len, HD.out.1]; decide) (by decide)).mono ?_)
  · have h := PartsIn.lay (w := u1) rfl [⟨a7, c7, macBlock key 92⟩, ⟨some ⟨n5, 0, none⟩, 32, D⟩] 26 (fun p hp => by
      simp only [List.mem_cons, List.not_mem_nil, or_false] at hp
      rcases hp with rfl | rfl
      · exact ⟨H7.out.1, H7.out.2.1⟩
      · exact ⟨SlAt.of_blk (HK6.out.2.1.touch H7.out.2.2 (fun h => h)), fun h => by cases h⟩)
    simp only [List.map_cons, List.map_nil, Part.v, macBlock_len, HD.out.1] at h
    exact h
  rintro e u2 ⟨rfl, hb8⟩
  have H8 := Lib.hid ((H7.out.2.2.alloc _).trans (Touch.of_below hb8))
  clear hb8
  rw [← HF.out]
  refine hK.out _ _ (trivial) (fun hHeld2 => ?_)
  clear hK K hHeld
  have hHeld := hHeld2
  clear hHeld2
  try simp only [Act.put, List.setIfInBounds_toArray, List.set_cons_zero, List.set_cons_succ]
  refine region_one 5 (by kernel_rfl) rfl (fun K hK => ?_)
  refine step_store_blk rfl 73 (.tmp 4) (.tmp 16) rfl w.heap.size 73 _ (bn F).toArray rfl rfl (HK6.out.2.2.1.touch H8.out (fun h => h)) (by rw [HFS.out.1]; first | done | kernel_rfl) (by rw [HFS.out.1]; first | done | kernel_rfl) HFS.out.2 ?_
  intro w9 hB9 ht9 hs9
  have H9 := Lib.hid (And.intro hB9 ht9)
  clear hB9 ht9 hs9
  refine hK.out _ _ (trivial) (fun hHeld2 => ?_)
  clear hK K hHeld
  have hHeld := hHeld2
  clear hHeld2
  try simp only [Act.put]
  refine wpAnyH_done (by kernel_rfl) ?_ _
  go_wp2_with fail
  refine bodyPost_ret (results_cell_row rfl _ _ w.heap.size 73 (bn F).toArray (0, 0) _ rfl H9.out.1 Try.underlying73 rfl (by rw [HFS.out.1]; first | done | kernel_rfl)) rfl ⟨by rw [HF2.out], ?_⟩
  exact (Touch.then (HK6.out.2.2.2.trans H8.out) H9.out.2 (fun i hi e => by omega)).below (Nat.le_refl _) (fun _ _ h => h)
end Go.Proofs.Ythlkmofemnepbaa
