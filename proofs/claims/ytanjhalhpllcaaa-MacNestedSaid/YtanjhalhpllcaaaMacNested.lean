/-
  nightjarlaw03.MacNested: for all keys and bytes the law returns true. No conditions: for every input that can be read.
-/
import Derived.Test.YtanjhalhpllcaaaRows
import Derived.Test.YtanjhalhpllcaaaMacLib
import Derived.Maps.AppendAt
namespace Go.Proofs.Ytanjhalhpllcaaa
open Go.ChangeShapes Go.WideShapes Go.ChangeAt Go.RowKit

theorem macBlock_at (key : List Nat) (bt : Nat) (hk : key.length ≤ 64) (i : Nat) (hi : i < 64) : (macBlock key bt)[i]? = some (key.getD i 0 ^^^ bt) := by
  unfold macBlock macKey
  rw [List.getElem?_map, if_neg (by omega)]
  by_cases h : i < key.length
  · rw [List.getElem?_append_left h, List.getD_eq_getElem?_getD, List.getElem?_eq_getElem h]; rfl
  · rw [List.getElem?_append_right (by omega), List.getElem?_replicate, if_pos (by omega), List.getD_eq_getElem?_getD, List.getElem?_eq_none (by omega)]; rfl

/-- 'append' of one element, and where the row lies behind it. -/
theorem wpList_append_at {P : Program} {ops : Array Oper} {rest : List Oper} {o : Oper} {a : Act} {w : World} {Q : Exit → Act → World → Prop}
    (hg : o.guard = none) (s x : Operand) (t : TypeId) (ho : o.op = .call { callee := .builtin .append, args := #[s, x], argTypes := #[t, t] })
    (base : Nat) (e : TypeId) (i : TypeInfo) (z : Value) (bytes : Nat) (ht : P.underlying t = some (.slice e)) (hi : P.info? e = some i) (hz : i.zero = some z)
    (hsize : i.size = 1) (hby : i.bytes = bytes) (hzs : z.cells.size = 1)
    (v : Value) (n : Nat) (xs : List Value) (hs : a.eval s = v) (hown : w.ownsRow base e 1 v n xs)
    (b : Nat) (u : Value) (hx : a.eval x = .slice (some ⟨b, 0, none⟩) 1 1) (hu : w.cell? ⟨b, 0, none⟩ = some u) (h1 : u.oneCell' = true)
    (h63 : n + 1 ≤ maxLen) (hbytes : (n + 1) * bytes ≤ 140737488355328) (hbase : base ≤ w.heap.size)
    (h : ∀ v' w', w'.ownsRow base e 1 v' (n + 1) (xs ++ [u]) → w.grownBy w' v.ownBlock → (v'.ownBlock = v.ownBlock ∨ v'.ownBlock = some w.heap.size) → wpList P ops Q rest (a.put o.dst v') w') : wpList P ops Q (o :: rest) a w :=
  wpList_append_own_at w hg s x t ho base e i z 1 bytes ht hi hz hsize hby hzs (by decide) v n xs hs hown ⟨b, 0, none⟩ 1 1 [u] hx rfl
    (by intro j v hj; match j, hj with | 0, hj => simp at hj; subst hj; simpa [Addr.add] using hu | j + 1, hj => simp at hj) (by simpa using h1) h63 hbytes hbase (fun v' w' a b _ c => h v' w' a b c)

theorem partsIn_one1 {w : World} {n : Nat} (hn : w.heap.size = n) {a : Option Addr} {c : Nat} {b : List Nat} (hs : SlAt w a (bn b)) (hc : a = none → c = 0) :
    PartsIn (w.alloc (.cells #[.slice a b.length c] 22)) (some ⟨n, 0, none⟩) [⟨a, c, b⟩] :=
  PartsIn.lay hn [⟨a, c, b⟩] _ (fun p hp => by
    rw [List.mem_singleton] at hp
    subst hp
    exact ⟨hs, hc⟩)
theorem nested_two {w : World} {n : Nat} (hn : w.heap.size = n) {a : Option Addr} {c : Nat} {key : List Nat} {g : Nat} {D : List Nat} {T : TypeId} (hD : D.length = 32) (hs : SlAt w a (bn (macBlock key 92))) (hc : a = none → c = 0) (hd : Blk w g T (bn D).toArray) :
    PartsIn (w.alloc (.cells #[.slice a 64 c, .slice (some ⟨g, 0, none⟩) 32 32] 22)) (some ⟨n, 0, none⟩) [⟨a, c, macBlock key 92⟩, ⟨some ⟨g, 0, none⟩, 32, D⟩] := by
  have h := PartsIn.lay hn [⟨a, c, macBlock key 92⟩, ⟨some ⟨g, 0, none⟩, 32, D⟩] 22 (fun p hp => by
    simp only [List.mem_cons, List.not_mem_nil, or_false] at hp
    rcases hp with rfl | rfl
    · exact ⟨hs, hc⟩
    · exact ⟨SlAt.of_blk hd, fun h => by cases h⟩)
  simp only [List.map_cons, List.map_nil, Part.v, macBlock_len, hD] at h
  exact h

/-- The other row, behind an append onto one of two. -/
theorem nested_keep {w0 w w' : World} {o : Obj} {s t v : Value} {n m : Nat} {xs ys : List Value} (hs : w.ownsRow w0.heap.size 5 1 s n xs) (ht : w.ownsRow w0.heap.size 5 1 t m ys) (hne : ∀ k, s.ownBlock = some k → t.ownBlock = some k → False) (hb : Below w0.heap.size w0 w)
    (hg : (w.alloc o).grownBy w' s.ownBlock) (ha : v.ownBlock = s.ownBlock ∨ v.ownBlock = some (w.alloc o).heap.size) : w'.ownsRow w0.heap.size 5 1 t m ys ∧ (∀ k, v.ownBlock = some k → t.ownBlock = some k → False) ∧ Below w0.heap.size w0 w' := by
  refine ⟨(ht.alloc o).kept hg ?_, fun k h1 h2 => ?_, ?_⟩
  · cases h : t.ownBlock with
    | none => exact .inl rfl
    | some k => exact .inr (fun e => hne k e.symm h)
  · have hlt := (ht.lt k h2).2
    rcases ha with ha | ha
    · rw [ha] at h1; exact hne k h1 h2
    · rw [ha] at h1; cases h1; simp at hlt; omega
  · exact (hb.alloc hb.size o).grown hg (by have := hb.size; simp; omega) (fun q hq => (hs.lt q hq).1)

set_option maxRecDepth 100000 in
set_option maxHeartbeats 4000000 in
theorem macNested_in (w : World) (a0 : Option Addr) (c0 : Nat) (key : List Nat) (h0 : BytesIn w a0 key.length c0 key) (a1 : Option Addr) (c1 : Nat) (b : List Nat) (h1 : BytesIn w a1 b.length c1 b) (k0 : ¬ 64 < key.length) (k1 : ¬ 300 < b.length) :
    Calls Try.prog 9 #[.slice a0 key.length c0, .slice a1 b.length c1] w fun e w' => e = .returned (.bool true) ∧ Below w.heap.size w w' := by
  obtain ⟨i0, hi, hz0, hz1, hz2⟩ := info_parts Try.info5
  have HIN := Lib.hid (And.intro h0 h1)
  clear h0 h1
  go_enter Try.func9, Try.ntmps9
  go_wp2_with fail
  (with_reducible refine (macSmall_any w).mono ?_)
  rintro e wa ⟨rfl, hba⟩
  have H1 := Lib.hid (Touch.of_below (S := fun _ => False) hba)
  clear hba
  go_wp2_with fail
  go_loopw [6, 7, 8] (fun s t c wz => ∃ i : Nat, i ≤ 64 ∧ c = .int .i64 i ∧ wz.ownsRow wa.heap.size 5 1 s i (bn ((macBlock key 54).take i)) ∧ wz.ownsRow wa.heap.size 5 1 t i (bn ((macBlock key 92).take i)) ∧ (∀ k, s.ownBlock = some k → t.ownBlock = some k → False) ∧ Below wa.heap.size wa wz) (fun _ _ c _ => (64 - intOf c).toNat)
  case atStart => exact ⟨0, Nat.zero_le _, rfl, World.ownsRow_nil _ _ _ _, World.ownsRow_nil _ _ _ _, (fun k h => by cases h), Below.refl _ _⟩
  case round =>
    obtain ⟨i, hi64, rfl, ho, ho', hne, hbel⟩ := hrel
    have hsl := (HIN.out.1.cells.touch H1.out (fun _ _ _ h => h)).touch (Touch.of_below (S := fun _ => False) hbel) (fun _ _ _ h => h)
    have HO := Lib.hid (And.intro ho (And.intro ho' (And.intro hne hbel)))
    have HS := Lib.hid hsl
    clear ho ho' hne hbel hsl
    by_cases hq : i = 64
    · subst hq
      obtain ⟨a6, c6, rfl, hn6, _, _, _⟩ := owns_form HO.out.1
      obtain ⟨a7, c7, rfl, hn7, _, _, _⟩ := owns_form HO.out.2.1
      have hf1 : (macBlock key 54).take 64 = macBlock key 54 := List.take_of_length_le (by rw [macBlock_len]; exact Nat.le_refl _)
      have hf2 : (macBlock key 92).take 64 = macBlock key 92 := List.take_of_length_le (by rw [macBlock_len]; exact Nat.le_refl _)
      rw [hf1, hf2] at HO
      have HN := Lib.hid (And.intro (fun h => (hn6 h).2) (fun h => (hn7 h).2))
      clear hn6 hn7 hf1 hf2
      go_wp2_with fail
      have hrf : ∀ y ∈ macBlock key 54 ++ b, y < 256 := fun y hy => by
        rcases List.mem_append.1 hy with h | h
        · exact macBlock_lt key 54 HIN.out.1.lt (by decide) y h
        · exact HIN.out.2.lt y h
      have hT : Touch (fun _ => False) w wr := H1.out.trans (Touch.of_below HO.out.2.2.2)
      have hpl : PartsIn (wr.alloc (.cells #[.slice a6 64 c6, .slice a1 b.length c1] 22)) (some ⟨wr.heap.size, 0, none⟩) [⟨a6, c6, macBlock key 54⟩, ⟨a1, c1, b⟩] := by
        have h := PartsIn.lay (w := wr) rfl [⟨a6, c6, macBlock key 54⟩, ⟨a1, c1, b⟩] 22 (fun p hp => by
          simp only [List.mem_cons, List.not_mem_nil, or_false] at hp
          rcases hp with rfl | rfl
          · exact ⟨SlAt.of_owns HO.out.1, HN.out.1⟩
          · exact ⟨HIN.out.2.cells.touch hT (fun _ _ _ h => h), HIN.out.2.nil⟩)
        simp only [List.map_cons, List.map_nil, Part.v, macBlock_len] at h
        exact h
      (with_reducible refine (sum_eq _ 2 2 [⟨a6, c6, macBlock key 54⟩, ⟨a1, c1, b⟩] (macBlock key 54 ++ b) _ hpl (by simp [flatP]) rfl hrf (by rw [List.length_append, macBlock_len]; omega) (by decide)).mono ?_)
      rintro e w3 ⟨rfl, hb3⟩
      obtain ⟨D, hD⟩ : ∃ D, D = sha (macBlock key 54 ++ b) := ⟨_, rfl⟩
      rw [← hD]
      have hDl : D.length = 32 := by rw [hD]; exact sha_len _
      have hDr : ∀ y ∈ D, y < 256 := by rw [hD]; exact sha_lt _
      obtain ⟨F, hF⟩ : ∃ F, F = sha (macBlock key 92 ++ D) := ⟨_, rfl⟩
      have hFl : F.length = 32 := by rw [hF]; exact sha_len _
      have hFr : ∀ y ∈ F, y < 256 := by rw [hF]; exact sha_lt _
      have HF : Hid (hmac key b = F ∧ F = sha (macBlock key 92 ++ D) ∧ (∀ y ∈ macBlock key 92 ++ D, y < 256) ∧ True) := Lib.hid ⟨by rw [hF, hD]; rfl, hF, (fun y hy => by
        rcases List.mem_append.1 hy with h | h
        · exact macBlock_lt key 92 HIN.out.1.lt (by decide) y h
        · exact hDr y h), trivial⟩
      have HD := Lib.hid (And.intro hDl (And.intro (show (bn D).toArray.size = 32 by rw [bn_size, hDl]) (bn_all D)))
      have H3 := Lib.hid (And.intro hT hb3)
      have eF := fun w : World => run_eql_same w F hFl hFr
      clear hD hDl hDr hF hFl hFr hrf hpl hT hb3
      go_wp2_with (refine wpList_store_blk rfl 24 (.tmp 10) (.tmp 46) rfl w3.heap.size 24 _ (bn D).toArray rfl rfl (Blk.new _ _ _) (by rw [HD.out.2.1]; first | done | kernel_rfl) (by rw [HD.out.2.1]; first | done | kernel_rfl) HD.out.2.2 ?_; intro w6 hB6 ht6 hs6)
      obtain ⟨n9, hn9⟩ : ∃ n9, n9 = w3.heap.size := ⟨_, rfl⟩
      rw [← hn9]
      have htr : Touch (fun _ => False) wr w6 := Touch.then (S := fun _ => False) ((((Touch.refl _ wr).alloc _).trans (Touch.of_below H3.out.2)).alloc _) ht6 (fun i hi e => by have := H3.out.2.size; simp at this; omega)
      have HW : Hid (Touch (fun _ => False) w w6) := Lib.hid (H3.out.1.trans htr)
      have H7 : Hid (SlAt w6 a7 (bn (macBlock key 92)) ∧ (a7 = none → c7 = 0) ∧ Blk w6 n9 24 (bn D).toArray) := Lib.hid ⟨(SlAt.of_owns HO.out.2.1).touch htr (fun _ _ _ h => h), HN.out.2, by rw [hn9]; exact hB6⟩
      have H6 : Hid (SlAt w6 a0 (bn key) ∧ SlAt w6 a1 (bn b)) := Lib.hid ⟨HIN.out.1.cells.touch HW.out (fun _ _ _ h => h), HIN.out.2.cells.touch HW.out (fun _ _ _ h => h)⟩
      have HFL : Hid (flatP [⟨a1, c1, b⟩] = b ∧ flatP [⟨a7, c7, macBlock key 92⟩, ⟨some ⟨n9, 0, none⟩, 32, D⟩] = macBlock key 92 ++ D) := Lib.hid ⟨by simp [flatP], by simp [flatP]⟩
      have HFL2 : Hid ((macBlock key 92 ++ D).length ≤ 1000000) := Lib.hid (by rw [List.length_append, macBlock_len, HD.out.1]; decide)
      clear htr hB6 ht6 hs6 hn9
      go_wp2_with fail
      refine wp_region_held_drew (S := fun w' : World => (Touch (fun _ => False) w6 w') ∧ (SlAt w' a0 (bn key)) ∧ (SlAt w' a1 (bn b)) ∧ (SlAt w' a7 (bn (macBlock key 92))) ∧ (Blk w' n9 24 (bn D).toArray)) (by kernel_rfl) (⟨(Touch.refl (fun _ => False) w6).drew, H6.out.1.touch ((Touch.refl (fun _ => False) w6).drew) (fun _ _ _ h => h), H6.out.2.touch ((Touch.refl (fun _ => False) w6).drew) (fun _ _ _ h => h), H7.out.1.touch ((Touch.refl (fun _ => False) w6).drew) (fun _ _ _ h => h), H7.out.2.2.touch ((Touch.refl (fun _ => False) w6).drew) (fun h => h)⟩) (fun hHeld => ?_)
      refine anyH_world (R := fun w' : World => (Touch (fun _ => False) w6 w') ∧ (SlAt w' a0 (bn key)) ∧ (SlAt w' a1 (bn b)) ∧ (SlAt w' a7 (bn (macBlock key 92))) ∧ (Blk w' n9 24 (bn D).toArray)) hHeld ?_
      clear hHeld
      intro W0q hHeld
      refine region_take 0 (v := ?vq0_1) rfl rfl (by kernel_rfl) (by kernel_rfl) (by kernel_rfl) (fun _ _ _ h => h) hHeld (Or.inl ⟨by rfl, ?yq0_1⟩) ?rq0_1
      case yq0_1 => (intro w hSw; (try dsimp only at hSw); go_simp; try with_reducible rfl)
      try simp only [Act.put, List.setIfInBounds_toArray, List.set_cons_zero, List.set_cons_succ]
      refine region_take 1 (v := ?vq1_2) rfl rfl (by kernel_rfl) (by kernel_rfl) (by kernel_rfl) (fun _ _ _ h => h) hHeld (Or.inl ⟨by rfl, ?yq1_2⟩) ?rq1_2
      case yq1_2 => (intro w hSw; (try dsimp only at hSw); go_simp; try with_reducible rfl)
      try simp only [Act.put, List.setIfInBounds_toArray, List.set_cons_zero, List.set_cons_succ]
      refine region_take 2 (v := ?vq2_3) rfl rfl (by kernel_rfl) (by kernel_rfl) (by kernel_rfl) (fun _ _ _ h => h) hHeld (Or.inl ⟨by rfl, ?yq2_3⟩) ?rq2_3
      case yq2_3 => (intro w hSw; (try dsimp only at hSw); go_simp; try with_reducible rfl)
      try simp only [Act.put, List.setIfInBounds_toArray, List.set_cons_zero, List.set_cons_succ]
      refine region_take 3 (v := ?vq3_4) rfl rfl (by kernel_rfl) (by kernel_rfl) (by kernel_rfl) (fun _ _ _ h => h) hHeld (Or.inl ⟨by rfl, ?yq3_4⟩) ?rq3_4
      case yq3_4 => (intro w hSw; (try dsimp only at hSw); go_simp; try with_reducible rfl)
      try simp only [Act.put, List.setIfInBounds_toArray, List.set_cons_zero, List.set_cons_succ]
      refine region_take 6 (v := ?vq6_5) rfl rfl (by kernel_rfl) (by kernel_rfl) (by kernel_rfl) (fun _ _ _ h => h) hHeld (Or.inl ⟨by rfl, ?yq6_5⟩) ?rq6_5
      case yq6_5 => (intro w hSw; (try dsimp only at hSw); go_simp; try with_reducible rfl)
      try simp only [Act.put, List.setIfInBounds_toArray, List.set_cons_zero, List.set_cons_succ]
      refine region_take 7 (v := ?vq7_6) rfl rfl (by kernel_rfl) (by kernel_rfl) (by kernel_rfl) (fun _ _ _ h => h) hHeld (Or.inl ⟨by rfl, ?yq7_6⟩) ?rq7_6
      case yq7_6 => (intro w hSw; (try dsimp only at hSw); go_simp; try with_reducible rfl)
      try simp only [Act.put, List.setIfInBounds_toArray, List.set_cons_zero, List.set_cons_succ]
      refine region_two 4 8 (by kernel_rfl) rfl rfl (fun K hK => ?_) (fun K hK => ?_)
      · go_simp
        refine K_world (fun w' : World => (Touch (fun _ => False) W0q w') ∧ (PartsIn w' (some ⟨W0q.heap.size, 0, none⟩) [⟨a1, c1, b⟩])) ⟨(Touch.refl _ _).alloc _, partsIn_one1 rfl (hHeld.2.2.1) HIN.out.2.nil⟩ ?_
        intro uq_7 hx
        have htq_7 := Lib.hid (hx.1)
        refine hK.out _ _ (⟨(((hHeld.1)).trans htq_7.out), (((hHeld.2.1)).touch htq_7.out (fun _ _ _ h => h)), (((hHeld.2.2.1)).touch htq_7.out (fun _ _ _ h => h)), (((hHeld.2.2.2.1)).touch htq_7.out (fun _ _ _ h => h)), (((hHeld.2.2.2.2)).touch htq_7.out (fun h => h))⟩) (fun hHeld2 => ?_)
        have hn_p1 := Lib.hid (hx.2)
        clear hK K hHeld
        have hHeld := hHeld2
        clear hHeld2
        try simp only [Act.put, List.setIfInBounds_toArray, List.set_cons_zero, List.set_cons_succ]
        refine region_more (S' := fun w' : World => (Touch (fun _ => False) w6 w') ∧ (SlAt w' a0 (bn key)) ∧ (SlAt w' a1 (bn b)) ∧ (SlAt w' a7 (bn (macBlock key 92))) ∧ (Blk w' n9 24 (bn D).toArray) ∧ (PartsIn w' (some ⟨W0q.heap.size, 0, none⟩) [⟨a1, c1, b⟩])) (fun _ h => ⟨(h.1), (h.2.1), (h.2.2.1), (h.2.2.2.1), (h.2.2.2.2.1)⟩) _ _ _ _ ?_
        have hHeld3 := hHeld
        clear hHeld
        have hHeld := (And.intro (hHeld3.1) (And.intro (hHeld3.2.1) (And.intro (hHeld3.2.2.1) (And.intro (hHeld3.2.2.2.1) (And.intro (hHeld3.2.2.2.2) (hn_p1.out))))))
        clear hHeld3 hn_p1
        refine anyH_world (R := fun w' : World => (Touch (fun _ => False) w6 w') ∧ (SlAt w' a0 (bn key)) ∧ (SlAt w' a1 (bn b)) ∧ (SlAt w' a7 (bn (macBlock key 92))) ∧ (Blk w' n9 24 (bn D).toArray) ∧ (PartsIn w' (some ⟨W0q.heap.size, 0, none⟩) [⟨a1, c1, b⟩])) hHeld ?_
        clear hHeld
        intro Wq_7 hHeld
        refine region_two 5 8 (by kernel_rfl) rfl rfl (fun K hK => ?_) (fun K hK => ?_)
        · go_simp
          go_at_call 15
          (with_reducible refine (macOf_eq a0 key.length c0 key _ 1 1 [⟨a1, c1, b⟩] b _ rfl HFL.out.1 rfl (hHeld.2.1) HIN.out.1.nil HIN.out.1.lt (by omega) (hHeld.2.2.2.2.2) (fun h => by cases h) HIN.out.2.lt (by omega) (by decide)).mono ?_)
          rintro e uq_8 ⟨rfl, hbx⟩
          rw [HF.out.1]
          have htq_8 := Lib.hid (Touch.of_below (S := fun _ => False) hbx)
          refine hK.out _ _ (⟨(((hHeld.1)).trans htq_8.out), (((hHeld.2.1)).touch htq_8.out (fun _ _ _ h => h)), (((hHeld.2.2.1)).touch htq_8.out (fun _ _ _ h => h)), (((hHeld.2.2.2.1)).touch htq_8.out (fun _ _ _ h => h)), (((hHeld.2.2.2.2.1)).touch htq_8.out (fun h => h)), (((hHeld.2.2.2.2.2)).touch htq_8.out (fun _ _ _ h => h) (fun _ _ _ _ _ h => h))⟩) (fun hHeld2 => ?_)
          clear hK K hHeld
          have hHeld := hHeld2
          clear hHeld2
          try simp only [Act.put, List.setIfInBounds_toArray, List.set_cons_zero, List.set_cons_succ]
          refine anyH_world (R := fun w' : World => (Touch (fun _ => False) w6 w') ∧ (SlAt w' a0 (bn key)) ∧ (SlAt w' a1 (bn b)) ∧ (SlAt w' a7 (bn (macBlock key 92))) ∧ (Blk w' n9 24 (bn D).toArray) ∧ (PartsIn w' (some ⟨W0q.heap.size, 0, none⟩) [⟨a1, c1, b⟩])) hHeld ?_
          clear hHeld
          intro Wq_8 hHeld
          refine region_one 8 (by kernel_rfl) rfl (fun K hK => ?_)
          go_simp
          refine K_world (fun w' : World => (Touch (fun _ => False) Wq_8 w') ∧ (PartsIn w' (some ⟨Wq_8.heap.size, 0, none⟩) [⟨a7, c7, macBlock key 92⟩, ⟨some ⟨n9, 0, none⟩, 32, D⟩])) ⟨(Touch.refl _ _).alloc _, nested_two rfl HD.out.1 (hHeld.2.2.2.1) H7.out.2.1 (hHeld.2.2.2.2.1)⟩ ?_
          intro uq_9 hx
          have htq_9 := Lib.hid (hx.1)
          refine hK.out _ _ (⟨(((hHeld.1)).trans htq_9.out), (((hHeld.2.1)).touch htq_9.out (fun _ _ _ h => h)), (((hHeld.2.2.1)).touch htq_9.out (fun _ _ _ h => h)), (((hHeld.2.2.2.1)).touch htq_9.out (fun _ _ _ h => h)), (((hHeld.2.2.2.2.1)).touch htq_9.out (fun h => h)), (((hHeld.2.2.2.2.2)).touch htq_9.out (fun _ _ _ h => h) (fun _ _ _ _ _ h => h))⟩) (fun hHeld2 => ?_)
          have hn_p2 := Lib.hid (hx.2)
          clear hK K hHeld
          have hHeld := hHeld2
          clear hHeld2
          try simp only [Act.put, List.setIfInBounds_toArray, List.set_cons_zero, List.set_cons_succ]
          refine region_more (S' := fun w' : World => (Touch (fun _ => False) w6 w') ∧ (SlAt w' a0 (bn key)) ∧ (SlAt w' a1 (bn b)) ∧ (SlAt w' a7 (bn (macBlock key 92))) ∧ (Blk w' n9 24 (bn D).toArray) ∧ (PartsIn w' (some ⟨W0q.heap.size, 0, none⟩) [⟨a1, c1, b⟩]) ∧ (PartsIn w' (some ⟨Wq_8.heap.size, 0, none⟩) [⟨a7, c7, macBlock key 92⟩, ⟨some ⟨n9, 0, none⟩, 32, D⟩])) (fun _ h => ⟨(h.1), (h.2.1), (h.2.2.1), (h.2.2.2.1), (h.2.2.2.2.1), (h.2.2.2.2.2.1)⟩) _ _ _ _ ?_
          have hHeld3 := hHeld
          clear hHeld
          have hHeld := (And.intro (hHeld3.1) (And.intro (hHeld3.2.1) (And.intro (hHeld3.2.2.1) (And.intro (hHeld3.2.2.2.1) (And.intro (hHeld3.2.2.2.2.1) (And.intro (hHeld3.2.2.2.2.2) (hn_p2.out)))))))
          clear hHeld3 hn_p2
          refine anyH_world (R := fun w' : World => (Touch (fun _ => False) w6 w') ∧ (SlAt w' a0 (bn key)) ∧ (SlAt w' a1 (bn b)) ∧ (SlAt w' a7 (bn (macBlock key 92))) ∧ (Blk w' n9 24 (bn D).toArray) ∧ (PartsIn w' (some ⟨W0q.heap.size, 0, none⟩) [⟨a1, c1, b⟩]) ∧ (PartsIn w' (some ⟨Wq_8.heap.size, 0, none⟩) [⟨a7, c7, macBlock key 92⟩, ⟨some ⟨n9, 0, none⟩, 32, D⟩])) hHeld ?_
          clear hHeld
          intro Wq_9 hHeld
          refine region_one 9 (by kernel_rfl) rfl (fun K hK => ?_)
          go_simp
          go_at_call 12
          (with_reducible refine (sum_eq _ 2 2 [⟨a7, c7, macBlock key 92⟩, ⟨some ⟨n9, 0, none⟩, 32, D⟩] (macBlock key 92 ++ D) _ (hHeld.2.2.2.2.2.2) HFL.out.2 rfl HF.out.2.2.1 HFL2.out (by decide)).mono ?_)
          rintro e uq_10 ⟨rfl, hbx⟩
          rw [← HF.out.2.1]
          have htq_10 := Lib.hid (Touch.of_below (S := fun _ => False) hbx)
          refine hK.out _ _ (⟨(((hHeld.1)).trans htq_10.out), (((hHeld.2.1)).touch htq_10.out (fun _ _ _ h => h)), (((hHeld.2.2.1)).touch htq_10.out (fun _ _ _ h => h)), (((hHeld.2.2.2.1)).touch htq_10.out (fun _ _ _ h => h)), (((hHeld.2.2.2.2.1)).touch htq_10.out (fun h => h)), (((hHeld.2.2.2.2.2.1)).touch htq_10.out (fun _ _ _ h => h) (fun _ _ _ _ _ h => h)), (((hHeld.2.2.2.2.2.2)).touch htq_10.out (fun _ _ _ h => h) (fun _ _ _ _ _ h => h))⟩) (fun hHeld2 => ?_)
          clear hK K hHeld
          have hHeld := hHeld2
          clear hHeld2
          try simp only [Act.put, List.setIfInBounds_toArray, List.set_cons_zero, List.set_cons_succ]
          refine anyH_world (R := fun w' : World => (Touch (fun _ => False) w6 w') ∧ (SlAt w' a0 (bn key)) ∧ (SlAt w' a1 (bn b)) ∧ (SlAt w' a7 (bn (macBlock key 92))) ∧ (Blk w' n9 24 (bn D).toArray) ∧ (PartsIn w' (some ⟨W0q.heap.size, 0, none⟩) [⟨a1, c1, b⟩]) ∧ (PartsIn w' (some ⟨Wq_8.heap.size, 0, none⟩) [⟨a7, c7, macBlock key 92⟩, ⟨some ⟨n9, 0, none⟩, 32, D⟩])) hHeld ?_
          clear hHeld
          intro Wq_10 hHeld
          refine region_take 10 (v := ?vq10_11) rfl rfl (by kernel_rfl) (by kernel_rfl) (by kernel_rfl) (fun _ _ _ h => h) hHeld (Or.inl ⟨by rfl, ?yq10_11⟩) ?rq10_11
          case yq10_11 => (intro w hSw; (try dsimp only at hSw); go_simp; try with_reducible rfl)
          try simp only [Act.put, List.setIfInBounds_toArray, List.set_cons_zero, List.set_cons_succ]
          refine region_take 11 (v := ?vq11_12) rfl rfl (by kernel_rfl) (by kernel_rfl) (by kernel_rfl) (fun _ _ _ h => h) hHeld (Or.inl ⟨by rfl, ?yq11_12⟩) ?rq11_12
          case yq11_12 => (intro w hSw; (try dsimp only at hSw); go_simp; try with_reducible rfl)
          try simp only [Act.put, List.setIfInBounds_toArray, List.set_cons_zero, List.set_cons_succ]
          refine region_take 12 (v := ?vq12_13) rfl rfl (by kernel_rfl) (by kernel_rfl) (by kernel_rfl) (fun _ _ _ h => h) hHeld (Or.inl ⟨by rfl, ?yq12_13⟩) ?rq12_13
          case yq12_13 => (intro w hSw; (try dsimp only at hSw); go_simp; try with_reducible rfl)
          try simp only [Act.put, List.setIfInBounds_toArray, List.set_cons_zero, List.set_cons_succ]
          refine wpAnyH_done (by kernel_rfl) ?_ _
          go_wp2_with fail
          go_ret
          exact ⟨rfl, (HW.out.trans (hHeld.1)).below (Nat.le_refl _) (fun _ _ h => h)⟩
        · go_simp
          refine K_world (fun w' : World => (Touch (fun _ => False) Wq_7 w') ∧ (PartsIn w' (some ⟨Wq_7.heap.size, 0, none⟩) [⟨a7, c7, macBlock key 92⟩, ⟨some ⟨n9, 0, none⟩, 32, D⟩])) ⟨(Touch.refl _ _).alloc _, nested_two rfl HD.out.1 (hHeld.2.2.2.1) H7.out.2.1 (hHeld.2.2.2.2.1)⟩ ?_
          intro uq_14 hx
          have htq_14 := Lib.hid (hx.1)
          refine hK.out _ _ (⟨(((hHeld.1)).trans htq_14.out), (((hHeld.2.1)).touch htq_14.out (fun _ _ _ h => h)), (((hHeld.2.2.1)).touch htq_14.out (fun _ _ _ h => h)), (((hHeld.2.2.2.1)).touch htq_14.out (fun _ _ _ h => h)), (((hHeld.2.2.2.2.1)).touch htq_14.out (fun h => h)), (((hHeld.2.2.2.2.2)).touch htq_14.out (fun _ _ _ h => h) (fun _ _ _ _ _ h => h))⟩) (fun hHeld2 => ?_)
          have hn_p2 := Lib.hid (hx.2)
          clear hK K hHeld
          have hHeld := hHeld2
          clear hHeld2
          try simp only [Act.put, List.setIfInBounds_toArray, List.set_cons_zero, List.set_cons_succ]
          refine region_more (S' := fun w' : World => (Touch (fun _ => False) w6 w') ∧ (SlAt w' a0 (bn key)) ∧ (SlAt w' a1 (bn b)) ∧ (SlAt w' a7 (bn (macBlock key 92))) ∧ (Blk w' n9 24 (bn D).toArray) ∧ (PartsIn w' (some ⟨W0q.heap.size, 0, none⟩) [⟨a1, c1, b⟩]) ∧ (PartsIn w' (some ⟨Wq_7.heap.size, 0, none⟩) [⟨a7, c7, macBlock key 92⟩, ⟨some ⟨n9, 0, none⟩, 32, D⟩])) (fun _ h => ⟨(h.1), (h.2.1), (h.2.2.1), (h.2.2.2.1), (h.2.2.2.2.1), (h.2.2.2.2.2.1)⟩) _ _ _ _ ?_
          have hHeld3 := hHeld
          clear hHeld
          have hHeld := (And.intro (hHeld3.1) (And.intro (hHeld3.2.1) (And.intro (hHeld3.2.2.1) (And.intro (hHeld3.2.2.2.1) (And.intro (hHeld3.2.2.2.2.1) (And.intro (hHeld3.2.2.2.2.2) (hn_p2.out)))))))
          clear hHeld3 hn_p2
          refine anyH_world (R := fun w' : World => (Touch (fun _ => False) w6 w') ∧ (SlAt w' a0 (bn key)) ∧ (SlAt w' a1 (bn b)) ∧ (SlAt w' a7 (bn (macBlock key 92))) ∧ (Blk w' n9 24 (bn D).toArray) ∧ (PartsIn w' (some ⟨W0q.heap.size, 0, none⟩) [⟨a1, c1, b⟩]) ∧ (PartsIn w' (some ⟨Wq_7.heap.size, 0, none⟩) [⟨a7, c7, macBlock key 92⟩, ⟨some ⟨n9, 0, none⟩, 32, D⟩])) hHeld ?_
          clear hHeld
          intro Wq_14 hHeld
          refine region_one 5 (by kernel_rfl) rfl (fun K hK => ?_)
          go_simp
          go_at_call 15
          (with_reducible refine (macOf_eq a0 key.length c0 key _ 1 1 [⟨a1, c1, b⟩] b _ rfl HFL.out.1 rfl (hHeld.2.1) HIN.out.1.nil HIN.out.1.lt (by omega) (hHeld.2.2.2.2.2.1) (fun h => by cases h) HIN.out.2.lt (by omega) (by decide)).mono ?_)
          rintro e uq_15 ⟨rfl, hbx⟩
          rw [HF.out.1]
          have htq_15 := Lib.hid (Touch.of_below (S := fun _ => False) hbx)
          refine hK.out _ _ (⟨(((hHeld.1)).trans htq_15.out), (((hHeld.2.1)).touch htq_15.out (fun _ _ _ h => h)), (((hHeld.2.2.1)).touch htq_15.out (fun _ _ _ h => h)), (((hHeld.2.2.2.1)).touch htq_15.out (fun _ _ _ h => h)), (((hHeld.2.2.2.2.1)).touch htq_15.out (fun h => h)), (((hHeld.2.2.2.2.2.1)).touch htq_15.out (fun _ _ _ h => h) (fun _ _ _ _ _ h => h)), (((hHeld.2.2.2.2.2.2)).touch htq_15.out (fun _ _ _ h => h) (fun _ _ _ _ _ h => h))⟩) (fun hHeld2 => ?_)
          clear hK K hHeld
          have hHeld := hHeld2
          clear hHeld2
          try simp only [Act.put, List.setIfInBounds_toArray, List.set_cons_zero, List.set_cons_succ]
          refine anyH_world (R := fun w' : World => (Touch (fun _ => False) w6 w') ∧ (SlAt w' a0 (bn key)) ∧ (SlAt w' a1 (bn b)) ∧ (SlAt w' a7 (bn (macBlock key 92))) ∧ (Blk w' n9 24 (bn D).toArray) ∧ (PartsIn w' (some ⟨W0q.heap.size, 0, none⟩) [⟨a1, c1, b⟩]) ∧ (PartsIn w' (some ⟨Wq_7.heap.size, 0, none⟩) [⟨a7, c7, macBlock key 92⟩, ⟨some ⟨n9, 0, none⟩, 32, D⟩])) hHeld ?_
          clear hHeld
          intro Wq_15 hHeld
          refine region_one 9 (by kernel_rfl) rfl (fun K hK => ?_)
          go_simp
          go_at_call 12
          (with_reducible refine (sum_eq _ 2 2 [⟨a7, c7, macBlock key 92⟩, ⟨some ⟨n9, 0, none⟩, 32, D⟩] (macBlock key 92 ++ D) _ (hHeld.2.2.2.2.2.2) HFL.out.2 rfl HF.out.2.2.1 HFL2.out (by decide)).mono ?_)
          rintro e uq_16 ⟨rfl, hbx⟩
          rw [← HF.out.2.1]
          have htq_16 := Lib.hid (Touch.of_below (S := fun _ => False) hbx)
          refine hK.out _ _ (⟨(((hHeld.1)).trans htq_16.out), (((hHeld.2.1)).touch htq_16.out (fun _ _ _ h => h)), (((hHeld.2.2.1)).touch htq_16.out (fun _ _ _ h => h)), (((hHeld.2.2.2.1)).touch htq_16.out (fun _ _ _ h => h)), (((hHeld.2.2.2.2.1)).touch htq_16.out (fun h => h)), (((hHeld.2.2.2.2.2.1)).touch htq_16.out (fun _ _ _ h => h) (fun _ _ _ _ _ h => h)), (((hHeld.2.2.2.2.2.2)).touch htq_16.out (fun _ _ _ h => h) (fun _ _ _ _ _ h => h))⟩) (fun hHeld2 => ?_)
          clear hK K hHeld
          have hHeld := hHeld2
          clear hHeld2
          try simp only [Act.put, List.setIfInBounds_toArray, List.set_cons_zero, List.set_cons_succ]
          refine anyH_world (R := fun w' : World => (Touch (fun _ => False) w6 w') ∧ (SlAt w' a0 (bn key)) ∧ (SlAt w' a1 (bn b)) ∧ (SlAt w' a7 (bn (macBlock key 92))) ∧ (Blk w' n9 24 (bn D).toArray) ∧ (PartsIn w' (some ⟨W0q.heap.size, 0, none⟩) [⟨a1, c1, b⟩]) ∧ (PartsIn w' (some ⟨Wq_7.heap.size, 0, none⟩) [⟨a7, c7, macBlock key 92⟩, ⟨some ⟨n9, 0, none⟩, 32, D⟩])) hHeld ?_
          clear hHeld
          intro Wq_16 hHeld
          refine region_take 10 (v := ?vq10_17) rfl rfl (by kernel_rfl) (by kernel_rfl) (by kernel_rfl) (fun _ _ _ h => h) hHeld (Or.inl ⟨by rfl, ?yq10_17⟩) ?rq10_17
          case yq10_17 => (intro w hSw; (try dsimp only at hSw); go_simp; try with_reducible rfl)
          try simp only [Act.put, List.setIfInBounds_toArray, List.set_cons_zero, List.set_cons_succ]
          refine region_take 11 (v := ?vq11_18) rfl rfl (by kernel_rfl) (by kernel_rfl) (by kernel_rfl) (fun _ _ _ h => h) hHeld (Or.inl ⟨by rfl, ?yq11_18⟩) ?rq11_18
          case yq11_18 => (intro w hSw; (try dsimp only at hSw); go_simp; try with_reducible rfl)
          try simp only [Act.put, List.setIfInBounds_toArray, List.set_cons_zero, List.set_cons_succ]
          refine region_take 12 (v := ?vq12_19) rfl rfl (by kernel_rfl) (by kernel_rfl) (by kernel_rfl) (fun _ _ _ h => h) hHeld (Or.inl ⟨by rfl, ?yq12_19⟩) ?rq12_19
          case yq12_19 => (intro w hSw; (try dsimp only at hSw); go_simp; try with_reducible rfl)
          try simp only [Act.put, List.setIfInBounds_toArray, List.set_cons_zero, List.set_cons_succ]
          refine wpAnyH_done (by kernel_rfl) ?_ _
          go_wp2_with fail
          go_ret
          exact ⟨rfl, (HW.out.trans (hHeld.1)).below (Nat.le_refl _) (fun _ _ h => h)⟩
      · go_simp
        refine K_world (fun w' : World => (Touch (fun _ => False) W0q w') ∧ (PartsIn w' (some ⟨W0q.heap.size, 0, none⟩) [⟨a7, c7, macBlock key 92⟩, ⟨some ⟨n9, 0, none⟩, 32, D⟩])) ⟨(Touch.refl _ _).alloc _, nested_two rfl HD.out.1 (hHeld.2.2.2.1) H7.out.2.1 (hHeld.2.2.2.2)⟩ ?_
        intro uq_20 hx
        have htq_20 := Lib.hid (hx.1)
        refine hK.out _ _ (⟨(((hHeld.1)).trans htq_20.out), (((hHeld.2.1)).touch htq_20.out (fun _ _ _ h => h)), (((hHeld.2.2.1)).touch htq_20.out (fun _ _ _ h => h)), (((hHeld.2.2.2.1)).touch htq_20.out (fun _ _ _ h => h)), (((hHeld.2.2.2.2)).touch htq_20.out (fun h => h))⟩) (fun hHeld2 => ?_)
        have hn_p2 := Lib.hid (hx.2)
        clear hK K hHeld
        have hHeld := hHeld2
        clear hHeld2
        try simp only [Act.put, List.setIfInBounds_toArray, List.set_cons_zero, List.set_cons_succ]
        refine region_more (S' := fun w' : World => (Touch (fun _ => False) w6 w') ∧ (SlAt w' a0 (bn key)) ∧ (SlAt w' a1 (bn b)) ∧ (SlAt w' a7 (bn (macBlock key 92))) ∧ (Blk w' n9 24 (bn D).toArray) ∧ (PartsIn w' (some ⟨W0q.heap.size, 0, none⟩) [⟨a7, c7, macBlock key 92⟩, ⟨some ⟨n9, 0, none⟩, 32, D⟩])) (fun _ h => ⟨(h.1), (h.2.1), (h.2.2.1), (h.2.2.2.1), (h.2.2.2.2.1)⟩) _ _ _ _ ?_
        have hHeld3 := hHeld
        clear hHeld
        have hHeld := (And.intro (hHeld3.1) (And.intro (hHeld3.2.1) (And.intro (hHeld3.2.2.1) (And.intro (hHeld3.2.2.2.1) (And.intro (hHeld3.2.2.2.2) (hn_p2.out))))))
        clear hHeld3 hn_p2
        refine anyH_world (R := fun w' : World => (Touch (fun _ => False) w6 w') ∧ (SlAt w' a0 (bn key)) ∧ (SlAt w' a1 (bn b)) ∧ (SlAt w' a7 (bn (macBlock key 92))) ∧ (Blk w' n9 24 (bn D).toArray) ∧ (PartsIn w' (some ⟨W0q.heap.size, 0, none⟩) [⟨a7, c7, macBlock key 92⟩, ⟨some ⟨n9, 0, none⟩, 32, D⟩])) hHeld ?_
        clear hHeld
        intro Wq_20 hHeld
        refine region_one 4 (by kernel_rfl) rfl (fun K hK => ?_)
        go_simp
        refine K_world (fun w' : World => (Touch (fun _ => False) Wq_20 w') ∧ (PartsIn w' (some ⟨Wq_20.heap.size, 0, none⟩) [⟨a1, c1, b⟩])) ⟨(Touch.refl _ _).alloc _, partsIn_one1 rfl (hHeld.2.2.1) HIN.out.2.nil⟩ ?_
        intro uq_21 hx
        have htq_21 := Lib.hid (hx.1)
        refine hK.out _ _ (⟨(((hHeld.1)).trans htq_21.out), (((hHeld.2.1)).touch htq_21.out (fun _ _ _ h => h)), (((hHeld.2.2.1)).touch htq_21.out (fun _ _ _ h => h)), (((hHeld.2.2.2.1)).touch htq_21.out (fun _ _ _ h => h)), (((hHeld.2.2.2.2.1)).touch htq_21.out (fun h => h)), (((hHeld.2.2.2.2.2)).touch htq_21.out (fun _ _ _ h => h) (fun _ _ _ _ _ h => h))⟩) (fun hHeld2 => ?_)
        have hn_p1 := Lib.hid (hx.2)
        clear hK K hHeld
        have hHeld := hHeld2
        clear hHeld2
        try simp only [Act.put, List.setIfInBounds_toArray, List.set_cons_zero, List.set_cons_succ]
        refine region_more (S' := fun w' : World => (Touch (fun _ => False) w6 w') ∧ (SlAt w' a0 (bn key)) ∧ (SlAt w' a1 (bn b)) ∧ (SlAt w' a7 (bn (macBlock key 92))) ∧ (Blk w' n9 24 (bn D).toArray) ∧ (PartsIn w' (some ⟨W0q.heap.size, 0, none⟩) [⟨a7, c7, macBlock key 92⟩, ⟨some ⟨n9, 0, none⟩, 32, D⟩]) ∧ (PartsIn w' (some ⟨Wq_20.heap.size, 0, none⟩) [⟨a1, c1, b⟩])) (fun _ h => ⟨(h.1), (h.2.1), (h.2.2.1), (h.2.2.2.1), (h.2.2.2.2.1), (h.2.2.2.2.2.1)⟩) _ _ _ _ ?_
        have hHeld3 := hHeld
        clear hHeld
        have hHeld := (And.intro (hHeld3.1) (And.intro (hHeld3.2.1) (And.intro (hHeld3.2.2.1) (And.intro (hHeld3.2.2.2.1) (And.intro (hHeld3.2.2.2.2.1) (And.intro (hHeld3.2.2.2.2.2) (hn_p1.out)))))))
        clear hHeld3 hn_p1
        refine anyH_world (R := fun w' : World => (Touch (fun _ => False) w6 w') ∧ (SlAt w' a0 (bn key)) ∧ (SlAt w' a1 (bn b)) ∧ (SlAt w' a7 (bn (macBlock key 92))) ∧ (Blk w' n9 24 (bn D).toArray) ∧ (PartsIn w' (some ⟨W0q.heap.size, 0, none⟩) [⟨a7, c7, macBlock key 92⟩, ⟨some ⟨n9, 0, none⟩, 32, D⟩]) ∧ (PartsIn w' (some ⟨Wq_20.heap.size, 0, none⟩) [⟨a1, c1, b⟩])) hHeld ?_
        clear hHeld
        intro Wq_21 hHeld
        refine region_one 5 (by kernel_rfl) rfl (fun K hK => ?_)
        go_simp
        go_at_call 15
        (with_reducible refine (macOf_eq a0 key.length c0 key _ 1 1 [⟨a1, c1, b⟩] b _ rfl HFL.out.1 rfl (hHeld.2.1) HIN.out.1.nil HIN.out.1.lt (by omega) (hHeld.2.2.2.2.2.2) (fun h => by cases h) HIN.out.2.lt (by omega) (by decide)).mono ?_)
        rintro e uq_22 ⟨rfl, hbx⟩
        rw [HF.out.1]
        have htq_22 := Lib.hid (Touch.of_below (S := fun _ => False) hbx)
        refine hK.out _ _ (⟨(((hHeld.1)).trans htq_22.out), (((hHeld.2.1)).touch htq_22.out (fun _ _ _ h => h)), (((hHeld.2.2.1)).touch htq_22.out (fun _ _ _ h => h)), (((hHeld.2.2.2.1)).touch htq_22.out (fun _ _ _ h => h)), (((hHeld.2.2.2.2.1)).touch htq_22.out (fun h => h)), (((hHeld.2.2.2.2.2.1)).touch htq_22.out (fun _ _ _ h => h) (fun _ _ _ _ _ h => h)), (((hHeld.2.2.2.2.2.2)).touch htq_22.out (fun _ _ _ h => h) (fun _ _ _ _ _ h => h))⟩) (fun hHeld2 => ?_)
        clear hK K hHeld
        have hHeld := hHeld2
        clear hHeld2
        try simp only [Act.put, List.setIfInBounds_toArray, List.set_cons_zero, List.set_cons_succ]
        refine anyH_world (R := fun w' : World => (Touch (fun _ => False) w6 w') ∧ (SlAt w' a0 (bn key)) ∧ (SlAt w' a1 (bn b)) ∧ (SlAt w' a7 (bn (macBlock key 92))) ∧ (Blk w' n9 24 (bn D).toArray) ∧ (PartsIn w' (some ⟨W0q.heap.size, 0, none⟩) [⟨a7, c7, macBlock key 92⟩, ⟨some ⟨n9, 0, none⟩, 32, D⟩]) ∧ (PartsIn w' (some ⟨Wq_20.heap.size, 0, none⟩) [⟨a1, c1, b⟩])) hHeld ?_
        clear hHeld
        intro Wq_22 hHeld
        refine region_one 9 (by kernel_rfl) rfl (fun K hK => ?_)
        go_simp
        go_at_call 12
        (with_reducible refine (sum_eq _ 2 2 [⟨a7, c7, macBlock key 92⟩, ⟨some ⟨n9, 0, none⟩, 32, D⟩] (macBlock key 92 ++ D) _ (hHeld.2.2.2.2.2.1) HFL.out.2 rfl HF.out.2.2.1 HFL2.out (by decide)).mono ?_)
        rintro e uq_23 ⟨rfl, hbx⟩
        rw [← HF.out.2.1]
        have htq_23 := Lib.hid (Touch.of_below (S := fun _ => False) hbx)
        refine hK.out _ _ (⟨(((hHeld.1)).trans htq_23.out), (((hHeld.2.1)).touch htq_23.out (fun _ _ _ h => h)), (((hHeld.2.2.1)).touch htq_23.out (fun _ _ _ h => h)), (((hHeld.2.2.2.1)).touch htq_23.out (fun _ _ _ h => h)), (((hHeld.2.2.2.2.1)).touch htq_23.out (fun h => h)), (((hHeld.2.2.2.2.2.1)).touch htq_23.out (fun _ _ _ h => h) (fun _ _ _ _ _ h => h)), (((hHeld.2.2.2.2.2.2)).touch htq_23.out (fun _ _ _ h => h) (fun _ _ _ _ _ h => h))⟩) (fun hHeld2 => ?_)
        clear hK K hHeld
        have hHeld := hHeld2
        clear hHeld2
        try simp only [Act.put, List.setIfInBounds_toArray, List.set_cons_zero, List.set_cons_succ]
        refine anyH_world (R := fun w' : World => (Touch (fun _ => False) w6 w') ∧ (SlAt w' a0 (bn key)) ∧ (SlAt w' a1 (bn b)) ∧ (SlAt w' a7 (bn (macBlock key 92))) ∧ (Blk w' n9 24 (bn D).toArray) ∧ (PartsIn w' (some ⟨W0q.heap.size, 0, none⟩) [⟨a7, c7, macBlock key 92⟩, ⟨some ⟨n9, 0, none⟩, 32, D⟩]) ∧ (PartsIn w' (some ⟨Wq_20.heap.size, 0, none⟩) [⟨a1, c1, b⟩])) hHeld ?_
        clear hHeld
        intro Wq_23 hHeld
        refine region_take 10 (v := ?vq10_24) rfl rfl (by kernel_rfl) (by kernel_rfl) (by kernel_rfl) (fun _ _ _ h => h) hHeld (Or.inl ⟨by rfl, ?yq10_24⟩) ?rq10_24
        case yq10_24 => (intro w hSw; (try dsimp only at hSw); go_simp; try with_reducible rfl)
        try simp only [Act.put, List.setIfInBounds_toArray, List.set_cons_zero, List.set_cons_succ]
        refine region_take 11 (v := ?vq11_25) rfl rfl (by kernel_rfl) (by kernel_rfl) (by kernel_rfl) (fun _ _ _ h => h) hHeld (Or.inl ⟨by rfl, ?yq11_25⟩) ?rq11_25
        case yq11_25 => (intro w hSw; (try dsimp only at hSw); go_simp; try with_reducible rfl)
        try simp only [Act.put, List.setIfInBounds_toArray, List.set_cons_zero, List.set_cons_succ]
        refine region_take 12 (v := ?vq12_26) rfl rfl (by kernel_rfl) (by kernel_rfl) (by kernel_rfl) (fun _ _ _ h => h) hHeld (Or.inl ⟨by rfl, ?yq12_26⟩) ?rq12_26
        case yq12_26 => (intro w hSw; (try dsimp only at hSw); go_simp; try with_reducible rfl)
        try simp only [Act.put, List.setIfInBounds_toArray, List.set_cons_zero, List.set_cons_succ]
        refine wpAnyH_done (by kernel_rfl) ?_ _
        go_wp2_with fail
        go_ret
        exact ⟨rfl, (HW.out.trans (hHeld.1)).below (Nat.le_refl _) (fun _ _ h => h)⟩
    · have hil : i < 64 := by omega
      have hiI : (i : Int) < 64 := by omega
      have hat1 := macBlock_at key 54 (by omega) i hil
      have hat2 := macBlock_at key 92 (by omega) i hil
      obtain ⟨y, hy⟩ : ∃ y, y = key.getD i 0 := ⟨_, rfl⟩
      have hyr : y < 256 := by
        rw [hy, List.getD_eq_getElem?_getD]
        cases h : key[i]? with
        | none => exact (by decide : (0 : Nat) < 256)
        | some u => exact HIN.out.1.lt u (List.mem_of_getElem? h)
      rw [← hy] at hat1 hat2
      obtain ⟨z1, hz1'⟩ : ∃ z, z = y ^^^ 54 := ⟨_, rfl⟩
      obtain ⟨z2, hz2'⟩ : ∃ z, z = y ^^^ 92 := ⟨_, rfl⟩
      have e1 : bits .xor .u8 (y : Int) 54 = (z1 : Int) := by rw [hz1']; exact xor_u8 y 54 hyr (by decide)
      have e2 : bits .xor .u8 (y : Int) 92 = (z2 : Int) := by rw [hz2']; exact xor_u8 y 92 hyr (by decide)
      rw [← hz1'] at hat1
      rw [← hz2'] at hat2
      have HZ := Lib.hid (And.intro (take_snoc2 hat1) (take_snoc2 hat2))
      clear hat1 hat2 hz1' hz2'
      by_cases hik : i < key.length
      · have hikI : (i : Int) < key.length := by omega
        have hki : key[i]? = some y := by rw [hy, List.getD_eq_getElem?_getD, List.getElem?_eq_getElem hik]; rfl
        obtain ⟨b5, o5, rfl, c5i⟩ := HS.out.get (bn_at hki)
        clear hy hki
        go_wp2_with (first
          | (at_builtin; refine wpList_append_at rfl (.tmp 33) (.tmp 36) 22 rfl wa.heap.size 5 i0 (.int .u8 0) 1 Try.underlying22 hi hz0 hz1 hz2 rfl _ _ _ rfl (HO.out.1.alloc _) _ _ rfl (by simp; rfl) rfl (by unfold maxLen; omega) (by omega) (by have := HO.out.2.2.2.size; simp; omega) ?_; intro v3 w3 ho3 hg3 ha3; have H3 := Lib.hid (And.intro ho3 (nested_keep HO.out.1 HO.out.2.1 HO.out.2.2.1 HO.out.2.2.2 hg3 ha3)); clear ho3 hg3 ha3)
          | (at_builtin; refine wpList_append_at rfl (.tmp 38) (.tmp 41) 22 rfl wa.heap.size 5 i0 (.int .u8 0) 1 Try.underlying22 hi hz0 hz1 hz2 rfl _ _ _ rfl (H3.out.2.1.alloc _) _ _ rfl (by simp; rfl) rfl (by unfold maxLen; omega) (by omega) (by have := H3.out.2.2.2.size; simp; omega) ?_; intro v4 w4 ho4 hg4 ha4; have H4 := Lib.hid (And.intro ho4 (nested_keep H3.out.2.1 H3.out.1 (fun k h1 h2 => H3.out.2.2.1 k h2 h1) H3.out.2.2.2 hg4 ha4)); clear ho4 hg4 ha4))
        go_roundw
        case rel =>
          refine ⟨i + 1, by omega, by first | rfl | (congr 1; omega), ?_, ?_, fun k h1 h2 => H4.out.2.2.1 k h2 h1, H4.out.2.2.2⟩
          · have h := H4.out.2.1
            try rw [e1] at h
            rw [HZ.out.1, bn_append]
            exact h
          · have h := H4.out.1
            try rw [e2] at h
            rw [HZ.out.2, bn_append]
            exact h
        case measure => simp [intOf]; omega
      · have hikI : (key.length : Int) ≤ i := by omega
        have hy0 : y = 0 := by rw [hy, List.getD_eq_getElem?_getD, List.getElem?_eq_none (by omega)]; rfl
        subst hy0
        have e1 : bits .xor .u8 0 54 = (z1 : Int) := e1
        have e2 : bits .xor .u8 0 92 = (z2 : Int) := e2
        clear hy
        go_wp2_with (first
          | (at_builtin; refine wpList_append_at rfl (.tmp 33) (.tmp 36) 22 rfl wa.heap.size 5 i0 (.int .u8 0) 1 Try.underlying22 hi hz0 hz1 hz2 rfl _ _ _ rfl (HO.out.1.alloc _) _ _ rfl (by simp; rfl) rfl (by unfold maxLen; omega) (by omega) (by have := HO.out.2.2.2.size; simp; omega) ?_; intro v3 w3 ho3 hg3 ha3; have H3 := Lib.hid (And.intro ho3 (nested_keep HO.out.1 HO.out.2.1 HO.out.2.2.1 HO.out.2.2.2 hg3 ha3)); clear ho3 hg3 ha3)
          | (at_builtin; refine wpList_append_at rfl (.tmp 38) (.tmp 41) 22 rfl wa.heap.size 5 i0 (.int .u8 0) 1 Try.underlying22 hi hz0 hz1 hz2 rfl _ _ _ rfl (H3.out.2.1.alloc _) _ _ rfl (by simp; rfl) rfl (by unfold maxLen; omega) (by omega) (by have := H3.out.2.2.2.size; simp; omega) ?_; intro v4 w4 ho4 hg4 ha4; have H4 := Lib.hid (And.intro ho4 (nested_keep H3.out.2.1 H3.out.1 (fun k h1 h2 => H3.out.2.2.1 k h2 h1) H3.out.2.2.2 hg4 ha4)); clear ho4 hg4 ha4))
        go_roundw
        case rel =>
          refine ⟨i + 1, by omega, by first | rfl | (congr 1; omega), ?_, ?_, fun k h1 h2 => H4.out.2.2.1 k h2 h1, H4.out.2.2.2⟩
          · have h := H4.out.2.1
            try rw [e1] at h
            rw [HZ.out.1, bn_append]
            exact h
          · have h := H4.out.1
            try rw [e2] at h
            rw [HZ.out.2, bn_append]
            exact h
        case measure => simp [intOf]; omega

theorem macNested_walk (w : World) (a0 : Option Addr) (l0 c0 : Nat) (z0 : List Int) (h0 : RowIn .u8 w a0 l0 c0 z0) (a1 : Option Addr) (l1 c1 : Nat) (z1 : List Int) (h1 : RowIn .u8 w a1 l1 c1 z1) :
    Calls Try.prog 9 #[.slice a0 l0 c0, .slice a1 l1 c1] w fun e w' => e = .returned (.bool true) ∧ Below w.heap.size w w' := by
  have i0 := h0.bytes
  have i1 := h1.bytes
  obtain ⟨key, hk⟩ : ∃ b, b = nats z0 := ⟨_, rfl⟩
  obtain ⟨b, hb⟩ : ∃ b, b = nats z1 := ⟨_, rfl⟩
  rw [← hk] at i0
  rw [← hb] at i1
  clear hk hb h0 h1
  have e0 := i0.hlen
  have e1 := i1.hlen
  subst e0 e1
  have hcc : 64 < key.length ∨ (¬ 64 < key.length ∧ 300 < b.length) ∨ (¬ 64 < key.length ∧ ¬ 300 < b.length) := by omega
  rcases hcc with k0 | ⟨k0, k1⟩ | ⟨k0, k1⟩
  case inr.inr => exact macNested_in w a0 c0 key i0 a1 c1 b i1 k0 k1
  all_goals
    clear i0 i1
    go_enter Try.func9, Try.ntmps9
    go_wp2_with fail
    (with_reducible refine (macSmall_any w).mono ?_)
    rintro e w1 ⟨rfl, hb⟩
    have HB := Lib.hid hb
    clear hb
    go_wp2_with fail
    go_ret
    exact ⟨rfl, HB.out⟩

/-! ### the row's step, and the row -/
theorem macNested_own : ownKnob Try.prog.godebug = none := by kernel_rfl
theorem macNested_laidOut : laidOutB Try.prog = true := by kernel_rfl

set_option linter.unusedVariables false in
set_option maxRecDepth 100000 in
theorem macNested_lifted (os : Os) (started : os.Started) (H : Type) (enc : TypeId × Value → H) :
    ReturnsInHanded {} Try.checked os 9 .any (Rows.macNestedSpec.pre6 enc Try.prog Try.f9 Rows.macNestedRow.domain false) (Rows.macNestedSpec.post enc Try.prog Try.f9 false true false false) := by
  refine returnsInHanded_of_change (C := Try.checked) macNested_own started (by kernel_rfl) Try.func9
    (ChangeSpec.witness6 (enc := enc) (C := Try.checked) false ⟨#[], #[.slice none 0 0, .slice none 0 0], []⟩ 8 (by kernel_rfl) (by kernel_rfl) (by kernel_rfl) (by kernel_rfl)) ?_
  intro W base args ds gs before hval0 hW hcnd _
  have hval : ∀ (j : Nat) t v, Try.f9.params[j]? = some t → args[j]? = some v → Value.okWide Try.prog W .any base t v := hval0
  have hW' := hW
  obtain ⟨p, q, hA0, hV, rfl, hfz, hnd⟩ := hW
  have hA : DataW.TrodAll enc Try.prog W 0 (fun _ => true) true Try.f9.params.toList args.toList ds p := hA0
  rw [Try.params9] at hA hval
  obtain ⟨v0, vs0, d0, ds0, p0, q0, hargs, rfl, rfl, h0, r0⟩ := trodAll_cons hA
  obtain ⟨v1, vs1, d1, ds1, p1, q1, rfl, rfl, rfl, h1, r1⟩ := trodAll_cons r0
  obtain ⟨rfl, rfl, rfl⟩ := trodAll_nil r1
  obtain rfl : args = #[v0, v1] := by cases args; simp_all
  obtain ⟨rfl, rfl⟩ := trodVars_none hV
  have k0 := h0
  have lt0 : ∀ x ∈ p0, x.block < W.heap.size := by obtain ⟨m, hm⟩ := k0; exact DataW.trod_lt m _ _ _ hm
  obtain ⟨a0, len0, cap0, rfl⟩ := okWide_slice Try.underlying22 (hval 0 22 v0 rfl rfl)
  obtain ⟨z0, w0⟩ := row_of (k := .u8) Try.underlying22 Try.underlying5 (by kernel_rfl) h0
  have k1 := h1
  have lt1 : ∀ x ∈ p1, x.block < W.heap.size := by obtain ⟨m, hm⟩ := k1; exact DataW.trod_lt m _ _ _ hm
  obtain ⟨a1, len1, cap1, rfl⟩ := okWide_slice Try.underlying22 (hval 1 22 v1 rfl rfl)
  obtain ⟨z1, w1⟩ := row_of (k := .u8) Try.underlying22 Try.underlying5 (by kernel_rfl) h1
  clear hA0 hval0
  refine (macNested_walk W a0 len0 cap0 z0 w0 a1 len1 cap1 z1 w1).mono fun e W' ⟨he, bel⟩ => ?_
  subst he
  exact ⟨_, rfl, _, _, _, [], _, [], hW', trodAll_mk1 (shut_bool Try.underlying4 _), (trodAll_cons_mk (Below.trod macNested_laidOut (by kernel_rfl) (of_decide_eq_true (by kernel_rfl)) k0 bel lt0) (trodAll_cons_mk (Below.trod macNested_laidOut (by kernel_rfl) (of_decide_eq_true (by kernel_rfl)) k1 bel lt1) trodAll_mk0)), rfl, bel.frame _, fun h => by cases h⟩

theorem macNested_over : Rows.macNestedRow.holds Try.pinned (OpenSpec.ofChange Rows.macNestedSpec) :=
  OpenClaim.holds_of_wide 9 Try.f9 rfl rfl rfl rfl rfl rfl rfl ⟨rfl, rfl, rfl, rfl, rfl⟩ rfl rfl rfl rfl rfl (by kernel_rfl) Try.func9 (by kernel_rfl)
    (of_decide_eq_true (by kernel_rfl)) (by unfold Func.isWrapper; first | (rw [if_pos (by decide +kernel)]; kernel_rfl) | (rw [if_neg (by decide +kernel)]; exact ⟨rfl, rfl⟩))
    (fun os started H enc _ => macNested_lifted os started H enc)

/-- THE STATEMENT. -/
theorem macNested_proved : Rows.MacNestedSaid := macNested_over
#print axioms macNested_proved
end Go.Proofs.Ytanjhalhpllcaaa
