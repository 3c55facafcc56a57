/-
  THE WALK of the document's Sum (layer 2).
-/
import Derived.Test.YthlkmofemnepbaaRows
import Derived.Test.YthlkmofemnepbaaDigestRBlock
namespace Go.Proofs.Ythlkmofemnepbaa
open Go.RowKit

/-- A whole array is read, as one step of a region that draws its order. -/
theorem step_load_blk {P : Program} {ops : Array Oper} {o : Oper} {a : Act} {w : World} {K : Act → World → Prop} {Q : Exit → Act → World → Prop} {E : Prop} (hgd : o.guard = none) (ty : TypeId) (x : Operand) (ho : o.op = .load ty x)
    (b : Nat) (T : TypeId) (c : Array Value) (d : TypeDesc) (hx : a.eval x = .pointer (some ⟨b, 0, none⟩)) (hB : Blk w b T c) (hu : P.underlying ty = some d) (hd : (match d with | .struct _ | .array _ _ => true | _ => false) = true) (hi : (P.info? ty).map (·.size) = some c.size)
    (h : K (a.put o.dst (.agg c)) w) : if Region.wanted o (yielded ops a.tmps) = true then Oper.wp P o a w K Q else E := by
  rw [if_pos (by simp [Region.wanted, hgd])]
  exact wp_load_row ty x ho b hx T c (0, 0) d hB hu hd hi h

/-- .. is stored. -/
theorem step_store_blk {P : Program} {ops : Array Oper} {o : Oper} {a : Act} {w : World} {K : Act → World → Prop} {Q : Exit → Act → World → Prop} {E : Prop} (hgd : o.guard = none) (ty : TypeId) (x y : Operand) (ho : o.op = .store ty x y)
    (b : Nat) (T : TypeId) (c c' : Array Value) (hx : a.eval x = .pointer (some ⟨b, 0, none⟩)) (hy : a.eval y = .agg c') (hB : Blk w b T c) (hi : (P.info? ty).map (·.size) = some c'.size) (hs : c.size = c'.size) (h1 : c'.all (·.oneCell') = true)
    (h : ∀ w', Blk w' b T c' → Touch (fun k => k = b) w w' → w'.heap.size = w.heap.size → K (a.put o.dst undef) w') : if Region.wanted o (yielded ops a.tmps) = true then Oper.wp P o a w K Q else E := by
  rw [if_pos (by simp [Region.wanted, hgd])]
  exact wp_store_blk ty x y ho b T c c' hx hy hB hi hs h1 h

theorem u32s_size (l : List Nat) : (u32s l).toArray.size = l.length := by simp [u32s]
theorem u32s_one (l : List Nat) : (u32s l).toArray.all (·.oneCell') = true := by
  rw [Array.all_eq_true]
  intro k hk
  simp [u32s, Value.oneCell']
theorem padded_lt (b : List Nat) (h : ∀ y ∈ b, y < 256) : ∀ y ∈ padded b, y < 256 := by
  intro y hy
  unfold padded at hy
  rcases List.mem_append.1 hy with h1 | h1
  · exact h y h1
  · rcases List.mem_cons.1 h1 with rfl | h1
    · omega
    · rcases List.mem_append.1 h1 with h1 | h1
      · rw [List.eq_of_mem_replicate h1]; omega
      · unfold lenBytes at h1
        rw [List.mem_map] at h1
        obtain ⟨i, _, rfl⟩ := h1
        exact Nat.mod_lt _ (by decide)

set_option maxRecDepth 100000 in
set_option maxHeartbeats 4000000 in
theorem refSum_any (a : Option Addr) (cap : Nat) (b : List Nat) (w : World) (hs : SlAt w a (bn b)) (hc : a = none → cap = 0) (hr : ∀ y ∈ b, y < 256) (hn : b.length ≤ 1000000) :
    Calls Try.prog 80 #[.slice a b.length cap] w fun e w' => e = .returned (.agg (bn (sha b)).toArray) ∧ Touch (fun _ => False) w w' := by
  have HH := Lib.hid (And.intro hs (And.intro hc hr))
  clear hs hc hr
  go_enter Try.func80, Try.ntmps80
  go_wp2_with (refine wpList_store_blk rfl 92 (.tmp 3) (.tmp 8) rfl (w.heap.size + 1) 92 _ (u32s shaH0).toArray rfl rfl (Blk.new1 _ _ _ _) (by kernel_rfl) (by kernel_rfl) (by kernel_rfl) ?_; intro w1 hB1 ht1 hs1)
  have hT1 : Touch (fun _ => False) w w1 := Touch.then (((Touch.refl _ _).alloc _).alloc _) ht1 (fun i hi e => by omega)
  have hO1 : Blk w1 w.heap.size 73 (bn (List.replicate 32 0)).toArray := ((Blk.new w _ _).alloc _).touch ht1 (fun e => by omega)
  have hz1 : w1.heap.size = w.heap.size + 2 := by simpa using hs1
  have H1 := Lib.hid (And.intro hB1 (And.intro hT1 (And.intro hO1 hz1)))
  clear hB1 ht1 hs1 hT1 hO1 hz1
  (with_reducible refine (padded_any a cap b w1 (HH.out.1.touch H1.out.2.1 (fun _ _ _ h => h)) HH.out.2.1 hn).mono ?_)
  rintro e w2 ⟨v2, rfl, ho2, hb2⟩
  rw [bn_len] at ho2
  have hmod := padded_mod b
  obtain ⟨nb, hnb⟩ : ∃ nb, (padded b).length = 64 * nb := ⟨(padded b).length / 64, by omega⟩
  have hnl : nb ≤ 40000 := by have := padded_len b; have : padZeros b.length < 64 := by unfold padZeros; omega
                              omega
  have hn1 : 0 < nb := by have := padded_len b; omega
  rw [hnb] at ho2
  obtain ⟨g, cg, rfl, hgb, hcg, hcm⟩ := owns_some ho2 (by omega)
  obtain ⟨P, hP⟩ : ∃ P, P = padded b := ⟨_, rfl⟩
  rw [← hP] at hnb ho2
  have hrP : ∀ y ∈ P, y < 256 := by rw [hP]; exact padded_lt b HH.out.2.2
  have hsl := SlAt.of_owns ho2
  obtain ⟨sb, hsb⟩ : ∃ sb, sb = w.heap.size + 1 := ⟨_, rfl⟩
  have hgne : g ≠ sb := by have := H1.out.2.2.2; omega
  have ht2 : Touch (fun _ => False) w1 w2 := Touch.of_below hb2
  have hBs2 : Blk w2 sb 92 (u32s shaH0).toArray := by rw [hsb]; exact H1.out.1.touch ht2 (fun h => h)
  have H2 := Lib.hid (And.intro hP (And.intro hnb (And.intro hrP (And.intro hsl (And.intro hgne (And.intro hBs2 (And.intro (H1.out.2.2.1.touch ht2 (fun h => h)) (And.intro (H1.out.2.1.trans ht2) hsb))))))))
  rw [← hsb]
  have hcgI : 64 * (nb : Int) ≤ cg := by omega
  clear hP hnb hrP hsl hgne ht2 hBs2 ho2 hb2 hmod hsb
  go_wp2_with fail
  go_loopw [5] (fun c wz => ∃ (j : Nat) (st : List Nat), j ≤ nb ∧ c = .int .i64 ((64 * j : Nat) : Int) ∧ st.length = 8 ∧ (∀ x ∈ st, x < 4294967296) ∧ shaBlocks (nb - j) st (P.drop (64 * j)) = shaBlocks nb shaH0 P ∧ Blk wz sb 92 (u32s st).toArray ∧ Touch (fun k => k = sb) w2 wz) (fun c _ => (64 * nb - intOf c).toNat)
  case atStart => exact ⟨0, shaH0, Nat.zero_le _, rfl, rfl, by decide, rfl, H2.out.2.2.2.2.2.1, Touch.refl _ _⟩
  case round =>
    obtain ⟨j, st, hj, rfl, hst, hstr, hsb, hB, ht⟩ := hrel
    by_cases hqj : j = nb
    · subst hqj
      have hD : st.flatMap wordBytes = sha b := by
        unfold sha
        rw [← H2.out.1, show P.length / 64 = j by rw [H2.out.2.1]; omega, ← hsb]
        simp [shaBlocks]
      have hO : Blk wr w.heap.size 73 (bn (List.replicate 32 0)).toArray := H2.out.2.2.2.2.2.2.1.touch ht (fun e => by have := H2.out.2.2.2.2.2.2.2.2; omega)
      have ht0 : Touch (fun _ => False) w wr := Touch.then H2.out.2.2.2.2.2.2.2.1 ht (fun i hi e => by have := H2.out.2.2.2.2.2.2.2.2; omega)
      have hsblt := hB.lt
      have hwlt := hO.lt
      have HQ := Lib.hid (And.intro hst (And.intro hstr (And.intro hD (And.intro hB (And.intro hO ht0)))))
      clear hst hstr hsb hB ht hD hO ht0
      go_wp2_with fail
      obtain ⟨w8, rfl⟩ : ∃ w8, w8 = wr := ⟨wr, rfl⟩
      go_loopw [7] (fun s wz => ∃ (i : Nat) (ys : List Nat), i ≤ 32 ∧ s = .int .i64 i ∧ ys.length = 32 ∧ (∀ l, l < i → ys[l]? = (st.flatMap wordBytes)[l]?) ∧ Blk wz w8.heap.size 73 (bn ys).toArray ∧ Blk wz sb 92 (u32s st).toArray ∧ Touch (fun _ => False) w8 wz) (fun s _ => (32 - intOf s).toNat)
      case atStart => exact ⟨0, List.replicate 32 0, Nat.zero_le _, rfl, by simp, fun l hl => absurd hl (Nat.not_lt_zero _), Blk.new _ _ _, HQ.out.2.2.2.1.alloc _, (Touch.refl _ _).alloc _⟩
      case round =>
        obtain ⟨i, ys, hi32, rfl, hyl, hy1, hB, hBs, ht⟩ := hrel
        by_cases hq32 : i = 32
        · subst hq32
          have hy : ys = sha b := by
            rw [← HQ.out.2.2.1]
            refine List.ext_getElem? fun l => ?_
            by_cases hl : l < 32
            · exact hy1 l hl
            · rw [List.getElem?_eq_none (by omega), List.getElem?_eq_none (by rw [flatMap_word_len, HQ.out.1]; omega)]
          have hz : (bn ys).toArray.size = 32 := by simp [bn_len, hyl]
          have h1 : (bn ys).toArray.all (·.oneCell') = true := by
            rw [Array.all_eq_true]
            intro k hk
            exact bn_one ys _ (by simp)
          have HE := Lib.hid (And.intro hy (And.intro hB (And.intro ht (And.intro hz (And.intro h1 (HQ.out.2.2.2.2.1.touch ht (fun h => h)))))))
          clear hyl hy1 hB hBs ht hz h1 hy
          go_wp2_with (first
            | (refine wpList_load_blk rfl 73 (.tmp 6) rfl w8.heap.size 73 (bn ys).toArray _ rfl (HE.out.2.1) Try.underlying73 rfl (by rw [HE.out.2.2.2.1]; first | done | kernel_rfl) ?_)
            | (refine wpList_store_blk rfl 73 (.tmp 2) (.tmp 40) rfl w.heap.size 73 _ (bn ys).toArray rfl rfl (HE.out.2.2.2.2.2) (by rw [HE.out.2.2.2.1]; first | done | kernel_rfl) (by rw [HE.out.2.2.2.1]; first | done | kernel_rfl) HE.out.2.2.2.2.1 ?_; intro w11 hB11 ht11 hs11))
          refine bodyPost_ret (results_cell_row rfl _ _ w.heap.size 73 (bn ys).toArray (0, 0) _ rfl hB11 Try.underlying73 rfl (by rw [HE.out.2.2.2.1]; first | done | kernel_rfl)) rfl ⟨by rw [HE.out.1], ?_⟩
          exact Touch.then (HQ.out.2.2.2.2.2.trans HE.out.2.2.1) ht11 (fun i hi e => by omega)
        · have hil : i < 32 := by omega
          obtain ⟨q, hq⟩ : ∃ q, q = i / 4 := ⟨_, rfl⟩
          obtain ⟨r, hr⟩ : ∃ r, r = i % 4 := ⟨_, rfl⟩
          have hr4 : r < 4 := by omega
          have hq8 : q < 8 := by omega
          have hqI : (q : Int) < 8 := by omega
          have kq : (i : Int) / 4 = (q : Int) := by omega
          have kr : (i : Int) % 4 = (r : Int) := by omega
          obtain ⟨x, hx⟩ : ∃ x, st[q]? = some x := ⟨_, List.getElem?_eq_getElem (by have := HQ.out.1; omega)⟩
          have hxl := HQ.out.2.1 x (List.mem_of_getElem? hx)
          have cq := hBs.cell q (u32s_at st hx)
          have fi := hB.frozen i
          obtain ⟨yi, hyi⟩ : ∃ yi, ys[i]? = some yi := ⟨_, List.getElem?_eq_getElem (by omega)⟩
          have ci := hB.cell i (v := .int .u8 (yi : Int)) (by simp [bn, bys, natsD, hyi])
          have hD := flatMap_word st q r x hr4 hx
          have e4 : 4 * q + r = i := by omega
          rw [e4] at hD
          obtain ⟨N, hN⟩ : ∃ N, N = x / 2 ^ (24 - 8 * r) % 256 := ⟨_, rfl⟩
          rw [← hN] at hD
          have HK := Lib.hid (And.intro hyl (And.intro hy1 (And.intro hB (And.intro hBs (And.intro ht (And.intro hD (And.intro hq hN)))))))
          clear hN hyl hy1 hB hBs ht hD hq hx e4 hyi hr
          obtain rfl | rfl | rfl | rfl : r = 0 ∨ r = 1 ∨ r = 2 ∨ r = 3 := by omega
          all_goals
            go_wp2_with fail
            go_roundw
            case rel =>
              obtain ⟨hyl, hy1, hB, hBs, ht, hD, hq, hN⟩ := HK.out
              simp only [Nat.reduceMul, Nat.reduceSub, Nat.reducePow, Nat.div_one] at hN
              refine ⟨i + 1, ys.set i N, by omega, by first | rfl | (congr 1; omega), by simp [hyl], ?_, hB.set_bn i _ N (by omega), hBs.set_ne (a := ⟨w8.heap.size, i, none⟩) (by simp; omega) _, Touch.setCell ht (p := ⟨w8.heap.size, i, none⟩) (fun h => absurd h (Nat.lt_irrefl _)) _⟩
              intro l hl
              by_cases e : i = l
              · subst e
                rw [List.getElem?_set_self (by omega), hD]
              · rw [List.getElem?_set_ne e]
                exact hy1 l (by omega)
            case measure => simp [intOf]; omega
    · have hjn : j < nb := by omega
      obtain ⟨J, hJ⟩ : ∃ J, J = 64 * j := ⟨_, rfl⟩
      rw [← hJ]
      have hJb : J + 64 ≤ 64 * nb := by omega
      have hJI : (J : Int) < 64 * (nb : Int) := by omega
      have kw : IntKind.i64.wrap ((J : Int) + 64) = (J : Int) + 64 := by simp [IntKind.wrap, IntKind.bits, IntKind.signed]; split <;> omega
      have kb1 : (0 : Int) ≤ (J : Int) + 64 := by omega
      have kb2 : (J : Int) ≤ (J : Int) + 64 := by omega
      have kb3 : (J : Int) + 64 ≤ cg := by omega
      have kn : ((J : Int) + 64).toNat = J + 64 := by omega
      have kn3 : J + 64 - J = 64 := by omega
      have kc : ¬ cg = J := by omega
      have HR := Lib.hid (And.intro hst (And.intro hstr (And.intro hsb (And.intro hB (And.intro ht (And.intro hJ (And.intro (show (u32s st).toArray.size = 8 by rw [u32s_size, hst]) (And.intro (show (u32s (shaBlock st ((P.drop (64 * j)).take 64))).toArray.size = 8 by rw [u32s_size, shaBlock_len _ _ hst]) (u32s_one (shaBlock st ((P.drop (64 * j)).take 64))))))))))) 
      have hslw : SlAt wr (some ⟨g, J, none⟩) (bn ((P.drop (64 * j)).take 64)) := by
        have h := ((H2.out.2.2.2.1.touch ht (fun x hx _ => by cases hx; exact H2.out.2.2.2.2.1)).drop J).take 64
        have e : ((bn P).drop J).take 64 = bn ((P.drop (64 * j)).take 64) := by rw [← hJ]; simp [bn, bys, natsD]
        rw [e, Nat.zero_add] at h
        exact h
      have hlen : ((P.drop (64 * j)).take 64).length = 64 := by rw [List.length_take, List.length_drop, H2.out.2.1]; omega
      have HJ := Lib.hid (And.intro hlen (And.intro (show ∀ y ∈ (P.drop (64 * j)).take 64, y < 256 from fun y hy => H2.out.2.2.1 y (List.mem_of_mem_drop (List.mem_of_mem_take hy))) hslw))
      clear hst hstr hsb hB ht hJ hslw hlen
      go_wp2_with fail
      refine wp_region_held_drew (S := fun _ => True) (by kernel_rfl) (trivial) (fun hHeld => ?_)
      refine region_take 1 (v := ?vq1_1) rfl rfl (by kernel_rfl) (by kernel_rfl) (by kernel_rfl) (fun _ _ _ h => h) hHeld (Or.inl ⟨by rfl, ?yq1_1⟩) ?rq1_1
      case yq1_1 => (intro w hSw; (try dsimp only at hSw); go_simp; try with_reducible rfl)
      try simp only [Act.put, List.setIfInBounds_toArray, List.set_cons_zero, List.set_cons_succ]
      refine region_take 2 (v := ?vq2_2) rfl rfl (by kernel_rfl) (by kernel_rfl) (by kernel_rfl) (fun _ _ _ h => h) hHeld (Or.inl ⟨by rfl, ?yq2_2⟩) ?rq2_2
      case yq2_2 => (intro w hSw; (try dsimp only at hSw); go_simp; try with_reducible rfl)
      try simp only [Act.put, List.setIfInBounds_toArray, List.set_cons_zero, List.set_cons_succ]
      refine region_take 3 (v := ?vq3_3) rfl rfl (by kernel_rfl) (by kernel_rfl) (by kernel_rfl) (fun _ _ _ h => h) hHeld (Or.inl ⟨by rfl, ?yq3_3⟩) ?rq3_3
      case yq3_3 => (intro w hSw; (try dsimp only at hSw); go_simp; try with_reducible rfl)
      try simp only [Act.put, List.setIfInBounds_toArray, List.set_cons_zero, List.set_cons_succ]
      refine region_take 4 (v := ?vq4_4) rfl rfl (by kernel_rfl) (by kernel_rfl) (by kernel_rfl) (fun _ _ _ h => h) hHeld (Or.inl ⟨by rfl, ?yq4_4⟩) ?rq4_4
      case yq4_4 => (intro w hSw; (try dsimp only at hSw); go_simp; try with_reducible rfl)
      try simp only [Act.put, List.setIfInBounds_toArray, List.set_cons_zero, List.set_cons_succ]
      refine region_take 5 (v := ?vq5_5) rfl rfl (by kernel_rfl) (by kernel_rfl) (by kernel_rfl) (fun _ _ _ h => h) hHeld (Or.inl ⟨by rfl, ?yq5_5⟩) ?rq5_5
      case yq5_5 => (intro w hSw; (try dsimp only at hSw); go_simp; try with_reducible rfl)
      try simp only [Act.put, List.setIfInBounds_toArray, List.set_cons_zero, List.set_cons_succ]
      refine region_one 0 (by kernel_rfl) rfl (fun K hK => ?_)
      refine step_load_blk rfl 92 (.tmp 3) rfl sb 92 (u32s st).toArray _ rfl HR.out.2.2.2.1.drew Try.underlying92 rfl (by rw [HR.out.2.2.2.2.2.2.1]; first | done | kernel_rfl) ?_
      refine hK.out _ _ (trivial) (fun hHeld2 => ?_)
      clear hK K hHeld
      have hHeld := hHeld2
      clear hHeld2
      try simp only [Act.put, List.setIfInBounds_toArray, List.set_cons_zero, List.set_cons_succ]
      refine region_one 6 (by kernel_rfl) rfl (fun K hK => ?_)
      go_simp
      go_at_call 85
      (with_reducible refine (rblock_any st _ _ ((P.drop (64 * j)).take 64) _ HR.out.1 HR.out.2.1 HJ.out.1 HJ.out.2.1 (HJ.out.2.2.touch (S := fun _ => False) ((Touch.refl _ wr).drew) (fun _ _ _ h => h))).mono ?_)
      rintro e w6 ⟨rfl, hb6⟩
      have H6 := Lib.hid (((Touch.refl (fun _ => False) wr).drew).trans hb6)
      clear hb6
      refine hK.out _ _ (trivial) (fun hHeld2 => ?_)
      clear hK K hHeld
      have hHeld := hHeld2
      clear hHeld2
      try simp only [Act.put, List.setIfInBounds_toArray, List.set_cons_zero, List.set_cons_succ]
      refine region_one 7 (by kernel_rfl) rfl (fun K hK => ?_)
      refine step_store_blk rfl 92 (.tmp 3) (.tmp 23) rfl sb 92 _ (u32s (shaBlock st ((P.drop (64 * j)).take 64))).toArray rfl rfl (HR.out.2.2.2.1.touch (S := fun _ => False) H6.out (fun h => h)) (by rw [HR.out.2.2.2.2.2.2.2.1]; first | done | kernel_rfl) (by rw [HR.out.2.2.2.2.2.2.1, HR.out.2.2.2.2.2.2.2.1]; first | done | kernel_rfl) HR.out.2.2.2.2.2.2.2.2 ?_
      intro w7 hB7 ht7 hs7
      have H7 := Lib.hid (And.intro hB7 ht7)
      clear hB7 ht7 hs7
      refine hK.out _ _ (trivial) (fun hHeld2 => ?_)
      clear hK K hHeld
      have hHeld := hHeld2
      clear hHeld2
      try simp only [Act.put]
      refine wpAnyH_done (by kernel_rfl) ?_ _
      go_wp2_with fail
      go_roundw
      case rel =>
        obtain ⟨hst, hstr, hsb, hB, ht, hJ, -, -, -⟩ := HR.out
        refine ⟨j + 1, shaBlock st ((P.drop (64 * j)).take 64), by omega, by rw [hJ]; first | rfl | (congr 1; omega), shaBlock_len _ _ hst, shaBlock_lt _ _, ?_, H7.out.1, (ht.trans (H6.out.mono (fun _ _ h => h.elim))).trans H7.out.2⟩
        rw [← hsb, show nb - j = (nb - (j + 1)) + 1 by omega]
        simp only [shaBlocks]
        rw [List.drop_drop]
        congr 1
      case measure => simp [intOf]; omega
end Go.Proofs.Ythlkmofemnepbaa
