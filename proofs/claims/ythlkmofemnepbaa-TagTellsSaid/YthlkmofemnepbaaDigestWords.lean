/-
  THE WALK of the document's words (layer 2).
-/
import Derived.Test.YthlkmofemnepbaaRows
import Derived.Test.YthlkmofemnepbaaDigestRef
import Derived.Test.YthlkmofemnepbaaRegionTwo
namespace Go.Proofs.Ythlkmofemnepbaa
open Go.RowKit

theorem turn_int (x : Nat) (n : Int) (k : Nat) (hn : n = k) (hx : x < 4294967296) (h1 : 1 ≤ k) (h2 : k ≤ 31) (w : World) : Calls Try.prog 92 #[.int .u32 x, .int .i64 n] w fun e w' => e = .returned (.int .u32 (rotr x k)) ∧ Touch (fun _ => False) w w' := by
  subst hn
  exact turn_any x k hx h1 h2 w

theorem u32s_snoc (ws : List Nat) (x : Nat) : u32s (ws ++ [x]) = u32s ws ++ [.int .u32 (x : Int)] := by simp [u32s]

theorem wrap_small (y k : Nat) (hy : y < 256) (hk : y * k < 4294967296) : IntKind.u32.wrap (IntKind.u32.wrap (y : Int) * (k : Int)) = ((y * k : Nat) : Int) := by
  have e : IntKind.u32.wrap (y : Int) = (y : Int) := by simp [IntKind.wrap, IntKind.bits, IntKind.signed]; omega
  rw [e]
  have e2 : (y : Int) * (k : Int) = ((y * k : Nat) : Int) := by simp
  rw [e2]
  simp only [IntKind.wrap, IntKind.bits, IntKind.signed]
  simp
  omega

theorem word4_or (y0 y1 y2 y3 : Nat) (l0 : y0 < 256) (l1 : y1 < 256) (l2 : y2 < 256) (l3 : y3 < 256) :
    bits .or .u32 (bits .or .u32 (bits .or .u32 (IntKind.u32.wrap (IntKind.u32.wrap (y0 : Int) * 16777216)) (IntKind.u32.wrap (IntKind.u32.wrap (y1 : Int) * 65536))) (IntKind.u32.wrap (IntKind.u32.wrap (y2 : Int) * 256))) (IntKind.u32.wrap (y3 : Int)) = ((word4 y0 y1 y2 y3 : Nat) : Int) := by
  have e0 := wrap_small y0 16777216 l0 (by omega)
  have e1 := wrap_small y1 65536 l1 (by omega)
  have e2 := wrap_small y2 256 l2 (by omega)
  have e3 : IntKind.u32.wrap (y3 : Int) = (y3 : Int) := by simp [IntKind.wrap, IntKind.bits, IntKind.signed]; omega
  have n1 : y0 * 16777216 ||| y1 * 65536 = y0 * 16777216 + y1 * 65536 := by
    have := Nat.two_pow_add_eq_or_of_lt (i := 24) (b := y1 * 65536) (by omega) y0
    rw [Nat.mul_comm] at this; exact this.symm
  have n2 : (y0 * 16777216 + y1 * 65536) ||| y2 * 256 = y0 * 16777216 + y1 * 65536 + y2 * 256 := by
    have := Nat.two_pow_add_eq_or_of_lt (i := 16) (b := y2 * 256) (by omega) (y0 * 256 + y1)
    have ee : 2 ^ 16 * (y0 * 256 + y1) = y0 * 16777216 + y1 * 65536 := by omega
    rw [ee] at this; exact this.symm
  have n3 : (y0 * 16777216 + y1 * 65536 + y2 * 256) ||| y3 = y0 * 16777216 + y1 * 65536 + y2 * 256 + y3 := by
    have := Nat.two_pow_add_eq_or_of_lt (i := 8) (b := y3) (by omega) (y0 * 65536 + y1 * 256 + y2)
    have ee : 2 ^ 8 * (y0 * 65536 + y1 * 256 + y2) = y0 * 16777216 + y1 * 65536 + y2 * 256 := by omega
    rw [ee] at this; exact this.symm
  simp only [Int.cast_ofNat_Int] at e0 e1 e2
  rw [e0, e1, e2, e3, or_u32 _ _ (by omega) (by omega), n1, or_u32 _ _ (by omega) (by omega), n2, or_u32 _ _ (by omega) (by omega), n3]
  unfold word4
  omega

set_option maxRecDepth 100000 in
set_option maxHeartbeats 4000000 in
theorem words_any (a : Option Addr) (cap : Nat) (bs : List Nat) (w : World) (hl : bs.length = 64) (hr : ∀ y ∈ bs, y < 256) (hs : SlAt w a (bn bs)) :
    Calls Try.prog 91 #[.slice a 64 cap] w (Made 91 (u32s (schedule bs)) w) := by
  obtain ⟨i0, hi, hz0, hz1, hz2⟩ := info_parts Try.info91
  have HH := Lib.hid (And.intro hl (And.intro hr hs))
  clear hl hr hs
  go_enter Try.func91, Try.ntmps91
  go_wp2_with fail
  go_loopw [3, 4] (fun s c wz => ∃ i : Nat, i ≤ 16 ∧ c = .int .i64 i ∧ wz.ownsRow w.heap.size 91 1 s i (u32s ((words16 16 bs).take i)) ∧ Below w.heap.size w wz) (fun _ c _ => (16 - intOf c).toNat)
  case atStart => exact ⟨0, Nat.zero_le _, rfl, World.ownsRow_nil w _ _ _, Below.refl _ _⟩
  case round =>
    obtain ⟨i, hi16, rfl, ho, hb⟩ := hrel
    by_cases hq : i = 16
    · subst hq
      have hwl := (words16_spec 16 bs HH.out.1).1
      have hwt : (words16 16 bs).take 16 = words16 16 bs := List.take_of_length_le (by omega)
      rw [hwt] at ho
      have HO := Lib.hid (And.intro ho (And.intro hb hwl))
      clear ho hb hwl hwt
      go_wp2_with fail
      go_loopw [3, 5] (fun s c wz => ∃ i : Nat, 16 ≤ i ∧ i ≤ 64 ∧ c = .int .i64 i ∧ wz.ownsRow w.heap.size 91 1 s i (u32s (growW (i - 16) (words16 16 bs))) ∧ Below w.heap.size w wz) (fun _ c _ => (64 - intOf c).toNat)
      case atStart => exact ⟨16, Nat.le_refl _, by decide, rfl, HO.out.1, HO.out.2.1⟩
      case round =>
        obtain ⟨i, hi1, hi2, rfl, ho, hb⟩ := hrel
        by_cases hq6 : i = 64
        · subst hq6
          have HE := Lib.hid (And.intro ho hb)
          clear ho hb
          go_wp2_with fail
          go_ret
          refine ⟨_, rfl, ?_, HE.out.2⟩
          have h := HE.out.1
          have e : growW (64 - 16) (words16 16 bs) = schedule bs := (schedule_grow bs).symm
          rw [e] at h
          have e2 : (u32s (schedule bs)).length = 64 := by simp [u32s, schedule_len bs HH.out.1]
          rw [e2]
          exact h
        · have hil : i < 64 := by omega
          have hiI : (i : Int) < 64 := by omega
          obtain ⟨ws, hws⟩ : ∃ ws, ws = growW (i - 16) (words16 16 bs) := ⟨_, rfl⟩
          rw [← hws] at ho
          have hwl : ws.length = i := by rw [hws, growW_len]; have := HO.out.2.2; omega
          have hwr : ∀ x ∈ ws, x < 4294967296 := by rw [hws]; exact growW_lt _ _ (words16_lt 16 bs HH.out.2.1)
          have getw : ∀ j, j < i → ∃ x, ws[j]? = some x ∧ x < 4294967296 := fun j hj => ⟨ws[j]'(by omega), List.getElem?_eq_getElem (by omega), hwr _ (List.getElem_mem _)⟩
          obtain ⟨x15, e15, l15⟩ := getw (i - 15) (by omega)
          obtain ⟨x2, e2, l2⟩ := getw (i - 2) (by omega)
          obtain ⟨x16, e16, l16⟩ := getw (i - 16) (by omega)
          obtain ⟨x7, e7, l7⟩ := getw (i - 7) (by omega)
          obtain ⟨g, cg, rfl, hgb, hcg1, hcg2⟩ := owns_some ho (by omega)
          have hsl := SlAt.of_owns ho
          have cell : ∀ W, Touch (fun _ => False) wr W → ∀ (j x : Nat), ws[j]? = some x → W.cell? ⟨g, j, none⟩ = some (.int .u32 (x : Int)) := fun W hW j x h => by
            have := (hsl.touch hW (fun _ _ _ h => h) j (.int .u32 (x : Int)) (by simp [u32s, h])).2
            simpa using this
          have kw15 : IntKind.i64.wrap ((i : Int) - 15) = ((i - 15 : Nat) : Int) := by simp [IntKind.wrap, IntKind.bits, IntKind.signed]; split <;> omega
          have kw2 : IntKind.i64.wrap ((i : Int) - 2) = ((i - 2 : Nat) : Int) := by simp [IntKind.wrap, IntKind.bits, IntKind.signed]; split <;> omega
          have kw16 : IntKind.i64.wrap ((i : Int) - 16) = ((i - 16 : Nat) : Int) := by simp [IntKind.wrap, IntKind.bits, IntKind.signed]; split <;> omega
          have kw7 : IntKind.i64.wrap ((i : Int) - 7) = ((i - 7 : Nat) : Int) := by simp [IntKind.wrap, IntKind.bits, IntKind.signed]; split <;> omega
          have kn15 : (i : Int) - 15 = ((i - 15 : Nat) : Int) := by omega
          have kn2 : (i : Int) - 2 = ((i - 2 : Nat) : Int) := by omega
          have b15 : ((i - 15 : Nat) : Int) < i := by omega
          have b2 : ((i - 2 : Nat) : Int) < i := by omega
          have b16 : ((i - 16 : Nat) : Int) < i := by omega
          have b7 : ((i - 7 : Nat) : Int) < i := by omega
          have c15 := cell wr (Touch.refl _ _) _ _ e15
          have c2 := cell wr (Touch.refl _ _) _ _ e2
          have hC : ∀ W, Touch (fun _ => False) wr W → W.cell? ⟨g, i - 16, none⟩ = some (.int .u32 (x16 : Int)) ∧ W.cell? ⟨g, i - 7, none⟩ = some (.int .u32 (x7 : Int)) := fun W hW => ⟨cell W hW _ _ e16, cell W hW _ _ e7⟩
          obtain ⟨i15, h15⟩ : ∃ i15, i - 15 = i15 := ⟨_, rfl⟩
          obtain ⟨i2, h2⟩ : ∃ i2, i - 2 = i2 := ⟨_, rfl⟩
          obtain ⟨i16, h16⟩ : ∃ i16, i - 16 = i16 := ⟨_, rfl⟩
          obtain ⟨i7, h7⟩ : ∃ i7, i - 7 = i7 := ⟨_, rfl⟩
          rw [h15] at c15 kw15 b15 kn15
          rw [h2] at c2 kw2 b2 kn2
          rw [h16] at kw16 b16 hC
          rw [h7] at kw7 b7 hC
          have hnext : nextFwd ws = (x16 + x7 + sig0 x15 + sig1 x2) % M32 := by
            have gt : ∀ j x, ws[j]? = some x → ws.getD j 0 = x := fun j x h => by rw [List.getD_eq_getElem?_getD, h]; rfl
            rw [nextFwd_eq _ (by omega), hwl, gt (i - 16) x16 e16, gt (i - 7) x7 e7, gt (i - 15) x15 e15, gt (i - 2) x2 e2]
          have HC := Lib.hid hC
          have HQ := Lib.hid (And.intro hws (And.intro hwl (And.intro ho (And.intro hb (And.intro hnext h16)))))
          clear hC hws hwl hwr ho hb hnext e15 e2 e16 e7 h15 h2 h16 h7 getw hsl cell
          go_wp2_with fail
          (with_reducible refine (turn_int x15 7 7 rfl l15 (by decide) (by decide) _).mono ?_)
          rintro e u1 ⟨rfl, hb1⟩
          have t1 := Lib.hid hb1
          clear hb1
          go_wp2_with fail
          (with_reducible refine (turn_int x15 18 18 rfl l15 (by decide) (by decide) _).mono ?_)
          rintro e u2 ⟨rfl, hb2⟩
          have t2 := Lib.hid (t1.out.trans hb2)
          clear hb2
          go_wp2_with fail
          (with_reducible refine (turn_int x2 17 17 rfl l2 (by decide) (by decide) _).mono ?_)
          rintro e u3 ⟨rfl, hb3⟩
          have t3 := Lib.hid (t2.out.trans hb3)
          clear hb3
          go_wp2_with fail
          (with_reducible refine (turn_int x2 19 19 rfl l2 (by decide) (by decide) _).mono ?_)
          rintro e u4 ⟨rfl, hb4⟩
          have t4 := Lib.hid (t3.out.trans hb4)
          clear hb4
          go_wp2_with fail
          have e1 := sig_u32 x15 7 18 8 ((x15 : Int) / 8) l15 (by omega)
          have e2 := sig_u32 x2 17 19 1024 ((x2 : Int) / 1024) l2 (by omega)
          try rw [e1]
          try rw [e2]
          obtain ⟨s0, hs0⟩ : ∃ s0, s0 = rotr x15 7 ^^^ rotr x15 18 ^^^ x15 / 8 := ⟨_, rfl⟩
          obtain ⟨s1, hs1⟩ : ∃ s1, s1 = rotr x2 17 ^^^ rotr x2 19 ^^^ x2 / 1024 := ⟨_, rfl⟩
          rw [← hs0, ← hs1]
          have hv : IntKind.u32.wrap (IntKind.u32.wrap (IntKind.u32.wrap ((x16 : Int) + (s0 : Int)) + (x7 : Int)) + (s1 : Int)) = ((nextFwd ws : Nat) : Int) := by
            rw [wrap_u32, wrap_u32, wrap_u32, HQ.out.2.2.2.2.1, show sig0 x15 = s0 by rw [hs0]; unfold sig0; rw [show x15 >>> 3 = x15 / 8 from Nat.shiftRight_eq_div_pow _ _], show sig1 x2 = s1 by rw [hs1]; unfold sig1; rw [show x2 >>> 10 = x2 / 1024 from Nat.shiftRight_eq_div_pow _ _]]
            unfold M32
            omega
          have HV := Lib.hid hv
          have HO4 : Hid (u4.ownsRow w.heap.size 91 1 (.slice (some ⟨g, 0, none⟩) i cg) i (u32s ws)) := Lib.hid (owns_touch HQ.out.2.2.1 t4.out (fun _ _ h => h))
          have HS4 : Hid (w.heap.size ≤ u4.heap.size) := Lib.hid (Nat.le_trans HQ.out.2.2.2.1.size t4.out.size)
          have c16 := (HC.out u4 t4.out).1
          have c7 := (HC.out u4 t4.out).2
          clear e1 e2 hs0 hs1 hv
          refine wp_region_held_drew (S := fun _ => True) (by kernel_rfl) (trivial) (fun hHeld => ?_)
          refine region_take 0 (v := ?vq0_1) rfl rfl (by kernel_rfl) (by kernel_rfl) (by kernel_rfl) (fun _ _ _ h => h) hHeld (Or.inl ⟨by rfl, ?yq0_1⟩) ?rq0_1
          case yq0_1 => (intro w hSw; (try dsimp only at hSw); go_simp; try with_reducible rfl)
          try simp only [Act.put, List.setIfInBounds_toArray, List.set_cons_zero, List.set_cons_succ]
          refine region_take 1 (v := ?vq1_2) rfl rfl (by kernel_rfl) (by kernel_rfl) (by kernel_rfl) (fun _ _ _ h => h) hHeld (Or.inl ⟨by rfl, ?yq1_2⟩) ?rq1_2
          case yq1_2 => (intro w hSw; (try dsimp only at hSw); go_simp; try with_reducible rfl)
          try simp only [Act.put, List.setIfInBounds_toArray, List.set_cons_zero, List.set_cons_succ]
          refine region_take 2 (v := ?vq2_3) rfl rfl (by kernel_rfl) (by kernel_rfl) (by kernel_rfl) (fun _ _ _ h => h) hHeld (Or.inl ⟨by rfl, ?yq2_3⟩) ?rq2_3
          case yq2_3 => (intro w hSw; (try dsimp only at hSw); go_simp; try with_reducible rfl)
          try simp only [Act.put, List.setIfInBounds_toArray, List.set_cons_zero, List.set_cons_succ]
          refine region_take 3 (v := ?vq3_4) rfl rfl (by kernel_rfl) (by kernel_rfl) (by kernel_rfl) (fun _ _ _ h => h) hHeld (Or.inl ⟨by rfl, ?yq3_4⟩) ?rq3_4
          case yq3_4 => (intro w hSw; (try dsimp only at hSw); go_simp; try with_reducible rfl)
          try simp only [Act.put, List.setIfInBounds_toArray, List.set_cons_zero, List.set_cons_succ]
          refine region_take 4 (v := ?vq4_5) rfl rfl (by kernel_rfl) (by kernel_rfl) (by kernel_rfl) (fun _ _ _ h => h) hHeld (Or.inl ⟨by rfl, ?yq4_5⟩) ?rq4_5
          case yq4_5 => (intro w hSw; (try dsimp only at hSw); go_simp; try with_reducible rfl)
          try simp only [Act.put, List.setIfInBounds_toArray, List.set_cons_zero, List.set_cons_succ]
          refine region_take 6 (v := ?vq6_6) rfl rfl (by kernel_rfl) (by kernel_rfl) (by kernel_rfl) (fun _ _ _ h => h) hHeld (Or.inl ⟨by rfl, ?yq6_6⟩) ?rq6_6
          case yq6_6 => (intro w hSw; (try dsimp only at hSw); go_simp; try with_reducible rfl)
          try simp only [Act.put, List.setIfInBounds_toArray, List.set_cons_zero, List.set_cons_succ]
          refine region_take 8 (v := ?vq8_7) rfl rfl (by kernel_rfl) (by kernel_rfl) (by kernel_rfl) (fun _ _ _ h => h) hHeld (Or.inl ⟨by rfl, ?yq8_7⟩) ?rq8_7
          case yq8_7 => (intro w hSw; (try dsimp only at hSw); go_simp; try with_reducible rfl)
          try simp only [Act.put, List.setIfInBounds_toArray, List.set_cons_zero, List.set_cons_succ]
          refine region_take 9 (v := ?vq9_8) rfl rfl (by kernel_rfl) (by kernel_rfl) (by kernel_rfl) (fun _ _ _ h => h) hHeld (Or.inl ⟨by rfl, ?yq9_8⟩) ?rq9_8
          case yq9_8 => (intro w hSw; (try dsimp only at hSw); go_simp; try with_reducible rfl)
          try simp only [Act.put, List.setIfInBounds_toArray, List.set_cons_zero, List.set_cons_succ]
          refine region_take 10 (v := ?vq10_9) rfl rfl (by kernel_rfl) (by kernel_rfl) (by kernel_rfl) (fun _ _ _ h => h) hHeld (Or.inl ⟨by rfl, ?yq10_9⟩) ?rq10_9
          case yq10_9 => (intro w hSw; (try dsimp only at hSw); go_simp; try with_reducible rfl)
          try simp only [Act.put, List.setIfInBounds_toArray, List.set_cons_zero, List.set_cons_succ]
          refine region_take 11 (v := ?vq11_10) rfl rfl (by kernel_rfl) (by kernel_rfl) (by kernel_rfl) (fun _ _ _ h => h) hHeld (Or.inl ⟨by rfl, ?yq11_10⟩) ?rq11_10
          case yq11_10 => (intro w hSw; (try dsimp only at hSw); go_simp; try with_reducible rfl)
          try simp only [Act.put, List.setIfInBounds_toArray, List.set_cons_zero, List.set_cons_succ]
          refine region_take 14 (v := ?vq14_11) rfl rfl (by kernel_rfl) (by kernel_rfl) (by kernel_rfl) (fun _ _ _ h => h) hHeld (Or.inl ⟨by rfl, ?yq14_11⟩) ?rq14_11
          case yq14_11 => (intro w hSw; (try dsimp only at hSw); go_simp; try with_reducible rfl)
          try simp only [Act.put, List.setIfInBounds_toArray, List.set_cons_zero, List.set_cons_succ]
          refine region_two 5 12 (by kernel_rfl) rfl rfl (fun K hK => ?_) (fun K hK => ?_)
          · go_simp
            refine hK.out _ _ (trivial) (fun hHeld2 => ?_)
            clear hK K hHeld
            have hHeld := hHeld2
            clear hHeld2
            try simp only [Act.put, List.setIfInBounds_toArray, List.set_cons_zero, List.set_cons_succ]
            refine region_take 7 (v := ?vq7_12) rfl rfl (by kernel_rfl) (by kernel_rfl) (by kernel_rfl) (fun _ _ _ h => h) hHeld (Or.inl ⟨by rfl, ?yq7_12⟩) ?rq7_12
            case yq7_12 => (intro w hSw; (try dsimp only at hSw); go_simp; try with_reducible rfl)
            try simp only [Act.put, List.setIfInBounds_toArray, List.set_cons_zero, List.set_cons_succ]
            refine region_one 12 (by kernel_rfl) rfl (fun K hK => ?_)
            go_simp
            refine hK.out _ _ (trivial) (fun hHeld2 => ?_)
            clear hK K hHeld
            have hHeld := hHeld2
            clear hHeld2
            try simp only [Act.put, List.setIfInBounds_toArray, List.set_cons_zero, List.set_cons_succ]
            refine region_take 13 (v := ?vq13_13) rfl rfl (by kernel_rfl) (by kernel_rfl) (by kernel_rfl) (fun _ _ _ h => h) hHeld (Or.inl ⟨by rfl, ?yq13_13⟩) ?rq13_13
            case yq13_13 => (intro w hSw; (try dsimp only at hSw); go_simp; try with_reducible rfl)
            try simp only [Act.put, List.setIfInBounds_toArray, List.set_cons_zero, List.set_cons_succ]
            refine region_take 15 (v := ?vq15_14) rfl rfl (by kernel_rfl) (by kernel_rfl) (by kernel_rfl) (fun _ _ _ h => h) hHeld (Or.inl ⟨by rfl, ?yq15_14⟩) ?rq15_14
            case yq15_14 => (intro w hSw; (try dsimp only at hSw); go_simp; try with_reducible rfl)
            try simp only [Act.put, List.setIfInBounds_toArray, List.set_cons_zero, List.set_cons_succ]
            refine region_one 16 (by kernel_rfl) rfl (fun K hK => ?_)
            go_simp
            refine hK.out _ _ (trivial) (fun hHeld2 => ?_)
            clear hK K hHeld
            have hHeld := hHeld2
            clear hHeld2
            try simp only [Act.put, List.setIfInBounds_toArray, List.set_cons_zero, List.set_cons_succ]
            refine region_one 17 (by kernel_rfl) rfl (fun K hK => ?_)
            refine step_append_one rfl (.tmp 80) (.tmp 96) 102 rfl w.heap.size 91 i0 (.int .u32 0) 4 Try.underlying102 hi hz0 hz1 hz2 rfl _ _ _ rfl (HO4.out.alloc _) _ _ rfl (by simp; rfl) rfl (by unfold maxLen; omega) (by omega) (by have := HS4.out; simp; omega) ?_
            intro v7 w7 ho7 hg7
            have H7 : Hid (w7.ownsRow w.heap.size 91 1 v7 (i + 1) (u32s (ws ++ [nextFwd ws])) ∧ Touch (fun k => w.heap.size ≤ k) u4 w7) := Lib.hid ⟨by rw [HV.out] at ho7; rw [u32s_snoc]; exact ho7, ((Touch.refl _ _).alloc _).drew.grown hg7 (fun k hk _ => by cases hk; exact hgb)⟩
            clear ho7 hg7
            refine hK.out _ _ (trivial) (fun hHeld2 => ?_)
            clear hK K hHeld
            have hHeld := hHeld2
            clear hHeld2
            try simp only [Act.put, List.setIfInBounds_toArray, List.set_cons_zero, List.set_cons_succ]
            refine region_take 18 (v := ?vq18_15) rfl rfl (by kernel_rfl) (by kernel_rfl) (by kernel_rfl) (fun _ _ _ h => h) hHeld (Or.inl ⟨by rfl, ?yq18_15⟩) ?rq18_15
            case yq18_15 => (intro w hSw; (try dsimp only at hSw); go_simp; try with_reducible rfl)
            try simp only [Act.put, List.setIfInBounds_toArray, List.set_cons_zero, List.set_cons_succ]
            refine wpAnyH_done (by kernel_rfl) ?_ _
            go_wp2_with fail
            go_roundw
            case rel =>
              repeat apply Exists.intro
              refine ⟨?_, rfl⟩
              refine ⟨i + 1, by omega, by omega, by first | rfl | (congr 1; omega), ?_, ?_⟩
              · have h := H7.out.1
                rw [HQ.out.1, ← growW_succ] at h
                rw [show i + 1 - 16 = i - 16 + 1 by omega]
                exact h
              · exact (Touch.then (S := fun k => w.heap.size ≤ k) (Touch.then (S' := fun _ => False) (Touch.of_below HQ.out.2.2.2.1) t4.out (fun _ _ h => h.elim)) H7.out.2 (fun _ _ h => h)).below (Nat.le_refl _) (fun k hk h => by omega)
            case measure => simp [intOf]; omega
          · go_simp
            refine hK.out _ _ (trivial) (fun hHeld2 => ?_)
            clear hK K hHeld
            have hHeld := hHeld2
            clear hHeld2
            try simp only [Act.put, List.setIfInBounds_toArray, List.set_cons_zero, List.set_cons_succ]
            refine region_one 5 (by kernel_rfl) rfl (fun K hK => ?_)
            go_simp
            refine hK.out _ _ (trivial) (fun hHeld2 => ?_)
            clear hK K hHeld
            have hHeld := hHeld2
            clear hHeld2
            try simp only [Act.put, List.setIfInBounds_toArray, List.set_cons_zero, List.set_cons_succ]
            refine region_take 7 (v := ?vq7_16) rfl rfl (by kernel_rfl) (by kernel_rfl) (by kernel_rfl) (fun _ _ _ h => h) hHeld (Or.inl ⟨by rfl, ?yq7_16⟩) ?rq7_16
            case yq7_16 => (intro w hSw; (try dsimp only at hSw); go_simp; try with_reducible rfl)
            try simp only [Act.put, List.setIfInBounds_toArray, List.set_cons_zero, List.set_cons_succ]
            refine region_take 13 (v := ?vq13_17) rfl rfl (by kernel_rfl) (by kernel_rfl) (by kernel_rfl) (fun _ _ _ h => h) hHeld (Or.inl ⟨by rfl, ?yq13_17⟩) ?rq13_17
            case yq13_17 => (intro w hSw; (try dsimp only at hSw); go_simp; try with_reducible rfl)
            try simp only [Act.put, List.setIfInBounds_toArray, List.set_cons_zero, List.set_cons_succ]
            refine region_take 15 (v := ?vq15_18) rfl rfl (by kernel_rfl) (by kernel_rfl) (by kernel_rfl) (fun _ _ _ h => h) hHeld (Or.inl ⟨by rfl, ?yq15_18⟩) ?rq15_18
            case yq15_18 => (intro w hSw; (try dsimp only at hSw); go_simp; try with_reducible rfl)
            try simp only [Act.put, List.setIfInBounds_toArray, List.set_cons_zero, List.set_cons_succ]
            refine region_one 16 (by kernel_rfl) rfl (fun K hK => ?_)
            go_simp
            refine hK.out _ _ (trivial) (fun hHeld2 => ?_)
            clear hK K hHeld
            have hHeld := hHeld2
            clear hHeld2
            try simp only [Act.put, List.setIfInBounds_toArray, List.set_cons_zero, List.set_cons_succ]
            refine region_one 17 (by kernel_rfl) rfl (fun K hK => ?_)
            refine step_append_one rfl (.tmp 80) (.tmp 96) 102 rfl w.heap.size 91 i0 (.int .u32 0) 4 Try.underlying102 hi hz0 hz1 hz2 rfl _ _ _ rfl (HO4.out.alloc _) _ _ rfl (by simp; rfl) rfl (by unfold maxLen; omega) (by omega) (by have := HS4.out; simp; omega) ?_
            intro v7 w7 ho7 hg7
            have H7 : Hid (w7.ownsRow w.heap.size 91 1 v7 (i + 1) (u32s (ws ++ [nextFwd ws])) ∧ Touch (fun k => w.heap.size ≤ k) u4 w7) := Lib.hid ⟨by rw [HV.out] at ho7; rw [u32s_snoc]; exact ho7, ((Touch.refl _ _).alloc _).drew.grown hg7 (fun k hk _ => by cases hk; exact hgb)⟩
            clear ho7 hg7
            refine hK.out _ _ (trivial) (fun hHeld2 => ?_)
            clear hK K hHeld
            have hHeld := hHeld2
            clear hHeld2
            try simp only [Act.put, List.setIfInBounds_toArray, List.set_cons_zero, List.set_cons_succ]
            refine region_take 18 (v := ?vq18_19) rfl rfl (by kernel_rfl) (by kernel_rfl) (by kernel_rfl) (fun _ _ _ h => h) hHeld (Or.inl ⟨by rfl, ?yq18_19⟩) ?rq18_19
            case yq18_19 => (intro w hSw; (try dsimp only at hSw); go_simp; try with_reducible rfl)
            try simp only [Act.put, List.setIfInBounds_toArray, List.set_cons_zero, List.set_cons_succ]
            refine wpAnyH_done (by kernel_rfl) ?_ _
            go_wp2_with fail
            go_roundw
            case rel =>
              repeat apply Exists.intro
              refine ⟨?_, rfl⟩
              refine ⟨i + 1, by omega, by omega, by first | rfl | (congr 1; omega), ?_, ?_⟩
              · have h := H7.out.1
                rw [HQ.out.1, ← growW_succ] at h
                rw [show i + 1 - 16 = i - 16 + 1 by omega]
                exact h
              · exact (Touch.then (S := fun k => w.heap.size ≤ k) (Touch.then (S' := fun _ => False) (Touch.of_below HQ.out.2.2.2.1) t4.out (fun _ _ h => h.elim)) H7.out.2 (fun _ _ h => h)).below (Nat.le_refl _) (fun k hk h => by omega)
            case measure => simp [intOf]; omega
    · have hil : i < 16 := by omega
      have get : ∀ r, r < 4 → ∃ y, bs[4 * i + r]? = some y ∧ y < 256 := fun r hr => ⟨_, List.getElem?_eq_getElem (by have := HH.out.1; omega), HH.out.2.1 _ (List.getElem_mem _)⟩
      obtain ⟨y0, e0, l0⟩ := get 0 (by omega)
      obtain ⟨y1, e1, l1⟩ := get 1 (by omega)
      obtain ⟨y2, e2, l2⟩ := get 2 (by omega)
      obtain ⟨y3, e3, l3⟩ := get 3 (by omega)
      have at0 : ∀ r y, bs[4 * i + r]? = some y → (bn bs)[4 * i + r]? = some (.int .u8 (y : Int)) := fun r y h => by simp [bn, bys, natsD, h]
      obtain ⟨ba, oa, rfl, -⟩ := HH.out.2.2.get (at0 0 y0 e0)
      have hba := HH.out.2.2.lt (by intro e; have := at0 0 y0 e0; rw [e] at this; simp at this)
      obtain ⟨j0, hj0⟩ : ∃ j0, j0 = 4 * i := ⟨_, rfl⟩
      obtain ⟨j1, hj1⟩ : ∃ j1, j1 = j0 + 1 := ⟨_, rfl⟩
      obtain ⟨j2, hj2⟩ : ∃ j2, j2 = j0 + 2 := ⟨_, rfl⟩
      obtain ⟨j3, hj3⟩ : ∃ j3, j3 = j0 + 3 := ⟨_, rfl⟩
      have k0 : 4 * (i : Int) = (j0 : Int) := by omega
      have k1 : (j0 : Int) + 1 = (j1 : Int) := by omega
      have k2 : (j0 : Int) + 2 = (j2 : Int) := by omega
      have k3 : (j0 : Int) + 3 = (j3 : Int) := by omega
      have kw0 : IntKind.i64.wrap (j0 : Int) = (j0 : Int) := by simp [IntKind.wrap, IntKind.bits, IntKind.signed]; split <;> omega
      have kw1 : IntKind.i64.wrap (j1 : Int) = (j1 : Int) := by simp [IntKind.wrap, IntKind.bits, IntKind.signed]; split <;> omega
      have kw2 : IntKind.i64.wrap (j2 : Int) = (j2 : Int) := by simp [IntKind.wrap, IntKind.bits, IntKind.signed]; split <;> omega
      have kw3 : IntKind.i64.wrap (j3 : Int) = (j3 : Int) := by simp [IntKind.wrap, IntKind.bits, IntKind.signed]; split <;> omega
      have b0 : (j0 : Int) < 64 := by omega
      have b1 : (j1 : Int) < 64 := by omega
      have b2 : (j2 : Int) < 64 := by omega
      have b3 : (j3 : Int) < 64 := by omega
      have hC : ∀ W, Touch (fun k => w.heap.size ≤ k) wr W → W.cell? ⟨ba, oa + j0, none⟩ = some (.int .u8 (y0 : Int)) ∧ W.cell? ⟨ba, oa + j1, none⟩ = some (.int .u8 (y1 : Int)) ∧ W.cell? ⟨ba, oa + j2, none⟩ = some (.int .u8 (y2 : Int)) ∧ W.cell? ⟨ba, oa + j3, none⟩ = some (.int .u8 (y3 : Int)) := fun W hW => by
        have h := (HH.out.2.2.touch (Touch.of_below (S := fun _ => False) hb) (fun _ _ _ h => h)).touch hW (fun x hx _ => by cases hx; simp; omega)
        refine ⟨?_, ?_, ?_, ?_⟩
        · rw [hj0]; exact (h (4 * i + 0) _ (at0 0 y0 e0)).2
        · rw [hj1, hj0]; exact (h (4 * i + 1) _ (at0 1 y1 e1)).2
        · rw [hj2, hj0]; exact (h (4 * i + 2) _ (at0 2 y2 e2)).2
        · rw [hj3, hj0]; exact (h (4 * i + 3) _ (at0 3 y3 e3)).2
      have HC := Lib.hid hC
      have HI := Lib.hid (And.intro ho (And.intro hb (And.intro e0 (And.intro e1 (And.intro e2 (And.intro e3 hj0))))))
      clear hC ho hb e0 e1 e2 e3 hj0 hj1 hj2 hj3 get at0
      go_wp2_with fail
      refine wp_region_held_drew (S := fun w' : World => w'.cell? ⟨ba, oa + j0, none⟩ = some (.int .u8 (y0 : Int)) ∧ w'.cell? ⟨ba, oa + j1, none⟩ = some (.int .u8 (y1 : Int)) ∧ w'.cell? ⟨ba, oa + j2, none⟩ = some (.int .u8 (y2 : Int)) ∧ w'.cell? ⟨ba, oa + j3, none⟩ = some (.int .u8 (y3 : Int))) (by kernel_rfl) (HC.out _ ((Touch.refl _ _).drew)) (fun hHeld => ?_)
      refine region_take 0 (v := ?vp0) rfl rfl (by kernel_rfl) (by kernel_rfl) (by kernel_rfl) (fun _ _ _ h => h) hHeld (Or.inl ⟨by rfl, ?yp0⟩) ?rp0
      case yp0 => (intro w hSw; (try dsimp only at hSw); go_simp; try with_reducible rfl)
      try simp only [Act.put, List.setIfInBounds_toArray, List.set_cons_zero, List.set_cons_succ]
      refine region_take 1 (v := ?vp1) rfl rfl (by kernel_rfl) (by kernel_rfl) (by kernel_rfl) (fun _ _ _ h => h) hHeld (Or.inl ⟨by rfl, ?yp1⟩) ?rp1
      case yp1 => (intro w hSw; (try dsimp only at hSw); go_simp; try with_reducible rfl)
      try simp only [Act.put, List.setIfInBounds_toArray, List.set_cons_zero, List.set_cons_succ]
      refine region_take 2 (v := ?vp2) rfl rfl (by kernel_rfl) (by kernel_rfl) (by kernel_rfl) (fun _ _ _ h => h) hHeld (Or.inl ⟨by rfl, ?yp2⟩) ?rp2
      case yp2 => (intro w hSw; (try dsimp only at hSw); go_simp; try with_reducible rfl)
      try simp only [Act.put, List.setIfInBounds_toArray, List.set_cons_zero, List.set_cons_succ]
      refine region_take 3 (v := ?vp3) rfl rfl (by kernel_rfl) (by kernel_rfl) (by kernel_rfl) (fun _ _ _ h => h) hHeld (Or.inl ⟨by rfl, ?yp3⟩) ?rp3
      case yp3 => (intro w hSw; (try dsimp only at hSw); go_simp; try with_reducible rfl)
      try simp only [Act.put, List.setIfInBounds_toArray, List.set_cons_zero, List.set_cons_succ]
      refine region_take 4 (v := ?vp4) rfl rfl (by kernel_rfl) (by kernel_rfl) (by kernel_rfl) (fun _ _ _ h => h) hHeld (Or.inl ⟨by rfl, ?yp4⟩) ?rp4
      case yp4 => (intro w hSw; (try dsimp only at hSw); go_simp; try with_reducible rfl)
      try simp only [Act.put, List.setIfInBounds_toArray, List.set_cons_zero, List.set_cons_succ]
      refine region_take 5 (v := ?vp5) rfl rfl (by kernel_rfl) (by kernel_rfl) (by kernel_rfl) (fun _ _ _ h => h) hHeld (Or.inl ⟨by rfl, ?yp5⟩) ?rp5
      case yp5 => (intro w hSw; (try dsimp only at hSw); go_simp; try with_reducible rfl)
      try simp only [Act.put, List.setIfInBounds_toArray, List.set_cons_zero, List.set_cons_succ]
      refine region_take 6 (v := ?vp6) rfl rfl (by kernel_rfl) (by kernel_rfl) (by kernel_rfl) (fun _ _ _ h => h) hHeld (Or.inl ⟨by rfl, ?yp6⟩) ?rp6
      case yp6 => (intro w hSw; (try dsimp only at hSw); go_simp; try with_reducible rfl)
      try simp only [Act.put, List.setIfInBounds_toArray, List.set_cons_zero, List.set_cons_succ]
      refine region_take 7 (v := ?vp7) rfl rfl (by kernel_rfl) (by kernel_rfl) (by kernel_rfl) (fun _ _ _ h => h) hHeld (Or.inl ⟨by rfl, ?yp7⟩) ?rp7
      case yp7 => (intro w hSw; (try dsimp only at hSw); go_simp; try with_reducible rfl)
      try simp only [Act.put, List.setIfInBounds_toArray, List.set_cons_zero, List.set_cons_succ]
      refine region_take 8 (v := ?vp8) rfl rfl (by kernel_rfl) (by kernel_rfl) (by kernel_rfl) (fun _ _ _ h => h) hHeld (Or.inl ⟨by rfl, ?yp8⟩) ?rp8
      case yp8 => (intro w hSw; (try dsimp only at hSw); go_simp; try with_reducible rfl)
      try simp only [Act.put, List.setIfInBounds_toArray, List.set_cons_zero, List.set_cons_succ]
      refine region_take 9 (v := ?vp9) rfl rfl (by kernel_rfl) (by kernel_rfl) (by kernel_rfl) (fun _ _ _ h => h) hHeld (Or.inl ⟨by rfl, ?yp9⟩) ?rp9
      case yp9 => (intro w hSw; (try dsimp only at hSw); go_simp; try with_reducible rfl)
      try simp only [Act.put, List.setIfInBounds_toArray, List.set_cons_zero, List.set_cons_succ]
      refine region_take 10 (v := ?vp10) rfl rfl (by kernel_rfl) (by kernel_rfl) (by kernel_rfl) (fun _ _ _ h => h) hHeld (Or.inl ⟨by rfl, ?yp10⟩) ?rp10
      case yp10 => (intro w hSw; (try dsimp only at hSw); go_simp; try with_reducible rfl)
      try simp only [Act.put, List.setIfInBounds_toArray, List.set_cons_zero, List.set_cons_succ]
      refine region_take 11 (v := ?vp11) rfl rfl (by kernel_rfl) (by kernel_rfl) (by kernel_rfl) (fun _ _ _ h => h) hHeld (Or.inl ⟨by rfl, ?yp11⟩) ?rp11
      case yp11 => (intro w hSw; (try dsimp only at hSw); go_simp; try with_reducible rfl)
      try simp only [Act.put, List.setIfInBounds_toArray, List.set_cons_zero, List.set_cons_succ]
      refine region_take 12 (v := ?vp12) rfl rfl (by kernel_rfl) (by kernel_rfl) (by kernel_rfl) (fun _ _ _ h => h) hHeld (Or.inl ⟨by rfl, ?yp12⟩) ?rp12
      case yp12 => (intro w hSw; (try dsimp only at hSw); go_simp; try with_reducible rfl)
      try simp only [Act.put, List.setIfInBounds_toArray, List.set_cons_zero, List.set_cons_succ]
      refine region_take 13 (v := ?vp13) rfl rfl (by kernel_rfl) (by kernel_rfl) (by kernel_rfl) (fun _ _ _ h => h) hHeld (Or.inl ⟨by rfl, ?yp13⟩) ?rp13
      case yp13 => (intro w hSw; (try dsimp only at hSw); go_simp; try with_reducible rfl)
      try simp only [Act.put, List.setIfInBounds_toArray, List.set_cons_zero, List.set_cons_succ]
      refine region_take 14 (v := ?vp14) rfl rfl (by kernel_rfl) (by kernel_rfl) (by kernel_rfl) (fun _ _ _ h => h) hHeld (Or.inl ⟨by rfl, ?yp14⟩) ?rp14
      case yp14 => (intro w hSw; (try dsimp only at hSw); go_simp; try with_reducible rfl)
      try simp only [Act.put, List.setIfInBounds_toArray, List.set_cons_zero, List.set_cons_succ]
      refine region_take 15 (v := ?vp15) rfl rfl (by kernel_rfl) (by kernel_rfl) (by kernel_rfl) (fun _ _ _ h => h) hHeld (Or.inl ⟨by rfl, ?yp15⟩) ?rp15
      case yp15 => (intro w hSw; (try dsimp only at hSw); go_simp; try with_reducible rfl)
      try simp only [Act.put, List.setIfInBounds_toArray, List.set_cons_zero, List.set_cons_succ]
      refine region_take 16 (v := ?vp16) rfl rfl (by kernel_rfl) (by kernel_rfl) (by kernel_rfl) (fun _ _ _ h => h) hHeld (Or.inl ⟨by rfl, ?yp16⟩) ?rp16
      case yp16 => (intro w hSw; (try dsimp only at hSw); go_simp; try with_reducible rfl)
      try simp only [Act.put, List.setIfInBounds_toArray, List.set_cons_zero, List.set_cons_succ]
      refine region_take 17 (v := ?vp17) rfl rfl (by kernel_rfl) (by kernel_rfl) (by kernel_rfl) (fun _ _ _ h => h) hHeld (Or.inl ⟨by rfl, ?yp17⟩) ?rp17
      case yp17 => (intro w hSw; (try dsimp only at hSw); go_simp; try with_reducible rfl)
      try simp only [Act.put, List.setIfInBounds_toArray, List.set_cons_zero, List.set_cons_succ]
      refine region_take 18 (v := ?vp18) rfl rfl (by kernel_rfl) (by kernel_rfl) (by kernel_rfl) (fun _ _ _ h => h) hHeld (Or.inl ⟨by rfl, ?yp18⟩) ?rp18
      case yp18 => (intro w hSw; (try dsimp only at hSw); go_simp; try with_reducible rfl)
      try simp only [Act.put, List.setIfInBounds_toArray, List.set_cons_zero, List.set_cons_succ]
      refine region_take 19 (v := ?vp19) rfl rfl (by kernel_rfl) (by kernel_rfl) (by kernel_rfl) (fun _ _ _ h => h) hHeld (Or.inl ⟨by rfl, ?yp19⟩) ?rp19
      case yp19 => (intro w hSw; (try dsimp only at hSw); go_simp; try with_reducible rfl)
      try simp only [Act.put, List.setIfInBounds_toArray, List.set_cons_zero, List.set_cons_succ]
      refine region_take 20 (v := ?vp20) rfl rfl (by kernel_rfl) (by kernel_rfl) (by kernel_rfl) (fun _ _ _ h => h) hHeld (Or.inl ⟨by rfl, ?yp20⟩) ?rp20
      case yp20 => (intro w hSw; (try dsimp only at hSw); go_simp; try with_reducible rfl)
      try simp only [Act.put, List.setIfInBounds_toArray, List.set_cons_zero, List.set_cons_succ]
      refine region_take 21 (v := ?vp21) rfl rfl (by kernel_rfl) (by kernel_rfl) (by kernel_rfl) (fun _ _ _ h => h) hHeld (Or.inl ⟨by rfl, ?yp21⟩) ?rp21
      case yp21 => (intro w hSw; (try dsimp only at hSw); go_simp; try with_reducible rfl)
      try simp only [Act.put, List.setIfInBounds_toArray, List.set_cons_zero, List.set_cons_succ]
      refine region_take 22 (v := ?vp22) rfl rfl (by kernel_rfl) (by kernel_rfl) (by kernel_rfl) (fun _ _ _ h => h) hHeld (Or.inl ⟨by rfl, ?yp22⟩) ?rp22
      case yp22 => (intro w hSw; (try dsimp only at hSw); go_simp; try with_reducible rfl)
      try simp only [Act.put, List.setIfInBounds_toArray, List.set_cons_zero, List.set_cons_succ]
      refine region_take 23 (v := ?vp23) rfl rfl (by kernel_rfl) (by kernel_rfl) (by kernel_rfl) (fun _ _ _ h => h) hHeld (Or.inl ⟨by rfl, ?yp23⟩) ?rp23
      case yp23 => (intro w hSw; (try dsimp only at hSw); go_simp; try with_reducible rfl)
      try simp only [Act.put, List.setIfInBounds_toArray, List.set_cons_zero, List.set_cons_succ]
      refine region_take 24 (v := ?vp24) rfl rfl (by kernel_rfl) (by kernel_rfl) (by kernel_rfl) (fun _ _ _ h => h) hHeld (Or.inl ⟨by rfl, ?yp24⟩) ?rp24
      case yp24 => (intro w hSw; (try dsimp only at hSw); go_simp; try with_reducible rfl)
      try simp only [Act.put, List.setIfInBounds_toArray, List.set_cons_zero, List.set_cons_succ]
      refine region_take 25 (v := ?vp25) rfl rfl (by kernel_rfl) (by kernel_rfl) (by kernel_rfl) (fun _ _ _ h => h) hHeld (Or.inl ⟨by rfl, ?yp25⟩) ?rp25
      case yp25 => (intro w hSw; (try dsimp only at hSw); go_simp; try with_reducible rfl)
      try simp only [Act.put, List.setIfInBounds_toArray, List.set_cons_zero, List.set_cons_succ]
      refine region_take 26 (v := ?vp26) rfl rfl (by kernel_rfl) (by kernel_rfl) (by kernel_rfl) (fun _ _ _ h => h) hHeld (Or.inl ⟨by rfl, ?yp26⟩) ?rp26
      case yp26 => (intro w hSw; (try dsimp only at hSw); go_simp; try with_reducible rfl)
      try simp only [Act.put, List.setIfInBounds_toArray, List.set_cons_zero, List.set_cons_succ]
      refine region_take 27 (v := ?vp27) rfl rfl (by kernel_rfl) (by kernel_rfl) (by kernel_rfl) (fun _ _ _ h => h) hHeld (Or.inl ⟨by rfl, ?yp27⟩) ?rp27
      case yp27 => (intro w hSw; (try dsimp only at hSw); go_simp; try with_reducible rfl)
      try simp only [Act.put, List.setIfInBounds_toArray, List.set_cons_zero, List.set_cons_succ]
      refine region_take 28 (v := ?vp28) rfl rfl (by kernel_rfl) (by kernel_rfl) (by kernel_rfl) (fun _ _ _ h => h) hHeld (Or.inl ⟨by rfl, ?yp28⟩) ?rp28
      case yp28 => (intro w hSw; (try dsimp only at hSw); go_simp; try with_reducible rfl)
      try simp only [Act.put, List.setIfInBounds_toArray, List.set_cons_zero, List.set_cons_succ]
      refine region_take 29 (v := ?vp29) rfl rfl (by kernel_rfl) (by kernel_rfl) (by kernel_rfl) (fun _ _ _ h => h) hHeld (Or.inl ⟨by rfl, ?yp29⟩) ?rp29
      case yp29 => (intro w hSw; (try dsimp only at hSw); go_simp; try with_reducible rfl)
      try simp only [Act.put, List.setIfInBounds_toArray, List.set_cons_zero, List.set_cons_succ]
      refine region_take 30 (v := ?vp30) rfl rfl (by kernel_rfl) (by kernel_rfl) (by kernel_rfl) (fun _ _ _ h => h) hHeld (Or.inl ⟨by rfl, ?yp30⟩) ?rp30
      case yp30 => (intro w hSw; (try dsimp only at hSw); go_simp; try with_reducible rfl)
      try simp only [Act.put, List.setIfInBounds_toArray, List.set_cons_zero, List.set_cons_succ]
      refine region_take 31 (v := ?vp31) rfl rfl (by kernel_rfl) (by kernel_rfl) (by kernel_rfl) (fun _ _ _ h => h) hHeld (Or.inl ⟨by rfl, ?yp31⟩) ?rp31
      case yp31 => (intro w hSw; (try dsimp only at hSw); go_simp; try with_reducible rfl)
      try simp only [Act.put, List.setIfInBounds_toArray, List.set_cons_zero, List.set_cons_succ]
      refine region_take 32 (v := ?vp32) rfl rfl (by kernel_rfl) (by kernel_rfl) (by kernel_rfl) (fun _ _ _ h => h) hHeld (Or.inl ⟨by rfl, ?yp32⟩) ?rp32
      case yp32 => (intro w hSw; (try dsimp only at hSw); go_simp; try with_reducible rfl)
      try simp only [Act.put, List.setIfInBounds_toArray, List.set_cons_zero, List.set_cons_succ]
      refine region_take 33 (v := ?vp33) rfl rfl (by kernel_rfl) (by kernel_rfl) (by kernel_rfl) (fun _ _ _ h => h) hHeld (Or.inl ⟨by rfl, ?yp33⟩) ?rp33
      case yp33 => (intro w hSw; (try dsimp only at hSw); go_simp; try with_reducible rfl)
      try simp only [Act.put, List.setIfInBounds_toArray, List.set_cons_zero, List.set_cons_succ]
      refine region_one 34 (by kernel_rfl) rfl (fun K hK => ?_)
      go_simp
      refine hK.out _ _ (HC.out _ ((Touch.refl _ _).alloc _).drew) (fun hHeld2 => ?_)
      clear hK K hHeld
      have hHeld := hHeld2
      clear hHeld2
      try simp only [Act.put, List.setIfInBounds_toArray, List.set_cons_zero, List.set_cons_succ]
      refine region_one 35 (by kernel_rfl) rfl (fun K hK => ?_)
      refine step_append_one rfl (.tmp 14) (.tmp 48) 102 rfl w.heap.size 91 i0 (.int .u32 0) 4 Try.underlying102 hi hz0 hz1 hz2 rfl _ _ _ rfl (HI.out.1.alloc _) wr.heap.size _ rfl (by simp; rfl) rfl (by unfold maxLen; omega) (by omega) (by have := HI.out.2.1.size; simp; omega) ?_
      intro v7 w7 ho7 hg7
      have hT7 : Touch (fun k => w.heap.size ≤ k) wr w7 := ((Touch.refl _ _).alloc _).drew.grown hg7 (fun k hk _ => by
        obtain ⟨x, cp, hv, _, _, _, hx⟩ := owns_form HI.out.1
        have hk : u3.ownBlock = some k := hk
        rw [hv] at hk
        cases x with
        | none => cases hk
        | some y => cases hk; exact (hx y rfl).1)
      have H7 := Lib.hid (And.intro ho7 hT7)
      clear ho7 hg7 hT7
      refine hK.out _ _ (HC.out _ H7.out.2) (fun hHeld2 => ?_)
      clear hK K hHeld
      have hHeld := hHeld2
      clear hHeld2
      try simp only [Act.put, List.setIfInBounds_toArray, List.set_cons_zero, List.set_cons_succ]
      refine region_take 36 (v := ?vp36) rfl rfl (by kernel_rfl) (by kernel_rfl) (by kernel_rfl) (fun _ _ _ h => h) hHeld (Or.inl ⟨by rfl, ?yp36⟩) ?rp36
      case yp36 => (intro w hSw; (try dsimp only at hSw); go_simp; try with_reducible rfl)
      try simp only [Act.put, List.setIfInBounds_toArray, List.set_cons_zero, List.set_cons_succ]
      refine wpAnyH_done (by kernel_rfl) ?_ _
      go_wp2_with fail
      go_roundw
      case rel =>
        obtain ⟨ho, hb, e0, e1, e2, e3, hj0⟩ := HI.out
        refine ⟨i + 1, by omega, by first | rfl | (congr 1; omega), ?_, ?_⟩
        · have h := H7.out.1
          rw [word4_or y0 y1 y2 y3 l0 l1 l2 l3] at h
          have hw := (words16_spec 16 bs HH.out.1).2 i hil
          have gd : ∀ r y, bs[4 * i + r]? = some y → bs.getD (4 * i + r) 0 = y := fun r y h => by rw [List.getD_eq_getElem?_getD, h]; rfl
          have g0 := gd 0 y0 e0
          rw [Nat.add_zero] at g0
          rw [g0, gd 1 y1 e1, gd 2 y2 e2, gd 3 y3 e3] at hw
          rw [take_snoc2 hw]
          have e : u32s ((words16 16 bs).take i ++ [word4 y0 y1 y2 y3]) = u32s ((words16 16 bs).take i) ++ [.int .u32 ((word4 y0 y1 y2 y3 : Nat) : Int)] := by simp [u32s]
          rw [e]
          exact h
        · exact hb.trans (H7.out.2.below hb.size (fun k hk h => by omega))
      case measure => simp [intOf]; omega
end Go.Proofs.Ythlkmofemnepbaa
