/-
  THE WALK of the document's block (layer 2).
-/
import Derived.Test.YthlkmofemnepbaaRows
import Derived.Test.YthlkmofemnepbaaDigestWords
namespace Go.Proofs.Ythlkmofemnepbaa
open Go.RowKit

theorem choose_ref (e f g : Nat) (he : e < 4294967296) (hf : f < 4294967296) (hg : g < 4294967296) : (e &&& f) ^^^ ((4294967295 ^^^ e) &&& g) = choose e f g := by
  unfold choose
  have hb : ∀ x : Nat, x < 4294967296 → ∀ i, 32 ≤ i → x.testBit i = false := fun x hx i hi => Nat.testBit_lt_two_pow (Nat.lt_of_lt_of_le hx (Nat.pow_le_pow_right (n := 2) (by decide) hi))
  refine Nat.eq_of_testBit_eq fun i => ?_
  have h1 : Nat.testBit 4294967295 i = decide (i < 32) := Nat.testBit_two_pow_sub_one 32 i
  simp only [Nat.testBit_xor, Nat.testBit_and, h1]
  by_cases hi : i < 32
  · simp only [hi, decide_true]
    cases e.testBit i <;> cases f.testBit i <;> cases g.testBit i <;> rfl
  · rw [hb e he i (by omega), hb f hf i (by omega), hb g hg i (by omega)]
    simp

theorem major_ref (a b c : Nat) : (a &&& b) ^^^ (a &&& c) ^^^ (b &&& c) = major a b c := by
  unfold major
  refine Nat.eq_of_testBit_eq fun i => ?_
  simp only [Nat.testBit_xor, Nat.testBit_and, Nat.testBit_or]
  cases a.testBit i <;> cases b.testBit i <;> cases c.testBit i <;> rfl

set_option maxRecDepth 100000 in
set_option maxHeartbeats 4000000 in
theorem rblock_any (st : List Nat) (a : Option Addr) (cap : Nat) (bs : List Nat) (w : World) (hst : st.length = 8) (hsr : ∀ x ∈ st, x < 4294967296)
    (hl : bs.length = 64) (hr : ∀ y ∈ bs, y < 256) (hs : SlAt w a (bn bs)) :
    Calls Try.prog 85 #[.agg (u32s st).toArray, .slice a 64 cap] w fun e w' => e = .returned (.agg (u32s (shaBlock st bs)).toArray) ∧ Touch (fun _ => False) w w' := by
  have hsz : (u32s st).toArray.size = 8 := by simp [u32s, hst]
  have h1c : (u32s st).toArray.all (·.oneCell') = true := by
    rw [Array.all_eq_true]
    intro k hk
    simp [u32s, Value.oneCell']
  have HH := Lib.hid (And.intro hst (And.intro hsr (And.intro hl (And.intro hr (And.intro hs (And.intro hsz h1c))))))
  clear hst hsr hl hr hs hsz h1c
  go_enter Try.func85, Try.ntmps85
  go_wp2_with fail
  (with_reducible refine (refConstants_any _).mono ?_)
  rintro e w1 ⟨v1, rfl, ho1, hb1⟩
  have hB2 : Blk w1 w.heap.size 92 (u32s st).toArray := ((Blk.new w _ _).alloc _).touch (Touch.of_below (S := fun _ => False) hb1) (fun h => h)
  have hB4 : Blk w1 (w.heap.size + 1) 92 (u32s (List.replicate 8 0)).toArray := (Blk.new1 w _ _ _).touch (Touch.of_below (S := fun _ => False) hb1) (fun h => h)
  have hT1 : Touch (fun _ => False) w w1 := (((Touch.refl _ w).alloc _).alloc _).trans (Touch.of_below hb1)
  have ho1' : w1.ownsRow (w.heap.size + 2) 91 1 v1 64 (u32s shaK) := by
    have e : (u32s shaK).length = 64 := by rw [u32s, List.length_map, shaK_len]
    rw [e] at ho1
    simpa using ho1
  have hz1 : w.heap.size + 2 ≤ w1.heap.size := by have := hb1.size; simpa using this
  obtain ⟨gk, ck, rfl, hgk, hck1, hck2⟩ := owns_some ho1' (by decide)
  have H1 := Lib.hid (And.intro hB2 (And.intro hB4 (And.intro hT1 (And.intro ho1' hz1))))
  clear hB2 hB4 hT1 ho1 ho1' hz1 hb1
  go_wp2_with fail
  (with_reducible refine (words_any a cap bs w1 HH.out.2.2.1 HH.out.2.2.2.1 (HH.out.2.2.2.2.1.touch H1.out.2.2.1 (fun _ _ _ h => h))).mono ?_)
  rintro e w2 ⟨v2, rfl, ho2, hb2⟩
  obtain ⟨ws, hws⟩ : ∃ ws, ws = schedule bs := ⟨_, rfl⟩
  have hwl : ws.length = 64 := by rw [hws]; exact schedule_len bs HH.out.2.2.1
  have hwr : ∀ x ∈ ws, x < 4294967296 := by rw [hws]; exact schedule_lt bs HH.out.2.2.2.1
  rw [← hws] at ho2
  have ho2' : w2.ownsRow w1.heap.size 91 1 v2 64 (u32s ws) := by
    have e : (u32s ws).length = 64 := by rw [u32s, List.length_map, hwl]
    rw [e] at ho2
    exact ho2
  obtain ⟨gw, cw, rfl, hgw, hcw1, hcw2⟩ := owns_some ho2' (by decide)
  have hT2 := H1.out.2.2.1.trans (Touch.of_below (S := fun _ => False) hb2)
  have hK2 := (SlAt.of_owns H1.out.2.2.2.1).touch (Touch.of_below (S := fun _ => False) hb2) (fun _ _ _ h => h)
  have hW2 := SlAt.of_owns ho2'
  obtain ⟨x0, hx0⟩ : ∃ x0, ws[0]? = some x0 := ⟨_, List.getElem?_eq_getElem (by omega)⟩
  have H2 := Lib.hid (And.intro hws (And.intro hwl (And.intro hwr (And.intro hT2 (And.intro hK2 (And.intro hW2 (And.intro (H1.out.1.touch (Touch.of_below (S := fun _ => False) hb2) (fun h => h)) (And.intro (H1.out.2.1.touch (Touch.of_below (S := fun _ => False) hb2) (fun h => h)) (And.intro hb2.size (World.block_lt_of_cell? w2 ⟨gw, 0, none⟩ (by
    have := hW2 0 (.int .u32 (x0 : Int)) (by simp [u32s, hx0])
    simpa using this.2)))))))))))
  clear hws hwl hwr hT2 hK2 hW2 ho2 ho2' hb2
  go_wp2_with (first
    | (refine wpList_load_blk rfl 92 (.tmp 2) rfl w.heap.size 92 (u32s st).toArray _ rfl (H2.out.2.2.2.2.2.2.1) Try.underlying92 rfl (by rw [HH.out.2.2.2.2.2.1]; first | done | kernel_rfl) ?_)
    | (refine wpList_store_blk rfl 92 (.tmp 7) (.tmp 17) rfl w2.heap.size 92 _ (u32s st).toArray rfl rfl (Blk.new _ _ _) (by rw [HH.out.2.2.2.2.2.1]; first | done | kernel_rfl) (by rw [HH.out.2.2.2.2.2.1]; first | done | kernel_rfl) HH.out.2.2.2.2.2.2 ?_; intro w3 hB3 ht3 hs3; have H3 := Lib.hid (And.intro hB3 (And.intro ht3 hs3)); clear hB3 ht3 hs3))
  have hT3 : Touch (fun _ => False) w2 w3 := Touch.then ((Touch.refl _ _).alloc _) H3.out.2.1 (fun i hi e => by omega)
  obtain ⟨sb, hsb⟩ : ∃ sb, sb = w2.heap.size := ⟨_, rfl⟩
  have hsbw : w.heap.size + 2 ≤ sb := by rw [hsb]; exact Nat.le_trans H1.out.2.2.2.2 H2.out.2.2.2.2.2.2.2.2.1
  have H4 : Hid (Blk w3 sb 92 (u32s st).toArray ∧ Blk w3 w.heap.size 92 (u32s st).toArray ∧ Blk w3 (w.heap.size + 1) 92 (u32s (List.replicate 8 0)).toArray ∧ SlAt w3 (some ⟨gk, 0, none⟩) (u32s shaK) ∧ SlAt w3 (some ⟨gw, 0, none⟩) (u32s ws) ∧ Touch (fun _ => False) w w3 ∧ gk ≠ sb ∧ gw ≠ sb) := Lib.hid ⟨by rw [hsb]; exact H3.out.1, H2.out.2.2.2.2.2.2.1.touch hT3 (fun h => h), H2.out.2.2.2.2.2.2.2.1.touch hT3 (fun h => h), H2.out.2.2.2.2.1.touch hT3 (fun _ _ _ h => h), H2.out.2.2.2.2.2.1.touch hT3 (fun _ _ _ h => h), H2.out.2.2.2.1.trans hT3, by
    have := World.block_lt_of_cell? w2 ⟨gk, 0, none⟩ (by
      have := H2.out.2.2.2.2.1 0 (.int .u32 (1116352408 : Nat)) rfl
      simpa using this.2)
    rw [hsb]
    have : gk < w2.heap.size := this
    omega, by
    have : gw < w2.heap.size := H2.out.2.2.2.2.2.2.2.2.2
    rw [hsb]
    omega⟩
  rw [← hsb]
  clear hT3 hsb
  have hsbn : sb ≠ w.heap.size := by omega
  have hsbn1 : sb ≠ w.heap.size + 1 := by omega
  go_loopw [8] (fun c wz => ∃ i : Nat, i ≤ 64 ∧ c = .int .i64 i ∧ (roundsTo st ws i).length = 8 ∧ (∀ x ∈ roundsTo st ws i, x < 4294967296) ∧ Blk wz sb 92 (u32s (roundsTo st ws i)).toArray ∧ Touch (fun k => k = sb) w3 wz) (fun c _ => (64 - intOf c).toNat)
  case atStart => exact ⟨0, Nat.zero_le _, rfl, HH.out.1, HH.out.2.1, H4.out.1, Touch.refl _ _⟩
  case round =>
    obtain ⟨i, hi, rfl, hrl, hrr, hBs, ht⟩ := hrel
    by_cases hq : i = 64
    · subst hq
      have hBS := Lib.hid (And.intro hrl (And.intro hrr (And.intro hBs ht)))
      clear hrl hrr hBs ht
      obtain ⟨R, hR⟩ : ∃ R, R = roundsTo st ws 64 := ⟨_, rfl⟩
      rw [← hR] at hBS
      have HR := Lib.hid hR
      clear hR
      go_wp2_with fail
      go_loopw [13] (fun c wz => ∃ (k : Nat) (ys : List Nat), k ≤ 8 ∧ c = .int .i64 k ∧ ys.length = 8 ∧ (∀ j x y, j < k → R[j]? = some x → st[j]? = some y → ys[j]? = some ((x + y) % M32)) ∧ (∀ j, k ≤ j → ys[j]? = R[j]?) ∧ Blk wz sb 92 (u32s ys).toArray ∧ Touch (fun k => k = sb) w3 wz) (fun c _ => (8 - intOf c).toNat)
      case atStart => exact ⟨0, R, Nat.zero_le _, rfl, hBS.out.1, fun j _ _ hj => absurd hj (Nat.not_lt_zero _), fun _ _ => rfl, hBS.out.2.2.1, hBS.out.2.2.2⟩
      case round =>
        obtain ⟨k, ys, hk, rfl, hyl, hy1, hy2, hB, ht⟩ := hrel
        by_cases hq8 : k = 8
        · subst hq8
          have hz : (u32s ys).toArray.size = 8 := by simp [u32s, hyl]
          have h1 : (u32s ys).toArray.all (·.oneCell') = true := by
            rw [Array.all_eq_true]
            intro k hk
            simp [u32s, Value.oneCell']
          have hB5 := H4.out.2.2.1.touch ht (fun e => by omega)
          have HB := Lib.hid (And.intro hyl (And.intro hy1 (And.intro hB (And.intro ht (And.intro hz (And.intro h1 hB5))))))
          clear hyl hy1 hy2 hB ht hz h1 hB5
          have e : ys = shaBlock st bs := by
            have hr8 := hBS.out.1
            have hs8 := HH.out.1
            refine List.ext_getElem? fun j => ?_
            unfold shaBlock
            rw [List.getElem?_zipWith]
            have hRR : shaRounds st shaK (schedule bs) = R := by
              rw [HR.out, ← H2.out.1]
              unfold roundsTo
              rw [List.take_of_length_le (by rw [shaK_len]; omega), List.take_of_length_le (by rw [H2.out.2.1]; omega)]
            rw [hRR]
            by_cases hj : j < 8
            · have e1 : R[j]? = some (R[j]'(by omega)) := List.getElem?_eq_getElem (by omega)
              have e2 : st[j]? = some (st[j]'(by omega)) := List.getElem?_eq_getElem (by omega)
              rw [HB.out.2.1 j _ _ hj e1 e2, e1, e2]
            · rw [List.getElem?_eq_none (by have := HB.out.1; omega), List.getElem?_eq_none (l := R) (by omega)]
          have HE := Lib.hid e
          clear e
          go_wp2_with (first
            | (refine wpList_load_blk rfl 92 (.tmp 7) rfl sb 92 (u32s ys).toArray _ rfl (HB.out.2.2.1) Try.underlying92 rfl (by rw [HB.out.2.2.2.2.1]; first | done | kernel_rfl) ?_)
            | (refine wpList_store_blk rfl 92 (.tmp 4) (.tmp 115) rfl (w.heap.size + 1) 92 _ (u32s ys).toArray rfl rfl (HB.out.2.2.2.2.2.2) (by rw [HB.out.2.2.2.2.1]; first | done | kernel_rfl) (by rw [HB.out.2.2.2.2.1]; first | done | kernel_rfl) HB.out.2.2.2.2.2.1 ?_; intro w11 hB11 ht11 hs11))
          rw [← HE.out]
          refine bodyPost_ret (results_cell_row rfl _ _ (w.heap.size + 1) 92 (u32s ys).toArray (0, 0) _ rfl hB11 Try.underlying92 rfl (by rw [HB.out.2.2.2.2.1]; first | done | kernel_rfl)) rfl ⟨rfl, ?_⟩
          exact Touch.then (Touch.then H4.out.2.2.2.2.2.1 HB.out.2.2.2.1 (fun i hi e => by omega)) ht11 (fun i hi e => by omega)
        · have hkl : k < 8 := by omega
          have hkI : (k : Int) < 8 := by omega
          obtain ⟨x, hx⟩ : ∃ x, R[k]? = some x := ⟨_, List.getElem?_eq_getElem (by have := hBS.out.1; omega)⟩
          obtain ⟨y, hy⟩ : ∃ y, st[k]? = some y := ⟨_, List.getElem?_eq_getElem (by have := HH.out.1; omega)⟩
          have cK := hB.cell k (v := .int .u32 (x : Int)) (u32s_at ys (by rw [hy2 k (Nat.le_refl _), hx]))
          have fK := hB.frozen k
          have hB0 := H4.out.2.1.touch ht (fun e => by omega)
          have cO := hB0.cell k (v := .int .u32 (y : Int)) (u32s_at st hy)
          have HB := Lib.hid (And.intro hyl (And.intro hy1 (And.intro hy2 (And.intro hB (And.intro ht (And.intro hx hy))))))
          clear hyl hy1 hy2 hB ht hx hy hB0
          go_wp2_with fail
          go_region
          go_wp2_with fail
          have ev : ((x : Int) + (y : Int)) % 4294967296 = (((x + y) % M32 : Nat) : Int) := by simp [M32]
          rw [ev]
          go_roundw
          case rel =>
            obtain ⟨hyl, hy1, hy2, hB, ht, hx, hy⟩ := HB.out
            refine ⟨k + 1, ys.set k ((x + y) % M32), by omega, by first | rfl | (congr 1; omega), by simp [hyl], ?_, ?_, ?_, (Touch.setCell ht (p := ⟨sb, k, none⟩) (fun _ => rfl) _).drew⟩
            · intro j x' y' hj h1 h2
              by_cases e : k = j
              · subst e
                rw [hx] at h1; rw [hy] at h2
                cases h1; cases h2
                rw [List.getElem?_set_self (by omega)]
              · rw [List.getElem?_set_ne e]
                exact hy1 j x' y' (by omega) h1 h2
            · intro j hj
              rw [List.getElem?_set_ne (by omega)]
              exact hy2 j (by omega)
            · have h := (hB.set k (.int .u32 (((x + y) % M32 : Nat) : Int))).drew
              rw [u32s_set] at h
              exact h
          case measure => simp [intOf]; omega
    · have hil : i < 64 := by omega
      have hiI : (i : Int) < 64 := by omega
      obtain ⟨xx, hxx⟩ : ∃ xx, ws[i]? = some xx := ⟨_, List.getElem?_eq_getElem (by have := H2.out.2.1; omega)⟩
      obtain ⟨xk, hxk⟩ : ∃ xk, shaK[i]? = some xk := ⟨_, List.getElem?_eq_getElem (by have := shaK_len; omega)⟩
      have lx : xx < 4294967296 := H2.out.2.2.1 xx (List.mem_of_getElem? hxx)
      have lk : xk < 4294967296 := shaK_lt xk (List.mem_of_getElem? hxk)
      have hsucc := roundsTo_succ st ws i xk xx hxk hxx
      obtain ⟨xa, xb, xc, xd, xe, xf, xg, xh, hR⟩ := eight_of _ hrl
      rw [hR] at hrr hBs hsucc
      have la := hrr xa (by simp)
      have lb := hrr xb (by simp)
      have lc := hrr xc (by simp)
      have ld := hrr xd (by simp)
      have le := hrr xe (by simp)
      have lf := hrr xf (by simp)
      have lg := hrr xg (by simp)
      have lh := hrr xh (by simp)
      have hsk := H4.out.2.2.2.1.touch ht (fun x hx _ => by cases hx; exact H4.out.2.2.2.2.2.2.1)
      have hsw := H4.out.2.2.2.2.1.touch ht (fun x hx _ => by cases hx; exact H4.out.2.2.2.2.2.2.2)
      have hC : ∀ W, Touch (fun _ => False) wr W → W.cell? ⟨sb, 5, none⟩ = some (.int .u32 (xf : Int)) ∧ W.cell? ⟨sb, 6, none⟩ = some (.int .u32 (xg : Int)) ∧ W.cell? ⟨sb, 7, none⟩ = some (.int .u32 (xh : Int)) ∧ W.cell? ⟨gk, i, none⟩ = some (.int .u32 (xk : Int)) ∧ W.cell? ⟨gw, i, none⟩ = some (.int .u32 (xx : Int)) := fun W hW => by
        have hB := hBs.touch hW (fun h => h)
        refine ⟨hB.cell 5 rfl, hB.cell 6 rfl, hB.cell 7 rfl, ?_, ?_⟩
        · have := (hsk.touch hW (fun _ _ _ h => h) i (.int .u32 (xk : Int)) (by simp [u32s, hxk])).2
          simpa using this
        · have := (hsw.touch hW (fun _ _ _ h => h) i (.int .u32 (xx : Int)) (by simp [u32s, hxx])).2
          simpa using this
      have HC := Lib.hid hC
      have c0 := hBs.cell 0 (v := .int .u32 (xa : Int)) rfl
      have c4 := hBs.cell 4 (v := .int .u32 (xe : Int)) rfl
      have HR := Lib.hid (And.intro hR (And.intro hBs (And.intro ht (And.intro hsucc hrr))))
      clear hR hBs ht hsucc hxk hrr hxx hrl hsk hsw hC
      go_wp2_with fail
      clear c0 c4
      refine wp_region_held_drew (S := fun w' : World => w'.cell? ⟨sb, 5, none⟩ = some (.int .u32 (xf : Int)) ∧ w'.cell? ⟨sb, 6, none⟩ = some (.int .u32 (xg : Int)) ∧ w'.cell? ⟨sb, 7, none⟩ = some (.int .u32 (xh : Int)) ∧ w'.cell? ⟨gk, i, none⟩ = some (.int .u32 (xk : Int)) ∧ w'.cell? ⟨gw, i, none⟩ = some (.int .u32 (xx : Int))) (by kernel_rfl) (HC.out _ ((Touch.refl _ _).drew)) (fun hHeld => ?_)
      refine region_take 0 (v := ?vp0) rfl rfl (by kernel_rfl) (by kernel_rfl) (by kernel_rfl) (fun _ _ _ h => h) hHeld (Or.inl ⟨by rfl, ?yp0⟩) ?rp0
      case yp0 => (intro w hSw; (try dsimp only at hSw); go_simp; try with_reducible rfl)
      try simp only [Act.put, List.setIfInBounds_toArray, List.set_cons_zero, List.set_cons_succ]
      refine region_take 1 (v := ?vp1) rfl rfl (by kernel_rfl) (by kernel_rfl) (by kernel_rfl) (fun _ _ _ h => h) hHeld (Or.inl ⟨by rfl, ?yp1⟩) ?rp1
      case yp1 => (intro w hSw; (try dsimp only at hSw); go_simp; try with_reducible rfl)
      try simp only [Act.put, List.setIfInBounds_toArray, List.set_cons_zero, List.set_cons_succ]
      refine region_take 2 (v := ?vp2) rfl rfl (by kernel_rfl) (by kernel_rfl) (by kernel_rfl) (fun _ _ _ h => h) hHeld (Or.inl ⟨by rfl, ?yp2⟩) ?rp2
      case yp2 => (intro w hSw; (try dsimp only at hSw); go_simp; try with_reducible rfl)
      try simp only [Act.put, List.setIfInBounds_toArray, List.set_cons_zero, List.set_cons_succ]
      refine region_take 4 (v := ?vp4) rfl rfl (by kernel_rfl) (by kernel_rfl) (by kernel_rfl) (fun _ _ _ h => h) hHeld (Or.inl ⟨by rfl, ?yp4⟩) ?rp4
      case yp4 => (intro w hSw; (try dsimp only at hSw); go_simp; try with_reducible rfl)
      try simp only [Act.put, List.setIfInBounds_toArray, List.set_cons_zero, List.set_cons_succ]
      refine region_take 7 (v := ?vp7) rfl rfl (by kernel_rfl) (by kernel_rfl) (by kernel_rfl) (fun _ _ _ h => h) hHeld (Or.inl ⟨by rfl, ?yp7⟩) ?rp7
      case yp7 => (intro w hSw; (try dsimp only at hSw); go_simp; try with_reducible rfl)
      try simp only [Act.put, List.setIfInBounds_toArray, List.set_cons_zero, List.set_cons_succ]
      refine region_take 11 (v := ?vp11) rfl rfl (by kernel_rfl) (by kernel_rfl) (by kernel_rfl) (fun _ _ _ h => h) hHeld (Or.inl ⟨by rfl, ?yp11⟩) ?rp11
      case yp11 => (intro w hSw; (try dsimp only at hSw); go_simp; try with_reducible rfl)
      try simp only [Act.put, List.setIfInBounds_toArray, List.set_cons_zero, List.set_cons_succ]
      refine region_take 12 (v := ?vp12) rfl rfl (by kernel_rfl) (by kernel_rfl) (by kernel_rfl) (fun _ _ _ h => h) hHeld (Or.inl ⟨by rfl, ?yp12⟩) ?rp12
      case yp12 => (intro w hSw; (try dsimp only at hSw); go_simp; try with_reducible rfl)
      try simp only [Act.put, List.setIfInBounds_toArray, List.set_cons_zero, List.set_cons_succ]
      refine region_take 13 (v := ?vp13) rfl rfl (by kernel_rfl) (by kernel_rfl) (by kernel_rfl) (fun _ _ _ h => h) hHeld (Or.inl ⟨by rfl, ?yp13⟩) ?rp13
      case yp13 => (intro w hSw; (try dsimp only at hSw); go_simp; try with_reducible rfl)
      try simp only [Act.put, List.setIfInBounds_toArray, List.set_cons_zero, List.set_cons_succ]
      refine region_take 14 (v := ?vp14) rfl rfl (by kernel_rfl) (by kernel_rfl) (by kernel_rfl) (fun _ _ _ h => h) hHeld (Or.inl ⟨by rfl, ?yp14⟩) ?rp14
      case yp14 => (intro w hSw; (try dsimp only at hSw); go_simp; try with_reducible rfl)
      try simp only [Act.put, List.setIfInBounds_toArray, List.set_cons_zero, List.set_cons_succ]
      refine region_take 15 (v := ?vp15) rfl rfl (by kernel_rfl) (by kernel_rfl) (by kernel_rfl) (fun _ _ _ h => h) hHeld (Or.inl ⟨by rfl, ?yp15⟩) ?rp15
      case yp15 => (intro w hSw; (try dsimp only at hSw); go_simp; try with_reducible rfl)
      try simp only [Act.put, List.setIfInBounds_toArray, List.set_cons_zero, List.set_cons_succ]
      refine region_take 16 (v := ?vp16) rfl rfl (by kernel_rfl) (by kernel_rfl) (by kernel_rfl) (fun _ _ _ h => h) hHeld (Or.inl ⟨by rfl, ?yp16⟩) ?rp16
      case yp16 => (intro w hSw; (try dsimp only at hSw); go_simp; try with_reducible rfl)
      try simp only [Act.put, List.setIfInBounds_toArray, List.set_cons_zero, List.set_cons_succ]
      refine region_take 17 (v := ?vp17) rfl rfl (by kernel_rfl) (by kernel_rfl) (by kernel_rfl) (fun _ _ _ h => h) hHeld (Or.inl ⟨by rfl, ?yp17⟩) ?rp17
      case yp17 => (intro w hSw; (try dsimp only at hSw); go_simp; try with_reducible rfl)
      try simp only [Act.put, List.setIfInBounds_toArray, List.set_cons_zero, List.set_cons_succ]
      refine region_take 18 (v := ?vp18) rfl rfl (by kernel_rfl) (by kernel_rfl) (by kernel_rfl) (fun _ _ _ h => h) hHeld (Or.inl ⟨by rfl, ?yp18⟩) ?rp18
      case yp18 => (intro w hSw; (try dsimp only at hSw); go_simp; try with_reducible rfl)
      try simp only [Act.put, List.setIfInBounds_toArray, List.set_cons_zero, List.set_cons_succ]
      refine region_take 19 (v := ?vp19) rfl rfl (by kernel_rfl) (by kernel_rfl) (by kernel_rfl) (fun _ _ _ h => h) hHeld (Or.inl ⟨by rfl, ?yp19⟩) ?rp19
      case yp19 => (intro w hSw; (try dsimp only at hSw); go_simp; try with_reducible rfl)
      try simp only [Act.put, List.setIfInBounds_toArray, List.set_cons_zero, List.set_cons_succ]
      refine region_take 20 (v := ?vp20) rfl rfl (by kernel_rfl) (by kernel_rfl) (by kernel_rfl) (fun _ _ _ h => h) hHeld (Or.inl ⟨by rfl, ?yp20⟩) ?rp20
      case yp20 => (intro w hSw; (try dsimp only at hSw); go_simp; try with_reducible rfl)
      try simp only [Act.put, List.setIfInBounds_toArray, List.set_cons_zero, List.set_cons_succ]
      refine region_take 22 (v := ?vp22) rfl rfl (by kernel_rfl) (by kernel_rfl) (by kernel_rfl) (fun _ _ _ h => h) hHeld (Or.inl ⟨by rfl, ?yp22⟩) ?rp22
      case yp22 => (intro w hSw; (try dsimp only at hSw); go_simp; try with_reducible rfl)
      try simp only [Act.put, List.setIfInBounds_toArray, List.set_cons_zero, List.set_cons_succ]
      refine region_take 23 (v := ?vp23) rfl rfl (by kernel_rfl) (by kernel_rfl) (by kernel_rfl) (fun _ _ _ h => h) hHeld (Or.inl ⟨by rfl, ?yp23⟩) ?rp23
      case yp23 => (intro w hSw; (try dsimp only at hSw); go_simp; try with_reducible rfl)
      try simp only [Act.put, List.setIfInBounds_toArray, List.set_cons_zero, List.set_cons_succ]
      refine region_take 24 (v := ?vp24) rfl rfl (by kernel_rfl) (by kernel_rfl) (by kernel_rfl) (fun _ _ _ h => h) hHeld (Or.inl ⟨by rfl, ?yp24⟩) ?rp24
      case yp24 => (intro w hSw; (try dsimp only at hSw); go_simp; try with_reducible rfl)
      try simp only [Act.put, List.setIfInBounds_toArray, List.set_cons_zero, List.set_cons_succ]
      refine region_take 25 (v := ?vp25) rfl rfl (by kernel_rfl) (by kernel_rfl) (by kernel_rfl) (fun _ _ _ h => h) hHeld (Or.inl ⟨by rfl, ?yp25⟩) ?rp25
      case yp25 => (intro w hSw; (try dsimp only at hSw); go_simp; try with_reducible rfl)
      try simp only [Act.put, List.setIfInBounds_toArray, List.set_cons_zero, List.set_cons_succ]
      refine region_take 27 (v := ?vp27) rfl rfl (by kernel_rfl) (by kernel_rfl) (by kernel_rfl) (fun _ _ _ h => h) hHeld (Or.inl ⟨by rfl, ?yp27⟩) ?rp27
      case yp27 => (intro w hSw; (try dsimp only at hSw); go_simp; try with_reducible rfl)
      try simp only [Act.put, List.setIfInBounds_toArray, List.set_cons_zero, List.set_cons_succ]
      refine region_take 28 (v := ?vp28) rfl rfl (by kernel_rfl) (by kernel_rfl) (by kernel_rfl) (fun _ _ _ h => h) hHeld (Or.inl ⟨by rfl, ?yp28⟩) ?rp28
      case yp28 => (intro w hSw; (try dsimp only at hSw); go_simp; try with_reducible rfl)
      try simp only [Act.put, List.setIfInBounds_toArray, List.set_cons_zero, List.set_cons_succ]
      refine region_take 29 (v := ?vp29) rfl rfl (by kernel_rfl) (by kernel_rfl) (by kernel_rfl) (fun _ _ _ h => h) hHeld (Or.inl ⟨by rfl, ?yp29⟩) ?rp29
      case yp29 => (intro w hSw; (try dsimp only at hSw); go_simp; try with_reducible rfl)
      try simp only [Act.put, List.setIfInBounds_toArray, List.set_cons_zero, List.set_cons_succ]
      refine region_take 30 (v := ?vp30) rfl rfl (by kernel_rfl) (by kernel_rfl) (by kernel_rfl) (fun _ _ _ h => h) hHeld (Or.inl ⟨by rfl, ?yp30⟩) ?rp30
      case yp30 => (intro w hSw; (try dsimp only at hSw); go_simp; try with_reducible rfl)
      try simp only [Act.put, List.setIfInBounds_toArray, List.set_cons_zero, List.set_cons_succ]
      refine region_one 3 (by kernel_rfl) rfl (fun K hK => ?_)
      go_simp
      go_at_call 92
      (with_reducible refine (turn_int xe 6 6 rfl le (by decide) (by decide) _).mono ?_)
      rintro e up1 ⟨rfl, hb1⟩
      have tp1 := Lib.hid (((Touch.refl (fun _ => False) wr).drew).trans hb1)
      clear hb1
      refine hK.out _ _ (HC.out _ tp1.out) (fun hHeld2 => ?_)
      clear hK K hHeld
      have hHeld := hHeld2
      clear hHeld2
      try simp only [Act.put, List.setIfInBounds_toArray, List.set_cons_zero, List.set_cons_succ]
      refine region_one 5 (by kernel_rfl) rfl (fun K hK => ?_)
      go_simp
      go_at_call 92
      (with_reducible refine (turn_int xe 11 11 rfl le (by decide) (by decide) _).mono ?_)
      rintro e up2 ⟨rfl, hb2⟩
      have tp2 := Lib.hid (tp1.out.trans hb2)
      clear hb2
      refine hK.out _ _ (HC.out _ tp2.out) (fun hHeld2 => ?_)
      clear hK K hHeld
      have hHeld := hHeld2
      clear hHeld2
      try simp only [Act.put, List.setIfInBounds_toArray, List.set_cons_zero, List.set_cons_succ]
      refine region_take 6 (v := ?vp6) rfl rfl (by kernel_rfl) (by kernel_rfl) (by kernel_rfl) (fun _ _ _ h => h) hHeld (Or.inl ⟨by rfl, ?yp6⟩) ?rp6
      case yp6 => (intro w hSw; (try dsimp only at hSw); go_simp; try with_reducible rfl)
      try simp only [Act.put, List.setIfInBounds_toArray, List.set_cons_zero, List.set_cons_succ]
      refine region_one 8 (by kernel_rfl) rfl (fun K hK => ?_)
      go_simp
      go_at_call 92
      (with_reducible refine (turn_int xe 25 25 rfl le (by decide) (by decide) _).mono ?_)
      rintro e up3 ⟨rfl, hb3⟩
      have tp3 := Lib.hid (tp2.out.trans hb3)
      clear hb3
      refine hK.out _ _ (HC.out _ tp3.out) (fun hHeld2 => ?_)
      clear hK K hHeld
      have hHeld := hHeld2
      clear hHeld2
      try simp only [Act.put, List.setIfInBounds_toArray, List.set_cons_zero, List.set_cons_succ]
      refine region_take 9 (v := ?vp9) rfl rfl (by kernel_rfl) (by kernel_rfl) (by kernel_rfl) (fun _ _ _ h => h) hHeld (Or.inl ⟨by rfl, ?yp9⟩) ?rp9
      case yp9 => (intro w hSw; (try dsimp only at hSw); go_simp; try with_reducible rfl)
      try simp only [Act.put, List.setIfInBounds_toArray, List.set_cons_zero, List.set_cons_succ]
      refine region_take 10 (v := ?vp10) rfl rfl (by kernel_rfl) (by kernel_rfl) (by kernel_rfl) (fun _ _ _ h => h) hHeld (Or.inl ⟨by rfl, ?yp10⟩) ?rp10
      case yp10 => (intro w hSw; (try dsimp only at hSw); go_simp; try with_reducible rfl)
      try simp only [Act.put, List.setIfInBounds_toArray, List.set_cons_zero, List.set_cons_succ]
      refine region_take 21 (v := ?vp21) rfl rfl (by kernel_rfl) (by kernel_rfl) (by kernel_rfl) (fun _ _ _ h => h) hHeld (Or.inl ⟨by rfl, ?yp21⟩) ?rp21
      case yp21 => (intro w hSw; (try dsimp only at hSw); go_simp; try with_reducible rfl)
      try simp only [Act.put, List.setIfInBounds_toArray, List.set_cons_zero, List.set_cons_succ]
      refine region_take 26 (v := ?vp26) rfl rfl (by kernel_rfl) (by kernel_rfl) (by kernel_rfl) (fun _ _ _ h => h) hHeld (Or.inl ⟨by rfl, ?yp26⟩) ?rp26
      case yp26 => (intro w hSw; (try dsimp only at hSw); go_simp; try with_reducible rfl)
      try simp only [Act.put, List.setIfInBounds_toArray, List.set_cons_zero, List.set_cons_succ]
      refine region_take 31 (v := ?vp31) rfl rfl (by kernel_rfl) (by kernel_rfl) (by kernel_rfl) (fun _ _ _ h => h) hHeld (Or.inl ⟨by rfl, ?yp31⟩) ?rp31
      case yp31 => (intro w hSw; (try dsimp only at hSw); go_simp; try with_reducible rfl)
      try simp only [Act.put, List.setIfInBounds_toArray, List.set_cons_zero, List.set_cons_succ]
      refine region_take 32 (v := ?vp32) rfl rfl (by kernel_rfl) (by kernel_rfl) (by kernel_rfl) (fun _ _ _ h => h) hHeld (Or.inl ⟨by rfl, ?yp32⟩) ?rp32
      case yp32 => (intro w hSw; (try dsimp only at hSw); go_simp; try with_reducible rfl)
      try simp only [Act.put, List.setIfInBounds_toArray, List.set_cons_zero, List.set_cons_succ]
      refine wpAnyH_done (by kernel_rfl) ?_ _
      have hT : IntKind.u32.wrap (IntKind.u32.wrap (IntKind.u32.wrap (IntKind.u32.wrap ((xh : Int) + bits .xor .u32 (bits .xor .u32 ((rotr xe 6 : Nat) : Int) ((rotr xe 11 : Nat) : Int)) ((rotr xe 25 : Nat) : Int)) + bits .xor .u32 (bits .and .u32 (xe : Int) (xf : Int)) (bits .and .u32 (bits .xor .u32 (if IntKind.u32.signed = true then -1 else IntKind.u32.max) (xe : Int)) (xg : Int))) + (xk : Int)) + (xx : Int)) = (((xh + bsig1 xe + choose xe xf xg + xk + xx) % M32 : Nat) : Int) := by
        rw [show (if IntKind.u32.signed = true then -1 else IntKind.u32.max) = ((4294967295 : Nat) : Int) from rfl]
        rw [xor_u32 _ _ (rotr_lt _ _) (rotr_lt _ _), xor_u32 _ _ (xor_lt (rotr_lt _ _) (rotr_lt _ _)) (rotr_lt _ _), and_u32 xe xf le lf, xor_u32 4294967295 xe (by decide) le, and_u32 _ _ (xor_lt (by decide) le) lg, xor_u32 _ _ (and_lt lf) (and_lt lg), choose_ref xe xf xg le lf lg, wrap_u32, wrap_u32, wrap_u32, wrap_u32]
        unfold bsig1 M32
        omega
      rw [hT]
      obtain ⟨t, ht6⟩ : ∃ t, t = (xh + bsig1 xe + choose xe xf xg + xk + xx) % M32 := ⟨_, rfl⟩
      rw [← ht6]
      have lt6 : t < 4294967296 := by rw [ht6]; exact Nat.mod_lt _ (by decide)
      have HT := Lib.hid (And.intro ht6 tp3.out)
      clear hT ht6 tp1 tp2 tp3 HC
      go_wp2_with fail
      have hC : ∀ W, Touch (fun _ => False) up3 W → W.cell? ⟨sb, 1, none⟩ = some (.int .u32 (xb : Int)) ∧ W.cell? ⟨sb, 2, none⟩ = some (.int .u32 (xc : Int)) := fun W hW => by
        have hB := HR.out.2.1.touch (HT.out.2.trans hW) (fun h => h)
        exact ⟨hB.cell 1 rfl, hB.cell 2 rfl⟩
      have HC := Lib.hid hC
      clear hC
      refine wp_region_held_drew (S := fun w' : World => w'.cell? ⟨sb, 1, none⟩ = some (.int .u32 (xb : Int)) ∧ w'.cell? ⟨sb, 2, none⟩ = some (.int .u32 (xc : Int))) (by kernel_rfl) (HC.out _ ((Touch.refl _ _).drew)) (fun hHeld => ?_)
      refine region_take 0 (v := ?vq0) rfl rfl (by kernel_rfl) (by kernel_rfl) (by kernel_rfl) (fun _ _ _ h => h) hHeld (Or.inl ⟨by rfl, ?yq0⟩) ?rq0
      case yq0 => (intro w hSw; (try dsimp only at hSw); go_simp; try with_reducible rfl)
      try simp only [Act.put, List.setIfInBounds_toArray, List.set_cons_zero, List.set_cons_succ]
      refine region_take 2 (v := ?vq2) rfl rfl (by kernel_rfl) (by kernel_rfl) (by kernel_rfl) (fun _ _ _ h => h) hHeld (Or.inl ⟨by rfl, ?yq2⟩) ?rq2
      case yq2 => (intro w hSw; (try dsimp only at hSw); go_simp; try with_reducible rfl)
      try simp only [Act.put, List.setIfInBounds_toArray, List.set_cons_zero, List.set_cons_succ]
      refine region_take 5 (v := ?vq5) rfl rfl (by kernel_rfl) (by kernel_rfl) (by kernel_rfl) (fun _ _ _ h => h) hHeld (Or.inl ⟨by rfl, ?yq5⟩) ?rq5
      case yq5 => (intro w hSw; (try dsimp only at hSw); go_simp; try with_reducible rfl)
      try simp only [Act.put, List.setIfInBounds_toArray, List.set_cons_zero, List.set_cons_succ]
      refine region_take 8 (v := ?vq8) rfl rfl (by kernel_rfl) (by kernel_rfl) (by kernel_rfl) (fun _ _ _ h => h) hHeld (Or.inl ⟨by rfl, ?yq8⟩) ?rq8
      case yq8 => (intro w hSw; (try dsimp only at hSw); go_simp; try with_reducible rfl)
      try simp only [Act.put, List.setIfInBounds_toArray, List.set_cons_zero, List.set_cons_succ]
      refine region_take 9 (v := ?vq9) rfl rfl (by kernel_rfl) (by kernel_rfl) (by kernel_rfl) (fun _ _ _ h => h) hHeld (Or.inl ⟨by rfl, ?yq9⟩) ?rq9
      case yq9 => (intro w hSw; (try dsimp only at hSw); go_simp; try with_reducible rfl)
      try simp only [Act.put, List.setIfInBounds_toArray, List.set_cons_zero, List.set_cons_succ]
      refine region_take 10 (v := ?vq10) rfl rfl (by kernel_rfl) (by kernel_rfl) (by kernel_rfl) (fun _ _ _ h => h) hHeld (Or.inl ⟨by rfl, ?yq10⟩) ?rq10
      case yq10 => (intro w hSw; (try dsimp only at hSw); go_simp; try with_reducible rfl)
      try simp only [Act.put, List.setIfInBounds_toArray, List.set_cons_zero, List.set_cons_succ]
      refine region_take 11 (v := ?vq11) rfl rfl (by kernel_rfl) (by kernel_rfl) (by kernel_rfl) (fun _ _ _ h => h) hHeld (Or.inl ⟨by rfl, ?yq11⟩) ?rq11
      case yq11 => (intro w hSw; (try dsimp only at hSw); go_simp; try with_reducible rfl)
      try simp only [Act.put, List.setIfInBounds_toArray, List.set_cons_zero, List.set_cons_succ]
      refine region_take 12 (v := ?vq12) rfl rfl (by kernel_rfl) (by kernel_rfl) (by kernel_rfl) (fun _ _ _ h => h) hHeld (Or.inl ⟨by rfl, ?yq12⟩) ?rq12
      case yq12 => (intro w hSw; (try dsimp only at hSw); go_simp; try with_reducible rfl)
      try simp only [Act.put, List.setIfInBounds_toArray, List.set_cons_zero, List.set_cons_succ]
      refine region_take 13 (v := ?vq13) rfl rfl (by kernel_rfl) (by kernel_rfl) (by kernel_rfl) (fun _ _ _ h => h) hHeld (Or.inl ⟨by rfl, ?yq13⟩) ?rq13
      case yq13 => (intro w hSw; (try dsimp only at hSw); go_simp; try with_reducible rfl)
      try simp only [Act.put, List.setIfInBounds_toArray, List.set_cons_zero, List.set_cons_succ]
      refine region_take 14 (v := ?vq14) rfl rfl (by kernel_rfl) (by kernel_rfl) (by kernel_rfl) (fun _ _ _ h => h) hHeld (Or.inl ⟨by rfl, ?yq14⟩) ?rq14
      case yq14 => (intro w hSw; (try dsimp only at hSw); go_simp; try with_reducible rfl)
      try simp only [Act.put, List.setIfInBounds_toArray, List.set_cons_zero, List.set_cons_succ]
      refine region_take 15 (v := ?vq15) rfl rfl (by kernel_rfl) (by kernel_rfl) (by kernel_rfl) (fun _ _ _ h => h) hHeld (Or.inl ⟨by rfl, ?yq15⟩) ?rq15
      case yq15 => (intro w hSw; (try dsimp only at hSw); go_simp; try with_reducible rfl)
      try simp only [Act.put, List.setIfInBounds_toArray, List.set_cons_zero, List.set_cons_succ]
      refine region_take 16 (v := ?vq16) rfl rfl (by kernel_rfl) (by kernel_rfl) (by kernel_rfl) (fun _ _ _ h => h) hHeld (Or.inl ⟨by rfl, ?yq16⟩) ?rq16
      case yq16 => (intro w hSw; (try dsimp only at hSw); go_simp; try with_reducible rfl)
      try simp only [Act.put, List.setIfInBounds_toArray, List.set_cons_zero, List.set_cons_succ]
      refine region_take 17 (v := ?vq17) rfl rfl (by kernel_rfl) (by kernel_rfl) (by kernel_rfl) (fun _ _ _ h => h) hHeld (Or.inl ⟨by rfl, ?yq17⟩) ?rq17
      case yq17 => (intro w hSw; (try dsimp only at hSw); go_simp; try with_reducible rfl)
      try simp only [Act.put, List.setIfInBounds_toArray, List.set_cons_zero, List.set_cons_succ]
      refine region_take 18 (v := ?vq18) rfl rfl (by kernel_rfl) (by kernel_rfl) (by kernel_rfl) (fun _ _ _ h => h) hHeld (Or.inl ⟨by rfl, ?yq18⟩) ?rq18
      case yq18 => (intro w hSw; (try dsimp only at hSw); go_simp; try with_reducible rfl)
      try simp only [Act.put, List.setIfInBounds_toArray, List.set_cons_zero, List.set_cons_succ]
      refine region_take 19 (v := ?vq19) rfl rfl (by kernel_rfl) (by kernel_rfl) (by kernel_rfl) (fun _ _ _ h => h) hHeld (Or.inl ⟨by rfl, ?yq19⟩) ?rq19
      case yq19 => (intro w hSw; (try dsimp only at hSw); go_simp; try with_reducible rfl)
      try simp only [Act.put, List.setIfInBounds_toArray, List.set_cons_zero, List.set_cons_succ]
      refine region_take 20 (v := ?vq20) rfl rfl (by kernel_rfl) (by kernel_rfl) (by kernel_rfl) (fun _ _ _ h => h) hHeld (Or.inl ⟨by rfl, ?yq20⟩) ?rq20
      case yq20 => (intro w hSw; (try dsimp only at hSw); go_simp; try with_reducible rfl)
      try simp only [Act.put, List.setIfInBounds_toArray, List.set_cons_zero, List.set_cons_succ]
      refine region_take 21 (v := ?vq21) rfl rfl (by kernel_rfl) (by kernel_rfl) (by kernel_rfl) (fun _ _ _ h => h) hHeld (Or.inl ⟨by rfl, ?yq21⟩) ?rq21
      case yq21 => (intro w hSw; (try dsimp only at hSw); go_simp; try with_reducible rfl)
      try simp only [Act.put, List.setIfInBounds_toArray, List.set_cons_zero, List.set_cons_succ]
      refine region_take 22 (v := ?vq22) rfl rfl (by kernel_rfl) (by kernel_rfl) (by kernel_rfl) (fun _ _ _ h => h) hHeld (Or.inl ⟨by rfl, ?yq22⟩) ?rq22
      case yq22 => (intro w hSw; (try dsimp only at hSw); go_simp; try with_reducible rfl)
      try simp only [Act.put, List.setIfInBounds_toArray, List.set_cons_zero, List.set_cons_succ]
      refine region_one 1 (by kernel_rfl) rfl (fun K hK => ?_)
      go_simp
      go_at_call 92
      (with_reducible refine (turn_int xa 2 2 rfl la (by decide) (by decide) _).mono ?_)
      rintro e uq1 ⟨rfl, hb1⟩
      have tq1 := Lib.hid (((Touch.refl (fun _ => False) up3).drew).trans hb1)
      clear hb1
      refine hK.out _ _ (HC.out _ tq1.out) (fun hHeld2 => ?_)
      clear hK K hHeld
      have hHeld := hHeld2
      clear hHeld2
      try simp only [Act.put, List.setIfInBounds_toArray, List.set_cons_zero, List.set_cons_succ]
      refine region_one 3 (by kernel_rfl) rfl (fun K hK => ?_)
      go_simp
      go_at_call 92
      (with_reducible refine (turn_int xa 13 13 rfl la (by decide) (by decide) _).mono ?_)
      rintro e uq2 ⟨rfl, hb2⟩
      have tq2 := Lib.hid (tq1.out.trans hb2)
      clear hb2
      refine hK.out _ _ (HC.out _ tq2.out) (fun hHeld2 => ?_)
      clear hK K hHeld
      have hHeld := hHeld2
      clear hHeld2
      try simp only [Act.put, List.setIfInBounds_toArray, List.set_cons_zero, List.set_cons_succ]
      refine region_take 4 (v := ?vq4) rfl rfl (by kernel_rfl) (by kernel_rfl) (by kernel_rfl) (fun _ _ _ h => h) hHeld (Or.inl ⟨by rfl, ?yq4⟩) ?rq4
      case yq4 => (intro w hSw; (try dsimp only at hSw); go_simp; try with_reducible rfl)
      try simp only [Act.put, List.setIfInBounds_toArray, List.set_cons_zero, List.set_cons_succ]
      refine region_one 6 (by kernel_rfl) rfl (fun K hK => ?_)
      go_simp
      go_at_call 92
      (with_reducible refine (turn_int xa 22 22 rfl la (by decide) (by decide) _).mono ?_)
      rintro e uq3 ⟨rfl, hb3⟩
      have tq3 := Lib.hid (tq2.out.trans hb3)
      clear hb3
      refine hK.out _ _ (HC.out _ tq3.out) (fun hHeld2 => ?_)
      clear hK K hHeld
      have hHeld := hHeld2
      clear hHeld2
      try simp only [Act.put, List.setIfInBounds_toArray, List.set_cons_zero, List.set_cons_succ]
      refine region_take 7 (v := ?vq7) rfl rfl (by kernel_rfl) (by kernel_rfl) (by kernel_rfl) (fun _ _ _ h => h) hHeld (Or.inl ⟨by rfl, ?yq7⟩) ?rq7
      case yq7 => (intro w hSw; (try dsimp only at hSw); go_simp; try with_reducible rfl)
      try simp only [Act.put, List.setIfInBounds_toArray, List.set_cons_zero, List.set_cons_succ]
      refine region_take 23 (v := ?vq23) rfl rfl (by kernel_rfl) (by kernel_rfl) (by kernel_rfl) (fun _ _ _ h => h) hHeld (Or.inl ⟨by rfl, ?yq23⟩) ?rq23
      case yq23 => (intro w hSw; (try dsimp only at hSw); go_simp; try with_reducible rfl)
      try simp only [Act.put, List.setIfInBounds_toArray, List.set_cons_zero, List.set_cons_succ]
      refine region_take 24 (v := ?vq24) rfl rfl (by kernel_rfl) (by kernel_rfl) (by kernel_rfl) (fun _ _ _ h => h) hHeld (Or.inl ⟨by rfl, ?yq24⟩) ?rq24
      case yq24 => (intro w hSw; (try dsimp only at hSw); go_simp; try with_reducible rfl)
      try simp only [Act.put, List.setIfInBounds_toArray, List.set_cons_zero, List.set_cons_succ]
      refine wpAnyH_done (by kernel_rfl) ?_ _
      have hU : IntKind.u32.wrap (bits .xor .u32 (bits .xor .u32 ((rotr xa 2 : Nat) : Int) ((rotr xa 13 : Nat) : Int)) ((rotr xa 22 : Nat) : Int) + bits .xor .u32 (bits .xor .u32 (bits .and .u32 (xa : Int) (xb : Int)) (bits .and .u32 (xa : Int) (xc : Int))) (bits .and .u32 (xb : Int) (xc : Int))) = (((bsig0 xa + major xa xb xc) % M32 : Nat) : Int) := by
        rw [xor_u32 _ _ (rotr_lt _ _) (rotr_lt _ _), xor_u32 _ _ (xor_lt (rotr_lt _ _) (rotr_lt _ _)) (rotr_lt _ _), and_u32 _ _ la lb, and_u32 _ _ la lc, and_u32 _ _ lb lc, xor_u32 _ _ (and_lt lb) (and_lt lc), xor_u32 _ _ (xor_lt (and_lt lb) (and_lt lc)) (and_lt lc), major_ref, wrap_u32]
        unfold bsig0 M32
        rfl
      rw [hU]
      obtain ⟨u, hu7⟩ : ∃ u, u = (bsig0 xa + major xa xb xc) % M32 := ⟨_, rfl⟩
      rw [← hu7]
      have lu7 : u < 4294967296 := by rw [hu7]; exact Nat.mod_lt _ (by decide)
      have HU := Lib.hid (And.intro hu7 (HT.out.2.trans tq3.out))
      clear hU hu7 tq1 tq2 tq3 HC
      have hB8 := HR.out.2.1.touch (S := fun _ => False) HU.out.2 (fun h => h)
      have c0 := hB8.cell 0 (v := .int .u32 (xa : Int)) rfl
      have c1 := hB8.cell 1 (v := .int .u32 (xb : Int)) rfl
      have c2 := hB8.cell 2 (v := .int .u32 (xc : Int)) rfl
      have c3 := hB8.cell 3 (v := .int .u32 (xd : Int)) rfl
      have c4 := hB8.cell 4 (v := .int .u32 (xe : Int)) rfl
      have c5 := hB8.cell 5 (v := .int .u32 (xf : Int)) rfl
      have c6 := hB8.cell 6 (v := .int .u32 (xg : Int)) rfl
      have HB8 := Lib.hid hB8
      clear hB8
      go_wp2_with (refine wpList_store_blk rfl 92 (.tmp 7) (.tmp 101) rfl sb 92 _ (u32s [(t + u) % M32, xa, xb, xc, (xd + t) % M32, xe, xf, xg]).toArray rfl (by rfl) HB8.out (by kernel_rfl) (by kernel_rfl) (by kernel_rfl) ?_; intro w10 hB10 ht10 hs10)
      have H10 := Lib.hid (And.intro hB10 ht10)
      clear hB10 ht10 hs10
      go_roundw
      case rel =>
        obtain ⟨hR, hBs, ht, hsucc, hrr⟩ := HR.out
        have hs : shaRound [xa, xb, xc, xd, xe, xf, xg, xh] xk xx = [(t + u) % M32, xa, xb, xc, (xd + t) % M32, xe, xf, xg] := by
          rw [HT.out.1, HU.out.1]
          rfl
        rw [hs] at hsucc
        refine ⟨i + 1, by omega, by first | rfl | (congr 1; omega), by rw [hsucc]; rfl, ?_, ?_, (ht.trans (HU.out.2.mono (fun _ _ h => h.elim))).trans H10.out.2⟩
        · rw [hsucc]
          intro x hx
          have hm : (t + u) % M32 < 4294967296 := Nat.mod_lt _ (by decide)
          have hm2 : (xd + t) % M32 < 4294967296 := Nat.mod_lt _ (by decide)
          simp only [List.mem_cons, List.not_mem_nil, or_false] at hx
          rcases hx with rfl | rfl | rfl | rfl | rfl | rfl | rfl | rfl <;> assumption
        · rw [hsucc]
          exact H10.out.1
      case measure => simp [intOf]; omega
end Go.Proofs.Ythlkmofemnepbaa
