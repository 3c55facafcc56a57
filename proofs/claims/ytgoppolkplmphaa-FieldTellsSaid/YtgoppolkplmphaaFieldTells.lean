/-
  nightjarlaw04.FieldTells: for all bytes, every number, every size and all acts the law returns true. No conditions: for every input that can be read.
-/
import Derived.Test.YtgoppolkplmphaaRows
import Derived.Test.YtgoppolkplmphaaFieldLib
import Derived.Test.YtgoppolkplmphaaFieldRf
import Derived.Test.YtgoppolkplmphaaOpen
import Derived.Test.YtgoppolkplmphaaActs
import Derived.Test.YtgoppolkplmphaaRegion
namespace Go.Proofs.Ytgoppolkplmphaa
open Go.ChangeShapes Go.WideShapes Go.ChangeAt Go.RowKit

theorem RdIs.low {w w' : World} {rb base : Nat} {zs : List Int} {bad : Bool} (h : RdIs w rb base zs bad) {S : Nat → Prop} (ht : Touch S w w') (h1 : ∀ k, base ≤ k → k ≤ rb → ¬ S k) (hb : base ≤ rb) : RdIs w' rb base zs bad := by
  obtain ⟨a, cap, h⟩ := h
  exact ⟨a, cap, h.rd.touch ht (h1 _ hb (Nat.le_refl _)), h.cells.touch ht (fun x hx _ => h1 _ (h.apart x hx).2.1 (Nat.le_of_lt (h.low x hx))), h.nil, h.le, h.cap,
    fun x hx => ⟨(h.apart x hx).1, (h.apart x hx).2.1, Nat.lt_of_lt_of_le (h.apart x hx).2.2 ht.size⟩, h.low⟩

theorem RfIs.low {w w' : World} {rb base : Nat} {zs : List Int} {bad : Bool} (h : RfIs w rb base zs bad) {S : Nat → Prop} (ht : Touch S w w') (h1 : ∀ k, base ≤ k → k ≤ rb → ¬ S k) (hb : base ≤ rb) : RfIs w' rb base zs bad := by
  obtain ⟨a, cap, h⟩ := h
  exact ⟨a, cap, h.rd.touch ht (h1 _ hb (Nat.le_refl _)), h.cells.touch ht (fun x hx _ => h1 _ (h.apart x hx).2.1 (Nat.le_of_lt (h.low x hx))), h.nil, h.le, h.cap,
    fun x hx => ⟨(h.apart x hx).1, (h.apart x hx).2.1, Nat.lt_of_lt_of_le (h.apart x hx).2.2 ht.size⟩, h.low⟩

theorem rdTake_len (zs : List Int) (bad : Bool) (n : Int) : (rdTake zs bad n).1.length ≤ zs.length ∧ (rdTake zs bad n).2.1.length ≤ zs.length := by
  unfold rdTake; split
  · simp
  · simp
    omega

theorem rdTake_range (zs : List Int) (bad : Bool) (n : Int) (h : ∀ z ∈ zs, 0 ≤ z ∧ z < 256) : ∀ z ∈ (rdTake zs bad n).2.1, 0 ≤ z ∧ z < 256 := by
  unfold rdTake; split
  · intro z hz; cases hz
  · intro z hz; exact h z (List.mem_of_mem_drop hz)

theorem own_new {w : World} {base : Nat} {T : TypeId} {v : Value} {n : Nat} {xs : List Value} (h : w.ownsRow base T 1 v n xs) (hne : v = .slice none 0 0 → False) :
    ∃ g cg, v = .slice (some ⟨g, 0, none⟩) n cg ∧ base ≤ g ∧ g < w.heap.size := by
  rcases h.2 with ⟨e1, _⟩ | ⟨g, cg, cur, e1, e2, e3, _⟩
  · exact (hne e1).elim
  · exact ⟨g, cg, e1, e2, (Array.getElem?_eq_some_iff.1 e3).1⟩

theorem fieldTells_out (w : World) (a : Option Addr) (cap : Nat) (zs : List Int) (n size : Int) (b : Option Addr) (cb : Nat) (A : List (Int × Int))
    (h : 500 < (zs.length : Int) ∨ (zs.length : Int) ≤ 500 ∧ 100 < (A.length : Int)) :
    Calls Try.prog 7 #[.slice a zs.length cap, .int .i64 n, .int .i64 size, .slice b A.length cb] w fun e w' => e = .returned (.bool true) ∧ Below w.heap.size w w' := by
  rcases h with h1 | ⟨h1, h2⟩
  all_goals
    go_enter Try.func7, Try.ntmps7
    go_wp2_with fail
    refine (fieldSmall_any w).mono ?_
    rintro e w1 ⟨rfl, hb⟩
    go_wp2_with fail
    go_ret
    exact ⟨rfl, hb⟩

set_option maxRecDepth 100000 in
set_option maxHeartbeats 1000000 in
theorem fieldTells_in (w : World) (a : Option Addr) (cap : Nat) (zs : List Int) (hin : RowIn .u8 w a zs.length cap zs) (n size : Int) (b : Option Addr) (cb : Nat) (A : List (Int × Int)) (hac : PairsIn w b A.length cb A) (h1 : (zs.length : Int) ≤ 500) (h2 : (A.length : Int) ≤ 100) :
    Calls Try.prog 7 #[.slice a zs.length cap, .int .i64 n, .int .i64 size, .slice b A.length cb] w fun e w' => e = .returned (.bool true) ∧ Below w.heap.size w w' := by
  obtain ⟨i0, hi, hz0, hz1, hz2⟩ := info_parts Try.info5
  have hlec := hin.le
  have hran := hin.range
  have HIN := Lib.hid (And.intro hin (And.intro hac hran)); clear hin hac hran
  go_enter Try.func7, Try.ntmps7
  go_wp2_with fail
  refine (fieldSmall_any w).mono ?_
  rintro e wa ⟨rfl, hb⟩
  have hsa : SlAt wa a (bys zs) := HIN.out.1.bys.touch (Touch.of_below (S := fun _ => False) hb) (fun _ _ _ h => h)
  have hsv : SlAt (wa.alloc (.cells #[] 5)) a (bys zs) := hsa.touch ((Touch.refl (fun _ => False) _).alloc _) (fun _ _ _ h => h)
  have HB := Lib.hid (And.intro hb hsa)
  clear hb hsa
  go_wp2_with (at_builtin; refine wpList_append_any rfl (.tmp 27) (.tmp 28) 31 rfl wa.heap.size 5 i0 (.int .u8 0) 1 Try.underlying31 hi hz0 hz1 hz2 rfl _ 0 [] rfl (World.ownsRow_made wa #[] 0 (Nat.le_refl _) (Nat.zero_le _) rfl) a zs.length cap (bys zs) rfl (bys_length _) hsv HIN.out.1.nil (bys_one _) (by unfold maxLen; omega) (by omega) (by simp) ?_; intro v1 wb ho1 hg1 hnn; have tg : Touch (fun _ => False) wa wb := ((Touch.refl _ _).alloc _).grown hg1 (fun k hk => by cases hk; exact fun h => absurd h (Nat.lt_irrefl _)); (try simp only [Nat.zero_add, List.nil_append] at ho1); obtain ⟨g, cg, rfl, hgb, hgs⟩ : ∃ g cg, v1 = .slice (some ⟨g, 0, none⟩) zs.length cg ∧ wa.heap.size ≤ g ∧ g < wb.heap.size := own_new ho1 (fun e => by have h := (hnn.1 e).1; cases h); have H1 := Lib.hid (And.intro ho1 tg); clear ho1 hg1 hnn tg)
  refine (open_rd _ _ cg zs wb rfl (SlAt.of_owns H1.out.1) (fun h => by cases h) (by omega)).mono ?_
  rintro e wc ⟨rb, rfl, hrb, hr, hbc⟩
  have hrs : rb < wc.heap.size := by obtain ⟨_, _, h⟩ := hr; exact h.rd.lt
  have hsc : SlAt wc a (bys zs) := HB.out.2.touch (H1.out.2.trans (Touch.of_below (S := fun _ => False) hbc)) (fun _ _ _ h => h)
  have H2 := Lib.hid (And.intro hr (And.intro hbc hsc))
  clear hr hbc
  go_wp2_with fail
  refine (open_rf a zs.length cap zs wc rfl hsc HIN.out.1.nil (by omega)).mono ?_
  rintro e wd ⟨sb, rfl, hsb, hs, hbd⟩
  have hss : sb < wd.heap.size := by obtain ⟨_, _, h⟩ := hs; exact h.rd.lt
  have tbd : Touch (fun _ => False) wb wd := (Touch.of_below H2.out.2.1).trans (Touch.of_below hbd)
  have how : wd.ownsRow wa.heap.size 5 1 (.slice (some ⟨g, 0, none⟩) zs.length cg) zs.length (bys zs) := owns_touch H1.out.1 tbd (fun _ _ h => h)
  have hrd := H2.out.1.touch (Touch.of_below (S := fun _ => False) hbd) (fun h => h) (fun _ _ _ h => h)
  have hsd : SlAt wd a (bys zs) := HB.out.2.touch (H1.out.2.trans tbd) (fun _ _ _ h => h)
  have H3 := Lib.hid (And.intro hrd (And.intro hs (And.intro how (And.intro hsd (H1.out.2.trans tbd)))))
  clear hs hbd tbd how hrd hsd hsc
  go_wp2_with fail
  obtain ⟨X, hXX⟩ : ∃ X, X = zs ++ putList n (fitN size) (fitN size) := ⟨_, rfl⟩
  obtain ⟨M, hX⟩ : ∃ M, X.length = M := ⟨_, rfl⟩
  refine wp_region_held_drew (S := fun _ => True) (by kernel_rfl) (trivial) (fun hHeld => ?_)
  refine region_take 0 (v := ?va0) rfl rfl (by kernel_rfl) (by kernel_rfl) (by kernel_rfl) (fun _ _ _ h => h) hHeld (Or.inl ⟨by rfl, ?ya0⟩) ?ra0
  case ya0 => (intro w hSw; (try dsimp only at hSw); go_simp; try with_reducible rfl)
  try simp only [Act.put, List.setIfInBounds_toArray, List.set_cons_zero, List.set_cons_succ]
  refine region_take 1 (v := ?va1) rfl rfl (by kernel_rfl) (by kernel_rfl) (by kernel_rfl) (fun _ _ _ h => h) hHeld (Or.inl ⟨by rfl, ?ya1⟩) ?ra1
  case ya1 => (intro w hSw; (try dsimp only at hSw); go_simp; try with_reducible rfl)
  try simp only [Act.put, List.setIfInBounds_toArray, List.set_cons_zero, List.set_cons_succ]
  refine region_take 2 (v := ?va2) rfl rfl (by kernel_rfl) (by kernel_rfl) (by kernel_rfl) (fun _ _ _ h => h) hHeld (Or.inl ⟨by rfl, ?ya2⟩) ?ra2
  case ya2 => (intro w hSw; (try dsimp only at hSw); go_simp; try with_reducible rfl)
  try simp only [Act.put, List.setIfInBounds_toArray, List.set_cons_zero, List.set_cons_succ]
  refine region_take 3 (v := ?va3) rfl rfl (by kernel_rfl) (by kernel_rfl) (by kernel_rfl) (fun _ _ _ h => h) hHeld (Or.inl ⟨by rfl, ?ya3⟩) ?ra3
  case ya3 => (intro w hSw; (try dsimp only at hSw); go_simp; try with_reducible rfl)
  try simp only [Act.put, List.setIfInBounds_toArray, List.set_cons_zero, List.set_cons_succ]
  refine region_take 4 (v := ?va4) rfl rfl (by kernel_rfl) (by kernel_rfl) (by kernel_rfl) (fun _ _ _ h => h) hHeld (Or.inl ⟨by rfl, ?ya4⟩) ?ra4
  case ya4 => (intro w hSw; (try dsimp only at hSw); go_simp; try with_reducible rfl)
  try simp only [Act.put, List.setIfInBounds_toArray, List.set_cons_zero, List.set_cons_succ]
  refine region_take 5 (v := ?va5) rfl rfl (by kernel_rfl) (by kernel_rfl) (by kernel_rfl) (fun _ _ _ h => h) hHeld (Or.inl ⟨by rfl, ?ya5⟩) ?ra5
  case ya5 => (intro w hSw; (try dsimp only at hSw); go_simp; try with_reducible rfl)
  try simp only [Act.put, List.setIfInBounds_toArray, List.set_cons_zero, List.set_cons_succ]
  refine region_take 8 (v := ?va8) rfl rfl (by kernel_rfl) (by kernel_rfl) (by kernel_rfl) (fun _ _ _ h => h) hHeld (Or.inl ⟨by rfl, ?ya8⟩) ?ra8
  case ya8 => (intro w hSw; (try dsimp only at hSw); go_simp; try with_reducible rfl)
  try simp only [Act.put, List.setIfInBounds_toArray, List.set_cons_zero, List.set_cons_succ]
  refine region_take 9 (v := ?va9) rfl rfl (by kernel_rfl) (by kernel_rfl) (by kernel_rfl) (fun _ _ _ h => h) hHeld (Or.inl ⟨by rfl, ?ya9⟩) ?ra9
  case ya9 => (intro w hSw; (try dsimp only at hSw); go_simp; try with_reducible rfl)
  try simp only [Act.put, List.setIfInBounds_toArray, List.set_cons_zero, List.set_cons_succ]
  refine region_take 10 (v := ?va10) rfl rfl (by kernel_rfl) (by kernel_rfl) (by kernel_rfl) (fun _ _ _ h => h) hHeld (Or.inl ⟨by rfl, ?ya10⟩) ?ra10
  case ya10 => (intro w hSw; (try dsimp only at hSw); go_simp; try with_reducible rfl)
  try simp only [Act.put, List.setIfInBounds_toArray, List.set_cons_zero, List.set_cons_succ]
  refine region_one 6 (by kernel_rfl) rfl (fun K hK => ?_)
  go_simp
  go_at_call 25
  refine (put_any _ _ cg zs n size _ rfl ((SlAt.of_owns H3.out.2.2.1).touch ((Touch.refl (fun _ => False) _).drew) (fun _ _ _ h => h)) (fun h => by cases h) (by omega)).mono ?_
  rintro e w1 ⟨v1, rfl, ho1, hb1⟩
  rw [← hXX, bys_length, hX] at ho1
  obtain ⟨p1, c1, rfl, _, _, _, _⟩ := owns_form ho1
  have P1 := Lib.hid (And.intro ho1 (Touch.of_below (S := fun _ => False) hb1))
  clear ho1 hb1
  refine hK.out _ _ (trivial) (fun _ => ?_)
  clear hK K hHeld
  refine region_more (S' := fun w' : World => (convert 31 9 (.slice p1 M c1)).run Try.prog w' = .ok (.string (strOfNums X)) w') (fun _ h => trivial) _ _ _ _ ?_
  have hHeld : (fun w' : World => (convert 31 9 (.slice p1 M c1)).run Try.prog w' = .ok (.string (strOfNums X)) w') _ := str_of P1.out.1
  try simp only [Act.put, List.setIfInBounds_toArray, List.set_cons_zero, List.set_cons_succ]
  refine region_take 7 (v := ?va7) rfl rfl (by kernel_rfl) (by kernel_rfl) (by kernel_rfl) (fun _ _ _ h => h) hHeld (Or.inl ⟨by rfl, ?ya7⟩) ?ra7
  case ya7 => (intro w hSw; (try dsimp only at hSw); go_simp; try with_reducible rfl)
  try simp only [Act.put, List.setIfInBounds_toArray, List.set_cons_zero, List.set_cons_succ]
  refine region_one 11 (by kernel_rfl) rfl (fun K hK => ?_)
  go_simp
  go_at_call 26
  refine (refput_any a _ cap zs n size _ rfl (H3.out.2.2.2.1.touch (((Touch.refl (fun _ => False) _).drew).trans P1.out.2) (fun _ _ _ h => h)) HIN.out.1.nil (by omega)).mono ?_
  rintro e w2 ⟨v2, rfl, ho2, hb2⟩
  rw [← hXX, bys_length, hX] at ho2
  obtain ⟨p2, c2, rfl, _, _, _, _⟩ := owns_form ho2
  have P2 := Lib.hid (And.intro ho2 (Touch.of_below (S := fun _ => False) hb2))
  clear ho2 hb2
  refine hK.out _ _ (str_of (owns_touch P1.out.1 P2.out.2 (fun _ _ h => h))) (fun _ => ?_)
  clear hK K hHeld
  refine region_more (S' := fun w' : World => ((convert 31 9 (.slice p1 M c1)).run Try.prog w' = .ok (.string (strOfNums X)) w') ∧ ((convert 31 9 (.slice p2 M c2)).run Try.prog w' = .ok (.string (strOfNums X)) w')) (fun _ h => h.1) _ _ _ _ ?_
  have hHeld : (fun w' : World => ((convert 31 9 (.slice p1 M c1)).run Try.prog w' = .ok (.string (strOfNums X)) w') ∧ ((convert 31 9 (.slice p2 M c2)).run Try.prog w' = .ok (.string (strOfNums X)) w')) _ := ⟨str_of (owns_touch P1.out.1 P2.out.2 (fun _ _ h => h)), str_of P2.out.1⟩
  try simp only [Act.put, List.setIfInBounds_toArray, List.set_cons_zero, List.set_cons_succ]
  refine region_take 12 (v := ?va12) rfl rfl (by kernel_rfl) (by kernel_rfl) (by kernel_rfl) (fun _ _ _ h => h) hHeld (Or.inl ⟨by rfl, ?ya12⟩) ?ra12
  case ya12 => (intro w hSw; (try dsimp only at hSw); go_simp; try with_reducible rfl)
  try simp only [Act.put, List.setIfInBounds_toArray, List.set_cons_zero, List.set_cons_succ]
  refine region_take 13 (v := ?va13) rfl rfl (by kernel_rfl) (by kernel_rfl) (by kernel_rfl) (fun _ _ _ h => h) hHeld (Or.inl ⟨by rfl, ?ya13⟩) ?ra13
  case ya13 => (intro w hSw; (try dsimp only at hSw); go_simp; try with_reducible rfl)
  try simp only [Act.put, List.setIfInBounds_toArray, List.set_cons_zero, List.set_cons_succ]
  refine region_take 14 (v := ?va14) rfl rfl (by kernel_rfl) (by kernel_rfl) (by kernel_rfl) (fun _ _ _ h => h) hHeld (Or.inl ⟨by rfl, ?ya14⟩) ?ra14
  case ya14 => (intro w hSw; (try dsimp only at hSw); go_simp; try with_reducible rfl)
  try simp only [Act.put, List.setIfInBounds_toArray, List.set_cons_zero, List.set_cons_succ]
  refine wpAnyH_done (by kernel_rfl) ?_ _
  have tw2 : Touch (fun _ => False) wd w2 := (((Touch.refl _ _).drew).trans P1.out.2).trans P2.out.2
  obtain ⟨B1, hB1, hrd⟩ : ∃ B1, (g < B1 ∧ B1 ≤ rb) ∧ RdIs w2 rb B1 zs false := ⟨_, ⟨hgs, hrb⟩, H3.out.1.touch tw2 (fun h => h) (fun _ _ _ h => h)⟩
  obtain ⟨B2, hB2, hrf⟩ : ∃ B2, (rb < B2 ∧ B2 ≤ sb) ∧ RfIs w2 sb B2 zs false := ⟨_, ⟨hrs, hsb⟩, H3.out.2.1.touch tw2 (fun h => h) (fun _ _ _ h => h)⟩
  obtain ⟨cur, hcs, hBg⟩ : ∃ cur : Array Value, (cur.size = cg ∧ zs.length ≤ cg) ∧ Blk w2 g 5 cur := by
    rcases H3.out.2.2.1.2 with ⟨e, _⟩ | ⟨g', c', cur, e, _, hh, hn, _, hcz, _⟩
    · cases e
    · cases e
      exact ⟨cur, ⟨by simpa using hcz, hn⟩, Blk.touch (S := fun _ => False) hh tw2 (fun h => h)⟩
  have hsz2 : sb < w2.heap.size := by obtain ⟨_, _, h⟩ := hrf; exact h.rd.lt
  have FIN := Lib.hid (And.intro (HB.out.1) (H3.out.2.2.2.2.trans tw2))
  have HG := Lib.hid (And.intro hcs (And.intro hBg (And.intro hrd (And.intro hrf (And.intro hB1 hB2)))))
  clear hcs hBg hrd hrf tw2 P1 P2 hHeld hXX hX H1 H2 H3
  go_wp2_with fail
  go_loopw [13] (fun i wz => ∃ (j : Nat) (cur : Array Value), j ≤ zs.length ∧ i = .int .i64 j ∧ cur.size = cg ∧ Blk wz g 5 cur ∧ Touch (fun k => k = g) w2 wz) (fun i _ => (zs.length - intOf i).toNat)
  case atStart => exact ⟨0, cur, Nat.zero_le _, rfl, HG.out.1.1, HG.out.2.1, Touch.refl _ _⟩
  case round =>
    obtain ⟨j, cur', hj, rfl, hcz, hBz, htz⟩ := hrel
    by_cases hq : j = zs.length
    · subst hq
      obtain ⟨⟨_, _⟩, _, hrd, hrf, hB1, hB2⟩ := HG.out
      have hrd2 := hrd.low htz (fun k h1 h2 e => by omega) (by omega)
      have hrf2 := hrf.low htz (fun k h1 h2 e => by omega) (by omega)
      have H5 := Lib.hid (And.intro hrd2 (And.intro hrf2 htz))
      clear hrd hrf hrd2 hrf2 htz hBz
      have pin : ∀ W, Touch (fun k => k = g ∨ k = rb ∨ k = sb) w2 W → PairsIn W b A.length cb A := fun W hW =>
        HIN.out.2.1.touch ((Touch.of_below (S := fun k => k = g ∨ k = rb ∨ k = sb) FIN.out.1).trans ((FIN.out.2.mono (fun _ _ h => h.elim)).trans hW)) (fun k hk e => by have := FIN.out.1.size; omega)
      have fin : ∀ W, Touch (fun k => k = g ∨ k = rb ∨ k = sb) w2 W → Below w.heap.size w W := fun W hW =>
        FIN.out.1.trans (((FIN.out.2.mono (fun _ _ h => h.elim)).trans hW).below FIN.out.1.size (fun k hk e => by have := FIN.out.1.size; omega))
      have HP := Lib.hid (And.intro pin fin)
      clear pin fin
      go_wp2_with fail
      go_loopw [14] (fun i wz => ∃ (j : Nat) (ys : List Int) (bad : Bool), j ≤ A.length ∧ i = .int .i64 j ∧ ys.length ≤ 500 ∧ (∀ z ∈ ys, 0 ≤ z ∧ z < 256) ∧ RdIs wz rb B1 ys bad ∧ RfIs wz sb B2 ys bad ∧ Touch (fun k => k = g ∨ k = rb ∨ k = sb) w2 wz) (fun i _ => (A.length - intOf i).toNat)
      case atStart => exact ⟨0, zs, false, Nat.zero_le _, rfl, by omega, HIN.out.2.2, H5.out.1, H5.out.2.1, H5.out.2.2.mono (fun _ _ h => .inl h)⟩
      case round =>
        obtain ⟨j, ys, bad, hj, rfl, hyl, hyr, hrz, hfz, htz⟩ := hrel
        by_cases hq : j = A.length
        · subst hq
          go_wp2_with fail
          go_ret
          exact ⟨rfl, HP.out.2 _ htz⟩
        · have hjl : j < A.length := by omega
          have hp : A[j]? = some (A[j]'hjl) := by simp
          generalize (A[j]'hjl) = p at hp
          obtain ⟨Do, N⟩ := p
          obtain ⟨bb, oo, rfl, hbl, hc0, hc1⟩ := (HP.out.1 _ htz).cells j _ hp
          simp only at hc0 hc1
          have C : ∀ W, Touch (fun k => k = g ∨ k = rb ∨ k = sb) w2 W → W.cell? ⟨bb, oo + j * 2, none⟩ = some (.int .i64 Do) ∧ W.cell? ⟨bb, oo + j * 2 + 1, none⟩ = some (.int .i64 N) := fun W hW => by
            obtain ⟨b2, o2, e2, _, q0, q1⟩ := (HP.out.1 _ hW).cells j _ hp
            cases e2
            exact ⟨q0, q1⟩
          have HC := Lib.hid C
          have hcap : (A.length : Int) ≤ cb := by have := HIN.out.2.1.le; omega
          have hj1 : (j : Int) < A.length := by omega
          have hj0 : (0 : Int) ≤ j := by omega
          have hsl : sb < wr.heap.size := Nat.lt_of_lt_of_le hsz2 htz.size
          have R0 := Lib.hid (And.intro hrz (And.intro hfz (And.intro htz (And.intro hyr hsl))))
          clear C hp hbl hrz hfz htz hyr
          by_cases hd : Do = 0
          · subst hd
            obtain ⟨r, hrr⟩ : ∃ r, rdTake ys bad (fitN N) = r := ⟨_, rfl⟩
            have hl2 : r.2.1.length ≤ 500 := by have := (rdTake_len ys bad (fitN N)).2; rw [hrr] at this; omega
            have hr2 := rdTake_range ys bad (fitN N) R0.out.2.2.2.1
            rw [hrr] at hr2
            go_wp2_with fail
            refine (num_rd rb B1 ys bad N _ R0.out.1 (by omega) R0.out.2.2.2.1).mono ?_
            rintro e w3 ⟨rfl, hr3, ht3⟩
            rw [hrr] at hr3 ⊢
            have tc3 := R0.out.2.2.1.trans (ht3.mono (fun _ _ h => .inr (.inl h)))
            obtain ⟨d0, d1⟩ := HC.out _ tc3
            have hf3 := R0.out.2.1.low ht3 (fun k h1 h2 e => by have := HG.out.2.2.2.2; omega) (by have := HG.out.2.2.2.2; omega)
            have R1 := Lib.hid (And.intro hr3 (And.intro hf3 tc3))
            clear hr3 hf3 tc3 ht3 hc0 hc1
            go_wp2_with fail
            refine (num_rf sb B2 ys bad N _ R1.out.2.1 (by omega) R0.out.2.2.2.1).mono ?_
            rintro e w4 ⟨rfl, hf4, ht4⟩
            rw [hrr] at hf4 ⊢
            have hr4 := R1.out.1.low ht4 (fun k h1 h2 e => by have := HG.out.2.2.2.2; omega) (by have := HG.out.2.2.2.2; omega)
            have tc4 := R1.out.2.2.trans (ht4.mono (fun _ _ h => .inr (.inr h)))
            have R2 := Lib.hid (And.intro hr2 tc4)
            clear ht4 tc4 hr2 R1 d0 d1
            go_wp2_with fail
            refine (left_rd rb B1 _ _ _ hr4).mono ?_
            rintro e w5 ⟨rfl, rfl⟩
            go_wp2_with fail
            refine (left_rf sb B2 _ _ _ hf4).mono ?_
            rintro e w5 ⟨rfl, rfl⟩
            go_wp2_with fail
            refine (done_rd rb B1 _ _ _ hr4).mono ?_
            rintro e w5 ⟨rfl, rfl⟩
            go_wp2_with fail
            refine (done_rf sb B2 _ _ _ hf4).mono ?_
            rintro e w5 ⟨rfl, rfl⟩
            go_wp2_with fail
            go_roundw
            case rel => exact ⟨j + 1, r.2.1, r.2.2, hjl, by first | rfl | (congr 1; omega), hl2, R2.out.1, hr4, hf4, R2.out.2⟩
            case measure => simp [intOf]; omega
          · obtain ⟨r, hrr⟩ : ∃ r, rdTake ys bad N = r := ⟨_, rfl⟩
            obtain ⟨m, hrl⟩ : ∃ m, r.1.length = m := ⟨_, rfl⟩
            have hm5 : m ≤ 500 := by have := (rdTake_len ys bad N).1; rw [hrr] at this; omega
            have hl2 : r.2.1.length ≤ 500 := by have := (rdTake_len ys bad N).2; rw [hrr] at this; omega
            have hr2 := rdTake_range ys bad N R0.out.2.2.2.1
            rw [hrr] at hr2
            have HR2 := Lib.hid hr2
            clear hr2
            go_wp2_with fail
            refine (take_rd rb B1 ys bad N _ R0.out.1 (by omega)).mono ?_
            rintro e w3 ⟨v3, rfl, ho3, hr3, ht3⟩
            have hsz3 := ht3.size
            rw [hrr, hrl] at ho3
            rw [hrr] at hr3
            obtain ⟨px, cx, rfl, _, _, _, _⟩ := owns_form ho3
            have tc3 := R0.out.2.2.1.trans (ht3.mono (fun _ _ h => .inr (.inl h)))
            have hc3 := (HC.out _ tc3).2
            have hf3 := R0.out.2.1.low ht3 (fun k h1 h2 e => by have := HG.out.2.2.2.2; omega) (by have := HG.out.2.2.2.2; omega)
            have R1 := Lib.hid (And.intro hr3 (And.intro hf3 (And.intro ho3 (And.intro tc3 hsl))))
            clear hr3 hf3 tc3 ht3 hc0 hc1 ho3
            have Hrr := Lib.hid hrr
            have Hrl := Lib.hid hrl
            go_wp2_with fail
            refine wp_region_held_drew (S := fun w' : World => (convert 31 9 (.slice px m cx)).run Try.prog w' = .ok (.string (strOfNums r.1)) w' ∧ w'.cell? ⟨bb, oo + j * 2 + 1, none⟩ = some (.int .i64 N)) (by kernel_rfl) (⟨str_of R1.out.2.2.1, hc3⟩) (fun hHeld => ?_)
            refine region_take 0 (v := ?vb0) rfl rfl (by kernel_rfl) (by kernel_rfl) (by kernel_rfl) (fun _ _ _ h => h) hHeld (Or.inl ⟨by rfl, ?yb0⟩) ?rb0
            case yb0 => (intro w hSw; (try dsimp only at hSw); go_simp; try with_reducible rfl)
            try simp only [Act.put, List.setIfInBounds_toArray, List.set_cons_zero, List.set_cons_succ]
            refine region_take 1 (v := ?vb1) rfl rfl (by kernel_rfl) (by kernel_rfl) (by kernel_rfl) (fun _ _ _ h => h) hHeld (Or.inl ⟨by rfl, ?yb1⟩) ?rb1
            case yb1 => (intro w hSw; (try dsimp only at hSw); go_simp; try with_reducible rfl)
            try simp only [Act.put, List.setIfInBounds_toArray, List.set_cons_zero, List.set_cons_succ]
            refine region_take 2 (v := ?vb2) rfl rfl (by kernel_rfl) (by kernel_rfl) (by kernel_rfl) (fun _ _ _ h => h) hHeld (Or.inl ⟨by rfl, ?yb2⟩) ?rb2
            case yb2 => (intro w hSw; (try dsimp only at hSw); go_simp; try with_reducible rfl)
            try simp only [Act.put, List.setIfInBounds_toArray, List.set_cons_zero, List.set_cons_succ]
            refine region_take 3 (v := ?vb3) rfl rfl (by kernel_rfl) (by kernel_rfl) (by kernel_rfl) (fun _ _ _ h => h) hHeld (Or.inl ⟨by rfl, ?yb3⟩) ?rb3
            case yb3 => (intro w hSw; (try dsimp only at hSw); go_simp; try with_reducible rfl)
            try simp only [Act.put, List.setIfInBounds_toArray, List.set_cons_zero, List.set_cons_succ]
            refine region_take 4 (v := ?vb4) rfl rfl (by kernel_rfl) (by kernel_rfl) (by kernel_rfl) (fun _ _ _ h => h) hHeld (Or.inl ⟨by rfl, ?yb4⟩) ?rb4
            case yb4 => (intro w hSw; (try dsimp only at hSw); go_simp; try with_reducible rfl)
            try simp only [Act.put, List.setIfInBounds_toArray, List.set_cons_zero, List.set_cons_succ]
            refine region_take 5 (v := ?vb5) rfl rfl (by kernel_rfl) (by kernel_rfl) (by kernel_rfl) (fun _ _ _ h => h) hHeld (Or.inl ⟨by rfl, ?yb5⟩) ?rb5
            case yb5 => (intro w hSw; (try dsimp only at hSw); go_simp; try with_reducible rfl)
            try simp only [Act.put, List.setIfInBounds_toArray, List.set_cons_zero, List.set_cons_succ]
            refine region_take 6 (v := ?vb6) rfl rfl (by kernel_rfl) (by kernel_rfl) (by kernel_rfl) (fun _ _ _ h => h) hHeld (Or.inl ⟨by rfl, ?yb6⟩) ?rb6
            case yb6 => (intro w hSw; (try dsimp only at hSw); go_simp; try with_reducible rfl)
            try simp only [Act.put, List.setIfInBounds_toArray, List.set_cons_zero, List.set_cons_succ]
            refine region_take 7 (v := ?vb7) rfl rfl (by kernel_rfl) (by kernel_rfl) (by kernel_rfl) (fun _ _ _ h => h) hHeld (Or.inl ⟨by rfl, ?yb7⟩) ?rb7
            case yb7 => (intro w hSw; (try dsimp only at hSw); go_simp; try with_reducible rfl)
            try simp only [Act.put, List.setIfInBounds_toArray, List.set_cons_zero, List.set_cons_succ]
            refine region_one 8 (by kernel_rfl) rfl (fun K hK => ?_)
            go_simp
            go_at_call 30
            refine (take_rf sb B2 ys bad N _ ((R1.out.2.1).touch ((Touch.refl (fun _ => False) _).drew) (fun h => h) (fun _ _ _ h => h)) (by omega)).mono ?_
            rintro e w4 ⟨v4, rfl, ho4, hs4, ht4⟩
            rw [hrr, hrl] at ho4
            rw [hrr] at hs4
            obtain ⟨p4, c4, rfl, _, _, _, _⟩ := owns_form ho4
            have ox4 := owns_touch R1.out.2.2.1 (((Touch.refl _ _).drew).trans ht4) (fun k hk e => by have := (R1.out.2.2.1.lt k hk).1; have := R1.out.2.2.2.2; omega)
            have hc4 := (HC.out _ ((R1.out.2.2.2.1.drew).trans (ht4.mono (fun _ _ h => .inr (.inr h))))).2
            have hsz4 := ht4.size
            have R2 := Lib.hid (And.intro ho4 (And.intro hs4 (And.intro ht4 ox4)))
            clear ho4 hs4 ht4 ox4
            refine hK.out _ _ (⟨str_of R2.out.2.2.2, hc4⟩) (fun _ => ?_)
            clear hK K hHeld
            refine region_more (S' := fun w' : World => ((convert 31 9 (.slice px m cx)).run Try.prog w' = .ok (.string (strOfNums r.1)) w' ∧ w'.cell? ⟨bb, oo + j * 2 + 1, none⟩ = some (.int .i64 N)) ∧ ((convert 31 9 (.slice p4 m c4)).run Try.prog w' = .ok (.string (strOfNums r.1)) w')) (fun _ h => h.1) _ _ _ _ ?_
            have hHeld : (fun w' : World => ((convert 31 9 (.slice px m cx)).run Try.prog w' = .ok (.string (strOfNums r.1)) w' ∧ w'.cell? ⟨bb, oo + j * 2 + 1, none⟩ = some (.int .i64 N)) ∧ ((convert 31 9 (.slice p4 m c4)).run Try.prog w' = .ok (.string (strOfNums r.1)) w')) _ := ⟨⟨str_of R2.out.2.2.2, hc4⟩, str_of R2.out.1⟩
            try simp only [Act.put, List.setIfInBounds_toArray, List.set_cons_zero, List.set_cons_succ]
            refine region_take 9 (v := ?vb9) rfl rfl (by kernel_rfl) (by kernel_rfl) (by kernel_rfl) (fun _ _ _ h => h) hHeld (Or.inl ⟨by rfl, ?yb9⟩) ?rb9
            case yb9 => (intro w hSw; (try dsimp only at hSw); go_simp; try with_reducible rfl)
            try simp only [Act.put, List.setIfInBounds_toArray, List.set_cons_zero, List.set_cons_succ]
            refine region_take 10 (v := ?vb10) rfl rfl (by kernel_rfl) (by kernel_rfl) (by kernel_rfl) (fun _ _ _ h => h) hHeld (Or.inl ⟨by rfl, ?yb10⟩) ?rb10
            case yb10 => (intro w hSw; (try dsimp only at hSw); go_simp; try with_reducible rfl)
            try simp only [Act.put, List.setIfInBounds_toArray, List.set_cons_zero, List.set_cons_succ]
            refine wpAnyH_done (by kernel_rfl) ?_ _
            have own4 := R2.out.2.2.2
            go_wp2_with (at_builtin; refine wpList_append_one rfl (.tmp 104) (.tmp 105) 31 rfl wr.heap.size 5 i0 (.int .u8 0) 1 Try.underlying31 hi hz0 hz1 hz2 rfl (.slice px m cx) m (bys r.1) rfl (own4.alloc _) w4.heap.size (.int .u8 9) rfl (by simp) rfl (by unfold maxLen; omega) (by omega) (by simp at hsz4 ⊢; omega) ?_; intro v5 w5 ho5 hg5)
            have hBB := HG.out.2.2.2.2
            have t45 : Touch (fun k => Value.ownBlock (.slice px m cx) = some k) w4 w5 := ((Touch.refl _ _).alloc _).grown hg5 (fun k hk _ => hk)
            have hol : ∀ k, Value.ownBlock (.slice px m cx) = some k → wr.heap.size ≤ k := fun k hk => (own4.lt k hk).1
            have hr5 := (R1.out.1.low ((Touch.refl _ _).drew.trans R2.out.2.2.1) (fun k h1 h2 e => by omega) (by omega)).low t45 (fun k h1 h2 e => by have := hol k e; omega) (by omega)
            have hf5 := R2.out.2.1.low t45 (fun k h1 h2 e => by have := hol k e; omega) (by omega)
            have tc5 : Touch (fun k => k = g ∨ k = rb ∨ k = sb) w2 w5 := ((R1.out.2.2.2.1.drew).trans (R2.out.2.2.1.mono (fun _ _ h => .inr (.inr h)))).then t45 (fun k hk e => by have := hol k e; have := R0.out.2.2.1.size; omega)
            have R3 := Lib.hid tc5
            clear tc5 t45 hol own4 ho5 hg5
            refine (left_rd rb B1 _ _ _ hr5).mono ?_
            rintro e w6 ⟨rfl, rfl⟩
            go_wp2_with fail
            refine (left_rf sb B2 _ _ _ hf5).mono ?_
            rintro e w6 ⟨rfl, rfl⟩
            go_wp2_with fail
            refine (done_rd rb B1 _ _ _ hr5).mono ?_
            rintro e w6 ⟨rfl, rfl⟩
            go_wp2_with fail
            refine (done_rf sb B2 _ _ _ hf5).mono ?_
            rintro e w6 ⟨rfl, rfl⟩
            go_wp2_with fail
            go_roundw
            case rel => exact ⟨j + 1, r.2.1, r.2.2, hjl, by first | rfl | (congr 1; omega), hl2, HR2.out, hr5, hf5, R3.out⟩
            case measure => simp [intOf]; omega
    · have hjl : j < zs.length := by omega
      have hjc : j < cur'.size := by have := HG.out.1.2; omega
      have hu : cur'[j]? = some (cur'[j]'hjc) := by simp
      generalize (cur'[j]'hjc) = u at hu
      have hc := hBz.cell j hu
      have hf := hBz.frozen j
      have hj1 : (j : Int) < zs.length := by omega
      have hcg : (zs.length : Int) ≤ cg := by have := HG.out.1.2; omega
      have HB5 := Lib.hid (And.intro hBz (And.intro htz hcz))
      clear hBz htz hu
      go_wp2_with fail
      go_roundw
      case rel =>
        refine ⟨j + 1, _, hjl, by first | rfl | (congr 1; omega), ?_, HB5.out.1.set j (.int .u8 7), Touch.setCell (S := fun k => k = g) HB5.out.2.1 (p := ⟨g, j, none⟩) (fun _ => rfl) _⟩
        simp
        exact HB5.out.2.2
      case measure => simp [intOf]; omega

theorem fieldTells_walk (w : World) (a : Option Addr) (len cap : Nat) (zs : List Int) (hin : RowIn .u8 w a len cap zs) (n : Int) (_w1 : (Lit.int .i64 n).wf = true) (size : Int) (_w2 : (Lit.int .i64 size).wf = true) (b : Option Addr) (len3 cb : Nat) (A : List (Int × Int)) (hac : PairsIn w b len3 cb A) :
    Calls Try.prog 7 #[.slice a len cap, .int .i64 n, .int .i64 size, .slice b len3 cb] w fun e w' => e = .returned (.bool true) ∧ Below w.heap.size w w' := by
  have hlen := hin.hlen
  subst hlen
  have hlen3 := hac.hlen
  subst hlen3
  by_cases h : (zs.length : Int) ≤ 500 ∧ (A.length : Int) ≤ 100
  · exact fieldTells_in w a cap zs hin n size b cb A hac h.1 h.2
  · exact fieldTells_out w a cap zs n size b cb A (by omega)

/-! ### the row's step, and the row -/
theorem fieldTells_own : ownKnob Try.prog.godebug = none := by kernel_rfl
theorem fieldTells_laidOut : laidOutB Try.prog = true := by kernel_rfl

set_option linter.unusedVariables false in
set_option maxRecDepth 100000 in
theorem fieldTells_lifted (os : Os) (started : os.Started) (H : Type) (enc : TypeId × Value → H) :
    ReturnsInHanded {} Try.checked os 7 .any (Rows.fieldTellsSpec.pre6 enc Try.prog Try.f7 Rows.fieldTellsRow.domain false) (Rows.fieldTellsSpec.post enc Try.prog Try.f7 false true false false) := by
  refine returnsInHanded_of_change (C := Try.checked) fieldTells_own started (by kernel_rfl) Try.func7
    (ChangeSpec.witness6 (enc := enc) (C := Try.checked) false ⟨#[], #[.slice none 0 0, .int .i64 0, .int .i64 0, .slice none 0 0], []⟩ 8 (by kernel_rfl) (by kernel_rfl) (by kernel_rfl) (by kernel_rfl)) ?_
  intro W base args ds gs before hval0 hW hcnd _
  have hval : ∀ (j : Nat) t v, Try.f7.params[j]? = some t → args[j]? = some v → Value.okWide Try.prog W .any base t v := hval0
  have hW' := hW
  obtain ⟨p, q, hA0, hV, rfl, hfz, hnd⟩ := hW
  have hA : DataW.TrodAll enc Try.prog W 0 (fun _ => true) true Try.f7.params.toList args.toList ds p := hA0
  rw [Try.params7] at hA hval
  obtain ⟨v0, vs0, d0, ds0, p0, q0, hargs, rfl, rfl, h0, r0⟩ := trodAll_cons hA
  obtain ⟨v1, vs1, d1, ds1, p1, q1, rfl, rfl, rfl, h1, r1⟩ := trodAll_cons r0
  obtain ⟨v2, vs2, d2, ds2, p2, q2, rfl, rfl, rfl, h2, r2⟩ := trodAll_cons r1
  obtain ⟨v3, vs3, d3, ds3, p3, q3, rfl, rfl, rfl, h3, r3⟩ := trodAll_cons r2
  obtain ⟨rfl, rfl, rfl⟩ := trodAll_nil r3
  obtain rfl : args = #[v0, v1, v2, v3] := by cases args; simp_all
  obtain ⟨rfl, rfl⟩ := trodVars_none hV
  have k0 := h0
  have lt0 : ∀ x ∈ p0, x.block < W.heap.size := by obtain ⟨m, hm⟩ := k0; exact DataW.trod_lt m _ _ _ hm
  obtain ⟨a0, len0, cap0, rfl⟩ := okWide_slice Try.underlying31 (hval 0 31 v0 rfl rfl)
  obtain ⟨z0, w0⟩ := row_of (k := .u8) Try.underlying31 Try.underlying5 (by kernel_rfl) h0
  obtain ⟨a1, rfl, rfl, rfl, w1⟩ := open_int Try.underlying3 (hval 1 3 v1 rfl rfl) h1
  obtain ⟨a2, rfl, rfl, rfl, w2⟩ := open_int Try.underlying3 (hval 2 3 v2 rfl rfl) h2
  have k3 := h3
  have lt3 : ∀ x ∈ p3, x.block < W.heap.size := by obtain ⟨m, hm⟩ := k3; exact DataW.trod_lt m _ _ _ hm
  have o3 := hval 3 32 v3 rfl rfl
  obtain ⟨a3, len3, cap3, rfl⟩ := okWide_slice Try.underlying32 o3
  obtain ⟨z3, w3⟩ := pairs_of Try.underlying32 Try.underlying39 (by kernel_rfl) rfl rfl (by kernel_rfl) (by kernel_rfl) Try.underlying3 Try.underlying3 h3
  clear hA0 hval0
  refine (fieldTells_walk W a0 len0 cap0 z0 w0 a1 w1 a2 w2 a3 len3 cap3 z3 w3).mono fun e W' ⟨he, bel⟩ => ?_
  subst he
  exact ⟨_, rfl, _, _, _, [], _, [], hW', trodAll_mk1 (shut_bool Try.underlying4 _), (trodAll_cons_mk (Below.trod fieldTells_laidOut (by kernel_rfl) (of_decide_eq_true (by kernel_rfl)) k0 bel lt0) (trodAll_cons_mk (shut_int Try.underlying3 w1) (trodAll_cons_mk (shut_int Try.underlying3 w2) (trodAll_cons_mk (Below.trod fieldTells_laidOut (by kernel_rfl) (of_decide_eq_true (by kernel_rfl)) k3 bel lt3) trodAll_mk0)))), rfl, bel.frame _, fun h => by cases h⟩

theorem fieldTells_over : Rows.fieldTellsRow.holds Try.pinned (OpenSpec.ofChange Rows.fieldTellsSpec) :=
  OpenClaim.holds_of_wide 7 Try.f7 rfl rfl rfl rfl rfl rfl rfl ⟨rfl, rfl, rfl, rfl, rfl⟩ rfl rfl rfl rfl rfl (by kernel_rfl) Try.func7 (by kernel_rfl)
    (of_decide_eq_true (by kernel_rfl)) (by unfold Func.isWrapper; first | (rw [if_pos (by decide +kernel)]; kernel_rfl) | (rw [if_neg (by decide +kernel)]; exact ⟨rfl, rfl⟩))
    (fun os started H enc _ => fieldTells_lifted os started H enc)

/-- THE STATEMENT. -/
theorem fieldTells_proved : Rows.FieldTellsSaid := fieldTells_over
#print axioms fieldTells_proved
end Go.Proofs.Ytgoppolkplmphaa
