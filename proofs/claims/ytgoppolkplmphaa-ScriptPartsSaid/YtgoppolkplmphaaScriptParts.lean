/-
  nightjarlaw26.ScriptParts: for all bytes and every number the law returns true. No conditions: for every input that can be read.
-/
import Derived.Test.YtgoppolkplmphaaRows
import Derived.Test.YtgoppolkplmphaaScriptAppend
import Derived.Test.YtgoppolkplmphaaOpen
import Derived.Deep.DeepCutAuto
namespace Go.Proofs.Ytgoppolkplmphaa
open Go.ChangeShapes Go.WideShapes Go.ChangeAt Go.RowKit

theorem actsOf_lenP (n : Nat) : ∀ ys : List Nat, ys.length ≤ n → (actsOf ys).length = ys.length / 4 := by
  induction n using Nat.strongRecOn with
  | _ n ih =>
    intro ys h
    match ys, h with
    | [], _ => rfl
    | [a], _ => rw [actsOf_small _ (by simp)]; simp
    | [a, b], _ => rw [actsOf_small _ (by simp)]; simp
    | [a, b, c], _ => rw [actsOf_small _ (by simp)]; simp
    | y0 :: y1 :: y2 :: y3 :: r, h =>
      simp only [List.length_cons] at h
      have h2 := ih (n - 4) (by omega) r (by omega)
      simp only [actsOf, List.length_cons, h2]
      omega

theorem ActsOwn.mono' {w : World} {base base' : Nat} {v : Value} {R : ActRow} (h : ActsOwn w base v R) (hb : base' ≤ base) : ActsOwn w base' v R :=
  ⟨owns_mono h.row hb, fun q hq => owns_mono (h.bytes q hq) hb⟩

theorem rowCells_neP {R : ActRow} (h : R ≠ []) : rowCells R ≠ [] := by
  cases R with
  | nil => exact absurd rfl h
  | cons q l => simp [rowCells, actCells]

theorem RowAt.oldP {w W : World} {a : Option Addr} {R : ActRow} (h : RowAt w a R) (ht : Touch (fun k => w.heap.size ≤ k) w W) : RowAt W a R :=
  h.touch ht (fun x hx hne e => by
      subst hx
      have := h.cells.lt (rowCells_neP hne)
      omega) (fun q hq x hx hne e => by
      have h0 := h.bytes q hq
      rw [hx] at h0
      have := h0.lt (by simpa [bys] using hne)
      omega)

def cntTo (L : List ActV) : Nat → Nat
  | 0 => 0
  | j + 1 => cntTo L j + countV L j
theorem countV_le (L : List ActV) (d : Int) : countV L d ≤ L.length := List.length_filter_le _ _
theorem cntTo_le (L : List ActV) (j : Nat) : cntTo L j ≤ j * L.length := by
  induction j with
  | zero => simp [cntTo]
  | succ j ih => have := countV_le L j; simp only [cntTo, Nat.succ_mul]; omega
theorem cntTo_all (L : List ActV) (h : ∀ v ∈ L, ActRight v) : cntTo L 8 = L.length := by
  rw [← count_all L h]
  simp [cntTo]
theorem named_tests (k : Nat) (h : k ≤ 7) : ((actNamed (k : Int)).toList == []) = false ∧ (actNamed (k : Int)).toList.isEmpty = false ∧ (actNamed (k : Int)).toList ≠ [] := by
  have h1 : ((actNamed (k : Int)).toList == []) = false := by
    obtain rfl | rfl | rfl | rfl | rfl | rfl | rfl | rfl : k = 0 ∨ k = 1 ∨ k = 2 ∨ k = 3 ∨ k = 4 ∨ k = 5 ∨ k = 6 ∨ k = 7 := by omega
    all_goals kernel_rfl
  have h2 : (actNamed (k : Int)).toList ≠ [] := fun h => by rw [h] at h1; exact absurd h1 (by decide)
  exact ⟨h1, by simpa using h2, h2⟩

theorem scriptParts_out (w : World) (a : Option Addr) (n cap : Nat) (k : Int) (h : 1000 < (n : Int) ∨ (n : Int) ≤ 1000 ∧ k < 0 ∨ (n : Int) ≤ 1000 ∧ 0 ≤ k ∧ (n : Int) / 4 < k) :
    Calls Try.prog 13 #[.slice a n cap, .int .i64 k] w fun e w' => e = .returned (.bool true) ∧ Below w.heap.size w w' := by
  rcases h with h1 | ⟨h1, h2⟩ | ⟨h1, h2, h3⟩
  all_goals
    go_enter Try.func13, Try.ntmps13
    go_wp2_with fail
    refine (scriptSmall_any w).mono ?_
    rintro e w1 ⟨rfl, hb⟩
    go_wp2_with fail
    go_ret
    exact ⟨rfl, hb⟩

set_option maxRecDepth 100000 in
set_option maxHeartbeats 8000000 in
theorem scriptParts_in (w : World) (a : Option Addr) (cap : Nat) (zs : List Nat) (hin : RowIn .u8 w a zs.length cap (nats zs)) (kk : Nat) (h1000 : (zs.length : Int) ≤ 1000) (hk4 : 4 * kk ≤ zs.length) :
    Calls Try.prog 13 #[.slice a zs.length cap, .int .i64 kk] w fun e w' => e = .returned (.bool true) ∧ Below w.heap.size w w' := by
  have hlec := hin.le
  have hcm := hin.hcap
  have hanil := hin.nil
  have hr : ∀ y ∈ zs, y < 256 := fun y hy => by have := hin.range (y : Int) (List.mem_map.2 ⟨y, hy, rfl⟩); omega
  have hkq : (kk : Int) ≤ (zs.length : Int) / 4 := by omega
  have HIN := Lib.hid (And.intro hin hr)
  clear hin hr
  go_enter Try.func13, Try.ntmps13
  go_wp2_with fail
  refine (scriptSmall_any w).mono ?_
  rintro e wa ⟨rfl, hb⟩
  have hsa : SlAt wa a (bys (nats zs)) := HIN.out.1.bys.touch (Touch.of_below (S := fun _ => False) hb) (fun _ _ _ h => h)
  have hold : ∀ x, a = some x → nats zs ≠ [] → x.block < wa.heap.size := fun x hx hne => Nat.lt_of_lt_of_le (HIN.out.1.old x hx hne) hb.size
  have HB := Lib.hid (And.intro hb (And.intro hsa hold))
  clear hb hold
  go_wp2_with fail
  refine (acts_any a zs.length cap zs wa rfl hsa HIN.out.2 hanil hlec hcm (by omega)).mono ?_
  rintro e wq ⟨v1, RA, rfl, hown, hRA, hbc⟩
  obtain ⟨aA, cA, rfl, hlA, hmA, _⟩ := acts_form hown
  have hRl : RA.length = zs.length / 4 := by have h := congrArg List.length hRA; rw [List.length_map, actsOf_lenP _ _ (Nat.le_refl _)] at h; exact h
  obtain ⟨n, hn⟩ : ∃ n, RA.length = n := ⟨_, rfl⟩
  rw [hn] at hown hlA hRl ⊢
  have HA := Lib.hid (And.intro (RowAt.of_owns hown) (And.intro hRA (And.intro hn (And.intro hRl hbc))))
  have hsc := hsa.touch (Touch.of_below (S := fun _ => False) hbc) (fun _ _ _ h => h)
  obtain ⟨B0, hB0⟩ : ∃ B0, wq.heap.size = B0 := ⟨_, rfl⟩
  have hsplit := actsOf_split kk zs hk4
  have hS1 : ∀ W, Touch (fun k => B0 ≤ k) wq W → SlAt W a (bys (nats zs)) := fun W hW => hsc.touch hW (fun x hx hne e => by
    have := HB.out.2.2 x hx (by intro h; rw [h] at hne; exact hne rfl)
    have := hbc.size
    omega)
  have hSt : ∀ W, Touch (fun k => B0 ≤ k) wq W → SlAt W a (bys (nats (zs.take (4 * kk)))) := fun W hW => by
    have h := (hS1 W hW).take (4 * kk)
    rw [show (bys (nats zs)).take (4 * kk) = bys (nats (zs.take (4 * kk))) by simp [bys, nats]] at h
    exact h
  have hSd : ∀ W, Touch (fun k => B0 ≤ k) wq W → SlAt W (if cap = 4 * kk then a else Option.map (fun x => x.add (4 * kk)) a) (bys (nats (zs.drop (4 * kk)))) := fun W hW => by
    have h := (hS1 W hW).sliced (l := 4 * kk) (cap := cap) (by simp [bys, nats]; omega)
    rw [show (bys (nats zs)).drop (4 * kk) = bys (nats (zs.drop (4 * kk))) by simp [bys, nats]] at h
    exact h
  have hrt : ∀ y ∈ zs.take (4 * kk), y < 256 := fun y hy => HIN.out.2 y (List.mem_of_mem_take hy)
  have hrd : ∀ y ∈ zs.drop (4 * kk), y < 256 := fun y hy => HIN.out.2 y (List.mem_of_mem_drop hy)
  have kw1 : IntKind.i64.wrap (4 * (kk : Int)) = 4 * (kk : Int) := IntWalk.i64_in _ (by omega)
  have kb0 : (0 : Int) ≤ 4 * (kk : Int) := by omega
  have kb1 : 4 * (kk : Int) ≤ zs.length := by omega
  have kb2 : 4 * (kk : Int) ≤ cap := by omega
  have kn1 : (4 * (kk : Int)).toNat = 4 * kk := by omega
  have hlc : (zs.length : Int) ≤ cap := by omega
  clear hown hRA hn hRl hbc hsa hsc hS1
  go_wp2_with fail
  go_cut [7] from 29 to 41 (fun l w2 => ∃ (a7 : Option Addr) (n7 c7 : Nat) (R7 : ActRow), l = .slice a7 n7 c7 ∧ R7.length = n7 ∧ n7 ≤ c7 ∧ c7 ≤ maxLen ∧ RowAt w2 a7 R7 ∧ R7.map (·.1) = actsOf zs ∧ Touch (fun k => B0 ≤ k) wq w2)
  case first =>
    obtain ⟨aD, haD⟩ : ∃ aD, aD = (if cap = 4 * kk then a else Option.map (fun x => x.add (4 * kk)) a) := ⟨_, rfl⟩
    rw [← haD] at hSd
    have HS := Lib.hid (And.intro hSt (And.intro hSd (And.intro hrt hrd)))
    clear hSt hSd hrt hrd
    by_cases hcc : cap = 4 * kk
    · rw [if_pos hcc] at haD
      rw [haD] at HS
      clear haD aD
      subst hcc
      have hz0 : zs.length - 4 * kk = 0 := by omega
      refine wp_region_held_drew (S := fun _ => True) (by kernel_rfl) trivial (fun _ => ?_)
      generalize hx0 : World.drew wq = x0
      have tY : Touch (fun k => B0 ≤ k) wq x0 := by rw [← hx0]; exact (Touch.refl _ _).drew
      clear hx0
      refine region_take 1 (v := ?v11) rfl rfl (by kernel_rfl) (by kernel_rfl) (by kernel_rfl) (fun _ _ _ h => h) trivial (Or.inl ⟨by rfl, ?y11⟩) ?r11
      case y11 => (intro w hSw; go_simp; try with_reducible rfl)
      try simp only [Act.put, List.setIfInBounds_toArray, List.set_cons_zero, List.set_cons_succ]
      refine region_take 2 (v := ?v12) rfl rfl (by kernel_rfl) (by kernel_rfl) (by kernel_rfl) (fun _ _ _ h => h) trivial (Or.inl ⟨by rfl, ?y12⟩) ?r12
      case y12 => (intro w hSw; go_simp; try with_reducible rfl)
      try simp only [Act.put, List.setIfInBounds_toArray, List.set_cons_zero, List.set_cons_succ]
      refine region_take 3 (v := ?v13) rfl rfl (by kernel_rfl) (by kernel_rfl) (by kernel_rfl) (fun _ _ _ h => h) trivial (Or.inl ⟨by rfl, ?y13⟩) ?r13
      case y13 => (intro w hSw; go_simp; try with_reducible rfl)
      try simp only [Act.put, List.setIfInBounds_toArray, List.set_cons_zero, List.set_cons_succ]
      refine region_take 4 (v := ?v14) rfl rfl (by kernel_rfl) (by kernel_rfl) (by kernel_rfl) (fun _ _ _ h => h) trivial (Or.inl ⟨by rfl, ?y14⟩) ?r14
      case y14 => (intro w hSw; go_simp; try with_reducible rfl)
      try simp only [Act.put, List.setIfInBounds_toArray, List.set_cons_zero, List.set_cons_succ]
      refine region_take 7 (v := ?v15) rfl rfl (by kernel_rfl) (by kernel_rfl) (by kernel_rfl) (fun _ _ _ h => h) trivial (Or.inl ⟨by rfl, ?y15⟩) ?r15
      case y15 => (intro w hSw; go_simp; try with_reducible rfl)
      try simp only [Act.put, List.setIfInBounds_toArray, List.set_cons_zero, List.set_cons_succ]
      refine region_take 8 (v := ?v16) rfl rfl (by kernel_rfl) (by kernel_rfl) (by kernel_rfl) (fun _ _ _ h => h) trivial (Or.inl ⟨by rfl, ?y16⟩) ?r16
      case y16 => (intro w hSw; go_simp; try with_reducible rfl)
      try simp only [Act.put, List.setIfInBounds_toArray, List.set_cons_zero, List.set_cons_succ]
      refine region_take 9 (v := ?v17) rfl rfl (by kernel_rfl) (by kernel_rfl) (by kernel_rfl) (fun _ _ _ h => h) trivial (Or.inl ⟨by rfl, ?y17⟩) ?r17
      case y17 => (intro w hSw; go_simp; try with_reducible rfl)
      try simp only [Act.put, List.setIfInBounds_toArray, List.set_cons_zero, List.set_cons_succ]
      refine region_take 10 (v := ?v18) rfl rfl (by kernel_rfl) (by kernel_rfl) (by kernel_rfl) (fun _ _ _ h => h) trivial (Or.inl ⟨by rfl, ?y18⟩) ?r18
      case y18 => (intro w hSw; go_simp; try with_reducible rfl)
      try simp only [Act.put, List.setIfInBounds_toArray, List.set_cons_zero, List.set_cons_succ]
      refine region_two 0 5 (by kernel_rfl) rfl rfl (fun K hK => ?_) (fun K hK => ?_)
      · go_simp
        generalize hA : World.alloc x0 (.cells #[] 55) = x1
        have tq : Touch (fun _ => False) x0 x1 := by rw [← hA]; exact (Touch.refl _ _).alloc _
        have hE : ActsOwn x1 B0 (.slice (some ⟨x0.heap.size, 0, none⟩) 0 0) [] := by rw [← hA]; exact ⟨World.ownsRow_made x0 #[] 0 (by have := tY.size; omega) (Nat.zero_le _) rfl, fun q hq => by cases hq⟩
        obtain ⟨ge, hge⟩ : ∃ ge, x0.heap.size = ge := ⟨_, rfl⟩
        rw [hge] at hE ⊢
        have hgB : B0 ≤ ge := by have := tY.size; omega
        clear hA hge
        replace tY := tY.trans (tq.mono (fun _ _ h => h.elim))
        clear tq
        refine hK.out _ _ trivial (fun _ => ?_)
        clear hK K
        try simp only [Act.put, List.setIfInBounds_toArray, List.set_cons_zero, List.set_cons_succ]
        refine region_one 5 (by kernel_rfl) rfl (fun K hK => ?_)
        go_simp
        go_at_call 36
        (with_reducible refine (acts_any a (4 * kk) (4 * kk) (zs.take (4 * kk)) x1 (by simp; omega) (HS.out.1 _ tY) HS.out.2.2.1 hanil (by omega) hcm (by omega)).mono ?_)
        rintro e x2 ⟨vx, R1, rfl, how, hR1, hbd⟩
        obtain ⟨a1, c1, rfl, _, _, _⟩ := acts_form how
        obtain ⟨n1, hn1⟩ : ∃ n1, R1.length = n1 := ⟨_, rfl⟩
        rw [hn1] at how ⊢
        have tq : Touch (fun _ => False) x1 x2 := Touch.of_below hbd
        have h1 := how.mono' (show B0 ≤ x1.heap.size from by have := tY.size; omega)
        have hl1 : n1 ≤ 300 := by have h := congrArg List.length hR1; rw [List.length_map, hn1, actsOf_lenP _ _ (Nat.le_refl _)] at h; simp at h; omega
        replace hE := hE.touch tq (fun _ _ _ h => h)
        replace tY := tY.trans (tq.mono (fun _ _ h => h.elim))
        clear tq how hbd
        refine hK.out _ _ trivial (fun _ => ?_)
        clear hK K
        try simp only [Act.put, List.setIfInBounds_toArray, List.set_cons_zero, List.set_cons_succ]
        refine region_one 6 (by kernel_rfl) rfl (fun K hK => ?_)
        refine step_append_acts rfl (.tmp 29) (.tmp 34) rfl B0 (.slice (some ⟨ge, 0, none⟩) 0 0) [] (by rfl) hE a1 n1 c1 R1 (by rfl) hn1 h1 (by simp; omega) (by have := tY.size; omega) ?_
        intro v35 x3 h35 hg
        have tq : Touch (fun k => k = ge) x2 x3 := (Touch.refl _ _).grown hg (fun k hk _ => by cases hk; rfl)
        replace tY := tY.trans (tq.mono (fun k _ e => by subst e; exact hgB))
        clear tq hg hE h1
        refine hK.out _ _ trivial (fun _ => ?_)
        clear hK K
        try simp only [Act.put, List.setIfInBounds_toArray, List.set_cons_zero, List.set_cons_succ]
        refine region_one 11 (by kernel_rfl) rfl (fun K hK => ?_)
        go_simp
        go_at_call 36
        (with_reducible refine (acts_any a 0 0 (zs.drop (4 * kk)) x3 (by simp; try omega) (HS.out.2.1 _ tY) HS.out.2.2.2 (fun _ => rfl) (by omega) (by omega) (by omega)).mono ?_)
        rintro e x4 ⟨vx, R2, rfl, how, hR2, hbd⟩
        obtain ⟨a2, c2, rfl, _, _, _⟩ := acts_form how
        obtain ⟨n2, hn2⟩ : ∃ n2, R2.length = n2 := ⟨_, rfl⟩
        rw [hn2] at how ⊢
        have tq : Touch (fun _ => False) x3 x4 := Touch.of_below hbd
        have h2 := how.mono' (show B0 ≤ x3.heap.size from by have := tY.size; omega)
        have hl2 : n2 ≤ 300 := by have h := congrArg List.length hR2; rw [List.length_map, hn2, actsOf_lenP _ _ (Nat.le_refl _)] at h; simp at h; omega
        replace h35 := h35.touch tq (fun _ _ _ h => h)
        replace tY := tY.trans (tq.mono (fun _ _ h => h.elim))
        clear tq how hbd
        refine hK.out _ _ trivial (fun _ => ?_)
        clear hK K
        try simp only [Act.put, List.setIfInBounds_toArray, List.set_cons_zero, List.set_cons_succ]
        refine region_one 12 (by kernel_rfl) rfl (fun K hK => ?_)
        refine step_append_acts rfl (.tmp 35) (.tmp 40) rfl B0 v35 ([] ++ R1) (by rfl) h35 a2 n2 c2 R2 (by rfl) hn2 h2 (by simp; omega) (by have := tY.size; omega) ?_
        intro v41 x5 h41 hg
        replace tY := tY.trans ((Touch.refl (fun k => B0 ≤ k) x4).grown hg (fun k hk _ => (h35.row.lt k hk).1))
        clear hg h35 h2
        refine hK.out _ _ trivial (fun _ => ?_)
        clear hK K
        try simp only [Act.put, List.setIfInBounds_toArray, List.set_cons_zero, List.set_cons_succ]
        refine region_take 13 (v := ?v19) rfl rfl (by kernel_rfl) (by kernel_rfl) (by kernel_rfl) (fun _ _ _ h => h) trivial (Or.inl ⟨by rfl, ?y19⟩) ?r19
        case y19 => (intro w hSw; go_simp; try with_reducible rfl)
        try simp only [Act.put, List.setIfInBounds_toArray, List.set_cons_zero, List.set_cons_succ]
        refine wpAnyH_done (by kernel_rfl) ?_ _
        go_wp2
        go_meet
        case rel =>
          obtain ⟨a7, c7, rfl, q1, q2, _⟩ := acts_form h41
          exact ⟨a7, _, c7, [] ++ R1 ++ R2, rfl, rfl, q1, q2, RowAt.of_owns h41, by simp [hR1, hR2, hsplit], tY⟩
      · go_simp
        go_at_call 36
        (with_reducible refine (acts_any a (4 * kk) (4 * kk) (zs.take (4 * kk)) x0 (by simp; omega) (HS.out.1 _ tY) HS.out.2.2.1 hanil (by omega) hcm (by omega)).mono ?_)
        rintro e x1 ⟨vx, R1, rfl, how, hR1, hbd⟩
        obtain ⟨a1, c1, rfl, _, _, _⟩ := acts_form how
        obtain ⟨n1, hn1⟩ : ∃ n1, R1.length = n1 := ⟨_, rfl⟩
        rw [hn1] at how ⊢
        have tq : Touch (fun _ => False) x0 x1 := Touch.of_below hbd
        have h1 := how.mono' (show B0 ≤ x0.heap.size from by have := tY.size; omega)
        have hl1 : n1 ≤ 300 := by have h := congrArg List.length hR1; rw [List.length_map, hn1, actsOf_lenP _ _ (Nat.le_refl _)] at h; simp at h; omega
        replace tY := tY.trans (tq.mono (fun _ _ h => h.elim))
        clear tq how hbd
        refine hK.out _ _ trivial (fun _ => ?_)
        clear hK K
        try simp only [Act.put, List.setIfInBounds_toArray, List.set_cons_zero, List.set_cons_succ]
        refine region_one 0 (by kernel_rfl) rfl (fun K hK => ?_)
        go_simp
        generalize hA : World.alloc x1 (.cells #[] 55) = x2
        have tq : Touch (fun _ => False) x1 x2 := by rw [← hA]; exact (Touch.refl _ _).alloc _
        have hE : ActsOwn x2 B0 (.slice (some ⟨x1.heap.size, 0, none⟩) 0 0) [] := by rw [← hA]; exact ⟨World.ownsRow_made x1 #[] 0 (by have := tY.size; omega) (Nat.zero_le _) rfl, fun q hq => by cases hq⟩
        obtain ⟨ge, hge⟩ : ∃ ge, x1.heap.size = ge := ⟨_, rfl⟩
        rw [hge] at hE ⊢
        have hgB : B0 ≤ ge := by have := tY.size; omega
        clear hA hge
        replace h1 := h1.touch tq (fun _ _ _ h => h)
        replace tY := tY.trans (tq.mono (fun _ _ h => h.elim))
        clear tq
        refine hK.out _ _ trivial (fun _ => ?_)
        clear hK K
        try simp only [Act.put, List.setIfInBounds_toArray, List.set_cons_zero, List.set_cons_succ]
        refine region_one 6 (by kernel_rfl) rfl (fun K hK => ?_)
        refine step_append_acts rfl (.tmp 29) (.tmp 34) rfl B0 (.slice (some ⟨ge, 0, none⟩) 0 0) [] (by rfl) hE a1 n1 c1 R1 (by rfl) hn1 h1 (by simp; omega) (by have := tY.size; omega) ?_
        intro v35 x3 h35 hg
        have tq : Touch (fun k => k = ge) x2 x3 := (Touch.refl _ _).grown hg (fun k hk _ => by cases hk; rfl)
        replace tY := tY.trans (tq.mono (fun k _ e => by subst e; exact hgB))
        clear tq hg hE h1
        refine hK.out _ _ trivial (fun _ => ?_)
        clear hK K
        try simp only [Act.put, List.setIfInBounds_toArray, List.set_cons_zero, List.set_cons_succ]
        refine region_one 11 (by kernel_rfl) rfl (fun K hK => ?_)
        go_simp
        go_at_call 36
        (with_reducible refine (acts_any a 0 0 (zs.drop (4 * kk)) x3 (by simp; try omega) (HS.out.2.1 _ tY) HS.out.2.2.2 (fun _ => rfl) (by omega) (by omega) (by omega)).mono ?_)
        rintro e x4 ⟨vx, R2, rfl, how, hR2, hbd⟩
        obtain ⟨a2, c2, rfl, _, _, _⟩ := acts_form how
        obtain ⟨n2, hn2⟩ : ∃ n2, R2.length = n2 := ⟨_, rfl⟩
        rw [hn2] at how ⊢
        have tq : Touch (fun _ => False) x3 x4 := Touch.of_below hbd
        have h2 := how.mono' (show B0 ≤ x3.heap.size from by have := tY.size; omega)
        have hl2 : n2 ≤ 300 := by have h := congrArg List.length hR2; rw [List.length_map, hn2, actsOf_lenP _ _ (Nat.le_refl _)] at h; simp at h; omega
        replace h35 := h35.touch tq (fun _ _ _ h => h)
        replace tY := tY.trans (tq.mono (fun _ _ h => h.elim))
        clear tq how hbd
        refine hK.out _ _ trivial (fun _ => ?_)
        clear hK K
        try simp only [Act.put, List.setIfInBounds_toArray, List.set_cons_zero, List.set_cons_succ]
        refine region_one 12 (by kernel_rfl) rfl (fun K hK => ?_)
        refine step_append_acts rfl (.tmp 35) (.tmp 40) rfl B0 v35 ([] ++ R1) (by rfl) h35 a2 n2 c2 R2 (by rfl) hn2 h2 (by simp; omega) (by have := tY.size; omega) ?_
        intro v41 x5 h41 hg
        replace tY := tY.trans ((Touch.refl (fun k => B0 ≤ k) x4).grown hg (fun k hk _ => (h35.row.lt k hk).1))
        clear hg h35 h2
        refine hK.out _ _ trivial (fun _ => ?_)
        clear hK K
        try simp only [Act.put, List.setIfInBounds_toArray, List.set_cons_zero, List.set_cons_succ]
        refine region_take 13 (v := ?v20) rfl rfl (by kernel_rfl) (by kernel_rfl) (by kernel_rfl) (fun _ _ _ h => h) trivial (Or.inl ⟨by rfl, ?y20⟩) ?r20
        case y20 => (intro w hSw; go_simp; try with_reducible rfl)
        try simp only [Act.put, List.setIfInBounds_toArray, List.set_cons_zero, List.set_cons_succ]
        refine wpAnyH_done (by kernel_rfl) ?_ _
        go_wp2
        go_meet
        case rel =>
          obtain ⟨a7, c7, rfl, q1, q2, _⟩ := acts_form h41
          exact ⟨a7, _, c7, [] ++ R1 ++ R2, rfl, rfl, q1, q2, RowAt.of_owns h41, by simp [hR1, hR2, hsplit], tY⟩
    · rw [if_neg hcc] at haD
      subst haD
      refine wp_region_held_drew (S := fun _ => True) (by kernel_rfl) trivial (fun _ => ?_)
      generalize hx0 : World.drew wq = x0
      have tY : Touch (fun k => B0 ≤ k) wq x0 := by rw [← hx0]; exact (Touch.refl _ _).drew
      clear hx0
      refine region_take 1 (v := ?v1) rfl rfl (by kernel_rfl) (by kernel_rfl) (by kernel_rfl) (fun _ _ _ h => h) trivial (Or.inl ⟨by rfl, ?y1⟩) ?r1
      case y1 => (intro w hSw; go_simp; try with_reducible rfl)
      try simp only [Act.put, List.setIfInBounds_toArray, List.set_cons_zero, List.set_cons_succ]
      refine region_take 2 (v := ?v2) rfl rfl (by kernel_rfl) (by kernel_rfl) (by kernel_rfl) (fun _ _ _ h => h) trivial (Or.inl ⟨by rfl, ?y2⟩) ?r2
      case y2 => (intro w hSw; go_simp; try with_reducible rfl)
      try simp only [Act.put, List.setIfInBounds_toArray, List.set_cons_zero, List.set_cons_succ]
      refine region_take 3 (v := ?v3) rfl rfl (by kernel_rfl) (by kernel_rfl) (by kernel_rfl) (fun _ _ _ h => h) trivial (Or.inl ⟨by rfl, ?y3⟩) ?r3
      case y3 => (intro w hSw; go_simp; try with_reducible rfl)
      try simp only [Act.put, List.setIfInBounds_toArray, List.set_cons_zero, List.set_cons_succ]
      refine region_take 4 (v := ?v4) rfl rfl (by kernel_rfl) (by kernel_rfl) (by kernel_rfl) (fun _ _ _ h => h) trivial (Or.inl ⟨by rfl, ?y4⟩) ?r4
      case y4 => (intro w hSw; go_simp; try with_reducible rfl)
      try simp only [Act.put, List.setIfInBounds_toArray, List.set_cons_zero, List.set_cons_succ]
      refine region_take 7 (v := ?v5) rfl rfl (by kernel_rfl) (by kernel_rfl) (by kernel_rfl) (fun _ _ _ h => h) trivial (Or.inl ⟨by rfl, ?y5⟩) ?r5
      case y5 => (intro w hSw; go_simp; try with_reducible rfl)
      try simp only [Act.put, List.setIfInBounds_toArray, List.set_cons_zero, List.set_cons_succ]
      refine region_take 8 (v := ?v6) rfl rfl (by kernel_rfl) (by kernel_rfl) (by kernel_rfl) (fun _ _ _ h => h) trivial (Or.inl ⟨by rfl, ?y6⟩) ?r6
      case y6 => (intro w hSw; go_simp; try with_reducible rfl)
      try simp only [Act.put, List.setIfInBounds_toArray, List.set_cons_zero, List.set_cons_succ]
      refine region_take 9 (v := ?v7) rfl rfl (by kernel_rfl) (by kernel_rfl) (by kernel_rfl) (fun _ _ _ h => h) trivial (Or.inl ⟨by rfl, ?y7⟩) ?r7
      case y7 => (intro w hSw; go_simp; try with_reducible rfl)
      try simp only [Act.put, List.setIfInBounds_toArray, List.set_cons_zero, List.set_cons_succ]
      refine region_take 10 (v := ?v8) rfl rfl (by kernel_rfl) (by kernel_rfl) (by kernel_rfl) (fun _ _ _ h => h) trivial (Or.inl ⟨by rfl, ?y8⟩) ?r8
      case y8 => (intro w hSw; go_simp; try with_reducible rfl)
      try simp only [Act.put, List.setIfInBounds_toArray, List.set_cons_zero, List.set_cons_succ]
      refine region_two 0 5 (by kernel_rfl) rfl rfl (fun K hK => ?_) (fun K hK => ?_)
      · go_simp
        generalize hA : World.alloc x0 (.cells #[] 55) = x1
        have tq : Touch (fun _ => False) x0 x1 := by rw [← hA]; exact (Touch.refl _ _).alloc _
        have hE : ActsOwn x1 B0 (.slice (some ⟨x0.heap.size, 0, none⟩) 0 0) [] := by rw [← hA]; exact ⟨World.ownsRow_made x0 #[] 0 (by have := tY.size; omega) (Nat.zero_le _) rfl, fun q hq => by cases hq⟩
        obtain ⟨ge, hge⟩ : ∃ ge, x0.heap.size = ge := ⟨_, rfl⟩
        rw [hge] at hE ⊢
        have hgB : B0 ≤ ge := by have := tY.size; omega
        clear hA hge
        replace tY := tY.trans (tq.mono (fun _ _ h => h.elim))
        clear tq
        refine hK.out _ _ trivial (fun _ => ?_)
        clear hK K
        try simp only [Act.put, List.setIfInBounds_toArray, List.set_cons_zero, List.set_cons_succ]
        refine region_one 5 (by kernel_rfl) rfl (fun K hK => ?_)
        go_simp
        go_at_call 36
        (with_reducible refine (acts_any a (4 * kk) cap (zs.take (4 * kk)) x1 (by simp; omega) (HS.out.1 _ tY) HS.out.2.2.1 hanil (by omega) hcm (by omega)).mono ?_)
        rintro e x2 ⟨vx, R1, rfl, how, hR1, hbd⟩
        obtain ⟨a1, c1, rfl, _, _, _⟩ := acts_form how
        obtain ⟨n1, hn1⟩ : ∃ n1, R1.length = n1 := ⟨_, rfl⟩
        rw [hn1] at how ⊢
        have tq : Touch (fun _ => False) x1 x2 := Touch.of_below hbd
        have h1 := how.mono' (show B0 ≤ x1.heap.size from by have := tY.size; omega)
        have hl1 : n1 ≤ 300 := by have h := congrArg List.length hR1; rw [List.length_map, hn1, actsOf_lenP _ _ (Nat.le_refl _)] at h; simp at h; omega
        replace hE := hE.touch tq (fun _ _ _ h => h)
        replace tY := tY.trans (tq.mono (fun _ _ h => h.elim))
        clear tq how hbd
        refine hK.out _ _ trivial (fun _ => ?_)
        clear hK K
        try simp only [Act.put, List.setIfInBounds_toArray, List.set_cons_zero, List.set_cons_succ]
        refine region_one 6 (by kernel_rfl) rfl (fun K hK => ?_)
        refine step_append_acts rfl (.tmp 29) (.tmp 34) rfl B0 (.slice (some ⟨ge, 0, none⟩) 0 0) [] (by rfl) hE a1 n1 c1 R1 (by rfl) hn1 h1 (by simp; omega) (by have := tY.size; omega) ?_
        intro v35 x3 h35 hg
        have tq : Touch (fun k => k = ge) x2 x3 := (Touch.refl _ _).grown hg (fun k hk _ => by cases hk; rfl)
        replace tY := tY.trans (tq.mono (fun k _ e => by subst e; exact hgB))
        clear tq hg hE h1
        refine hK.out _ _ trivial (fun _ => ?_)
        clear hK K
        try simp only [Act.put, List.setIfInBounds_toArray, List.set_cons_zero, List.set_cons_succ]
        refine region_one 11 (by kernel_rfl) rfl (fun K hK => ?_)
        go_simp
        go_at_call 36
        (with_reducible refine (acts_any (Option.map (fun x => x.add (4 * kk)) a) (zs.length - 4 * kk) (cap - 4 * kk) (zs.drop (4 * kk)) x3 (by simp; try omega) (HS.out.2.1 _ tY) HS.out.2.2.2 (fun h => by have := hanil (by simpa using h); omega) (by omega) (by omega) (by omega)).mono ?_)
        rintro e x4 ⟨vx, R2, rfl, how, hR2, hbd⟩
        obtain ⟨a2, c2, rfl, _, _, _⟩ := acts_form how
        obtain ⟨n2, hn2⟩ : ∃ n2, R2.length = n2 := ⟨_, rfl⟩
        rw [hn2] at how ⊢
        have tq : Touch (fun _ => False) x3 x4 := Touch.of_below hbd
        have h2 := how.mono' (show B0 ≤ x3.heap.size from by have := tY.size; omega)
        have hl2 : n2 ≤ 300 := by have h := congrArg List.length hR2; rw [List.length_map, hn2, actsOf_lenP _ _ (Nat.le_refl _)] at h; simp at h; omega
        replace h35 := h35.touch tq (fun _ _ _ h => h)
        replace tY := tY.trans (tq.mono (fun _ _ h => h.elim))
        clear tq how hbd
        refine hK.out _ _ trivial (fun _ => ?_)
        clear hK K
        try simp only [Act.put, List.setIfInBounds_toArray, List.set_cons_zero, List.set_cons_succ]
        refine region_one 12 (by kernel_rfl) rfl (fun K hK => ?_)
        refine step_append_acts rfl (.tmp 35) (.tmp 40) rfl B0 v35 ([] ++ R1) (by rfl) h35 a2 n2 c2 R2 (by rfl) hn2 h2 (by simp; omega) (by have := tY.size; omega) ?_
        intro v41 x5 h41 hg
        replace tY := tY.trans ((Touch.refl (fun k => B0 ≤ k) x4).grown hg (fun k hk _ => (h35.row.lt k hk).1))
        clear hg h35 h2
        refine hK.out _ _ trivial (fun _ => ?_)
        clear hK K
        try simp only [Act.put, List.setIfInBounds_toArray, List.set_cons_zero, List.set_cons_succ]
        refine region_take 13 (v := ?v9) rfl rfl (by kernel_rfl) (by kernel_rfl) (by kernel_rfl) (fun _ _ _ h => h) trivial (Or.inl ⟨by rfl, ?y9⟩) ?r9
        case y9 => (intro w hSw; go_simp; try with_reducible rfl)
        try simp only [Act.put, List.setIfInBounds_toArray, List.set_cons_zero, List.set_cons_succ]
        refine wpAnyH_done (by kernel_rfl) ?_ _
        go_wp2
        go_meet
        case rel =>
          obtain ⟨a7, c7, rfl, q1, q2, _⟩ := acts_form h41
          exact ⟨a7, _, c7, [] ++ R1 ++ R2, rfl, rfl, q1, q2, RowAt.of_owns h41, by simp [hR1, hR2, hsplit], tY⟩
      · go_simp
        go_at_call 36
        (with_reducible refine (acts_any a (4 * kk) cap (zs.take (4 * kk)) x0 (by simp; omega) (HS.out.1 _ tY) HS.out.2.2.1 hanil (by omega) hcm (by omega)).mono ?_)
        rintro e x1 ⟨vx, R1, rfl, how, hR1, hbd⟩
        obtain ⟨a1, c1, rfl, _, _, _⟩ := acts_form how
        obtain ⟨n1, hn1⟩ : ∃ n1, R1.length = n1 := ⟨_, rfl⟩
        rw [hn1] at how ⊢
        have tq : Touch (fun _ => False) x0 x1 := Touch.of_below hbd
        have h1 := how.mono' (show B0 ≤ x0.heap.size from by have := tY.size; omega)
        have hl1 : n1 ≤ 300 := by have h := congrArg List.length hR1; rw [List.length_map, hn1, actsOf_lenP _ _ (Nat.le_refl _)] at h; simp at h; omega
        replace tY := tY.trans (tq.mono (fun _ _ h => h.elim))
        clear tq how hbd
        refine hK.out _ _ trivial (fun _ => ?_)
        clear hK K
        try simp only [Act.put, List.setIfInBounds_toArray, List.set_cons_zero, List.set_cons_succ]
        refine region_one 0 (by kernel_rfl) rfl (fun K hK => ?_)
        go_simp
        generalize hA : World.alloc x1 (.cells #[] 55) = x2
        have tq : Touch (fun _ => False) x1 x2 := by rw [← hA]; exact (Touch.refl _ _).alloc _
        have hE : ActsOwn x2 B0 (.slice (some ⟨x1.heap.size, 0, none⟩) 0 0) [] := by rw [← hA]; exact ⟨World.ownsRow_made x1 #[] 0 (by have := tY.size; omega) (Nat.zero_le _) rfl, fun q hq => by cases hq⟩
        obtain ⟨ge, hge⟩ : ∃ ge, x1.heap.size = ge := ⟨_, rfl⟩
        rw [hge] at hE ⊢
        have hgB : B0 ≤ ge := by have := tY.size; omega
        clear hA hge
        replace h1 := h1.touch tq (fun _ _ _ h => h)
        replace tY := tY.trans (tq.mono (fun _ _ h => h.elim))
        clear tq
        refine hK.out _ _ trivial (fun _ => ?_)
        clear hK K
        try simp only [Act.put, List.setIfInBounds_toArray, List.set_cons_zero, List.set_cons_succ]
        refine region_one 6 (by kernel_rfl) rfl (fun K hK => ?_)
        refine step_append_acts rfl (.tmp 29) (.tmp 34) rfl B0 (.slice (some ⟨ge, 0, none⟩) 0 0) [] (by rfl) hE a1 n1 c1 R1 (by rfl) hn1 h1 (by simp; omega) (by have := tY.size; omega) ?_
        intro v35 x3 h35 hg
        have tq : Touch (fun k => k = ge) x2 x3 := (Touch.refl _ _).grown hg (fun k hk _ => by cases hk; rfl)
        replace tY := tY.trans (tq.mono (fun k _ e => by subst e; exact hgB))
        clear tq hg hE h1
        refine hK.out _ _ trivial (fun _ => ?_)
        clear hK K
        try simp only [Act.put, List.setIfInBounds_toArray, List.set_cons_zero, List.set_cons_succ]
        refine region_one 11 (by kernel_rfl) rfl (fun K hK => ?_)
        go_simp
        go_at_call 36
        (with_reducible refine (acts_any (Option.map (fun x => x.add (4 * kk)) a) (zs.length - 4 * kk) (cap - 4 * kk) (zs.drop (4 * kk)) x3 (by simp; try omega) (HS.out.2.1 _ tY) HS.out.2.2.2 (fun h => by have := hanil (by simpa using h); omega) (by omega) (by omega) (by omega)).mono ?_)
        rintro e x4 ⟨vx, R2, rfl, how, hR2, hbd⟩
        obtain ⟨a2, c2, rfl, _, _, _⟩ := acts_form how
        obtain ⟨n2, hn2⟩ : ∃ n2, R2.length = n2 := ⟨_, rfl⟩
        rw [hn2] at how ⊢
        have tq : Touch (fun _ => False) x3 x4 := Touch.of_below hbd
        have h2 := how.mono' (show B0 ≤ x3.heap.size from by have := tY.size; omega)
        have hl2 : n2 ≤ 300 := by have h := congrArg List.length hR2; rw [List.length_map, hn2, actsOf_lenP _ _ (Nat.le_refl _)] at h; simp at h; omega
        replace h35 := h35.touch tq (fun _ _ _ h => h)
        replace tY := tY.trans (tq.mono (fun _ _ h => h.elim))
        clear tq how hbd
        refine hK.out _ _ trivial (fun _ => ?_)
        clear hK K
        try simp only [Act.put, List.setIfInBounds_toArray, List.set_cons_zero, List.set_cons_succ]
        refine region_one 12 (by kernel_rfl) rfl (fun K hK => ?_)
        refine step_append_acts rfl (.tmp 35) (.tmp 40) rfl B0 v35 ([] ++ R1) (by rfl) h35 a2 n2 c2 R2 (by rfl) hn2 h2 (by simp; omega) (by have := tY.size; omega) ?_
        intro v41 x5 h41 hg
        replace tY := tY.trans ((Touch.refl (fun k => B0 ≤ k) x4).grown hg (fun k hk _ => (h35.row.lt k hk).1))
        clear hg h35 h2
        refine hK.out _ _ trivial (fun _ => ?_)
        clear hK K
        try simp only [Act.put, List.setIfInBounds_toArray, List.set_cons_zero, List.set_cons_succ]
        refine region_take 13 (v := ?v10) rfl rfl (by kernel_rfl) (by kernel_rfl) (by kernel_rfl) (fun _ _ _ h => h) trivial (Or.inl ⟨by rfl, ?y10⟩) ?r10
        case y10 => (intro w hSw; go_simp; try with_reducible rfl)
        try simp only [Act.put, List.setIfInBounds_toArray, List.set_cons_zero, List.set_cons_succ]
        refine wpAnyH_done (by kernel_rfl) ?_ _
        go_wp2
        go_meet
        case rel =>
          obtain ⟨a7, c7, rfl, q1, q2, _⟩ := acts_form h41
          exact ⟨a7, _, c7, [] ++ R1 ++ R2, rfl, rfl, q1, q2, RowAt.of_owns h41, by simp [hR1, hR2, hsplit], tY⟩
  case rest =>
    obtain ⟨a7, n7, c7, R7, rfl, hn7, hl7, hm7, hrow7, hR7, hT⟩ := hcut
    have hn77 : n7 = n := by
      have h := congrArg List.length (hR7.trans HA.out.2.1.symm)
      simp only [List.length_map] at h
      rw [← hn7, h, HA.out.2.2.1]
    subst hn77
    have hright : ∀ v ∈ RA.map (·.1), ActRight v := by rw [HA.out.2.1]; exact actsOf_right _ zs (Nat.le_refl _)
    have hLn : (RA.map (·.1)).length = n7 := by rw [List.length_map, HA.out.2.2.1]
    have hn300 : n7 ≤ 300 := by have := HA.out.2.2.2.1; omega
    have kq2 : (zs.length : Int) / 4 = (n7 : Int) := by have := HA.out.2.2.2.1; omega
    have hbase : w.heap.size ≤ B0 := by have := HB.out.1.size; have := HA.out.2.2.2.2.size; omega
    have all : ∀ W, Touch (fun k => B0 ≤ k) wq W → RowAt W aA RA := fun W hW => HA.out.1.oldP (by rw [hB0]; exact hW)
    have fin : ∀ W, Touch (fun k => B0 ≤ k) wq W → Below w.heap.size w W := fun W hW => by
      have b1 := HB.out.1
      have b2 := HA.out.2.2.2.2
      exact (b1.trans (b2.mono b1.size)).trans (hW.below (Nat.le_trans b1.size b2.size) (fun k hk h => by omega))
    have HR := Lib.hid (And.intro hrow7 (And.intro hR7 (And.intro hn7 (And.intro hright (And.intro hLn (And.intro all (And.intro fin hT)))))))
    clear hrow7 hR7 hn7 hright hLn all fin hT hSt hSd hrt hrd hsplit
    obtain ⟨L, hL⟩ : ∃ L, RA.map (·.1) = L := ⟨_, rfl⟩
    have HLL := Lib.hid hL
    clear hL
    go_wp2_with fail
    go_loopw [8, 9] (fun m i wz => ∃ j : Nat, j ≤ 8 ∧ i = .int .i64 j ∧ m = .int .i64 (cntTo L j) ∧ Touch (fun _ => False) wc wz) (fun _ i _ => (8 - intOf i).toNat)
    case atStart => exact ⟨0, Nat.zero_le _, rfl, rfl, Touch.refl _ _⟩
    case round =>
      obtain ⟨j, hj, rfl, rfl, htz⟩ := hrel
      by_cases hq : j = 8
      · subst hq
        have hc8 : cntTo L 8 = n7 := by
          rw [← HLL.out, cntTo_all _ HR.out.2.2.2.1]
          exact HR.out.2.2.2.2.1
        rw [hc8]
        have T1 : Touch (fun k => B0 ≤ k) wq wr := HR.out.2.2.2.2.2.2.2.trans (htz.mono (fun _ _ h => h.elim))
        have r7 := HR.out.1.same htz
        have H6 := Lib.hid (And.intro T1 r7)
        clear hc8 T1 r7 htz
        go_wp2_with fail
        go_loopw [10] (fun i wz => ∃ j : Nat, j ≤ n7 ∧ i = .int .i64 j ∧ Touch (fun _ => False) wr wz) (fun i _ => (n7 - intOf i).toNat)
        case atStart => exact ⟨0, Nat.zero_le _, rfl, Touch.refl _ _⟩
        case round =>
          obtain ⟨j, hj, rfl, htz⟩ := hrel
          have T2 := H6.out.1.trans (htz.mono (fun _ _ h => h.elim))
          by_cases hq : j = n7
          · subst hq
            have q1 := HR.out.2.2.2.2.2.1 _ T2
            have q2 := H6.out.2.same htz
            have H7 := Lib.hid T2
            clear T2 htz
            go_wp2_with fail
            refine (same_eq_acts aA a7 j cA c7 RA R7 _ q1 q2 HA.out.2.2.1 (HA.out.2.1.trans HR.out.2.1.symm) hlA hl7 hmA hm7).mono ?_
            rintro e w8 ⟨rfl, hb8⟩
            have H8 := Lib.hid hb8
            clear hb8 q1 q2
            go_wp2_with fail
            go_ret
            exact ⟨by simp, HR.out.2.2.2.2.2.2.1 _ (H7.out.trans (Touch.of_below H8.out))⟩
          · have hjl : j < n7 := by omega
            have hj1 : (j : Int) < n7 := by omega
            have hj0 : (0 : Int) ≤ j := by omega
            have hkA : (n7 : Int) ≤ cA := by omega
            obtain ⟨q, hqq⟩ : ∃ q, RA[j]? = some q := ⟨_, List.getElem?_eq_getElem (by have := HA.out.2.2.1; omega)⟩
            obtain ⟨v, ss, cc⟩ := q
            have hv := HR.out.2.2.2.1 v (List.mem_map.2 ⟨_, List.mem_of_getElem? hqq, rfl⟩)
            obtain ⟨bb, oo, haA, _⟩ := (HR.out.2.2.2.2.2.1 _ T2).at hqq
            subst haA
            obtain ⟨il, hil⟩ : ∃ il, v.inj.length = il := ⟨_, rfl⟩
            have C : ∀ W, Touch (fun _ => False) wr W → W.cell? ⟨bb, oo + j * 8, none⟩ = some (.int .i64 v.dn) ∧ W.cell? ⟨bb, oo + j * 8 + 1, none⟩ = some (.int .i64 v.who) ∧ W.cell? ⟨bb, oo + j * 8 + 3, none⟩ = some (.int .i64 v.kd) ∧ W.cell? ⟨bb, oo + j * 8 + 7, none⟩ = some (.slice ss il cc) := fun W hW => by
              obtain ⟨b', o', e, d0, d1, d2, d3, d4, d5, d6, d7⟩ := (HR.out.2.2.2.2.2.1 _ (T2.trans (hW.mono (fun _ _ h => h.elim)))).at hqq
              cases e
              rw [← hil]
              exact ⟨d0, d1, d3, d7⟩
            obtain ⟨kd, hkd, hk7⟩ := hv.dn
            obtain ⟨nm, hnm⟩ : ∃ nm, actNamed v.dn = nm := ⟨_, rfl⟩
            have hnt := named_tests kd hk7
            rw [← hkd, hnm] at hnt
            obtain ⟨t1, t2', t3⟩ := hnt
            have g1 : decide (v.who < 1) = false := by have := hv.who; simp; omega
            have g2 : decide (3 < v.who) = false := by have := hv.who; simp; omega
            have hi := hv.inj
            rw [hil] at hi
            have g4 : decide (2 < (il : Int)) = false := by simp; split at hi <;> omega
            obtain ⟨p7, hp7⟩ : ∃ p7 : Bool, (v.dn == 7) = p7 := ⟨_, rfl⟩
            have g5 : decide (0 < (il : Int)) = p7 := by
              rw [← hp7]
              by_cases h : v.dn = 7
              · have h7 : il = 2 := by rw [hi]; exact if_pos h
                simp [h7, h]
              · have h7 : il = 0 := by rw [hi]; exact if_neg h
                simp [h7, h]
            have g4n : decide (2 < il) = false := by simp; split at hi <;> omega
            have g5n : decide (0 < il) = p7 := by rw [← g5]; simp
            obtain ⟨p6, hp6⟩ : ∃ p6 : Bool, (v.dn == 6) = p6 := ⟨_, rfl⟩
            have g6 : decide (0 < v.kd) = p6 := by
              rw [← hp6]
              by_cases h : v.dn = 6
              · rw [decide_eq_true (hv.kd.2 h)]; simp [h]
              · rw [decide_eq_false (fun h2 => h (hv.kd.1 h2))]; simp [h]
            have HC := Lib.hid C
            have HT2 := Lib.hid htz
            clear C hqq hv hil hkd hi T2 htz
            go_wp2_with fail
            refine wp_region_held_drew (S := fun w' : World => w'.cell? ⟨bb, oo + j * 8, none⟩ = some (.int .i64 v.dn) ∧ w'.cell? ⟨bb, oo + j * 8 + 1, none⟩ = some (.int .i64 v.who) ∧ w'.cell? ⟨bb, oo + j * 8 + 3, none⟩ = some (.int .i64 v.kd) ∧ w'.cell? ⟨bb, oo + j * 8 + 7, none⟩ = some (.slice ss il cc)) (by kernel_rfl) (HC.out _ ((Touch.refl _ _).drew)) (fun hHeld => ?_)
            refine region_take 0 (v := ?vk0) rfl rfl (by kernel_rfl) (by kernel_rfl) (by kernel_rfl) (fun _ _ _ h => h) hHeld (Or.inl ⟨by rfl, ?yk0⟩) ?rk0
            case yk0 => (intro w hSw; (try dsimp only at hSw); go_simp; try with_reducible rfl)
            try simp only [Act.put, List.setIfInBounds_toArray, List.set_cons_zero, List.set_cons_succ]
            refine region_take 1 (v := ?vk1) rfl rfl (by kernel_rfl) (by kernel_rfl) (by kernel_rfl) (fun _ _ _ h => h) hHeld (Or.inl ⟨by rfl, ?yk1⟩) ?rk1
            case yk1 => (intro w hSw; (try dsimp only at hSw); go_simp; try with_reducible rfl)
            try simp only [Act.put, List.setIfInBounds_toArray, List.set_cons_zero, List.set_cons_succ]
            refine region_take 2 (v := ?vk2) rfl rfl (by kernel_rfl) (by kernel_rfl) (by kernel_rfl) (fun _ _ _ h => h) hHeld (Or.inl ⟨by rfl, ?yk2⟩) ?rk2
            case yk2 => (intro w hSw; (try dsimp only at hSw); go_simp; try with_reducible rfl)
            try simp only [Act.put, List.setIfInBounds_toArray, List.set_cons_zero, List.set_cons_succ]
            refine region_take 3 (v := ?vk3) rfl rfl (by kernel_rfl) (by kernel_rfl) (by kernel_rfl) (fun _ _ _ h => h) hHeld (Or.inl ⟨by rfl, ?yk3⟩) ?rk3
            case yk3 => (intro w hSw; (try dsimp only at hSw); go_simp; try with_reducible rfl)
            try simp only [Act.put, List.setIfInBounds_toArray, List.set_cons_zero, List.set_cons_succ]
            refine region_take 4 (v := ?vk4) rfl rfl (by kernel_rfl) (by kernel_rfl) (by kernel_rfl) (fun _ _ _ h => h) hHeld (Or.inl ⟨by rfl, ?yk4⟩) ?rk4
            case yk4 => (intro w hSw; (try dsimp only at hSw); go_simp; try with_reducible rfl)
            try simp only [Act.put, List.setIfInBounds_toArray, List.set_cons_zero, List.set_cons_succ]
            refine region_take 5 (v := ?vk5) rfl rfl (by kernel_rfl) (by kernel_rfl) (by kernel_rfl) (fun _ _ _ h => h) hHeld (Or.inl ⟨by rfl, ?yk5⟩) ?rk5
            case yk5 => (intro w hSw; (try dsimp only at hSw); go_simp; try with_reducible rfl)
            try simp only [Act.put, List.setIfInBounds_toArray, List.set_cons_zero, List.set_cons_succ]
            refine region_take 6 (v := ?vk6) rfl rfl (by kernel_rfl) (by kernel_rfl) (by kernel_rfl) (fun _ _ _ h => h) hHeld (Or.inl ⟨by rfl, ?yk6⟩) ?rk6
            case yk6 => (intro w hSw; (try dsimp only at hSw); go_simp; try with_reducible rfl)
            try simp only [Act.put, List.setIfInBounds_toArray, List.set_cons_zero, List.set_cons_succ]
            refine region_take 7 (v := ?vk7) rfl rfl (by kernel_rfl) (by kernel_rfl) (by kernel_rfl) (fun _ _ _ h => h) hHeld (Or.inl ⟨by rfl, ?yk7⟩) ?rk7
            case yk7 => (intro w hSw; (try dsimp only at hSw); go_simp; try with_reducible rfl)
            try simp only [Act.put, List.setIfInBounds_toArray, List.set_cons_zero, List.set_cons_succ]
            refine region_take 8 (v := ?vk8) rfl rfl (by kernel_rfl) (by kernel_rfl) (by kernel_rfl) (fun _ _ _ h => h) hHeld (Or.inl ⟨by rfl, ?yk8⟩) ?rk8
            case yk8 => (intro w hSw; (try dsimp only at hSw); go_simp; try with_reducible rfl)
            try simp only [Act.put, List.setIfInBounds_toArray, List.set_cons_zero, List.set_cons_succ]
            refine region_take 9 (v := ?vk9) rfl rfl (by kernel_rfl) (by kernel_rfl) (by kernel_rfl) (fun _ _ _ h => h) hHeld (Or.inl ⟨by rfl, ?yk9⟩) ?rk9
            case yk9 => (intro w hSw; (try dsimp only at hSw); go_simp; try with_reducible rfl)
            try simp only [Act.put, List.setIfInBounds_toArray, List.set_cons_zero, List.set_cons_succ]
            refine region_take 10 (v := ?vk10) rfl rfl (by kernel_rfl) (by kernel_rfl) (by kernel_rfl) (fun _ _ _ h => h) hHeld (Or.inl ⟨by rfl, ?yk10⟩) ?rk10
            case yk10 => (intro w hSw; (try dsimp only at hSw); go_simp; try with_reducible rfl)
            try simp only [Act.put, List.setIfInBounds_toArray, List.set_cons_zero, List.set_cons_succ]
            refine region_take 11 (v := ?vk11) rfl rfl (by kernel_rfl) (by kernel_rfl) (by kernel_rfl) (fun _ _ _ h => h) hHeld (Or.inl ⟨by rfl, ?yk11⟩) ?rk11
            case yk11 => (intro w hSw; (try dsimp only at hSw); go_simp; try with_reducible rfl)
            try simp only [Act.put, List.setIfInBounds_toArray, List.set_cons_zero, List.set_cons_succ]
            refine region_take 12 (v := ?vk12) rfl rfl (by kernel_rfl) (by kernel_rfl) (by kernel_rfl) (fun _ _ _ h => h) hHeld (Or.inl ⟨by rfl, ?yk12⟩) ?rk12
            case yk12 => (intro w hSw; (try dsimp only at hSw); go_simp; try with_reducible rfl)
            try simp only [Act.put, List.setIfInBounds_toArray, List.set_cons_zero, List.set_cons_succ]
            refine region_take 13 (v := ?vk13) rfl rfl (by kernel_rfl) (by kernel_rfl) (by kernel_rfl) (fun _ _ _ h => h) hHeld (Or.inl ⟨by rfl, ?yk13⟩) ?rk13
            case yk13 => (intro w hSw; (try dsimp only at hSw); go_simp; try with_reducible rfl)
            try simp only [Act.put, List.setIfInBounds_toArray, List.set_cons_zero, List.set_cons_succ]
            refine region_take 14 (v := ?vk14) rfl rfl (by kernel_rfl) (by kernel_rfl) (by kernel_rfl) (fun _ _ _ h => h) hHeld (Or.inl ⟨by rfl, ?yk14⟩) ?rk14
            case yk14 => (intro w hSw; (try dsimp only at hSw); go_simp; try with_reducible rfl)
            try simp only [Act.put, List.setIfInBounds_toArray, List.set_cons_zero, List.set_cons_succ]
            refine region_take 15 (v := ?vk15) rfl rfl (by kernel_rfl) (by kernel_rfl) (by kernel_rfl) (fun _ _ _ h => h) hHeld (Or.inl ⟨by rfl, ?yk15⟩) ?rk15
            case yk15 => (intro w hSw; (try dsimp only at hSw); go_simp; try with_reducible rfl)
            try simp only [Act.put, List.setIfInBounds_toArray, List.set_cons_zero, List.set_cons_succ]
            refine region_take 16 (v := ?vk16) rfl rfl (by kernel_rfl) (by kernel_rfl) (by kernel_rfl) (fun _ _ _ h => h) hHeld (Or.inl ⟨by rfl, ?yk16⟩) ?rk16
            case yk16 => (intro w hSw; (try dsimp only at hSw); go_simp; try with_reducible rfl)
            try simp only [Act.put, List.setIfInBounds_toArray, List.set_cons_zero, List.set_cons_succ]
            refine region_take 17 (v := ?vk17) rfl rfl (by kernel_rfl) (by kernel_rfl) (by kernel_rfl) (fun _ _ _ h => h) hHeld (Or.inl ⟨by rfl, ?yk17⟩) ?rk17
            case yk17 => (intro w hSw; (try dsimp only at hSw); go_simp; try with_reducible rfl)
            try simp only [Act.put, List.setIfInBounds_toArray, List.set_cons_zero, List.set_cons_succ]
            refine region_take 18 (v := ?vk18) rfl rfl (by kernel_rfl) (by kernel_rfl) (by kernel_rfl) (fun _ _ _ h => h) hHeld (Or.inl ⟨by rfl, ?yk18⟩) ?rk18
            case yk18 => (intro w hSw; (try dsimp only at hSw); go_simp; try with_reducible rfl)
            try simp only [Act.put, List.setIfInBounds_toArray, List.set_cons_zero, List.set_cons_succ]
            refine region_take 19 (v := ?vk19) rfl rfl (by kernel_rfl) (by kernel_rfl) (by kernel_rfl) (fun _ _ _ h => h) hHeld (Or.inl ⟨by rfl, ?yk19⟩) ?rk19
            case yk19 => (intro w hSw; (try dsimp only at hSw); go_simp; try with_reducible rfl)
            try simp only [Act.put, List.setIfInBounds_toArray, List.set_cons_zero, List.set_cons_succ]
            refine region_one 20 (by kernel_rfl) rfl (fun K hK => ?_)
            go_simp
            go_at_call 39
            (with_reducible refine (act_named v.dn _).mono ?_)
            rintro e u2 ⟨rfl, hb2⟩
            rw [hnm]
            have t2 := Lib.hid (((Touch.refl (fun _ => False) wr).drew).trans (Touch.of_below hb2))
            clear hb2
            refine hK.out _ _ (HC.out _ t2.out) (fun _ => ?_)
            clear hK K hHeld
            have hHeld := HC.out _ t2.out
            try simp only [Act.put, List.setIfInBounds_toArray, List.set_cons_zero, List.set_cons_succ]
            refine region_take 21 (v := ?vk21) rfl rfl (by kernel_rfl) (by kernel_rfl) (by kernel_rfl) (fun _ _ _ h => h) hHeld (Or.inl ⟨by rfl, ?yk21⟩) ?rk21
            case yk21 => (intro w hSw; (try dsimp only at hSw); go_simp; try with_reducible rfl)
            try simp only [Act.put, List.setIfInBounds_toArray, List.set_cons_zero, List.set_cons_succ]
            refine region_take 22 (v := ?vk22) rfl rfl (by kernel_rfl) (by kernel_rfl) (by kernel_rfl) (fun _ _ _ h => h) hHeld (Or.inl ⟨by rfl, ?yk22⟩) ?rk22
            case yk22 => (intro w hSw; (try dsimp only at hSw); go_simp; try with_reducible rfl)
            try simp only [Act.put, List.setIfInBounds_toArray, List.set_cons_zero, List.set_cons_succ]
            refine region_take 23 (v := ?vk23) rfl rfl (by kernel_rfl) (by kernel_rfl) (by kernel_rfl) (fun _ _ _ h => h) hHeld (Or.inl ⟨by rfl, ?yk23⟩) ?rk23
            case yk23 => (intro w hSw; (try dsimp only at hSw); go_simp; try with_reducible rfl)
            try simp only [Act.put, List.setIfInBounds_toArray, List.set_cons_zero, List.set_cons_succ]
            refine region_take 24 (v := ?vk24) rfl rfl (by kernel_rfl) (by kernel_rfl) (by kernel_rfl) (fun _ _ _ h => h) hHeld (Or.inl ⟨by rfl, ?yk24⟩) ?rk24
            case yk24 => (intro w hSw; (try dsimp only at hSw); go_simp; try with_reducible rfl)
            try simp only [Act.put, List.setIfInBounds_toArray, List.set_cons_zero, List.set_cons_succ]
            refine region_take 25 (v := ?vk25) rfl rfl (by kernel_rfl) (by kernel_rfl) (by kernel_rfl) (fun _ _ _ h => h) hHeld (Or.inl ⟨by rfl, ?yk25⟩) ?rk25
            case yk25 => (intro w hSw; (try dsimp only at hSw); go_simp; try with_reducible rfl)
            try simp only [Act.put, List.setIfInBounds_toArray, List.set_cons_zero, List.set_cons_succ]
            refine region_take 26 (v := ?vk26) rfl rfl (by kernel_rfl) (by kernel_rfl) (by kernel_rfl) (fun _ _ _ h => h) hHeld (Or.inl ⟨by rfl, ?yk26⟩) ?rk26
            case yk26 => (intro w hSw; (try dsimp only at hSw); go_simp; try with_reducible rfl)
            try simp only [Act.put, List.setIfInBounds_toArray, List.set_cons_zero, List.set_cons_succ]
            refine region_take 27 (v := ?vk27) rfl rfl (by kernel_rfl) (by kernel_rfl) (by kernel_rfl) (fun _ _ _ h => h) hHeld (Or.inl ⟨by rfl, ?yk27⟩) ?rk27
            case yk27 => (intro w hSw; (try dsimp only at hSw); go_simp; try with_reducible rfl)
            try simp only [Act.put, List.setIfInBounds_toArray, List.set_cons_zero, List.set_cons_succ]
            refine region_take 28 (v := ?vk28) rfl rfl (by kernel_rfl) (by kernel_rfl) (by kernel_rfl) (fun _ _ _ h => h) hHeld (Or.inl ⟨by rfl, ?yk28⟩) ?rk28
            case yk28 => (intro w hSw; (try dsimp only at hSw); go_simp; try with_reducible rfl)
            try simp only [Act.put, List.setIfInBounds_toArray, List.set_cons_zero, List.set_cons_succ]
            refine region_take 29 (v := ?vk29) rfl rfl (by kernel_rfl) (by kernel_rfl) (by kernel_rfl) (fun _ _ _ h => h) hHeld (Or.inl ⟨by rfl, ?yk29⟩) ?rk29
            case yk29 => (intro w hSw; (try dsimp only at hSw); go_simp; try with_reducible rfl)
            try simp only [Act.put, List.setIfInBounds_toArray, List.set_cons_zero, List.set_cons_succ]
            refine region_take 30 (v := ?vk30) rfl rfl (by kernel_rfl) (by kernel_rfl) (by kernel_rfl) (fun _ _ _ h => h) hHeld (Or.inl ⟨by rfl, ?yk30⟩) ?rk30
            case yk30 => (intro w hSw; (try dsimp only at hSw); go_simp; try with_reducible rfl)
            try simp only [Act.put, List.setIfInBounds_toArray, List.set_cons_zero, List.set_cons_succ]
            refine region_take 31 (v := ?vk31) rfl rfl (by kernel_rfl) (by kernel_rfl) (by kernel_rfl) (fun _ _ _ h => h) hHeld (Or.inl ⟨by rfl, ?yk31⟩) ?rk31
            case yk31 => (intro w hSw; (try dsimp only at hSw); go_simp; try with_reducible rfl)
            try simp only [Act.put, List.setIfInBounds_toArray, List.set_cons_zero, List.set_cons_succ]
            refine region_take 32 (v := ?vk32) rfl rfl (by kernel_rfl) (by kernel_rfl) (by kernel_rfl) (fun _ _ _ h => h) hHeld (Or.inl ⟨by rfl, ?yk32⟩) ?rk32
            case yk32 => (intro w hSw; (try dsimp only at hSw); go_simp; try with_reducible rfl)
            try simp only [Act.put, List.setIfInBounds_toArray, List.set_cons_zero, List.set_cons_succ]
            refine region_take 33 (v := ?vk33) rfl rfl (by kernel_rfl) (by kernel_rfl) (by kernel_rfl) (fun _ _ _ h => h) hHeld (Or.inl ⟨by rfl, ?yk33⟩) ?rk33
            case yk33 => (intro w hSw; (try dsimp only at hSw); go_simp; try with_reducible rfl)
            try simp only [Act.put, List.setIfInBounds_toArray, List.set_cons_zero, List.set_cons_succ]
            refine region_take 34 (v := ?vk34) rfl rfl (by kernel_rfl) (by kernel_rfl) (by kernel_rfl) (fun _ _ _ h => h) hHeld (Or.inl ⟨by rfl, ?yk34⟩) ?rk34
            case yk34 => (intro w hSw; (try dsimp only at hSw); go_simp; try with_reducible rfl)
            try simp only [Act.put, List.setIfInBounds_toArray, List.set_cons_zero, List.set_cons_succ]
            refine region_take 35 (v := ?vk35) rfl rfl (by kernel_rfl) (by kernel_rfl) (by kernel_rfl) (fun _ _ _ h => h) hHeld (Or.inl ⟨by rfl, ?yk35⟩) ?rk35
            case yk35 => (intro w hSw; (try dsimp only at hSw); go_simp; try with_reducible rfl)
            try simp only [Act.put, List.setIfInBounds_toArray, List.set_cons_zero, List.set_cons_succ]
            refine region_take 36 (v := ?vk36) rfl rfl (by kernel_rfl) (by kernel_rfl) (by kernel_rfl) (fun _ _ _ h => h) hHeld (Or.inl ⟨by rfl, ?yk36⟩) ?rk36
            case yk36 => (intro w hSw; (try dsimp only at hSw); go_simp; try with_reducible rfl)
            try simp only [Act.put, List.setIfInBounds_toArray, List.set_cons_zero, List.set_cons_succ]
            refine region_take 37 (v := ?vk37) rfl rfl (by kernel_rfl) (by kernel_rfl) (by kernel_rfl) (fun _ _ _ h => h) hHeld (Or.inl ⟨by rfl, ?yk37⟩) ?rk37
            case yk37 => (intro w hSw; (try dsimp only at hSw); go_simp; try with_reducible rfl)
            try simp only [Act.put, List.setIfInBounds_toArray, List.set_cons_zero, List.set_cons_succ]
            refine region_take 38 (v := ?vk38) rfl rfl (by kernel_rfl) (by kernel_rfl) (by kernel_rfl) (fun _ _ _ h => h) hHeld (Or.inl ⟨by rfl, ?yk38⟩) ?rk38
            case yk38 => (intro w hSw; (try dsimp only at hSw); go_simp; try with_reducible rfl)
            try simp only [Act.put, List.setIfInBounds_toArray, List.set_cons_zero, List.set_cons_succ]
            refine region_take 39 (v := ?vk39) rfl rfl (by kernel_rfl) (by kernel_rfl) (by kernel_rfl) (fun _ _ _ h => h) hHeld (Or.inl ⟨by rfl, ?yk39⟩) ?rk39
            case yk39 => (intro w hSw; (try dsimp only at hSw); go_simp; try with_reducible rfl)
            try simp only [Act.put, List.setIfInBounds_toArray, List.set_cons_zero, List.set_cons_succ]
            refine region_take 40 (v := ?vk40) rfl rfl (by kernel_rfl) (by kernel_rfl) (by kernel_rfl) (fun _ _ _ h => h) hHeld (Or.inl ⟨by rfl, ?yk40⟩) ?rk40
            case yk40 => (intro w hSw; (try dsimp only at hSw); go_simp; try with_reducible rfl)
            try simp only [Act.put, List.setIfInBounds_toArray, List.set_cons_zero, List.set_cons_succ]
            refine region_take 41 (v := ?vk41) rfl rfl (by kernel_rfl) (by kernel_rfl) (by kernel_rfl) (fun _ _ _ h => h) hHeld (Or.inl ⟨by rfl, ?yk41⟩) ?rk41
            case yk41 => (intro w hSw; (try dsimp only at hSw); go_simp; try with_reducible rfl)
            try simp only [Act.put, List.setIfInBounds_toArray, List.set_cons_zero, List.set_cons_succ]
            refine region_take 42 (v := ?vk42) rfl rfl (by kernel_rfl) (by kernel_rfl) (by kernel_rfl) (fun _ _ _ h => h) hHeld (Or.inl ⟨by rfl, ?yk42⟩) ?rk42
            case yk42 => (intro w hSw; (try dsimp only at hSw); go_simp; try with_reducible rfl)
            try simp only [Act.put, List.setIfInBounds_toArray, List.set_cons_zero, List.set_cons_succ]
            refine region_take 43 (v := ?vk43) rfl rfl (by kernel_rfl) (by kernel_rfl) (by kernel_rfl) (fun _ _ _ h => h) hHeld (Or.inl ⟨by rfl, ?yk43⟩) ?rk43
            case yk43 => (intro w hSw; (try dsimp only at hSw); go_simp; try with_reducible rfl)
            try simp only [Act.put, List.setIfInBounds_toArray, List.set_cons_zero, List.set_cons_succ]
            refine region_take 44 (v := ?vk44) rfl rfl (by kernel_rfl) (by kernel_rfl) (by kernel_rfl) (fun _ _ _ h => h) hHeld (Or.inl ⟨by rfl, ?yk44⟩) ?rk44
            case yk44 => (intro w hSw; (try dsimp only at hSw); go_simp; try with_reducible rfl)
            try simp only [Act.put, List.setIfInBounds_toArray, List.set_cons_zero, List.set_cons_succ]
            refine region_take 45 (v := ?vk45) rfl rfl (by kernel_rfl) (by kernel_rfl) (by kernel_rfl) (fun _ _ _ h => h) hHeld (Or.inl ⟨by rfl, ?yk45⟩) ?rk45
            case yk45 => (intro w hSw; (try dsimp only at hSw); go_simp; try with_reducible rfl)
            try simp only [Act.put, List.setIfInBounds_toArray, List.set_cons_zero, List.set_cons_succ]
            refine region_take 46 (v := ?vk46) rfl rfl (by kernel_rfl) (by kernel_rfl) (by kernel_rfl) (fun _ _ _ h => h) hHeld (Or.inl ⟨by rfl, ?yk46⟩) ?rk46
            case yk46 => (intro w hSw; (try dsimp only at hSw); go_simp; try with_reducible rfl)
            try simp only [Act.put, List.setIfInBounds_toArray, List.set_cons_zero, List.set_cons_succ]
            refine region_take 47 (v := ?vk47) rfl rfl (by kernel_rfl) (by kernel_rfl) (by kernel_rfl) (fun _ _ _ h => h) hHeld (Or.inl ⟨by rfl, ?yk47⟩) ?rk47
            case yk47 => (intro w hSw; (try dsimp only at hSw); go_simp; try with_reducible rfl)
            try simp only [Act.put, List.setIfInBounds_toArray, List.set_cons_zero, List.set_cons_succ]
            refine region_take 48 (v := ?vk48) rfl rfl (by kernel_rfl) (by kernel_rfl) (by kernel_rfl) (fun _ _ _ h => h) hHeld (Or.inl ⟨by rfl, ?yk48⟩) ?rk48
            case yk48 => (intro w hSw; (try dsimp only at hSw); go_simp; try with_reducible rfl)
            try simp only [Act.put, List.setIfInBounds_toArray, List.set_cons_zero, List.set_cons_succ]
            refine region_take 49 (v := ?vk49) rfl rfl (by kernel_rfl) (by kernel_rfl) (by kernel_rfl) (fun _ _ _ h => h) hHeld (Or.inl ⟨by rfl, ?yk49⟩) ?rk49
            case yk49 => (intro w hSw; (try dsimp only at hSw); go_simp; try with_reducible rfl)
            try simp only [Act.put, List.setIfInBounds_toArray, List.set_cons_zero, List.set_cons_succ]
            refine region_take 50 (v := ?vk50) rfl rfl (by kernel_rfl) (by kernel_rfl) (by kernel_rfl) (fun _ _ _ h => h) hHeld (Or.inl ⟨by rfl, ?yk50⟩) ?rk50
            case yk50 => (intro w hSw; (try dsimp only at hSw); go_simp; try with_reducible rfl)
            try simp only [Act.put, List.setIfInBounds_toArray, List.set_cons_zero, List.set_cons_succ]
            refine region_take 51 (v := ?vk51) rfl rfl (by kernel_rfl) (by kernel_rfl) (by kernel_rfl) (fun _ _ _ h => h) hHeld (Or.inl ⟨by rfl, ?yk51⟩) ?rk51
            case yk51 => (intro w hSw; (try dsimp only at hSw); go_simp; try with_reducible rfl)
            try simp only [Act.put, List.setIfInBounds_toArray, List.set_cons_zero, List.set_cons_succ]
            refine region_take 52 (v := ?vk52) rfl rfl (by kernel_rfl) (by kernel_rfl) (by kernel_rfl) (fun _ _ _ h => h) hHeld (Or.inl ⟨by rfl, ?yk52⟩) ?rk52
            case yk52 => (intro w hSw; (try dsimp only at hSw); go_simp; try with_reducible rfl)
            try simp only [Act.put, List.setIfInBounds_toArray, List.set_cons_zero, List.set_cons_succ]
            refine region_take 53 (v := ?vk53) rfl rfl (by kernel_rfl) (by kernel_rfl) (by kernel_rfl) (fun _ _ _ h => h) hHeld (Or.inl ⟨by rfl, ?yk53⟩) ?rk53
            case yk53 => (intro w hSw; (try dsimp only at hSw); go_simp; try with_reducible rfl)
            try simp only [Act.put, List.setIfInBounds_toArray, List.set_cons_zero, List.set_cons_succ]
            refine region_take 54 (v := ?vk54) rfl rfl (by kernel_rfl) (by kernel_rfl) (by kernel_rfl) (fun _ _ _ h => h) hHeld (Or.inl ⟨by rfl, ?yk54⟩) ?rk54
            case yk54 => (intro w hSw; (try dsimp only at hSw); go_simp; try with_reducible rfl)
            try simp only [Act.put, List.setIfInBounds_toArray, List.set_cons_zero, List.set_cons_succ]
            refine region_take 55 (v := ?vk55) rfl rfl (by kernel_rfl) (by kernel_rfl) (by kernel_rfl) (fun _ _ _ h => h) hHeld (Or.inl ⟨by rfl, ?yk55⟩) ?rk55
            case yk55 => (intro w hSw; (try dsimp only at hSw); go_simp; try with_reducible rfl)
            try simp only [Act.put, List.setIfInBounds_toArray, List.set_cons_zero, List.set_cons_succ]
            refine region_take 56 (v := ?vk56) rfl rfl (by kernel_rfl) (by kernel_rfl) (by kernel_rfl) (fun _ _ _ h => h) hHeld (Or.inl ⟨by rfl, ?yk56⟩) ?rk56
            case yk56 => (intro w hSw; (try dsimp only at hSw); go_simp; try with_reducible rfl)
            try simp only [Act.put, List.setIfInBounds_toArray, List.set_cons_zero, List.set_cons_succ]
            refine region_take 57 (v := ?vk57) rfl rfl (by kernel_rfl) (by kernel_rfl) (by kernel_rfl) (fun _ _ _ h => h) hHeld (Or.inl ⟨by rfl, ?yk57⟩) ?rk57
            case yk57 => (intro w hSw; (try dsimp only at hSw); go_simp; try with_reducible rfl)
            try simp only [Act.put, List.setIfInBounds_toArray, List.set_cons_zero, List.set_cons_succ]
            refine region_take 58 (v := ?vk58) rfl rfl (by kernel_rfl) (by kernel_rfl) (by kernel_rfl) (fun _ _ _ h => h) hHeld (Or.inl ⟨by rfl, ?yk58⟩) ?rk58
            case yk58 => (intro w hSw; (try dsimp only at hSw); go_simp; try with_reducible rfl)
            try simp only [Act.put, List.setIfInBounds_toArray, List.set_cons_zero, List.set_cons_succ]
            refine region_take 59 (v := ?vk59) rfl rfl (by kernel_rfl) (by kernel_rfl) (by kernel_rfl) (fun _ _ _ h => h) hHeld (Or.inl ⟨by rfl, ?yk59⟩) ?rk59
            case yk59 => (intro w hSw; (try dsimp only at hSw); go_simp; try with_reducible rfl)
            try simp only [Act.put, List.setIfInBounds_toArray, List.set_cons_zero, List.set_cons_succ]
            refine region_take 60 (v := ?vk60) rfl rfl (by kernel_rfl) (by kernel_rfl) (by kernel_rfl) (fun _ _ _ h => h) hHeld (Or.inl ⟨by rfl, ?yk60⟩) ?rk60
            case yk60 => (intro w hSw; (try dsimp only at hSw); go_simp; try with_reducible rfl)
            try simp only [Act.put, List.setIfInBounds_toArray, List.set_cons_zero, List.set_cons_succ]
            refine region_take 61 (v := ?vk61) rfl rfl (by kernel_rfl) (by kernel_rfl) (by kernel_rfl) (fun _ _ _ h => h) hHeld (Or.inl ⟨by rfl, ?yk61⟩) ?rk61
            case yk61 => (intro w hSw; (try dsimp only at hSw); go_simp; try with_reducible rfl)
            try simp only [Act.put, List.setIfInBounds_toArray, List.set_cons_zero, List.set_cons_succ]
            refine region_take 62 (v := ?vk62) rfl rfl (by kernel_rfl) (by kernel_rfl) (by kernel_rfl) (fun _ _ _ h => h) hHeld (Or.inl ⟨by rfl, ?yk62⟩) ?rk62
            case yk62 => (intro w hSw; (try dsimp only at hSw); go_simp; try with_reducible rfl)
            try simp only [Act.put, List.setIfInBounds_toArray, List.set_cons_zero, List.set_cons_succ]
            refine region_take 63 (v := ?vk63) rfl rfl (by kernel_rfl) (by kernel_rfl) (by kernel_rfl) (fun _ _ _ h => h) hHeld (Or.inl ⟨by rfl, ?yk63⟩) ?rk63
            case yk63 => (intro w hSw; (try dsimp only at hSw); go_simp; try with_reducible rfl)
            try simp only [Act.put, List.setIfInBounds_toArray, List.set_cons_zero, List.set_cons_succ]
            refine wpAnyH_done (by kernel_rfl) ?_ _
            go_wp2_with fail
            go_roundw
            case rel =>
              first
                | exact ⟨j + 1, hjl, by first | rfl | (congr 1; omega), HT2.out.trans t2.out⟩
                | (repeat (first | exact ⟨⟨j + 1, hjl, by first | rfl | (congr 1; omega), HT2.out.trans t2.out⟩, rfl⟩ | apply Exists.intro))
            case measure => simp [intOf]; omega
      · have hjl : j < 8 := by omega
        have hj7 : (j : Int) ≤ 7 := by omega
        have hcl := cntTo_le L j
        have hcv := countV_le L j
        have hLl : L.length = n7 := by rw [← HLL.out]; exact HR.out.2.2.2.2.1
        have hsum : cntTo L j + countV L j ≤ 8 * 300 + 300 := by
          rw [hLl] at hcl hcv
          have : j * n7 ≤ 8 * 300 := Nat.mul_le_mul (by omega) hn300
          omega
        have hnx : cntTo L (j + 1) = cntTo L j + countV L j := rfl
        obtain ⟨c1, hc1⟩ : ∃ c1, cntTo L j = c1 := ⟨_, rfl⟩
        obtain ⟨c2, hc2⟩ : ∃ c2, countV L j = c2 := ⟨_, rfl⟩
        rw [hc1, hc2] at hnx hsum
        have kw : IntKind.i64.wrap ((c1 : Int) + c2) = (c1 : Int) + c2 := IntWalk.i64_in _ (by omega)
        have hnt := named_tests j (by omega)
        obtain ⟨nm, hnm⟩ : ∃ nm, actNamed (j : Int) = nm := ⟨_, rfl⟩
        rw [hnm] at hnt
        obtain ⟨t1, t2, t3⟩ := hnt
        rw [hc1]
        have rA := HR.out.2.2.2.2.2.1 _ (HR.out.2.2.2.2.2.2.2.trans (htz.mono (fun _ _ h => h.elim)))
        have HT := Lib.hid (And.intro htz (And.intro hnx (And.intro hc2 (And.intro hnm rA))))
        clear htz hnx hc2 hc1 hnm hcl hcv hLl rA
        go_wp2_with fail
        refine (count_any aA n7 cA RA j wr HT.out.2.2.2.2 HA.out.2.2.1 hlA hmA).mono ?_
        rintro e w3 ⟨rfl, hb3⟩
        rw [HLL.out, HT.out.2.2.1]
        go_wp2_with fail
        refine (act_named j w3).mono ?_
        rintro e w4 ⟨rfl, hb4⟩
        rw [HT.out.2.2.2.1]
        have H4 := Lib.hid ((Touch.of_below (S := fun _ => False) hb3).trans (Touch.of_below hb4))
        clear hb3 hb4
        go_wp2_with fail
        go_roundw
        case rel => exact ⟨j + 1, hjl, by first | rfl | (congr 1; omega), by rw [HT.out.2.1]; first | rfl | (congr 1; omega), HT.out.1.trans H4.out⟩
        case measure => simp [intOf]; omega

theorem scriptParts_walk (w : World) (a : Option Addr) (len cap : Nat) (xs : List Int) (hin : RowIn .u8 w a len cap xs) (k : Int) (_w1 : (Lit.int .i64 k).wf = true) :
    Calls Try.prog 13 #[.slice a len cap, .int .i64 k] w fun e w' => e = .returned (.bool true) ∧ Below w.heap.size w w' := by
  obtain ⟨zs, rfl⟩ : ∃ zs : List Nat, xs = nats zs := ⟨xs.map Int.toNat, by
    have hr := hin.range
    simp only [nats, List.map_map]
    refine (List.map_id' xs).symm.trans (List.map_congr_left fun z hz => ?_)
    have := hr z hz
    simp
    omega⟩
  have hlen : zs.length = len := by have := hin.hlen; simpa [nats] using this
  subst hlen
  by_cases h : (zs.length : Int) ≤ 1000 ∧ 0 ≤ k ∧ k ≤ (zs.length : Int) / 4
  · obtain ⟨h1, h2, h3⟩ := h
    obtain ⟨kk, rfl⟩ : ∃ kk : Nat, k = kk := ⟨k.toNat, by omega⟩
    exact scriptParts_in w a cap zs hin kk h1 (by omega)
  · exact scriptParts_out w a zs.length cap k (by omega)

/-! ### the row's step, and the row -/
theorem scriptParts_own : ownKnob Try.prog.godebug = none := by kernel_rfl
theorem scriptParts_laidOut : laidOutB Try.prog = true := by kernel_rfl

set_option linter.unusedVariables false in
set_option maxRecDepth 100000 in
theorem scriptParts_lifted (os : Os) (started : os.Started) (H : Type) (enc : TypeId × Value → H) :
    ReturnsInHanded {} Try.checked os 13 .any (Rows.scriptPartsSpec.pre6 enc Try.prog Try.f13 Rows.scriptPartsRow.domain false) (Rows.scriptPartsSpec.post enc Try.prog Try.f13 false true false false) := by
  refine returnsInHanded_of_change (C := Try.checked) scriptParts_own started (by kernel_rfl) Try.func13
    (ChangeSpec.witness6 (enc := enc) (C := Try.checked) false ⟨#[], #[.slice none 0 0, .int .i64 0], []⟩ 8 (by kernel_rfl) (by kernel_rfl) (by kernel_rfl) (by kernel_rfl)) ?_
  intro W base args ds gs before hval0 hW hcnd _
  have hval : ∀ (j : Nat) t v, Try.f13.params[j]? = some t → args[j]? = some v → Value.okWide Try.prog W .any base t v := hval0
  have hW' := hW
  obtain ⟨p, q, hA0, hV, rfl, hfz, hnd⟩ := hW
  have hA : DataW.TrodAll enc Try.prog W 0 (fun _ => true) true Try.f13.params.toList args.toList ds p := hA0
  rw [Try.params13] at hA hval
  obtain ⟨v0, vs0, d0, ds0, p0, q0, hargs, rfl, rfl, h0, r0⟩ := trodAll_cons hA
  obtain ⟨v1, vs1, d1, ds1, p1, q1, rfl, rfl, rfl, h1, r1⟩ := trodAll_cons r0
  obtain ⟨rfl, rfl, rfl⟩ := trodAll_nil r1
  obtain rfl : args = #[v0, v1] := by cases args; simp_all
  obtain ⟨rfl, rfl⟩ := trodVars_none hV
  have k0 := h0
  have lt0 : ∀ x ∈ p0, x.block < W.heap.size := by obtain ⟨m, hm⟩ := k0; exact DataW.trod_lt m _ _ _ hm
  obtain ⟨a0, len0, cap0, rfl⟩ := okWide_slice Try.underlying31 (hval 0 31 v0 rfl rfl)
  obtain ⟨z0, w0⟩ := row_of (k := .u8) Try.underlying31 Try.underlying5 (by kernel_rfl) h0
  obtain ⟨a1, rfl, rfl, rfl, w1⟩ := open_int Try.underlying3 (hval 1 3 v1 rfl rfl) h1
  clear hA0 hval0
  refine (scriptParts_walk W a0 len0 cap0 z0 w0 a1 w1).mono fun e W' ⟨he, bel⟩ => ?_
  subst he
  exact ⟨_, rfl, _, _, _, [], _, [], hW', trodAll_mk1 (shut_bool Try.underlying4 _), (trodAll_cons_mk (Below.trod scriptParts_laidOut (by kernel_rfl) (of_decide_eq_true (by kernel_rfl)) k0 bel lt0) (trodAll_cons_mk (shut_int Try.underlying3 w1) trodAll_mk0)), rfl, bel.frame _, fun h => by cases h⟩

theorem scriptParts_over : Rows.scriptPartsRow.holds Try.pinned (OpenSpec.ofChange Rows.scriptPartsSpec) :=
  OpenClaim.holds_of_wide 13 Try.f13 rfl rfl rfl rfl rfl rfl rfl ⟨rfl, rfl, rfl, rfl, rfl⟩ rfl rfl rfl rfl rfl (by kernel_rfl) Try.func13 (by kernel_rfl)
    (of_decide_eq_true (by kernel_rfl)) (by unfold Func.isWrapper; first | (rw [if_pos (by decide +kernel)]; kernel_rfl) | (rw [if_neg (by decide +kernel)]; exact ⟨rfl, rfl⟩))
    (fun os started H enc _ => scriptParts_lifted os started H enc)

/-- THE STATEMENT. -/
theorem scriptParts_proved : Rows.ScriptPartsSaid := scriptParts_over
#print axioms scriptParts_proved
end Go.Proofs.Ytgoppolkplmphaa
