/-
  nightjarlaw04.FieldWraps: for every number and every size the law returns true. No conditions: for every input.
-/
import Derived.Test.YtgoppolkplmphaaRows
import Derived.Test.YtgoppolkplmphaaFieldLib
import Derived.Test.YtgoppolkplmphaaOpen
import Derived.Test.YtgoppolkplmphaaRegion
namespace Go.Proofs.Ytgoppolkplmphaa
open Go.ChangeShapes Go.WideShapes Go.ChangeAt Go.RowKit

theorem fieldWraps_out (n : Int) (size : Int) (w : World) (h : n < -72057594037927936 ∨ 72057594037927936 < n ∧ -72057594037927936 ≤ n ∨ size < 1 ∧ -72057594037927936 ≤ n ∧ n ≤ 72057594037927936 ∨ 6 < size ∧ 1 ≤ size ∧ -72057594037927936 ≤ n ∧ n ≤ 72057594037927936) :
    Calls Try.prog 10 #[.int .i64 n, .int .i64 size] w fun e w' => e = .returned (.bool true) ∧ Below w.heap.size w w' := by
  rcases h with h1 | ⟨h1, h2⟩ | ⟨h1, h2, h3⟩ | ⟨h1, h2, h3, h4⟩
  all_goals
    go_enter Try.func10, Try.ntmps10
    go_wp2_with fail
    refine (fieldSmall_any w).mono ?_
    rintro e w1 ⟨rfl, hb⟩
    go_wp2_with fail
    go_ret
    exact ⟨rfl, hb⟩

set_option maxRecDepth 100000 in
set_option maxHeartbeats 4000000 in
theorem fieldWraps_1 (n : Int) (w : World) (h1 : -72057594037927936 ≤ n) (h2 : n ≤ 72057594037927936) :
    Calls Try.prog 10 #[.int .i64 n, .int .i64 1] w fun e w' => e = .returned (.bool true) ∧ Below w.heap.size w w' := by
  have k1 : IntKind.i64.wrap (n + 256) = n + 1 * 2 ^ (8 * 1) := by rw [IntWalk.i64_in _ (by omega)]; omega
  have k2 : IntKind.i64.wrap (n - 256) = n + (-1) * 2 ^ (8 * 1) := by rw [IntWalk.i64_in _ (by omega)]; omega
  have KW := Lib.hid (And.intro k1 k2)
  clear k1 k2
  have sh : ∀ (w : World), (Op.shift BinOp.shl IntKind.i64 1 IntKind.i64 (IntKind.i64.wrap 8)).run Try.prog w = .ok (.int .i64 256) w := fun _ => rfl
  go_enter Try.func10, Try.ntmps10
  go_wp2_with fail
  refine (fieldSmall_any w).mono ?_
  rintro e w1 ⟨rfl, hb⟩
  go_wp2_with fail
  refine (put_nil n 1 1 (putList n 1 1) w1 rfl rfl).mono ?_
  rintro e w2 ⟨a2, c2, rfl, ho2, hl2, hn2, hb2⟩
  have G2 : ∀ W, Touch (fun _ => False) w2 W → (convert 31 9 (.slice a2 1 c2)).run Try.prog W = .ok (.string (strOfNums (putList n 1 1))) W := fun W h => str_of (owns_touch ho2 h (fun _ _ h => h))
  have H2 := Lib.hid (And.intro hb2 G2)
  have y2 := Lib.hid ((Touch.refl (fun _ => False) w2).drew)
  have G2 := H2.out.2
  clear hb2 ho2 hl2 hn2
  have H2b := Lib.hid G2
  clear G2
  go_wp2_with fail
  refine wp_region_held_drew (S := fun w' : World => (convert 31 9 (.slice a2 1 c2)).run Try.prog w' = .ok (.string (strOfNums (putList n 1 1))) w') (by kernel_rfl) (H2b.out _ y2.out) (fun hHeld => ?_)
  refine region_take 0 (v := ?va0) rfl rfl (by kernel_rfl) (by kernel_rfl) (by kernel_rfl) (fun _ _ _ h => h) hHeld (Or.inl ⟨by rfl, ?ya0⟩) ?ra0
  case ya0 => (intro w hSw; (try dsimp only at hSw); go_simp; try with_reducible rfl)
  try simp only [Act.put, List.setIfInBounds_toArray, List.set_cons_zero, List.set_cons_succ]
  refine region_take 1 (v := ?va1) rfl rfl (by kernel_rfl) (by kernel_rfl) (by kernel_rfl) (fun _ _ _ h => h) hHeld (Or.inl ⟨by rfl, ?ya1⟩) ?ra1
  case ya1 => (intro w hSw; (try dsimp only at hSw); go_simp; try with_reducible rfl)
  try simp only [Act.put, List.setIfInBounds_toArray, List.set_cons_zero, List.set_cons_succ]
  refine region_take 2 (v := ?va2) rfl rfl (by kernel_rfl) (by kernel_rfl) (by kernel_rfl) (fun _ _ _ h => h) hHeld (Or.inl ⟨by rfl, ?ya2⟩) ?ra2
  case ya2 => (intro w hSw; (try dsimp only at hSw); go_simp; try with_reducible rfl)
  try simp only [Act.put, List.setIfInBounds_toArray, List.set_cons_zero, List.set_cons_succ]
  refine region_take 3 (v := ?va3) rfl rfl (by kernel_rfl) (by kernel_rfl) (by kernel_rfl) (fun _ _ _ h => h) hHeld (Or.inl ⟨by rfl, ?ya3⟩) ?ra3
  case ya3 => (intro w hSw; (try dsimp only at hSw); go_simp; try with_reducible rfl)
  try simp only [Act.put, List.setIfInBounds_toArray, List.set_cons_zero, List.set_cons_succ]
  refine region_take 4 (v := ?va4) rfl rfl (by kernel_rfl) (by kernel_rfl) (by kernel_rfl) (fun _ _ _ h => h) hHeld (Or.inl ⟨by rfl, ?ya4⟩) ?ra4
  case ya4 => (intro w hSw; (try dsimp only at hSw); go_simp; try with_reducible rfl)
  try simp only [Act.put, List.setIfInBounds_toArray, List.set_cons_zero, List.set_cons_succ]
  refine region_take 5 (v := ?va5) rfl rfl (by kernel_rfl) (by kernel_rfl) (by kernel_rfl) (fun _ _ _ h => h) hHeld (Or.inl ⟨by rfl, ?ya5⟩) ?ra5
  case ya5 => (intro w hSw; (try dsimp only at hSw); go_simp; try with_reducible rfl)
  try simp only [Act.put, List.setIfInBounds_toArray, List.set_cons_zero, List.set_cons_succ]
  refine region_take 6 (v := ?va6) rfl rfl (by kernel_rfl) (by kernel_rfl) (by kernel_rfl) (fun _ _ _ h => h) hHeld (Or.inl ⟨by rfl, ?ya6⟩) ?ra6
  case ya6 => (intro w hSw; (try dsimp only at hSw); go_simp; try with_reducible rfl)
  try simp only [Act.put, List.setIfInBounds_toArray, List.set_cons_zero, List.set_cons_succ]
  refine region_take 7 (v := ?va7) rfl rfl (by kernel_rfl) (by kernel_rfl) (by kernel_rfl) (fun _ _ _ h => h) hHeld (Or.inl ⟨by rfl, ?ya7⟩) ?ra7
  case ya7 => (intro w hSw; (try dsimp only at hSw); go_simp; try with_reducible rfl)
  try simp only [Act.put, List.setIfInBounds_toArray, List.set_cons_zero, List.set_cons_succ]
  refine region_take 8 (v := ?va8) rfl rfl (by kernel_rfl) (by kernel_rfl) (by kernel_rfl) (fun _ _ _ h => h) hHeld (Or.inl ⟨by rfl, ?ya8⟩) ?ra8
  case ya8 => (intro w hSw; (try dsimp only at hSw); go_simp; try with_reducible rfl)
  try simp only [Act.put, List.setIfInBounds_toArray, List.set_cons_zero, List.set_cons_succ]
  refine region_take 9 (v := ?va9) rfl rfl (by kernel_rfl) (by kernel_rfl) (by kernel_rfl) (fun _ _ _ h => h) hHeld (Or.inl ⟨by rfl, ?ya9⟩) ?ra9
  case ya9 => (intro w hSw; (try dsimp only at hSw); go_simp; try with_reducible rfl)
  try simp only [Act.put, List.setIfInBounds_toArray, List.set_cons_zero, List.set_cons_succ]
  refine region_take 10 (v := ?va10) rfl rfl (by kernel_rfl) (by kernel_rfl) (by kernel_rfl) (fun _ _ _ h => h) hHeld (Or.inl ⟨by rfl, ?ya10⟩) ?ra10
  case ya10 => (intro w hSw; (try dsimp only at hSw); go_simp; try with_reducible rfl)
  try simp only [Act.put, List.setIfInBounds_toArray, List.set_cons_zero, List.set_cons_succ]
  refine region_take 11 (v := ?va11) rfl rfl (by kernel_rfl) (by kernel_rfl) (by kernel_rfl) (fun _ _ _ h => h) hHeld (Or.inl ⟨by rfl, ?ya11⟩) ?ra11
  case ya11 => (intro w hSw; (try dsimp only at hSw); go_simp; try with_reducible rfl)
  try simp only [Act.put, List.setIfInBounds_toArray, List.set_cons_zero, List.set_cons_succ]
  refine region_take 12 (v := ?va12) rfl rfl (by kernel_rfl) (by kernel_rfl) (by kernel_rfl) (fun _ _ _ h => h) hHeld (Or.inl ⟨by rfl, ?ya12⟩) ?ra12
  case ya12 => (intro w hSw; (try dsimp only at hSw); go_simp; try with_reducible rfl)
  try simp only [Act.put, List.setIfInBounds_toArray, List.set_cons_zero, List.set_cons_succ]
  refine region_take 13 (v := ?va13) rfl rfl (by kernel_rfl) (by kernel_rfl) (by kernel_rfl) (fun _ _ _ h => h) hHeld (Or.inl ⟨by rfl, ?ya13⟩) ?ra13
  case ya13 => (intro w hSw; (try dsimp only at hSw); go_simp; try with_reducible rfl)
  try simp only [Act.put, List.setIfInBounds_toArray, List.set_cons_zero, List.set_cons_succ]
  refine region_take 16 (v := ?va16) rfl rfl (by kernel_rfl) (by kernel_rfl) (by kernel_rfl) (fun _ _ _ h => h) hHeld (Or.inl ⟨by rfl, ?ya16⟩) ?ra16
  case ya16 => (intro w hSw; (try dsimp only at hSw); go_simp; try with_reducible rfl)
  try simp only [Act.put, List.setIfInBounds_toArray, List.set_cons_zero, List.set_cons_succ]
  refine region_take 17 (v := ?va17) rfl rfl (by kernel_rfl) (by kernel_rfl) (by kernel_rfl) (fun _ _ _ h => h) hHeld (Or.inl ⟨by rfl, ?ya17⟩) ?ra17
  case ya17 => (intro w hSw; (try dsimp only at hSw); go_simp; try with_reducible rfl)
  try simp only [Act.put, List.setIfInBounds_toArray, List.set_cons_zero, List.set_cons_succ]
  refine region_one 14 (by kernel_rfl) rfl (fun K hK => ?_)
  go_simp
  go_at_call 25
  refine (put_nil _ 1 1 (putList n 1 1) _ rfl (by rw [KW.out.1]; exact putList_add n 1 1)).mono ?_
  rintro e w3 ⟨a3, c3, rfl, ho3, hl3, hn3, hb3⟩
  have H3b := Lib.hid (show ∀ W, Touch (fun _ => False) w3 W → (convert 31 9 (.slice a3 1 c3)).run Try.prog W = .ok (.string (strOfNums (putList n 1 1))) W from fun W h => str_of (owns_touch ho3 h (fun _ _ h => h)))
  replace y2 := Lib.hid (y2.out.trans (Touch.of_below hb3))
  have y3 := Lib.hid (Touch.refl (fun _ => False) w3)
  clear ho3 hl3 hn3 hb3
  refine hK.out _ _ (H2b.out _ y2.out) (fun _ => ?_)
  clear hK K hHeld
  refine region_more (S' := fun w' : World => ((convert 31 9 (.slice a2 1 c2)).run Try.prog w' = .ok (.string (strOfNums (putList n 1 1))) w') ∧ ((convert 31 9 (.slice a3 1 c3)).run Try.prog w' = .ok (.string (strOfNums (putList n 1 1))) w')) (fun _ h => h.1) _ _ _ _ ?_
  have hHeld : (fun w' : World => ((convert 31 9 (.slice a2 1 c2)).run Try.prog w' = .ok (.string (strOfNums (putList n 1 1))) w') ∧ ((convert 31 9 (.slice a3 1 c3)).run Try.prog w' = .ok (.string (strOfNums (putList n 1 1))) w')) _ := ⟨H2b.out _ y2.out, H3b.out _ y3.out⟩
  try simp only [Act.put, List.setIfInBounds_toArray, List.set_cons_zero, List.set_cons_succ]
  refine region_take 15 (v := ?va15) rfl rfl (by kernel_rfl) (by kernel_rfl) (by kernel_rfl) (fun _ _ _ h => h) hHeld (Or.inl ⟨by rfl, ?ya15⟩) ?ra15
  case ya15 => (intro w hSw; (try dsimp only at hSw); go_simp; try with_reducible rfl)
  try simp only [Act.put, List.setIfInBounds_toArray, List.set_cons_zero, List.set_cons_succ]
  refine region_take 18 (v := ?va18) rfl rfl (by kernel_rfl) (by kernel_rfl) (by kernel_rfl) (fun _ _ _ h => h) hHeld (Or.inl ⟨by rfl, ?ya18⟩) ?ra18
  case ya18 => (intro w hSw; (try dsimp only at hSw); go_simp; try with_reducible rfl)
  try simp only [Act.put, List.setIfInBounds_toArray, List.set_cons_zero, List.set_cons_succ]
  refine region_take 19 (v := ?va19) rfl rfl (by kernel_rfl) (by kernel_rfl) (by kernel_rfl) (fun _ _ _ h => h) hHeld (Or.inl ⟨by rfl, ?ya19⟩) ?ra19
  case ya19 => (intro w hSw; (try dsimp only at hSw); go_simp; try with_reducible rfl)
  try simp only [Act.put, List.setIfInBounds_toArray, List.set_cons_zero, List.set_cons_succ]
  refine region_take 20 (v := ?va20) rfl rfl (by kernel_rfl) (by kernel_rfl) (by kernel_rfl) (fun _ _ _ h => h) hHeld (Or.inl ⟨by rfl, ?ya20⟩) ?ra20
  case ya20 => (intro w hSw; (try dsimp only at hSw); go_simp; try with_reducible rfl)
  try simp only [Act.put, List.setIfInBounds_toArray, List.set_cons_zero, List.set_cons_succ]
  refine region_take 21 (v := ?va21) rfl rfl (by kernel_rfl) (by kernel_rfl) (by kernel_rfl) (fun _ _ _ h => h) hHeld (Or.inl ⟨by rfl, ?ya21⟩) ?ra21
  case ya21 => (intro w hSw; (try dsimp only at hSw); go_simp; try with_reducible rfl)
  try simp only [Act.put, List.setIfInBounds_toArray, List.set_cons_zero, List.set_cons_succ]
  refine region_take 22 (v := ?va22) rfl rfl (by kernel_rfl) (by kernel_rfl) (by kernel_rfl) (fun _ _ _ h => h) hHeld (Or.inl ⟨by rfl, ?ya22⟩) ?ra22
  case ya22 => (intro w hSw; (try dsimp only at hSw); go_simp; try with_reducible rfl)
  try simp only [Act.put, List.setIfInBounds_toArray, List.set_cons_zero, List.set_cons_succ]
  refine region_take 23 (v := ?va23) rfl rfl (by kernel_rfl) (by kernel_rfl) (by kernel_rfl) (fun _ _ _ h => h) hHeld (Or.inl ⟨by rfl, ?ya23⟩) ?ra23
  case ya23 => (intro w hSw; (try dsimp only at hSw); go_simp; try with_reducible rfl)
  try simp only [Act.put, List.setIfInBounds_toArray, List.set_cons_zero, List.set_cons_succ]
  refine region_take 24 (v := ?va24) rfl rfl (by kernel_rfl) (by kernel_rfl) (by kernel_rfl) (fun _ _ _ h => h) hHeld (Or.inl ⟨by rfl, ?ya24⟩) ?ra24
  case ya24 => (intro w hSw; (try dsimp only at hSw); go_simp; try with_reducible rfl)
  try simp only [Act.put, List.setIfInBounds_toArray, List.set_cons_zero, List.set_cons_succ]
  refine region_take 25 (v := ?va25) rfl rfl (by kernel_rfl) (by kernel_rfl) (by kernel_rfl) (fun _ _ _ h => h) hHeld (Or.inl ⟨by rfl, ?ya25⟩) ?ra25
  case ya25 => (intro w hSw; (try dsimp only at hSw); go_simp; try with_reducible rfl)
  try simp only [Act.put, List.setIfInBounds_toArray, List.set_cons_zero, List.set_cons_succ]
  refine region_take 26 (v := ?va26) rfl rfl (by kernel_rfl) (by kernel_rfl) (by kernel_rfl) (fun _ _ _ h => h) hHeld (Or.inl ⟨by rfl, ?ya26⟩) ?ra26
  case ya26 => (intro w hSw; (try dsimp only at hSw); go_simp; try with_reducible rfl)
  try simp only [Act.put, List.setIfInBounds_toArray, List.set_cons_zero, List.set_cons_succ]
  refine region_take 29 (v := ?va29) rfl rfl (by kernel_rfl) (by kernel_rfl) (by kernel_rfl) (fun _ _ _ h => h) hHeld (Or.inl ⟨by rfl, ?ya29⟩) ?ra29
  case ya29 => (intro w hSw; (try dsimp only at hSw); go_simp; try with_reducible rfl)
  try simp only [Act.put, List.setIfInBounds_toArray, List.set_cons_zero, List.set_cons_succ]
  refine region_take 30 (v := ?va30) rfl rfl (by kernel_rfl) (by kernel_rfl) (by kernel_rfl) (fun _ _ _ h => h) hHeld (Or.inl ⟨by rfl, ?ya30⟩) ?ra30
  case ya30 => (intro w hSw; (try dsimp only at hSw); go_simp; try with_reducible rfl)
  try simp only [Act.put, List.setIfInBounds_toArray, List.set_cons_zero, List.set_cons_succ]
  refine region_one 27 (by kernel_rfl) rfl (fun K hK => ?_)
  go_simp
  go_at_call 25
  refine (put_nil _ 1 1 (putList n 1 1) _ rfl (by rw [KW.out.2]; exact putList_add n (-1) 1)).mono ?_
  rintro e w4 ⟨a4, c4, rfl, ho4, hl4, hn4, hb4⟩
  have H4b := Lib.hid (show ∀ W, Touch (fun _ => False) w4 W → (convert 31 9 (.slice a4 1 c4)).run Try.prog W = .ok (.string (strOfNums (putList n 1 1))) W from fun W h => str_of (owns_touch ho4 h (fun _ _ h => h)))
  replace y2 := Lib.hid (y2.out.trans (Touch.of_below hb4))
  replace y3 := Lib.hid (y3.out.trans (Touch.of_below hb4))
  have y4 := Lib.hid (Touch.refl (fun _ => False) w4)
  clear ho4 hl4 hn4 hb4
  refine hK.out _ _ (⟨H2b.out _ y2.out, H3b.out _ y3.out⟩) (fun _ => ?_)
  clear hK K hHeld
  refine region_more (S' := fun w' : World => (((convert 31 9 (.slice a2 1 c2)).run Try.prog w' = .ok (.string (strOfNums (putList n 1 1))) w') ∧ ((convert 31 9 (.slice a3 1 c3)).run Try.prog w' = .ok (.string (strOfNums (putList n 1 1))) w')) ∧ ((convert 31 9 (.slice a4 1 c4)).run Try.prog w' = .ok (.string (strOfNums (putList n 1 1))) w')) (fun _ h => h.1) _ _ _ _ ?_
  have hHeld : (fun w' : World => (((convert 31 9 (.slice a2 1 c2)).run Try.prog w' = .ok (.string (strOfNums (putList n 1 1))) w') ∧ ((convert 31 9 (.slice a3 1 c3)).run Try.prog w' = .ok (.string (strOfNums (putList n 1 1))) w')) ∧ ((convert 31 9 (.slice a4 1 c4)).run Try.prog w' = .ok (.string (strOfNums (putList n 1 1))) w')) _ := ⟨⟨H2b.out _ y2.out, H3b.out _ y3.out⟩, H4b.out _ y4.out⟩
  try simp only [Act.put, List.setIfInBounds_toArray, List.set_cons_zero, List.set_cons_succ]
  refine region_take 28 (v := ?va28) rfl rfl (by kernel_rfl) (by kernel_rfl) (by kernel_rfl) (fun _ _ _ h => h) hHeld (Or.inl ⟨by rfl, ?ya28⟩) ?ra28
  case ya28 => (intro w hSw; (try dsimp only at hSw); go_simp; try with_reducible rfl)
  try simp only [Act.put, List.setIfInBounds_toArray, List.set_cons_zero, List.set_cons_succ]
  refine region_take 31 (v := ?va31) rfl rfl (by kernel_rfl) (by kernel_rfl) (by kernel_rfl) (fun _ _ _ h => h) hHeld (Or.inl ⟨by rfl, ?ya31⟩) ?ra31
  case ya31 => (intro w hSw; (try dsimp only at hSw); go_simp; try with_reducible rfl)
  try simp only [Act.put, List.setIfInBounds_toArray, List.set_cons_zero, List.set_cons_succ]
  refine region_take 32 (v := ?va32) rfl rfl (by kernel_rfl) (by kernel_rfl) (by kernel_rfl) (fun _ _ _ h => h) hHeld (Or.inl ⟨by rfl, ?ya32⟩) ?ra32
  case ya32 => (intro w hSw; (try dsimp only at hSw); go_simp; try with_reducible rfl)
  try simp only [Act.put, List.setIfInBounds_toArray, List.set_cons_zero, List.set_cons_succ]
  refine region_take 33 (v := ?va33) rfl rfl (by kernel_rfl) (by kernel_rfl) (by kernel_rfl) (fun _ _ _ h => h) hHeld (Or.inl ⟨by rfl, ?ya33⟩) ?ra33
  case ya33 => (intro w hSw; (try dsimp only at hSw); go_simp; try with_reducible rfl)
  try simp only [Act.put, List.setIfInBounds_toArray, List.set_cons_zero, List.set_cons_succ]
  refine region_take 34 (v := ?va34) rfl rfl (by kernel_rfl) (by kernel_rfl) (by kernel_rfl) (fun _ _ _ h => h) hHeld (Or.inl ⟨by rfl, ?ya34⟩) ?ra34
  case ya34 => (intro w hSw; (try dsimp only at hSw); go_simp; try with_reducible rfl)
  try simp only [Act.put, List.setIfInBounds_toArray, List.set_cons_zero, List.set_cons_succ]
  refine region_take 37 (v := ?va37) rfl rfl (by kernel_rfl) (by kernel_rfl) (by kernel_rfl) (fun _ _ _ h => h) hHeld (Or.inl ⟨by rfl, ?ya37⟩) ?ra37
  case ya37 => (intro w hSw; (try dsimp only at hSw); go_simp; try with_reducible rfl)
  try simp only [Act.put, List.setIfInBounds_toArray, List.set_cons_zero, List.set_cons_succ]
  refine region_one 35 (by kernel_rfl) rfl (fun K hK => ?_)
  go_simp
  go_at_call 25
  refine (put_nil n 0 1 (putList n 1 1) _ rfl rfl).mono ?_
  rintro e w5 ⟨a5, c5, rfl, ho5, hl5, hn5, hb5⟩
  have H5b := Lib.hid (show ∀ W, Touch (fun _ => False) w5 W → (convert 31 9 (.slice a5 1 c5)).run Try.prog W = .ok (.string (strOfNums (putList n 1 1))) W from fun W h => str_of (owns_touch ho5 h (fun _ _ h => h)))
  replace y2 := Lib.hid (y2.out.trans (Touch.of_below hb5))
  replace y3 := Lib.hid (y3.out.trans (Touch.of_below hb5))
  replace y4 := Lib.hid (y4.out.trans (Touch.of_below hb5))
  have y5 := Lib.hid (Touch.refl (fun _ => False) w5)
  clear ho5 hl5 hn5 hb5
  refine hK.out _ _ (⟨⟨H2b.out _ y2.out, H3b.out _ y3.out⟩, H4b.out _ y4.out⟩) (fun _ => ?_)
  clear hK K hHeld
  refine region_more (S' := fun w' : World => ((((convert 31 9 (.slice a2 1 c2)).run Try.prog w' = .ok (.string (strOfNums (putList n 1 1))) w') ∧ ((convert 31 9 (.slice a3 1 c3)).run Try.prog w' = .ok (.string (strOfNums (putList n 1 1))) w')) ∧ ((convert 31 9 (.slice a4 1 c4)).run Try.prog w' = .ok (.string (strOfNums (putList n 1 1))) w')) ∧ ((convert 31 9 (.slice a5 1 c5)).run Try.prog w' = .ok (.string (strOfNums (putList n 1 1))) w')) (fun _ h => h.1) _ _ _ _ ?_
  have hHeld : (fun w' : World => ((((convert 31 9 (.slice a2 1 c2)).run Try.prog w' = .ok (.string (strOfNums (putList n 1 1))) w') ∧ ((convert 31 9 (.slice a3 1 c3)).run Try.prog w' = .ok (.string (strOfNums (putList n 1 1))) w')) ∧ ((convert 31 9 (.slice a4 1 c4)).run Try.prog w' = .ok (.string (strOfNums (putList n 1 1))) w')) ∧ ((convert 31 9 (.slice a5 1 c5)).run Try.prog w' = .ok (.string (strOfNums (putList n 1 1))) w')) _ := ⟨⟨⟨H2b.out _ y2.out, H3b.out _ y3.out⟩, H4b.out _ y4.out⟩, H5b.out _ y5.out⟩
  try simp only [Act.put, List.setIfInBounds_toArray, List.set_cons_zero, List.set_cons_succ]
  refine region_take 36 (v := ?va36) rfl rfl (by kernel_rfl) (by kernel_rfl) (by kernel_rfl) (fun _ _ _ h => h) hHeld (Or.inl ⟨by rfl, ?ya36⟩) ?ra36
  case ya36 => (intro w hSw; (try dsimp only at hSw); go_simp; try with_reducible rfl)
  try simp only [Act.put, List.setIfInBounds_toArray, List.set_cons_zero, List.set_cons_succ]
  refine region_one 38 (by kernel_rfl) rfl (fun K hK => ?_)
  go_simp
  go_at_call 25
  refine (put_nil n 1 1 (putList n 1 1) _ rfl rfl).mono ?_
  rintro e w6 ⟨a6, c6, rfl, ho6, hl6, hn6, hb6⟩
  have H6b := Lib.hid (show ∀ W, Touch (fun _ => False) w6 W → (convert 31 9 (.slice a6 1 c6)).run Try.prog W = .ok (.string (strOfNums (putList n 1 1))) W from fun W h => str_of (owns_touch ho6 h (fun _ _ h => h)))
  replace y2 := Lib.hid (y2.out.trans (Touch.of_below hb6))
  replace y3 := Lib.hid (y3.out.trans (Touch.of_below hb6))
  replace y4 := Lib.hid (y4.out.trans (Touch.of_below hb6))
  replace y5 := Lib.hid (y5.out.trans (Touch.of_below hb6))
  have y6 := Lib.hid (Touch.refl (fun _ => False) w6)
  clear ho6 hl6 hn6 hb6
  refine hK.out _ _ (⟨⟨⟨H2b.out _ y2.out, H3b.out _ y3.out⟩, H4b.out _ y4.out⟩, H5b.out _ y5.out⟩) (fun _ => ?_)
  clear hK K hHeld
  refine region_more (S' := fun w' : World => (((((convert 31 9 (.slice a2 1 c2)).run Try.prog w' = .ok (.string (strOfNums (putList n 1 1))) w') ∧ ((convert 31 9 (.slice a3 1 c3)).run Try.prog w' = .ok (.string (strOfNums (putList n 1 1))) w')) ∧ ((convert 31 9 (.slice a4 1 c4)).run Try.prog w' = .ok (.string (strOfNums (putList n 1 1))) w')) ∧ ((convert 31 9 (.slice a5 1 c5)).run Try.prog w' = .ok (.string (strOfNums (putList n 1 1))) w')) ∧ ((convert 31 9 (.slice a6 1 c6)).run Try.prog w' = .ok (.string (strOfNums (putList n 1 1))) w')) (fun _ h => h.1) _ _ _ _ ?_
  have hHeld : (fun w' : World => (((((convert 31 9 (.slice a2 1 c2)).run Try.prog w' = .ok (.string (strOfNums (putList n 1 1))) w') ∧ ((convert 31 9 (.slice a3 1 c3)).run Try.prog w' = .ok (.string (strOfNums (putList n 1 1))) w')) ∧ ((convert 31 9 (.slice a4 1 c4)).run Try.prog w' = .ok (.string (strOfNums (putList n 1 1))) w')) ∧ ((convert 31 9 (.slice a5 1 c5)).run Try.prog w' = .ok (.string (strOfNums (putList n 1 1))) w')) ∧ ((convert 31 9 (.slice a6 1 c6)).run Try.prog w' = .ok (.string (strOfNums (putList n 1 1))) w')) _ := ⟨⟨⟨⟨H2b.out _ y2.out, H3b.out _ y3.out⟩, H4b.out _ y4.out⟩, H5b.out _ y5.out⟩, H6b.out _ y6.out⟩
  try simp only [Act.put, List.setIfInBounds_toArray, List.set_cons_zero, List.set_cons_succ]
  refine region_take 39 (v := ?va39) rfl rfl (by kernel_rfl) (by kernel_rfl) (by kernel_rfl) (fun _ _ _ h => h) hHeld (Or.inl ⟨by rfl, ?ya39⟩) ?ra39
  case ya39 => (intro w hSw; (try dsimp only at hSw); go_simp; try with_reducible rfl)
  try simp only [Act.put, List.setIfInBounds_toArray, List.set_cons_zero, List.set_cons_succ]
  refine region_take 40 (v := ?va40) rfl rfl (by kernel_rfl) (by kernel_rfl) (by kernel_rfl) (fun _ _ _ h => h) hHeld (Or.inl ⟨by rfl, ?ya40⟩) ?ra40
  case ya40 => (intro w hSw; (try dsimp only at hSw); go_simp; try with_reducible rfl)
  try simp only [Act.put, List.setIfInBounds_toArray, List.set_cons_zero, List.set_cons_succ]
  refine region_take 41 (v := ?va41) rfl rfl (by kernel_rfl) (by kernel_rfl) (by kernel_rfl) (fun _ _ _ h => h) hHeld (Or.inl ⟨by rfl, ?ya41⟩) ?ra41
  case ya41 => (intro w hSw; (try dsimp only at hSw); go_simp; try with_reducible rfl)
  try simp only [Act.put, List.setIfInBounds_toArray, List.set_cons_zero, List.set_cons_succ]
  refine region_take 42 (v := ?va42) rfl rfl (by kernel_rfl) (by kernel_rfl) (by kernel_rfl) (fun _ _ _ h => h) hHeld (Or.inl ⟨by rfl, ?ya42⟩) ?ra42
  case ya42 => (intro w hSw; (try dsimp only at hSw); go_simp; try with_reducible rfl)
  try simp only [Act.put, List.setIfInBounds_toArray, List.set_cons_zero, List.set_cons_succ]
  refine region_take 43 (v := ?va43) rfl rfl (by kernel_rfl) (by kernel_rfl) (by kernel_rfl) (fun _ _ _ h => h) hHeld (Or.inl ⟨by rfl, ?ya43⟩) ?ra43
  case ya43 => (intro w hSw; (try dsimp only at hSw); go_simp; try with_reducible rfl)
  try simp only [Act.put, List.setIfInBounds_toArray, List.set_cons_zero, List.set_cons_succ]
  refine region_take 46 (v := ?va46) rfl rfl (by kernel_rfl) (by kernel_rfl) (by kernel_rfl) (fun _ _ _ h => h) hHeld (Or.inl ⟨by rfl, ?ya46⟩) ?ra46
  case ya46 => (intro w hSw; (try dsimp only at hSw); go_simp; try with_reducible rfl)
  try simp only [Act.put, List.setIfInBounds_toArray, List.set_cons_zero, List.set_cons_succ]
  refine region_one 44 (by kernel_rfl) rfl (fun K hK => ?_)
  go_simp
  go_at_call 25
  refine (put_nil n 99 7 (putList n 7 7) _ rfl rfl).mono ?_
  rintro e w7 ⟨a7, c7, rfl, ho7, hl7, hn7, hb7⟩
  have H7b := Lib.hid (show ∀ W, Touch (fun _ => False) w7 W → (convert 31 9 (.slice a7 7 c7)).run Try.prog W = .ok (.string (strOfNums (putList n 7 7))) W from fun W h => str_of (owns_touch ho7 h (fun _ _ h => h)))
  replace y2 := Lib.hid (y2.out.trans (Touch.of_below hb7))
  replace y3 := Lib.hid (y3.out.trans (Touch.of_below hb7))
  replace y4 := Lib.hid (y4.out.trans (Touch.of_below hb7))
  replace y5 := Lib.hid (y5.out.trans (Touch.of_below hb7))
  replace y6 := Lib.hid (y6.out.trans (Touch.of_below hb7))
  have y7 := Lib.hid (Touch.refl (fun _ => False) w7)
  clear ho7 hl7 hn7 hb7
  refine hK.out _ _ (⟨⟨⟨⟨H2b.out _ y2.out, H3b.out _ y3.out⟩, H4b.out _ y4.out⟩, H5b.out _ y5.out⟩, H6b.out _ y6.out⟩) (fun _ => ?_)
  clear hK K hHeld
  refine region_more (S' := fun w' : World => ((((((convert 31 9 (.slice a2 1 c2)).run Try.prog w' = .ok (.string (strOfNums (putList n 1 1))) w') ∧ ((convert 31 9 (.slice a3 1 c3)).run Try.prog w' = .ok (.string (strOfNums (putList n 1 1))) w')) ∧ ((convert 31 9 (.slice a4 1 c4)).run Try.prog w' = .ok (.string (strOfNums (putList n 1 1))) w')) ∧ ((convert 31 9 (.slice a5 1 c5)).run Try.prog w' = .ok (.string (strOfNums (putList n 1 1))) w')) ∧ ((convert 31 9 (.slice a6 1 c6)).run Try.prog w' = .ok (.string (strOfNums (putList n 1 1))) w')) ∧ ((convert 31 9 (.slice a7 7 c7)).run Try.prog w' = .ok (.string (strOfNums (putList n 7 7))) w')) (fun _ h => h.1) _ _ _ _ ?_
  have hHeld : (fun w' : World => ((((((convert 31 9 (.slice a2 1 c2)).run Try.prog w' = .ok (.string (strOfNums (putList n 1 1))) w') ∧ ((convert 31 9 (.slice a3 1 c3)).run Try.prog w' = .ok (.string (strOfNums (putList n 1 1))) w')) ∧ ((convert 31 9 (.slice a4 1 c4)).run Try.prog w' = .ok (.string (strOfNums (putList n 1 1))) w')) ∧ ((convert 31 9 (.slice a5 1 c5)).run Try.prog w' = .ok (.string (strOfNums (putList n 1 1))) w')) ∧ ((convert 31 9 (.slice a6 1 c6)).run Try.prog w' = .ok (.string (strOfNums (putList n 1 1))) w')) ∧ ((convert 31 9 (.slice a7 7 c7)).run Try.prog w' = .ok (.string (strOfNums (putList n 7 7))) w')) _ := ⟨⟨⟨⟨⟨H2b.out _ y2.out, H3b.out _ y3.out⟩, H4b.out _ y4.out⟩, H5b.out _ y5.out⟩, H6b.out _ y6.out⟩, H7b.out _ y7.out⟩
  try simp only [Act.put, List.setIfInBounds_toArray, List.set_cons_zero, List.set_cons_succ]
  refine region_take 45 (v := ?va45) rfl rfl (by kernel_rfl) (by kernel_rfl) (by kernel_rfl) (fun _ _ _ h => h) hHeld (Or.inl ⟨by rfl, ?ya45⟩) ?ra45
  case ya45 => (intro w hSw; (try dsimp only at hSw); go_simp; try with_reducible rfl)
  try simp only [Act.put, List.setIfInBounds_toArray, List.set_cons_zero, List.set_cons_succ]
  refine region_one 47 (by kernel_rfl) rfl (fun K hK => ?_)
  go_simp
  go_at_call 25
  refine (put_nil n 7 7 (putList n 7 7) _ rfl rfl).mono ?_
  rintro e w8 ⟨a8, c8, rfl, ho8, hl8, hn8, hb8⟩
  have H8b := Lib.hid (show ∀ W, Touch (fun _ => False) w8 W → (convert 31 9 (.slice a8 7 c8)).run Try.prog W = .ok (.string (strOfNums (putList n 7 7))) W from fun W h => str_of (owns_touch ho8 h (fun _ _ h => h)))
  replace y2 := Lib.hid (y2.out.trans (Touch.of_below hb8))
  replace y3 := Lib.hid (y3.out.trans (Touch.of_below hb8))
  replace y4 := Lib.hid (y4.out.trans (Touch.of_below hb8))
  replace y5 := Lib.hid (y5.out.trans (Touch.of_below hb8))
  replace y6 := Lib.hid (y6.out.trans (Touch.of_below hb8))
  replace y7 := Lib.hid (y7.out.trans (Touch.of_below hb8))
  have y8 := Lib.hid (Touch.refl (fun _ => False) w8)
  clear ho8 hl8 hn8 hb8
  refine hK.out _ _ (⟨⟨⟨⟨⟨H2b.out _ y2.out, H3b.out _ y3.out⟩, H4b.out _ y4.out⟩, H5b.out _ y5.out⟩, H6b.out _ y6.out⟩, H7b.out _ y7.out⟩) (fun _ => ?_)
  clear hK K hHeld
  refine region_more (S' := fun w' : World => (((((((convert 31 9 (.slice a2 1 c2)).run Try.prog w' = .ok (.string (strOfNums (putList n 1 1))) w') ∧ ((convert 31 9 (.slice a3 1 c3)).run Try.prog w' = .ok (.string (strOfNums (putList n 1 1))) w')) ∧ ((convert 31 9 (.slice a4 1 c4)).run Try.prog w' = .ok (.string (strOfNums (putList n 1 1))) w')) ∧ ((convert 31 9 (.slice a5 1 c5)).run Try.prog w' = .ok (.string (strOfNums (putList n 1 1))) w')) ∧ ((convert 31 9 (.slice a6 1 c6)).run Try.prog w' = .ok (.string (strOfNums (putList n 1 1))) w')) ∧ ((convert 31 9 (.slice a7 7 c7)).run Try.prog w' = .ok (.string (strOfNums (putList n 7 7))) w')) ∧ ((convert 31 9 (.slice a8 7 c8)).run Try.prog w' = .ok (.string (strOfNums (putList n 7 7))) w')) (fun _ h => h.1) _ _ _ _ ?_
  have hHeld : (fun w' : World => (((((((convert 31 9 (.slice a2 1 c2)).run Try.prog w' = .ok (.string (strOfNums (putList n 1 1))) w') ∧ ((convert 31 9 (.slice a3 1 c3)).run Try.prog w' = .ok (.string (strOfNums (putList n 1 1))) w')) ∧ ((convert 31 9 (.slice a4 1 c4)).run Try.prog w' = .ok (.string (strOfNums (putList n 1 1))) w')) ∧ ((convert 31 9 (.slice a5 1 c5)).run Try.prog w' = .ok (.string (strOfNums (putList n 1 1))) w')) ∧ ((convert 31 9 (.slice a6 1 c6)).run Try.prog w' = .ok (.string (strOfNums (putList n 1 1))) w')) ∧ ((convert 31 9 (.slice a7 7 c7)).run Try.prog w' = .ok (.string (strOfNums (putList n 7 7))) w')) ∧ ((convert 31 9 (.slice a8 7 c8)).run Try.prog w' = .ok (.string (strOfNums (putList n 7 7))) w')) _ := ⟨⟨⟨⟨⟨⟨H2b.out _ y2.out, H3b.out _ y3.out⟩, H4b.out _ y4.out⟩, H5b.out _ y5.out⟩, H6b.out _ y6.out⟩, H7b.out _ y7.out⟩, H8b.out _ y8.out⟩
  try simp only [Act.put, List.setIfInBounds_toArray, List.set_cons_zero, List.set_cons_succ]
  refine region_take 48 (v := ?va48) rfl rfl (by kernel_rfl) (by kernel_rfl) (by kernel_rfl) (fun _ _ _ h => h) hHeld (Or.inl ⟨by rfl, ?ya48⟩) ?ra48
  case ya48 => (intro w hSw; (try dsimp only at hSw); go_simp; try with_reducible rfl)
  try simp only [Act.put, List.setIfInBounds_toArray, List.set_cons_zero, List.set_cons_succ]
  refine region_take 49 (v := ?va49) rfl rfl (by kernel_rfl) (by kernel_rfl) (by kernel_rfl) (fun _ _ _ h => h) hHeld (Or.inl ⟨by rfl, ?ya49⟩) ?ra49
  case ya49 => (intro w hSw; (try dsimp only at hSw); go_simp; try with_reducible rfl)
  try simp only [Act.put, List.setIfInBounds_toArray, List.set_cons_zero, List.set_cons_succ]
  refine region_take 50 (v := ?va50) rfl rfl (by kernel_rfl) (by kernel_rfl) (by kernel_rfl) (fun _ _ _ h => h) hHeld (Or.inl ⟨by rfl, ?ya50⟩) ?ra50
  case ya50 => (intro w hSw; (try dsimp only at hSw); go_simp; try with_reducible rfl)
  try simp only [Act.put, List.setIfInBounds_toArray, List.set_cons_zero, List.set_cons_succ]
  refine region_take 51 (v := ?va51) rfl rfl (by kernel_rfl) (by kernel_rfl) (by kernel_rfl) (fun _ _ _ h => h) hHeld (Or.inl ⟨by rfl, ?ya51⟩) ?ra51
  case ya51 => (intro w hSw; (try dsimp only at hSw); go_simp; try with_reducible rfl)
  try simp only [Act.put, List.setIfInBounds_toArray, List.set_cons_zero, List.set_cons_succ]
  refine wpAnyH_done (by kernel_rfl) ?_ _
  go_wp2_with fail
  go_ret
  exact ⟨rfl, hb.trans ((H2.out.1.trans (y2.out.below H2.out.1.size (fun _ _ h => h))).mono hb.size)⟩

set_option maxRecDepth 100000 in
set_option maxHeartbeats 4000000 in
theorem fieldWraps_2 (n : Int) (w : World) (h1 : -72057594037927936 ≤ n) (h2 : n ≤ 72057594037927936) :
    Calls Try.prog 10 #[.int .i64 n, .int .i64 2] w fun e w' => e = .returned (.bool true) ∧ Below w.heap.size w w' := by
  have k1 : IntKind.i64.wrap (n + 65536) = n + 1 * 2 ^ (8 * 2) := by rw [IntWalk.i64_in _ (by omega)]; omega
  have k2 : IntKind.i64.wrap (n - 65536) = n + (-1) * 2 ^ (8 * 2) := by rw [IntWalk.i64_in _ (by omega)]; omega
  have KW := Lib.hid (And.intro k1 k2)
  clear k1 k2
  have sh : ∀ (w : World), (Op.shift BinOp.shl IntKind.i64 1 IntKind.i64 (IntKind.i64.wrap 16)).run Try.prog w = .ok (.int .i64 65536) w := fun _ => rfl
  go_enter Try.func10, Try.ntmps10
  go_wp2_with fail
  refine (fieldSmall_any w).mono ?_
  rintro e w1 ⟨rfl, hb⟩
  go_wp2_with fail
  refine (put_nil n 2 2 (putList n 2 2) w1 rfl rfl).mono ?_
  rintro e w2 ⟨a2, c2, rfl, ho2, hl2, hn2, hb2⟩
  have G2 : ∀ W, Touch (fun _ => False) w2 W → (convert 31 9 (.slice a2 2 c2)).run Try.prog W = .ok (.string (strOfNums (putList n 2 2))) W := fun W h => str_of (owns_touch ho2 h (fun _ _ h => h))
  have H2 := Lib.hid (And.intro hb2 G2)
  have y2 := Lib.hid ((Touch.refl (fun _ => False) w2).drew)
  have G2 := H2.out.2
  clear hb2 ho2 hl2 hn2
  have H2b := Lib.hid G2
  clear G2
  go_wp2_with fail
  refine wp_region_held_drew (S := fun w' : World => (convert 31 9 (.slice a2 2 c2)).run Try.prog w' = .ok (.string (strOfNums (putList n 2 2))) w') (by kernel_rfl) (H2b.out _ y2.out) (fun hHeld => ?_)
  refine region_take 0 (v := ?va0) rfl rfl (by kernel_rfl) (by kernel_rfl) (by kernel_rfl) (fun _ _ _ h => h) hHeld (Or.inl ⟨by rfl, ?ya0⟩) ?ra0
  case ya0 => (intro w hSw; (try dsimp only at hSw); go_simp; try with_reducible rfl)
  try simp only [Act.put, List.setIfInBounds_toArray, List.set_cons_zero, List.set_cons_succ]
  refine region_take 1 (v := ?va1) rfl rfl (by kernel_rfl) (by kernel_rfl) (by kernel_rfl) (fun _ _ _ h => h) hHeld (Or.inl ⟨by rfl, ?ya1⟩) ?ra1
  case ya1 => (intro w hSw; (try dsimp only at hSw); go_simp; try with_reducible rfl)
  try simp only [Act.put, List.setIfInBounds_toArray, List.set_cons_zero, List.set_cons_succ]
  refine region_take 2 (v := ?va2) rfl rfl (by kernel_rfl) (by kernel_rfl) (by kernel_rfl) (fun _ _ _ h => h) hHeld (Or.inl ⟨by rfl, ?ya2⟩) ?ra2
  case ya2 => (intro w hSw; (try dsimp only at hSw); go_simp; try with_reducible rfl)
  try simp only [Act.put, List.setIfInBounds_toArray, List.set_cons_zero, List.set_cons_succ]
  refine region_take 3 (v := ?va3) rfl rfl (by kernel_rfl) (by kernel_rfl) (by kernel_rfl) (fun _ _ _ h => h) hHeld (Or.inl ⟨by rfl, ?ya3⟩) ?ra3
  case ya3 => (intro w hSw; (try dsimp only at hSw); go_simp; try with_reducible rfl)
  try simp only [Act.put, List.setIfInBounds_toArray, List.set_cons_zero, List.set_cons_succ]
  refine region_take 4 (v := ?va4) rfl rfl (by kernel_rfl) (by kernel_rfl) (by kernel_rfl) (fun _ _ _ h => h) hHeld (Or.inl ⟨by rfl, ?ya4⟩) ?ra4
  case ya4 => (intro w hSw; (try dsimp only at hSw); go_simp; try with_reducible rfl)
  try simp only [Act.put, List.setIfInBounds_toArray, List.set_cons_zero, List.set_cons_succ]
  refine region_take 5 (v := ?va5) rfl rfl (by kernel_rfl) (by kernel_rfl) (by kernel_rfl) (fun _ _ _ h => h) hHeld (Or.inl ⟨by rfl, ?ya5⟩) ?ra5
  case ya5 => (intro w hSw; (try dsimp only at hSw); go_simp; try with_reducible rfl)
  try simp only [Act.put, List.setIfInBounds_toArray, List.set_cons_zero, List.set_cons_succ]
  refine region_take 6 (v := ?va6) rfl rfl (by kernel_rfl) (by kernel_rfl) (by kernel_rfl) (fun _ _ _ h => h) hHeld (Or.inl ⟨by rfl, ?ya6⟩) ?ra6
  case ya6 => (intro w hSw; (try dsimp only at hSw); go_simp; try with_reducible rfl)
  try simp only [Act.put, List.setIfInBounds_toArray, List.set_cons_zero, List.set_cons_succ]
  refine region_take 7 (v := ?va7) rfl rfl (by kernel_rfl) (by kernel_rfl) (by kernel_rfl) (fun _ _ _ h => h) hHeld (Or.inl ⟨by rfl, ?ya7⟩) ?ra7
  case ya7 => (intro w hSw; (try dsimp only at hSw); go_simp; try with_reducible rfl)
  try simp only [Act.put, List.setIfInBounds_toArray, List.set_cons_zero, List.set_cons_succ]
  refine region_take 8 (v := ?va8) rfl rfl (by kernel_rfl) (by kernel_rfl) (by kernel_rfl) (fun _ _ _ h => h) hHeld (Or.inl ⟨by rfl, ?ya8⟩) ?ra8
  case ya8 => (intro w hSw; (try dsimp only at hSw); go_simp; try with_reducible rfl)
  try simp only [Act.put, List.setIfInBounds_toArray, List.set_cons_zero, List.set_cons_succ]
  refine region_take 9 (v := ?va9) rfl rfl (by kernel_rfl) (by kernel_rfl) (by kernel_rfl) (fun _ _ _ h => h) hHeld (Or.inl ⟨by rfl, ?ya9⟩) ?ra9
  case ya9 => (intro w hSw; (try dsimp only at hSw); go_simp; try with_reducible rfl)
  try simp only [Act.put, List.setIfInBounds_toArray, List.set_cons_zero, List.set_cons_succ]
  refine region_take 10 (v := ?va10) rfl rfl (by kernel_rfl) (by kernel_rfl) (by kernel_rfl) (fun _ _ _ h => h) hHeld (Or.inl ⟨by rfl, ?ya10⟩) ?ra10
  case ya10 => (intro w hSw; (try dsimp only at hSw); go_simp; try with_reducible rfl)
  try simp only [Act.put, List.setIfInBounds_toArray, List.set_cons_zero, List.set_cons_succ]
  refine region_take 11 (v := ?va11) rfl rfl (by kernel_rfl) (by kernel_rfl) (by kernel_rfl) (fun _ _ _ h => h) hHeld (Or.inl ⟨by rfl, ?ya11⟩) ?ra11
  case ya11 => (intro w hSw; (try dsimp only at hSw); go_simp; try with_reducible rfl)
  try simp only [Act.put, List.setIfInBounds_toArray, List.set_cons_zero, List.set_cons_succ]
  refine region_take 12 (v := ?va12) rfl rfl (by kernel_rfl) (by kernel_rfl) (by kernel_rfl) (fun _ _ _ h => h) hHeld (Or.inl ⟨by rfl, ?ya12⟩) ?ra12
  case ya12 => (intro w hSw; (try dsimp only at hSw); go_simp; try with_reducible rfl)
  try simp only [Act.put, List.setIfInBounds_toArray, List.set_cons_zero, List.set_cons_succ]
  refine region_take 13 (v := ?va13) rfl rfl (by kernel_rfl) (by kernel_rfl) (by kernel_rfl) (fun _ _ _ h => h) hHeld (Or.inl ⟨by rfl, ?ya13⟩) ?ra13
  case ya13 => (intro w hSw; (try dsimp only at hSw); go_simp; try with_reducible rfl)
  try simp only [Act.put, List.setIfInBounds_toArray, List.set_cons_zero, List.set_cons_succ]
  refine region_take 16 (v := ?va16) rfl rfl (by kernel_rfl) (by kernel_rfl) (by kernel_rfl) (fun _ _ _ h => h) hHeld (Or.inl ⟨by rfl, ?ya16⟩) ?ra16
  case ya16 => (intro w hSw; (try dsimp only at hSw); go_simp; try with_reducible rfl)
  try simp only [Act.put, List.setIfInBounds_toArray, List.set_cons_zero, List.set_cons_succ]
  refine region_take 17 (v := ?va17) rfl rfl (by kernel_rfl) (by kernel_rfl) (by kernel_rfl) (fun _ _ _ h => h) hHeld (Or.inl ⟨by rfl, ?ya17⟩) ?ra17
  case ya17 => (intro w hSw; (try dsimp only at hSw); go_simp; try with_reducible rfl)
  try simp only [Act.put, List.setIfInBounds_toArray, List.set_cons_zero, List.set_cons_succ]
  refine region_one 14 (by kernel_rfl) rfl (fun K hK => ?_)
  go_simp
  go_at_call 25
  refine (put_nil _ 2 2 (putList n 2 2) _ rfl (by rw [KW.out.1]; exact putList_add n 1 2)).mono ?_
  rintro e w3 ⟨a3, c3, rfl, ho3, hl3, hn3, hb3⟩
  have H3b := Lib.hid (show ∀ W, Touch (fun _ => False) w3 W → (convert 31 9 (.slice a3 2 c3)).run Try.prog W = .ok (.string (strOfNums (putList n 2 2))) W from fun W h => str_of (owns_touch ho3 h (fun _ _ h => h)))
  replace y2 := Lib.hid (y2.out.trans (Touch.of_below hb3))
  have y3 := Lib.hid (Touch.refl (fun _ => False) w3)
  clear ho3 hl3 hn3 hb3
  refine hK.out _ _ (H2b.out _ y2.out) (fun _ => ?_)
  clear hK K hHeld
  refine region_more (S' := fun w' : World => ((convert 31 9 (.slice a2 2 c2)).run Try.prog w' = .ok (.string (strOfNums (putList n 2 2))) w') ∧ ((convert 31 9 (.slice a3 2 c3)).run Try.prog w' = .ok (.string (strOfNums (putList n 2 2))) w')) (fun _ h => h.1) _ _ _ _ ?_
  have hHeld : (fun w' : World => ((convert 31 9 (.slice a2 2 c2)).run Try.prog w' = .ok (.string (strOfNums (putList n 2 2))) w') ∧ ((convert 31 9 (.slice a3 2 c3)).run Try.prog w' = .ok (.string (strOfNums (putList n 2 2))) w')) _ := ⟨H2b.out _ y2.out, H3b.out _ y3.out⟩
  try simp only [Act.put, List.setIfInBounds_toArray, List.set_cons_zero, List.set_cons_succ]
  refine region_take 15 (v := ?va15) rfl rfl (by kernel_rfl) (by kernel_rfl) (by kernel_rfl) (fun _ _ _ h => h) hHeld (Or.inl ⟨by rfl, ?ya15⟩) ?ra15
  case ya15 => (intro w hSw; (try dsimp only at hSw); go_simp; try with_reducible rfl)
  try simp only [Act.put, List.setIfInBounds_toArray, List.set_cons_zero, List.set_cons_succ]
  refine region_take 18 (v := ?va18) rfl rfl (by kernel_rfl) (by kernel_rfl) (by kernel_rfl) (fun _ _ _ h => h) hHeld (Or.inl ⟨by rfl, ?ya18⟩) ?ra18
  case ya18 => (intro w hSw; (try dsimp only at hSw); go_simp; try with_reducible rfl)
  try simp only [Act.put, List.setIfInBounds_toArray, List.set_cons_zero, List.set_cons_succ]
  refine region_take 19 (v := ?va19) rfl rfl (by kernel_rfl) (by kernel_rfl) (by kernel_rfl) (fun _ _ _ h => h) hHeld (Or.inl ⟨by rfl, ?ya19⟩) ?ra19
  case ya19 => (intro w hSw; (try dsimp only at hSw); go_simp; try with_reducible rfl)
  try simp only [Act.put, List.setIfInBounds_toArray, List.set_cons_zero, List.set_cons_succ]
  refine region_take 20 (v := ?va20) rfl rfl (by kernel_rfl) (by kernel_rfl) (by kernel_rfl) (fun _ _ _ h => h) hHeld (Or.inl ⟨by rfl, ?ya20⟩) ?ra20
  case ya20 => (intro w hSw; (try dsimp only at hSw); go_simp; try with_reducible rfl)
  try simp only [Act.put, List.setIfInBounds_toArray, List.set_cons_zero, List.set_cons_succ]
  refine region_take 21 (v := ?va21) rfl rfl (by kernel_rfl) (by kernel_rfl) (by kernel_rfl) (fun _ _ _ h => h) hHeld (Or.inl ⟨by rfl, ?ya21⟩) ?ra21
  case ya21 => (intro w hSw; (try dsimp only at hSw); go_simp; try with_reducible rfl)
  try simp only [Act.put, List.setIfInBounds_toArray, List.set_cons_zero, List.set_cons_succ]
  refine region_take 22 (v := ?va22) rfl rfl (by kernel_rfl) (by kernel_rfl) (by kernel_rfl) (fun _ _ _ h => h) hHeld (Or.inl ⟨by rfl, ?ya22⟩) ?ra22
  case ya22 => (intro w hSw; (try dsimp only at hSw); go_simp; try with_reducible rfl)
  try simp only [Act.put, List.setIfInBounds_toArray, List.set_cons_zero, List.set_cons_succ]
  refine region_take 23 (v := ?va23) rfl rfl (by kernel_rfl) (by kernel_rfl) (by kernel_rfl) (fun _ _ _ h => h) hHeld (Or.inl ⟨by rfl, ?ya23⟩) ?ra23
  case ya23 => (intro w hSw; (try dsimp only at hSw); go_simp; try with_reducible rfl)
  try simp only [Act.put, List.setIfInBounds_toArray, List.set_cons_zero, List.set_cons_succ]
  refine region_take 24 (v := ?va24) rfl rfl (by kernel_rfl) (by kernel_rfl) (by kernel_rfl) (fun _ _ _ h => h) hHeld (Or.inl ⟨by rfl, ?ya24⟩) ?ra24
  case ya24 => (intro w hSw; (try dsimp only at hSw); go_simp; try with_reducible rfl)
  try simp only [Act.put, List.setIfInBounds_toArray, List.set_cons_zero, List.set_cons_succ]
  refine region_take 25 (v := ?va25) rfl rfl (by kernel_rfl) (by kernel_rfl) (by kernel_rfl) (fun _ _ _ h => h) hHeld (Or.inl ⟨by rfl, ?ya25⟩) ?ra25
  case ya25 => (intro w hSw; (try dsimp only at hSw); go_simp; try with_reducible rfl)
  try simp only [Act.put, List.setIfInBounds_toArray, List.set_cons_zero, List.set_cons_succ]
  refine region_take 26 (v := ?va26) rfl rfl (by kernel_rfl) (by kernel_rfl) (by kernel_rfl) (fun _ _ _ h => h) hHeld (Or.inl ⟨by rfl, ?ya26⟩) ?ra26
  case ya26 => (intro w hSw; (try dsimp only at hSw); go_simp; try with_reducible rfl)
  try simp only [Act.put, List.setIfInBounds_toArray, List.set_cons_zero, List.set_cons_succ]
  refine region_take 29 (v := ?va29) rfl rfl (by kernel_rfl) (by kernel_rfl) (by kernel_rfl) (fun _ _ _ h => h) hHeld (Or.inl ⟨by rfl, ?ya29⟩) ?ra29
  case ya29 => (intro w hSw; (try dsimp only at hSw); go_simp; try with_reducible rfl)
  try simp only [Act.put, List.setIfInBounds_toArray, List.set_cons_zero, List.set_cons_succ]
  refine region_take 30 (v := ?va30) rfl rfl (by kernel_rfl) (by kernel_rfl) (by kernel_rfl) (fun _ _ _ h => h) hHeld (Or.inl ⟨by rfl, ?ya30⟩) ?ra30
  case ya30 => (intro w hSw; (try dsimp only at hSw); go_simp; try with_reducible rfl)
  try simp only [Act.put, List.setIfInBounds_toArray, List.set_cons_zero, List.set_cons_succ]
  refine region_one 27 (by kernel_rfl) rfl (fun K hK => ?_)
  go_simp
  go_at_call 25
  refine (put_nil _ 2 2 (putList n 2 2) _ rfl (by rw [KW.out.2]; exact putList_add n (-1) 2)).mono ?_
  rintro e w4 ⟨a4, c4, rfl, ho4, hl4, hn4, hb4⟩
  have H4b := Lib.hid (show ∀ W, Touch (fun _ => False) w4 W → (convert 31 9 (.slice a4 2 c4)).run Try.prog W = .ok (.string (strOfNums (putList n 2 2))) W from fun W h => str_of (owns_touch ho4 h (fun _ _ h => h)))
  replace y2 := Lib.hid (y2.out.trans (Touch.of_below hb4))
  replace y3 := Lib.hid (y3.out.trans (Touch.of_below hb4))
  have y4 := Lib.hid (Touch.refl (fun _ => False) w4)
  clear ho4 hl4 hn4 hb4
  refine hK.out _ _ (⟨H2b.out _ y2.out, H3b.out _ y3.out⟩) (fun _ => ?_)
  clear hK K hHeld
  refine region_more (S' := fun w' : World => (((convert 31 9 (.slice a2 2 c2)).run Try.prog w' = .ok (.string (strOfNums (putList n 2 2))) w') ∧ ((convert 31 9 (.slice a3 2 c3)).run Try.prog w' = .ok (.string (strOfNums (putList n 2 2))) w')) ∧ ((convert 31 9 (.slice a4 2 c4)).run Try.prog w' = .ok (.string (strOfNums (putList n 2 2))) w')) (fun _ h => h.1) _ _ _ _ ?_
  have hHeld : (fun w' : World => (((convert 31 9 (.slice a2 2 c2)).run Try.prog w' = .ok (.string (strOfNums (putList n 2 2))) w') ∧ ((convert 31 9 (.slice a3 2 c3)).run Try.prog w' = .ok (.string (strOfNums (putList n 2 2))) w')) ∧ ((convert 31 9 (.slice a4 2 c4)).run Try.prog w' = .ok (.string (strOfNums (putList n 2 2))) w')) _ := ⟨⟨H2b.out _ y2.out, H3b.out _ y3.out⟩, H4b.out _ y4.out⟩
  try simp only [Act.put, List.setIfInBounds_toArray, List.set_cons_zero, List.set_cons_succ]
  refine region_take 28 (v := ?va28) rfl rfl (by kernel_rfl) (by kernel_rfl) (by kernel_rfl) (fun _ _ _ h => h) hHeld (Or.inl ⟨by rfl, ?ya28⟩) ?ra28
  case ya28 => (intro w hSw; (try dsimp only at hSw); go_simp; try with_reducible rfl)
  try simp only [Act.put, List.setIfInBounds_toArray, List.set_cons_zero, List.set_cons_succ]
  refine region_take 31 (v := ?va31) rfl rfl (by kernel_rfl) (by kernel_rfl) (by kernel_rfl) (fun _ _ _ h => h) hHeld (Or.inl ⟨by rfl, ?ya31⟩) ?ra31
  case ya31 => (intro w hSw; (try dsimp only at hSw); go_simp; try with_reducible rfl)
  try simp only [Act.put, List.setIfInBounds_toArray, List.set_cons_zero, List.set_cons_succ]
  refine region_take 32 (v := ?va32) rfl rfl (by kernel_rfl) (by kernel_rfl) (by kernel_rfl) (fun _ _ _ h => h) hHeld (Or.inl ⟨by rfl, ?ya32⟩) ?ra32
  case ya32 => (intro w hSw; (try dsimp only at hSw); go_simp; try with_reducible rfl)
  try simp only [Act.put, List.setIfInBounds_toArray, List.set_cons_zero, List.set_cons_succ]
  refine region_take 33 (v := ?va33) rfl rfl (by kernel_rfl) (by kernel_rfl) (by kernel_rfl) (fun _ _ _ h => h) hHeld (Or.inl ⟨by rfl, ?ya33⟩) ?ra33
  case ya33 => (intro w hSw; (try dsimp only at hSw); go_simp; try with_reducible rfl)
  try simp only [Act.put, List.setIfInBounds_toArray, List.set_cons_zero, List.set_cons_succ]
  refine region_take 34 (v := ?va34) rfl rfl (by kernel_rfl) (by kernel_rfl) (by kernel_rfl) (fun _ _ _ h => h) hHeld (Or.inl ⟨by rfl, ?ya34⟩) ?ra34
  case ya34 => (intro w hSw; (try dsimp only at hSw); go_simp; try with_reducible rfl)
  try simp only [Act.put, List.setIfInBounds_toArray, List.set_cons_zero, List.set_cons_succ]
  refine region_take 37 (v := ?va37) rfl rfl (by kernel_rfl) (by kernel_rfl) (by kernel_rfl) (fun _ _ _ h => h) hHeld (Or.inl ⟨by rfl, ?ya37⟩) ?ra37
  case ya37 => (intro w hSw; (try dsimp only at hSw); go_simp; try with_reducible rfl)
  try simp only [Act.put, List.setIfInBounds_toArray, List.set_cons_zero, List.set_cons_succ]
  refine region_one 35 (by kernel_rfl) rfl (fun K hK => ?_)
  go_simp
  go_at_call 25
  refine (put_nil n 0 1 (putList n 1 1) _ rfl rfl).mono ?_
  rintro e w5 ⟨a5, c5, rfl, ho5, hl5, hn5, hb5⟩
  have H5b := Lib.hid (show ∀ W, Touch (fun _ => False) w5 W → (convert 31 9 (.slice a5 1 c5)).run Try.prog W = .ok (.string (strOfNums (putList n 1 1))) W from fun W h => str_of (owns_touch ho5 h (fun _ _ h => h)))
  replace y2 := Lib.hid (y2.out.trans (Touch.of_below hb5))
  replace y3 := Lib.hid (y3.out.trans (Touch.of_below hb5))
  replace y4 := Lib.hid (y4.out.trans (Touch.of_below hb5))
  have y5 := Lib.hid (Touch.refl (fun _ => False) w5)
  clear ho5 hl5 hn5 hb5
  refine hK.out _ _ (⟨⟨H2b.out _ y2.out, H3b.out _ y3.out⟩, H4b.out _ y4.out⟩) (fun _ => ?_)
  clear hK K hHeld
  refine region_more (S' := fun w' : World => ((((convert 31 9 (.slice a2 2 c2)).run Try.prog w' = .ok (.string (strOfNums (putList n 2 2))) w') ∧ ((convert 31 9 (.slice a3 2 c3)).run Try.prog w' = .ok (.string (strOfNums (putList n 2 2))) w')) ∧ ((convert 31 9 (.slice a4 2 c4)).run Try.prog w' = .ok (.string (strOfNums (putList n 2 2))) w')) ∧ ((convert 31 9 (.slice a5 1 c5)).run Try.prog w' = .ok (.string (strOfNums (putList n 1 1))) w')) (fun _ h => h.1) _ _ _ _ ?_
  have hHeld : (fun w' : World => ((((convert 31 9 (.slice a2 2 c2)).run Try.prog w' = .ok (.string (strOfNums (putList n 2 2))) w') ∧ ((convert 31 9 (.slice a3 2 c3)).run Try.prog w' = .ok (.string (strOfNums (putList n 2 2))) w')) ∧ ((convert 31 9 (.slice a4 2 c4)).run Try.prog w' = .ok (.string (strOfNums (putList n 2 2))) w')) ∧ ((convert 31 9 (.slice a5 1 c5)).run Try.prog w' = .ok (.string (strOfNums (putList n 1 1))) w')) _ := ⟨⟨⟨H2b.out _ y2.out, H3b.out _ y3.out⟩, H4b.out _ y4.out⟩, H5b.out _ y5.out⟩
  try simp only [Act.put, List.setIfInBounds_toArray, List.set_cons_zero, List.set_cons_succ]
  refine region_take 36 (v := ?va36) rfl rfl (by kernel_rfl) (by kernel_rfl) (by kernel_rfl) (fun _ _ _ h => h) hHeld (Or.inl ⟨by rfl, ?ya36⟩) ?ra36
  case ya36 => (intro w hSw; (try dsimp only at hSw); go_simp; try with_reducible rfl)
  try simp only [Act.put, List.setIfInBounds_toArray, List.set_cons_zero, List.set_cons_succ]
  refine region_one 38 (by kernel_rfl) rfl (fun K hK => ?_)
  go_simp
  go_at_call 25
  refine (put_nil n 1 1 (putList n 1 1) _ rfl rfl).mono ?_
  rintro e w6 ⟨a6, c6, rfl, ho6, hl6, hn6, hb6⟩
  have H6b := Lib.hid (show ∀ W, Touch (fun _ => False) w6 W → (convert 31 9 (.slice a6 1 c6)).run Try.prog W = .ok (.string (strOfNums (putList n 1 1))) W from fun W h => str_of (owns_touch ho6 h (fun _ _ h => h)))
  replace y2 := Lib.hid (y2.out.trans (Touch.of_below hb6))
  replace y3 := Lib.hid (y3.out.trans (Touch.of_below hb6))
  replace y4 := Lib.hid (y4.out.trans (Touch.of_below hb6))
  replace y5 := Lib.hid (y5.out.trans (Touch.of_below hb6))
  have y6 := Lib.hid (Touch.refl (fun _ => False) w6)
  clear ho6 hl6 hn6 hb6
  refine hK.out _ _ (⟨⟨⟨H2b.out _ y2.out, H3b.out _ y3.out⟩, H4b.out _ y4.out⟩, H5b.out _ y5.out⟩) (fun _ => ?_)
  clear hK K hHeld
  refine region_more (S' := fun w' : World => (((((convert 31 9 (.slice a2 2 c2)).run Try.prog w' = .ok (.string (strOfNums (putList n 2 2))) w') ∧ ((convert 31 9 (.slice a3 2 c3)).run Try.prog w' = .ok (.string (strOfNums (putList n 2 2))) w')) ∧ ((convert 31 9 (.slice a4 2 c4)).run Try.prog w' = .ok (.string (strOfNums (putList n 2 2))) w')) ∧ ((convert 31 9 (.slice a5 1 c5)).run Try.prog w' = .ok (.string (strOfNums (putList n 1 1))) w')) ∧ ((convert 31 9 (.slice a6 1 c6)).run Try.prog w' = .ok (.string (strOfNums (putList n 1 1))) w')) (fun _ h => h.1) _ _ _ _ ?_
  have hHeld : (fun w' : World => (((((convert 31 9 (.slice a2 2 c2)).run Try.prog w' = .ok (.string (strOfNums (putList n 2 2))) w') ∧ ((convert 31 9 (.slice a3 2 c3)).run Try.prog w' = .ok (.string (strOfNums (putList n 2 2))) w')) ∧ ((convert 31 9 (.slice a4 2 c4)).run Try.prog w' = .ok (.string (strOfNums (putList n 2 2))) w')) ∧ ((convert 31 9 (.slice a5 1 c5)).run Try.prog w' = .ok (.string (strOfNums (putList n 1 1))) w')) ∧ ((convert 31 9 (.slice a6 1 c6)).run Try.prog w' = .ok (.string (strOfNums (putList n 1 1))) w')) _ := ⟨⟨⟨⟨H2b.out _ y2.out, H3b.out _ y3.out⟩, H4b.out _ y4.out⟩, H5b.out _ y5.out⟩, H6b.out _ y6.out⟩
  try simp only [Act.put, List.setIfInBounds_toArray, List.set_cons_zero, List.set_cons_succ]
  refine region_take 39 (v := ?va39) rfl rfl (by kernel_rfl) (by kernel_rfl) (by kernel_rfl) (fun _ _ _ h => h) hHeld (Or.inl ⟨by rfl, ?ya39⟩) ?ra39
  case ya39 => (intro w hSw; (try dsimp only at hSw); go_simp; try with_reducible rfl)
  try simp only [Act.put, List.setIfInBounds_toArray, List.set_cons_zero, List.set_cons_succ]
  refine region_take 40 (v := ?va40) rfl rfl (by kernel_rfl) (by kernel_rfl) (by kernel_rfl) (fun _ _ _ h => h) hHeld (Or.inl ⟨by rfl, ?ya40⟩) ?ra40
  case ya40 => (intro w hSw; (try dsimp only at hSw); go_simp; try with_reducible rfl)
  try simp only [Act.put, List.setIfInBounds_toArray, List.set_cons_zero, List.set_cons_succ]
  refine region_take 41 (v := ?va41) rfl rfl (by kernel_rfl) (by kernel_rfl) (by kernel_rfl) (fun _ _ _ h => h) hHeld (Or.inl ⟨by rfl, ?ya41⟩) ?ra41
  case ya41 => (intro w hSw; (try dsimp only at hSw); go_simp; try with_reducible rfl)
  try simp only [Act.put, List.setIfInBounds_toArray, List.set_cons_zero, List.set_cons_succ]
  refine region_take 42 (v := ?va42) rfl rfl (by kernel_rfl) (by kernel_rfl) (by kernel_rfl) (fun _ _ _ h => h) hHeld (Or.inl ⟨by rfl, ?ya42⟩) ?ra42
  case ya42 => (intro w hSw; (try dsimp only at hSw); go_simp; try with_reducible rfl)
  try simp only [Act.put, List.setIfInBounds_toArray, List.set_cons_zero, List.set_cons_succ]
  refine region_take 43 (v := ?va43) rfl rfl (by kernel_rfl) (by kernel_rfl) (by kernel_rfl) (fun _ _ _ h => h) hHeld (Or.inl ⟨by rfl, ?ya43⟩) ?ra43
  case ya43 => (intro w hSw; (try dsimp only at hSw); go_simp; try with_reducible rfl)
  try simp only [Act.put, List.setIfInBounds_toArray, List.set_cons_zero, List.set_cons_succ]
  refine region_take 46 (v := ?va46) rfl rfl (by kernel_rfl) (by kernel_rfl) (by kernel_rfl) (fun _ _ _ h => h) hHeld (Or.inl ⟨by rfl, ?ya46⟩) ?ra46
  case ya46 => (intro w hSw; (try dsimp only at hSw); go_simp; try with_reducible rfl)
  try simp only [Act.put, List.setIfInBounds_toArray, List.set_cons_zero, List.set_cons_succ]
  refine region_one 44 (by kernel_rfl) rfl (fun K hK => ?_)
  go_simp
  go_at_call 25
  refine (put_nil n 99 7 (putList n 7 7) _ rfl rfl).mono ?_
  rintro e w7 ⟨a7, c7, rfl, ho7, hl7, hn7, hb7⟩
  have H7b := Lib.hid (show ∀ W, Touch (fun _ => False) w7 W → (convert 31 9 (.slice a7 7 c7)).run Try.prog W = .ok (.string (strOfNums (putList n 7 7))) W from fun W h => str_of (owns_touch ho7 h (fun _ _ h => h)))
  replace y2 := Lib.hid (y2.out.trans (Touch.of_below hb7))
  replace y3 := Lib.hid (y3.out.trans (Touch.of_below hb7))
  replace y4 := Lib.hid (y4.out.trans (Touch.of_below hb7))
  replace y5 := Lib.hid (y5.out.trans (Touch.of_below hb7))
  replace y6 := Lib.hid (y6.out.trans (Touch.of_below hb7))
  have y7 := Lib.hid (Touch.refl (fun _ => False) w7)
  clear ho7 hl7 hn7 hb7
  refine hK.out _ _ (⟨⟨⟨⟨H2b.out _ y2.out, H3b.out _ y3.out⟩, H4b.out _ y4.out⟩, H5b.out _ y5.out⟩, H6b.out _ y6.out⟩) (fun _ => ?_)
  clear hK K hHeld
  refine region_more (S' := fun w' : World => ((((((convert 31 9 (.slice a2 2 c2)).run Try.prog w' = .ok (.string (strOfNums (putList n 2 2))) w') ∧ ((convert 31 9 (.slice a3 2 c3)).run Try.prog w' = .ok (.string (strOfNums (putList n 2 2))) w')) ∧ ((convert 31 9 (.slice a4 2 c4)).run Try.prog w' = .ok (.string (strOfNums (putList n 2 2))) w')) ∧ ((convert 31 9 (.slice a5 1 c5)).run Try.prog w' = .ok (.string (strOfNums (putList n 1 1))) w')) ∧ ((convert 31 9 (.slice a6 1 c6)).run Try.prog w' = .ok (.string (strOfNums (putList n 1 1))) w')) ∧ ((convert 31 9 (.slice a7 7 c7)).run Try.prog w' = .ok (.string (strOfNums (putList n 7 7))) w')) (fun _ h => h.1) _ _ _ _ ?_
  have hHeld : (fun w' : World => ((((((convert 31 9 (.slice a2 2 c2)).run Try.prog w' = .ok (.string (strOfNums (putList n 2 2))) w') ∧ ((convert 31 9 (.slice a3 2 c3)).run Try.prog w' = .ok (.string (strOfNums (putList n 2 2))) w')) ∧ ((convert 31 9 (.slice a4 2 c4)).run Try.prog w' = .ok (.string (strOfNums (putList n 2 2))) w')) ∧ ((convert 31 9 (.slice a5 1 c5)).run Try.prog w' = .ok (.string (strOfNums (putList n 1 1))) w')) ∧ ((convert 31 9 (.slice a6 1 c6)).run Try.prog w' = .ok (.string (strOfNums (putList n 1 1))) w')) ∧ ((convert 31 9 (.slice a7 7 c7)).run Try.prog w' = .ok (.string (strOfNums (putList n 7 7))) w')) _ := ⟨⟨⟨⟨⟨H2b.out _ y2.out, H3b.out _ y3.out⟩, H4b.out _ y4.out⟩, H5b.out _ y5.out⟩, H6b.out _ y6.out⟩, H7b.out _ y7.out⟩
  try simp only [Act.put, List.setIfInBounds_toArray, List.set_cons_zero, List.set_cons_succ]
  refine region_take 45 (v := ?va45) rfl rfl (by kernel_rfl) (by kernel_rfl) (by kernel_rfl) (fun _ _ _ h => h) hHeld (Or.inl ⟨by rfl, ?ya45⟩) ?ra45
  case ya45 => (intro w hSw; (try dsimp only at hSw); go_simp; try with_reducible rfl)
  try simp only [Act.put, List.setIfInBounds_toArray, List.set_cons_zero, List.set_cons_succ]
  refine region_one 47 (by kernel_rfl) rfl (fun K hK => ?_)
  go_simp
  go_at_call 25
  refine (put_nil n 7 7 (putList n 7 7) _ rfl rfl).mono ?_
  rintro e w8 ⟨a8, c8, rfl, ho8, hl8, hn8, hb8⟩
  have H8b := Lib.hid (show ∀ W, Touch (fun _ => False) w8 W → (convert 31 9 (.slice a8 7 c8)).run Try.prog W = .ok (.string (strOfNums (putList n 7 7))) W from fun W h => str_of (owns_touch ho8 h (fun _ _ h => h)))
  replace y2 := Lib.hid (y2.out.trans (Touch.of_below hb8))
  replace y3 := Lib.hid (y3.out.trans (Touch.of_below hb8))
  replace y4 := Lib.hid (y4.out.trans (Touch.of_below hb8))
  replace y5 := Lib.hid (y5.out.trans (Touch.of_below hb8))
  replace y6 := Lib.hid (y6.out.trans (Touch.of_below hb8))
  replace y7 := Lib.hid (y7.out.trans (Touch.of_below hb8))
  have y8 := Lib.hid (Touch.refl (fun _ => False) w8)
  clear ho8 hl8 hn8 hb8
  refine hK.out _ _ (⟨⟨⟨⟨⟨H2b.out _ y2.out, H3b.out _ y3.out⟩, H4b.out _ y4.out⟩, H5b.out _ y5.out⟩, H6b.out _ y6.out⟩, H7b.out _ y7.out⟩) (fun _ => ?_)
  clear hK K hHeld
  refine region_more (S' := fun w' : World => (((((((convert 31 9 (.slice a2 2 c2)).run Try.prog w' = .ok (.string (strOfNums (putList n 2 2))) w') ∧ ((convert 31 9 (.slice a3 2 c3)).run Try.prog w' = .ok (.string (strOfNums (putList n 2 2))) w')) ∧ ((convert 31 9 (.slice a4 2 c4)).run Try.prog w' = .ok (.string (strOfNums (putList n 2 2))) w')) ∧ ((convert 31 9 (.slice a5 1 c5)).run Try.prog w' = .ok (.string (strOfNums (putList n 1 1))) w')) ∧ ((convert 31 9 (.slice a6 1 c6)).run Try.prog w' = .ok (.string (strOfNums (putList n 1 1))) w')) ∧ ((convert 31 9 (.slice a7 7 c7)).run Try.prog w' = .ok (.string (strOfNums (putList n 7 7))) w')) ∧ ((convert 31 9 (.slice a8 7 c8)).run Try.prog w' = .ok (.string (strOfNums (putList n 7 7))) w')) (fun _ h => h.1) _ _ _ _ ?_
  have hHeld : (fun w' : World => (((((((convert 31 9 (.slice a2 2 c2)).run Try.prog w' = .ok (.string (strOfNums (putList n 2 2))) w') ∧ ((convert 31 9 (.slice a3 2 c3)).run Try.prog w' = .ok (.string (strOfNums (putList n 2 2))) w')) ∧ ((convert 31 9 (.slice a4 2 c4)).run Try.prog w' = .ok (.string (strOfNums (putList n 2 2))) w')) ∧ ((convert 31 9 (.slice a5 1 c5)).run Try.prog w' = .ok (.string (strOfNums (putList n 1 1))) w')) ∧ ((convert 31 9 (.slice a6 1 c6)).run Try.prog w' = .ok (.string (strOfNums (putList n 1 1))) w')) ∧ ((convert 31 9 (.slice a7 7 c7)).run Try.prog w' = .ok (.string (strOfNums (putList n 7 7))) w')) ∧ ((convert 31 9 (.slice a8 7 c8)).run Try.prog w' = .ok (.string (strOfNums (putList n 7 7))) w')) _ := ⟨⟨⟨⟨⟨⟨H2b.out _ y2.out, H3b.out _ y3.out⟩, H4b.out _ y4.out⟩, H5b.out _ y5.out⟩, H6b.out _ y6.out⟩, H7b.out _ y7.out⟩, H8b.out _ y8.out⟩
  try simp only [Act.put, List.setIfInBounds_toArray, List.set_cons_zero, List.set_cons_succ]
  refine region_take 48 (v := ?va48) rfl rfl (by kernel_rfl) (by kernel_rfl) (by kernel_rfl) (fun _ _ _ h => h) hHeld (Or.inl ⟨by rfl, ?ya48⟩) ?ra48
  case ya48 => (intro w hSw; (try dsimp only at hSw); go_simp; try with_reducible rfl)
  try simp only [Act.put, List.setIfInBounds_toArray, List.set_cons_zero, List.set_cons_succ]
  refine region_take 49 (v := ?va49) rfl rfl (by kernel_rfl) (by kernel_rfl) (by kernel_rfl) (fun _ _ _ h => h) hHeld (Or.inl ⟨by rfl, ?ya49⟩) ?ra49
  case ya49 => (intro w hSw; (try dsimp only at hSw); go_simp; try with_reducible rfl)
  try simp only [Act.put, List.setIfInBounds_toArray, List.set_cons_zero, List.set_cons_succ]
  refine region_take 50 (v := ?va50) rfl rfl (by kernel_rfl) (by kernel_rfl) (by kernel_rfl) (fun _ _ _ h => h) hHeld (Or.inl ⟨by rfl, ?ya50⟩) ?ra50
  case ya50 => (intro w hSw; (try dsimp only at hSw); go_simp; try with_reducible rfl)
  try simp only [Act.put, List.setIfInBounds_toArray, List.set_cons_zero, List.set_cons_succ]
  refine region_take 51 (v := ?va51) rfl rfl (by kernel_rfl) (by kernel_rfl) (by kernel_rfl) (fun _ _ _ h => h) hHeld (Or.inl ⟨by rfl, ?ya51⟩) ?ra51
  case ya51 => (intro w hSw; (try dsimp only at hSw); go_simp; try with_reducible rfl)
  try simp only [Act.put, List.setIfInBounds_toArray, List.set_cons_zero, List.set_cons_succ]
  refine wpAnyH_done (by kernel_rfl) ?_ _
  go_wp2_with fail
  go_ret
  exact ⟨rfl, hb.trans ((H2.out.1.trans (y2.out.below H2.out.1.size (fun _ _ h => h))).mono hb.size)⟩

set_option maxRecDepth 100000 in
set_option maxHeartbeats 4000000 in
theorem fieldWraps_3 (n : Int) (w : World) (h1 : -72057594037927936 ≤ n) (h2 : n ≤ 72057594037927936) :
    Calls Try.prog 10 #[.int .i64 n, .int .i64 3] w fun e w' => e = .returned (.bool true) ∧ Below w.heap.size w w' := by
  have k1 : IntKind.i64.wrap (n + 16777216) = n + 1 * 2 ^ (8 * 3) := by rw [IntWalk.i64_in _ (by omega)]; omega
  have k2 : IntKind.i64.wrap (n - 16777216) = n + (-1) * 2 ^ (8 * 3) := by rw [IntWalk.i64_in _ (by omega)]; omega
  have KW := Lib.hid (And.intro k1 k2)
  clear k1 k2
  have sh : ∀ (w : World), (Op.shift BinOp.shl IntKind.i64 1 IntKind.i64 (IntKind.i64.wrap 24)).run Try.prog w = .ok (.int .i64 16777216) w := fun _ => rfl
  go_enter Try.func10, Try.ntmps10
  go_wp2_with fail
  refine (fieldSmall_any w).mono ?_
  rintro e w1 ⟨rfl, hb⟩
  go_wp2_with fail
  refine (put_nil n 3 3 (putList n 3 3) w1 rfl rfl).mono ?_
  rintro e w2 ⟨a2, c2, rfl, ho2, hl2, hn2, hb2⟩
  have G2 : ∀ W, Touch (fun _ => False) w2 W → (convert 31 9 (.slice a2 3 c2)).run Try.prog W = .ok (.string (strOfNums (putList n 3 3))) W := fun W h => str_of (owns_touch ho2 h (fun _ _ h => h))
  have H2 := Lib.hid (And.intro hb2 G2)
  have y2 := Lib.hid ((Touch.refl (fun _ => False) w2).drew)
  have G2 := H2.out.2
  clear hb2 ho2 hl2 hn2
  have H2b := Lib.hid G2
  clear G2
  go_wp2_with fail
  refine wp_region_held_drew (S := fun w' : World => (convert 31 9 (.slice a2 3 c2)).run Try.prog w' = .ok (.string (strOfNums (putList n 3 3))) w') (by kernel_rfl) (H2b.out _ y2.out) (fun hHeld => ?_)
  refine region_take 0 (v := ?va0) rfl rfl (by kernel_rfl) (by kernel_rfl) (by kernel_rfl) (fun _ _ _ h => h) hHeld (Or.inl ⟨by rfl, ?ya0⟩) ?ra0
  case ya0 => (intro w hSw; (try dsimp only at hSw); go_simp; try with_reducible rfl)
  try simp only [Act.put, List.setIfInBounds_toArray, List.set_cons_zero, List.set_cons_succ]
  refine region_take 1 (v := ?va1) rfl rfl (by kernel_rfl) (by kernel_rfl) (by kernel_rfl) (fun _ _ _ h => h) hHeld (Or.inl ⟨by rfl, ?ya1⟩) ?ra1
  case ya1 => (intro w hSw; (try dsimp only at hSw); go_simp; try with_reducible rfl)
  try simp only [Act.put, List.setIfInBounds_toArray, List.set_cons_zero, List.set_cons_succ]
  refine region_take 2 (v := ?va2) rfl rfl (by kernel_rfl) (by kernel_rfl) (by kernel_rfl) (fun _ _ _ h => h) hHeld (Or.inl ⟨by rfl, ?ya2⟩) ?ra2
  case ya2 => (intro w hSw; (try dsimp only at hSw); go_simp; try with_reducible rfl)
  try simp only [Act.put, List.setIfInBounds_toArray, List.set_cons_zero, List.set_cons_succ]
  refine region_take 3 (v := ?va3) rfl rfl (by kernel_rfl) (by kernel_rfl) (by kernel_rfl) (fun _ _ _ h => h) hHeld (Or.inl ⟨by rfl, ?ya3⟩) ?ra3
  case ya3 => (intro w hSw; (try dsimp only at hSw); go_simp; try with_reducible rfl)
  try simp only [Act.put, List.setIfInBounds_toArray, List.set_cons_zero, List.set_cons_succ]
  refine region_take 4 (v := ?va4) rfl rfl (by kernel_rfl) (by kernel_rfl) (by kernel_rfl) (fun _ _ _ h => h) hHeld (Or.inl ⟨by rfl, ?ya4⟩) ?ra4
  case ya4 => (intro w hSw; (try dsimp only at hSw); go_simp; try with_reducible rfl)
  try simp only [Act.put, List.setIfInBounds_toArray, List.set_cons_zero, List.set_cons_succ]
  refine region_take 5 (v := ?va5) rfl rfl (by kernel_rfl) (by kernel_rfl) (by kernel_rfl) (fun _ _ _ h => h) hHeld (Or.inl ⟨by rfl, ?ya5⟩) ?ra5
  case ya5 => (intro w hSw; (try dsimp only at hSw); go_simp; try with_reducible rfl)
  try simp only [Act.put, List.setIfInBounds_toArray, List.set_cons_zero, List.set_cons_succ]
  refine region_take 6 (v := ?va6) rfl rfl (by kernel_rfl) (by kernel_rfl) (by kernel_rfl) (fun _ _ _ h => h) hHeld (Or.inl ⟨by rfl, ?ya6⟩) ?ra6
  case ya6 => (intro w hSw; (try dsimp only at hSw); go_simp; try with_reducible rfl)
  try simp only [Act.put, List.setIfInBounds_toArray, List.set_cons_zero, List.set_cons_succ]
  refine region_take 7 (v := ?va7) rfl rfl (by kernel_rfl) (by kernel_rfl) (by kernel_rfl) (fun _ _ _ h => h) hHeld (Or.inl ⟨by rfl, ?ya7⟩) ?ra7
  case ya7 => (intro w hSw; (try dsimp only at hSw); go_simp; try with_reducible rfl)
  try simp only [Act.put, List.setIfInBounds_toArray, List.set_cons_zero, List.set_cons_succ]
  refine region_take 8 (v := ?va8) rfl rfl (by kernel_rfl) (by kernel_rfl) (by kernel_rfl) (fun _ _ _ h => h) hHeld (Or.inl ⟨by rfl, ?ya8⟩) ?ra8
  case ya8 => (intro w hSw; (try dsimp only at hSw); go_simp; try with_reducible rfl)
  try simp only [Act.put, List.setIfInBounds_toArray, List.set_cons_zero, List.set_cons_succ]
  refine region_take 9 (v := ?va9) rfl rfl (by kernel_rfl) (by kernel_rfl) (by kernel_rfl) (fun _ _ _ h => h) hHeld (Or.inl ⟨by rfl, ?ya9⟩) ?ra9
  case ya9 => (intro w hSw; (try dsimp only at hSw); go_simp; try with_reducible rfl)
  try simp only [Act.put, List.setIfInBounds_toArray, List.set_cons_zero, List.set_cons_succ]
  refine region_take 10 (v := ?va10) rfl rfl (by kernel_rfl) (by kernel_rfl) (by kernel_rfl) (fun _ _ _ h => h) hHeld (Or.inl ⟨by rfl, ?ya10⟩) ?ra10
  case ya10 => (intro w hSw; (try dsimp only at hSw); go_simp; try with_reducible rfl)
  try simp only [Act.put, List.setIfInBounds_toArray, List.set_cons_zero, List.set_cons_succ]
  refine region_take 11 (v := ?va11) rfl rfl (by kernel_rfl) (by kernel_rfl) (by kernel_rfl) (fun _ _ _ h => h) hHeld (Or.inl ⟨by rfl, ?ya11⟩) ?ra11
  case ya11 => (intro w hSw; (try dsimp only at hSw); go_simp; try with_reducible rfl)
  try simp only [Act.put, List.setIfInBounds_toArray, List.set_cons_zero, List.set_cons_succ]
  refine region_take 12 (v := ?va12) rfl rfl (by kernel_rfl) (by kernel_rfl) (by kernel_rfl) (fun _ _ _ h => h) hHeld (Or.inl ⟨by rfl, ?ya12⟩) ?ra12
  case ya12 => (intro w hSw; (try dsimp only at hSw); go_simp; try with_reducible rfl)
  try simp only [Act.put, List.setIfInBounds_toArray, List.set_cons_zero, List.set_cons_succ]
  refine region_take 13 (v := ?va13) rfl rfl (by kernel_rfl) (by kernel_rfl) (by kernel_rfl) (fun _ _ _ h => h) hHeld (Or.inl ⟨by rfl, ?ya13⟩) ?ra13
  case ya13 => (intro w hSw; (try dsimp only at hSw); go_simp; try with_reducible rfl)
  try simp only [Act.put, List.setIfInBounds_toArray, List.set_cons_zero, List.set_cons_succ]
  refine region_take 16 (v := ?va16) rfl rfl (by kernel_rfl) (by kernel_rfl) (by kernel_rfl) (fun _ _ _ h => h) hHeld (Or.inl ⟨by rfl, ?ya16⟩) ?ra16
  case ya16 => (intro w hSw; (try dsimp only at hSw); go_simp; try with_reducible rfl)
  try simp only [Act.put, List.setIfInBounds_toArray, List.set_cons_zero, List.set_cons_succ]
  refine region_take 17 (v := ?va17) rfl rfl (by kernel_rfl) (by kernel_rfl) (by kernel_rfl) (fun _ _ _ h => h) hHeld (Or.inl ⟨by rfl, ?ya17⟩) ?ra17
  case ya17 => (intro w hSw; (try dsimp only at hSw); go_simp; try with_reducible rfl)
  try simp only [Act.put, List.setIfInBounds_toArray, List.set_cons_zero, List.set_cons_succ]
  refine region_one 14 (by kernel_rfl) rfl (fun K hK => ?_)
  go_simp
  go_at_call 25
  refine (put_nil _ 3 3 (putList n 3 3) _ rfl (by rw [KW.out.1]; exact putList_add n 1 3)).mono ?_
  rintro e w3 ⟨a3, c3, rfl, ho3, hl3, hn3, hb3⟩
  have H3b := Lib.hid (show ∀ W, Touch (fun _ => False) w3 W → (convert 31 9 (.slice a3 3 c3)).run Try.prog W = .ok (.string (strOfNums (putList n 3 3))) W from fun W h => str_of (owns_touch ho3 h (fun _ _ h => h)))
  replace y2 := Lib.hid (y2.out.trans (Touch.of_below hb3))
  have y3 := Lib.hid (Touch.refl (fun _ => False) w3)
  clear ho3 hl3 hn3 hb3
  refine hK.out _ _ (H2b.out _ y2.out) (fun _ => ?_)
  clear hK K hHeld
  refine region_more (S' := fun w' : World => ((convert 31 9 (.slice a2 3 c2)).run Try.prog w' = .ok (.string (strOfNums (putList n 3 3))) w') ∧ ((convert 31 9 (.slice a3 3 c3)).run Try.prog w' = .ok (.string (strOfNums (putList n 3 3))) w')) (fun _ h => h.1) _ _ _ _ ?_
  have hHeld : (fun w' : World => ((convert 31 9 (.slice a2 3 c2)).run Try.prog w' = .ok (.string (strOfNums (putList n 3 3))) w') ∧ ((convert 31 9 (.slice a3 3 c3)).run Try.prog w' = .ok (.string (strOfNums (putList n 3 3))) w')) _ := ⟨H2b.out _ y2.out, H3b.out _ y3.out⟩
  try simp only [Act.put, List.setIfInBounds_toArray, List.set_cons_zero, List.set_cons_succ]
  refine region_take 15 (v := ?va15) rfl rfl (by kernel_rfl) (by kernel_rfl) (by kernel_rfl) (fun _ _ _ h => h) hHeld (Or.inl ⟨by rfl, ?ya15⟩) ?ra15
  case ya15 => (intro w hSw; (try dsimp only at hSw); go_simp; try with_reducible rfl)
  try simp only [Act.put, List.setIfInBounds_toArray, List.set_cons_zero, List.set_cons_succ]
  refine region_take 18 (v := ?va18) rfl rfl (by kernel_rfl) (by kernel_rfl) (by kernel_rfl) (fun _ _ _ h => h) hHeld (Or.inl ⟨by rfl, ?ya18⟩) ?ra18
  case ya18 => (intro w hSw; (try dsimp only at hSw); go_simp; try with_reducible rfl)
  try simp only [Act.put, List.setIfInBounds_toArray, List.set_cons_zero, List.set_cons_succ]
  refine region_take 19 (v := ?va19) rfl rfl (by kernel_rfl) (by kernel_rfl) (by kernel_rfl) (fun _ _ _ h => h) hHeld (Or.inl ⟨by rfl, ?ya19⟩) ?ra19
  case ya19 => (intro w hSw; (try dsimp only at hSw); go_simp; try with_reducible rfl)
  try simp only [Act.put, List.setIfInBounds_toArray, List.set_cons_zero, List.set_cons_succ]
  refine region_take 20 (v := ?va20) rfl rfl (by kernel_rfl) (by kernel_rfl) (by kernel_rfl) (fun _ _ _ h => h) hHeld (Or.inl ⟨by rfl, ?ya20⟩) ?ra20
  case ya20 => (intro w hSw; (try dsimp only at hSw); go_simp; try with_reducible rfl)
  try simp only [Act.put, List.setIfInBounds_toArray, List.set_cons_zero, List.set_cons_succ]
  refine region_take 21 (v := ?va21) rfl rfl (by kernel_rfl) (by kernel_rfl) (by kernel_rfl) (fun _ _ _ h => h) hHeld (Or.inl ⟨by rfl, ?ya21⟩) ?ra21
  case ya21 => (intro w hSw; (try dsimp only at hSw); go_simp; try with_reducible rfl)
  try simp only [Act.put, List.setIfInBounds_toArray, List.set_cons_zero, List.set_cons_succ]
  refine region_take 22 (v := ?va22) rfl rfl (by kernel_rfl) (by kernel_rfl) (by kernel_rfl) (fun _ _ _ h => h) hHeld (Or.inl ⟨by rfl, ?ya22⟩) ?ra22
  case ya22 => (intro w hSw; (try dsimp only at hSw); go_simp; try with_reducible rfl)
  try simp only [Act.put, List.setIfInBounds_toArray, List.set_cons_zero, List.set_cons_succ]
  refine region_take 23 (v := ?va23) rfl rfl (by kernel_rfl) (by kernel_rfl) (by kernel_rfl) (fun _ _ _ h => h) hHeld (Or.inl ⟨by rfl, ?ya23⟩) ?ra23
  case ya23 => (intro w hSw; (try dsimp only at hSw); go_simp; try with_reducible rfl)
  try simp only [Act.put, List.setIfInBounds_toArray, List.set_cons_zero, List.set_cons_succ]
  refine region_take 24 (v := ?va24) rfl rfl (by kernel_rfl) (by kernel_rfl) (by kernel_rfl) (fun _ _ _ h => h) hHeld (Or.inl ⟨by rfl, ?ya24⟩) ?ra24
  case ya24 => (intro w hSw; (try dsimp only at hSw); go_simp; try with_reducible rfl)
  try simp only [Act.put, List.setIfInBounds_toArray, List.set_cons_zero, List.set_cons_succ]
  refine region_take 25 (v := ?va25) rfl rfl (by kernel_rfl) (by kernel_rfl) (by kernel_rfl) (fun _ _ _ h => h) hHeld (Or.inl ⟨by rfl, ?ya25⟩) ?ra25
  case ya25 => (intro w hSw; (try dsimp only at hSw); go_simp; try with_reducible rfl)
  try simp only [Act.put, List.setIfInBounds_toArray, List.set_cons_zero, List.set_cons_succ]
  refine region_take 26 (v := ?va26) rfl rfl (by kernel_rfl) (by kernel_rfl) (by kernel_rfl) (fun _ _ _ h => h) hHeld (Or.inl ⟨by rfl, ?ya26⟩) ?ra26
  case ya26 => (intro w hSw; (try dsimp only at hSw); go_simp; try with_reducible rfl)
  try simp only [Act.put, List.setIfInBounds_toArray, List.set_cons_zero, List.set_cons_succ]
  refine region_take 29 (v := ?va29) rfl rfl (by kernel_rfl) (by kernel_rfl) (by kernel_rfl) (fun _ _ _ h => h) hHeld (Or.inl ⟨by rfl, ?ya29⟩) ?ra29
  case ya29 => (intro w hSw; (try dsimp only at hSw); go_simp; try with_reducible rfl)
  try simp only [Act.put, List.setIfInBounds_toArray, List.set_cons_zero, List.set_cons_succ]
  refine region_take 30 (v := ?va30) rfl rfl (by kernel_rfl) (by kernel_rfl) (by kernel_rfl) (fun _ _ _ h => h) hHeld (Or.inl ⟨by rfl, ?ya30⟩) ?ra30
  case ya30 => (intro w hSw; (try dsimp only at hSw); go_simp; try with_reducible rfl)
  try simp only [Act.put, List.setIfInBounds_toArray, List.set_cons_zero, List.set_cons_succ]
  refine region_one 27 (by kernel_rfl) rfl (fun K hK => ?_)
  go_simp
  go_at_call 25
  refine (put_nil _ 3 3 (putList n 3 3) _ rfl (by rw [KW.out.2]; exact putList_add n (-1) 3)).mono ?_
  rintro e w4 ⟨a4, c4, rfl, ho4, hl4, hn4, hb4⟩
  have H4b := Lib.hid (show ∀ W, Touch (fun _ => False) w4 W → (convert 31 9 (.slice a4 3 c4)).run Try.prog W = .ok (.string (strOfNums (putList n 3 3))) W from fun W h => str_of (owns_touch ho4 h (fun _ _ h => h)))
  replace y2 := Lib.hid (y2.out.trans (Touch.of_below hb4))
  replace y3 := Lib.hid (y3.out.trans (Touch.of_below hb4))
  have y4 := Lib.hid (Touch.refl (fun _ => False) w4)
  clear ho4 hl4 hn4 hb4
  refine hK.out _ _ (⟨H2b.out _ y2.out, H3b.out _ y3.out⟩) (fun _ => ?_)
  clear hK K hHeld
  refine region_more (S' := fun w' : World => (((convert 31 9 (.slice a2 3 c2)).run Try.prog w' = .ok (.string (strOfNums (putList n 3 3))) w') ∧ ((convert 31 9 (.slice a3 3 c3)).run Try.prog w' = .ok (.string (strOfNums (putList n 3 3))) w')) ∧ ((convert 31 9 (.slice a4 3 c4)).run Try.prog w' = .ok (.string (strOfNums (putList n 3 3))) w')) (fun _ h => h.1) _ _ _ _ ?_
  have hHeld : (fun w' : World => (((convert 31 9 (.slice a2 3 c2)).run Try.prog w' = .ok (.string (strOfNums (putList n 3 3))) w') ∧ ((convert 31 9 (.slice a3 3 c3)).run Try.prog w' = .ok (.string (strOfNums (putList n 3 3))) w')) ∧ ((convert 31 9 (.slice a4 3 c4)).run Try.prog w' = .ok (.string (strOfNums (putList n 3 3))) w')) _ := ⟨⟨H2b.out _ y2.out, H3b.out _ y3.out⟩, H4b.out _ y4.out⟩
  try simp only [Act.put, List.setIfInBounds_toArray, List.set_cons_zero, List.set_cons_succ]
  refine region_take 28 (v := ?va28) rfl rfl (by kernel_rfl) (by kernel_rfl) (by kernel_rfl) (fun _ _ _ h => h) hHeld (Or.inl ⟨by rfl, ?ya28⟩) ?ra28
  case ya28 => (intro w hSw; (try dsimp only at hSw); go_simp; try with_reducible rfl)
  try simp only [Act.put, List.setIfInBounds_toArray, List.set_cons_zero, List.set_cons_succ]
  refine region_take 31 (v := ?va31) rfl rfl (by kernel_rfl) (by kernel_rfl) (by kernel_rfl) (fun _ _ _ h => h) hHeld (Or.inl ⟨by rfl, ?ya31⟩) ?ra31
  case ya31 => (intro w hSw; (try dsimp only at hSw); go_simp; try with_reducible rfl)
  try simp only [Act.put, List.setIfInBounds_toArray, List.set_cons_zero, List.set_cons_succ]
  refine region_take 32 (v := ?va32) rfl rfl (by kernel_rfl) (by kernel_rfl) (by kernel_rfl) (fun _ _ _ h => h) hHeld (Or.inl ⟨by rfl, ?ya32⟩) ?ra32
  case ya32 => (intro w hSw; (try dsimp only at hSw); go_simp; try with_reducible rfl)
  try simp only [Act.put, List.setIfInBounds_toArray, List.set_cons_zero, List.set_cons_succ]
  refine region_take 33 (v := ?va33) rfl rfl (by kernel_rfl) (by kernel_rfl) (by kernel_rfl) (fun _ _ _ h => h) hHeld (Or.inl ⟨by rfl, ?ya33⟩) ?ra33
  case ya33 => (intro w hSw; (try dsimp only at hSw); go_simp; try with_reducible rfl)
  try simp only [Act.put, List.setIfInBounds_toArray, List.set_cons_zero, List.set_cons_succ]
  refine region_take 34 (v := ?va34) rfl rfl (by kernel_rfl) (by kernel_rfl) (by kernel_rfl) (fun _ _ _ h => h) hHeld (Or.inl ⟨by rfl, ?ya34⟩) ?ra34
  case ya34 => (intro w hSw; (try dsimp only at hSw); go_simp; try with_reducible rfl)
  try simp only [Act.put, List.setIfInBounds_toArray, List.set_cons_zero, List.set_cons_succ]
  refine region_take 37 (v := ?va37) rfl rfl (by kernel_rfl) (by kernel_rfl) (by kernel_rfl) (fun _ _ _ h => h) hHeld (Or.inl ⟨by rfl, ?ya37⟩) ?ra37
  case ya37 => (intro w hSw; (try dsimp only at hSw); go_simp; try with_reducible rfl)
  try simp only [Act.put, List.setIfInBounds_toArray, List.set_cons_zero, List.set_cons_succ]
  refine region_one 35 (by kernel_rfl) rfl (fun K hK => ?_)
  go_simp
  go_at_call 25
  refine (put_nil n 0 1 (putList n 1 1) _ rfl rfl).mono ?_
  rintro e w5 ⟨a5, c5, rfl, ho5, hl5, hn5, hb5⟩
  have H5b := Lib.hid (show ∀ W, Touch (fun _ => False) w5 W → (convert 31 9 (.slice a5 1 c5)).run Try.prog W = .ok (.string (strOfNums (putList n 1 1))) W from fun W h => str_of (owns_touch ho5 h (fun _ _ h => h)))
  replace y2 := Lib.hid (y2.out.trans (Touch.of_below hb5))
  replace y3 := Lib.hid (y3.out.trans (Touch.of_below hb5))
  replace y4 := Lib.hid (y4.out.trans (Touch.of_below hb5))
  have y5 := Lib.hid (Touch.refl (fun _ => False) w5)
  clear ho5 hl5 hn5 hb5
  refine hK.out _ _ (⟨⟨H2b.out _ y2.out, H3b.out _ y3.out⟩, H4b.out _ y4.out⟩) (fun _ => ?_)
  clear hK K hHeld
  refine region_more (S' := fun w' : World => ((((convert 31 9 (.slice a2 3 c2)).run Try.prog w' = .ok (.string (strOfNums (putList n 3 3))) w') ∧ ((convert 31 9 (.slice a3 3 c3)).run Try.prog w' = .ok (.string (strOfNums (putList n 3 3))) w')) ∧ ((convert 31 9 (.slice a4 3 c4)).run Try.prog w' = .ok (.string (strOfNums (putList n 3 3))) w')) ∧ ((convert 31 9 (.slice a5 1 c5)).run Try.prog w' = .ok (.string (strOfNums (putList n 1 1))) w')) (fun _ h => h.1) _ _ _ _ ?_
  have hHeld : (fun w' : World => ((((convert 31 9 (.slice a2 3 c2)).run Try.prog w' = .ok (.string (strOfNums (putList n 3 3))) w') ∧ ((convert 31 9 (.slice a3 3 c3)).run Try.prog w' = .ok (.string (strOfNums (putList n 3 3))) w')) ∧ ((convert 31 9 (.slice a4 3 c4)).run Try.prog w' = .ok (.string (strOfNums (putList n 3 3))) w')) ∧ ((convert 31 9 (.slice a5 1 c5)).run Try.prog w' = .ok (.string (strOfNums (putList n 1 1))) w')) _ := ⟨⟨⟨H2b.out _ y2.out, H3b.out _ y3.out⟩, H4b.out _ y4.out⟩, H5b.out _ y5.out⟩
  try simp only [Act.put, List.setIfInBounds_toArray, List.set_cons_zero, List.set_cons_succ]
  refine region_take 36 (v := ?va36) rfl rfl (by kernel_rfl) (by kernel_rfl) (by kernel_rfl) (fun _ _ _ h => h) hHeld (Or.inl ⟨by rfl, ?ya36⟩) ?ra36
  case ya36 => (intro w hSw; (try dsimp only at hSw); go_simp; try with_reducible rfl)
  try simp only [Act.put, List.setIfInBounds_toArray, List.set_cons_zero, List.set_cons_succ]
  refine region_one 38 (by kernel_rfl) rfl (fun K hK => ?_)
  go_simp
  go_at_call 25
  refine (put_nil n 1 1 (putList n 1 1) _ rfl rfl).mono ?_
  rintro e w6 ⟨a6, c6, rfl, ho6, hl6, hn6, hb6⟩
  have H6b := Lib.hid (show ∀ W, Touch (fun _ => False) w6 W → (convert 31 9 (.slice a6 1 c6)).run Try.prog W = .ok (.string (strOfNums (putList n 1 1))) W from fun W h => str_of (owns_touch ho6 h (fun _ _ h => h)))
  replace y2 := Lib.hid (y2.out.trans (Touch.of_below hb6))
  replace y3 := Lib.hid (y3.out.trans (Touch.of_below hb6))
  replace y4 := Lib.hid (y4.out.trans (Touch.of_below hb6))
  replace y5 := Lib.hid (y5.out.trans (Touch.of_below hb6))
  have y6 := Lib.hid (Touch.refl (fun _ => False) w6)
  clear ho6 hl6 hn6 hb6
  refine hK.out _ _ (⟨⟨⟨H2b.out _ y2.out, H3b.out _ y3.out⟩, H4b.out _ y4.out⟩, H5b.out _ y5.out⟩) (fun _ => ?_)
  clear hK K hHeld
  refine region_more (S' := fun w' : World => (((((convert 31 9 (.slice a2 3 c2)).run Try.prog w' = .ok (.string (strOfNums (putList n 3 3))) w') ∧ ((convert 31 9 (.slice a3 3 c3)).run Try.prog w' = .ok (.string (strOfNums (putList n 3 3))) w')) ∧ ((convert 31 9 (.slice a4 3 c4)).run Try.prog w' = .ok (.string (strOfNums (putList n 3 3))) w')) ∧ ((convert 31 9 (.slice a5 1 c5)).run Try.prog w' = .ok (.string (strOfNums (putList n 1 1))) w')) ∧ ((convert 31 9 (.slice a6 1 c6)).run Try.prog w' = .ok (.string (strOfNums (putList n 1 1))) w')) (fun _ h => h.1) _ _ _ _ ?_
  have hHeld : (fun w' : World => (((((convert 31 9 (.slice a2 3 c2)).run Try.prog w' = .ok (.string (strOfNums (putList n 3 3))) w') ∧ ((convert 31 9 (.slice a3 3 c3)).run Try.prog w' = .ok (.string (strOfNums (putList n 3 3))) w')) ∧ ((convert 31 9 (.slice a4 3 c4)).run Try.prog w' = .ok (.string (strOfNums (putList n 3 3))) w')) ∧ ((convert 31 9 (.slice a5 1 c5)).run Try.prog w' = .ok (.string (strOfNums (putList n 1 1))) w')) ∧ ((convert 31 9 (.slice a6 1 c6)).run Try.prog w' = .ok (.string (strOfNums (putList n 1 1))) w')) _ := ⟨⟨⟨⟨H2b.out _ y2.out, H3b.out _ y3.out⟩, H4b.out _ y4.out⟩, H5b.out _ y5.out⟩, H6b.out _ y6.out⟩
  try simp only [Act.put, List.setIfInBounds_toArray, List.set_cons_zero, List.set_cons_succ]
  refine region_take 39 (v := ?va39) rfl rfl (by kernel_rfl) (by kernel_rfl) (by kernel_rfl) (fun _ _ _ h => h) hHeld (Or.inl ⟨by rfl, ?ya39⟩) ?ra39
  case ya39 => (intro w hSw; (try dsimp only at hSw); go_simp; try with_reducible rfl)
  try simp only [Act.put, List.setIfInBounds_toArray, List.set_cons_zero, List.set_cons_succ]
  refine region_take 40 (v := ?va40) rfl rfl (by kernel_rfl) (by kernel_rfl) (by kernel_rfl) (fun _ _ _ h => h) hHeld (Or.inl ⟨by rfl, ?ya40⟩) ?ra40
  case ya40 => (intro w hSw; (try dsimp only at hSw); go_simp; try with_reducible rfl)
  try simp only [Act.put, List.setIfInBounds_toArray, List.set_cons_zero, List.set_cons_succ]
  refine region_take 41 (v := ?va41) rfl rfl (by kernel_rfl) (by kernel_rfl) (by kernel_rfl) (fun _ _ _ h => h) hHeld (Or.inl ⟨by rfl, ?ya41⟩) ?ra41
  case ya41 => (intro w hSw; (try dsimp only at hSw); go_simp; try with_reducible rfl)
  try simp only [Act.put, List.setIfInBounds_toArray, List.set_cons_zero, List.set_cons_succ]
  refine region_take 42 (v := ?va42) rfl rfl (by kernel_rfl) (by kernel_rfl) (by kernel_rfl) (fun _ _ _ h => h) hHeld (Or.inl ⟨by rfl, ?ya42⟩) ?ra42
  case ya42 => (intro w hSw; (try dsimp only at hSw); go_simp; try with_reducible rfl)
  try simp only [Act.put, List.setIfInBounds_toArray, List.set_cons_zero, List.set_cons_succ]
  refine region_take 43 (v := ?va43) rfl rfl (by kernel_rfl) (by kernel_rfl) (by kernel_rfl) (fun _ _ _ h => h) hHeld (Or.inl ⟨by rfl, ?ya43⟩) ?ra43
  case ya43 => (intro w hSw; (try dsimp only at hSw); go_simp; try with_reducible rfl)
  try simp only [Act.put, List.setIfInBounds_toArray, List.set_cons_zero, List.set_cons_succ]
  refine region_take 46 (v := ?va46) rfl rfl (by kernel_rfl) (by kernel_rfl) (by kernel_rfl) (fun _ _ _ h => h) hHeld (Or.inl ⟨by rfl, ?ya46⟩) ?ra46
  case ya46 => (intro w hSw; (try dsimp only at hSw); go_simp; try with_reducible rfl)
  try simp only [Act.put, List.setIfInBounds_toArray, List.set_cons_zero, List.set_cons_succ]
  refine region_one 44 (by kernel_rfl) rfl (fun K hK => ?_)
  go_simp
  go_at_call 25
  refine (put_nil n 99 7 (putList n 7 7) _ rfl rfl).mono ?_
  rintro e w7 ⟨a7, c7, rfl, ho7, hl7, hn7, hb7⟩
  have H7b := Lib.hid (show ∀ W, Touch (fun _ => False) w7 W → (convert 31 9 (.slice a7 7 c7)).run Try.prog W = .ok (.string (strOfNums (putList n 7 7))) W from fun W h => str_of (owns_touch ho7 h (fun _ _ h => h)))
  replace y2 := Lib.hid (y2.out.trans (Touch.of_below hb7))
  replace y3 := Lib.hid (y3.out.trans (Touch.of_below hb7))
  replace y4 := Lib.hid (y4.out.trans (Touch.of_below hb7))
  replace y5 := Lib.hid (y5.out.trans (Touch.of_below hb7))
  replace y6 := Lib.hid (y6.out.trans (Touch.of_below hb7))
  have y7 := Lib.hid (Touch.refl (fun _ => False) w7)
  clear ho7 hl7 hn7 hb7
  refine hK.out _ _ (⟨⟨⟨⟨H2b.out _ y2.out, H3b.out _ y3.out⟩, H4b.out _ y4.out⟩, H5b.out _ y5.out⟩, H6b.out _ y6.out⟩) (fun _ => ?_)
  clear hK K hHeld
  refine region_more (S' := fun w' : World => ((((((convert 31 9 (.slice a2 3 c2)).run Try.prog w' = .ok (.string (strOfNums (putList n 3 3))) w') ∧ ((convert 31 9 (.slice a3 3 c3)).run Try.prog w' = .ok (.string (strOfNums (putList n 3 3))) w')) ∧ ((convert 31 9 (.slice a4 3 c4)).run Try.prog w' = .ok (.string (strOfNums (putList n 3 3))) w')) ∧ ((convert 31 9 (.slice a5 1 c5)).run Try.prog w' = .ok (.string (strOfNums (putList n 1 1))) w')) ∧ ((convert 31 9 (.slice a6 1 c6)).run Try.prog w' = .ok (.string (strOfNums (putList n 1 1))) w')) ∧ ((convert 31 9 (.slice a7 7 c7)).run Try.prog w' = .ok (.string (strOfNums (putList n 7 7))) w')) (fun _ h => h.1) _ _ _ _ ?_
  have hHeld : (fun w' : World => ((((((convert 31 9 (.slice a2 3 c2)).run Try.prog w' = .ok (.string (strOfNums (putList n 3 3))) w') ∧ ((convert 31 9 (.slice a3 3 c3)).run Try.prog w' = .ok (.string (strOfNums (putList n 3 3))) w')) ∧ ((convert 31 9 (.slice a4 3 c4)).run Try.prog w' = .ok (.string (strOfNums (putList n 3 3))) w')) ∧ ((convert 31 9 (.slice a5 1 c5)).run Try.prog w' = .ok (.string (strOfNums (putList n 1 1))) w')) ∧ ((convert 31 9 (.slice a6 1 c6)).run Try.prog w' = .ok (.string (strOfNums (putList n 1 1))) w')) ∧ ((convert 31 9 (.slice a7 7 c7)).run Try.prog w' = .ok (.string (strOfNums (putList n 7 7))) w')) _ := ⟨⟨⟨⟨⟨H2b.out _ y2.out, H3b.out _ y3.out⟩, H4b.out _ y4.out⟩, H5b.out _ y5.out⟩, H6b.out _ y6.out⟩, H7b.out _ y7.out⟩
  try simp only [Act.put, List.setIfInBounds_toArray, List.set_cons_zero, List.set_cons_succ]
  refine region_take 45 (v := ?va45) rfl rfl (by kernel_rfl) (by kernel_rfl) (by kernel_rfl) (fun _ _ _ h => h) hHeld (Or.inl ⟨by rfl, ?ya45⟩) ?ra45
  case ya45 => (intro w hSw; (try dsimp only at hSw); go_simp; try with_reducible rfl)
  try simp only [Act.put, List.setIfInBounds_toArray, List.set_cons_zero, List.set_cons_succ]
  refine region_one 47 (by kernel_rfl) rfl (fun K hK => ?_)
  go_simp
  go_at_call 25
  refine (put_nil n 7 7 (putList n 7 7) _ rfl rfl).mono ?_
  rintro e w8 ⟨a8, c8, rfl, ho8, hl8, hn8, hb8⟩
  have H8b := Lib.hid (show ∀ W, Touch (fun _ => False) w8 W → (convert 31 9 (.slice a8 7 c8)).run Try.prog W = .ok (.string (strOfNums (putList n 7 7))) W from fun W h => str_of (owns_touch ho8 h (fun _ _ h => h)))
  replace y2 := Lib.hid (y2.out.trans (Touch.of_below hb8))
  replace y3 := Lib.hid (y3.out.trans (Touch.of_below hb8))
  replace y4 := Lib.hid (y4.out.trans (Touch.of_below hb8))
  replace y5 := Lib.hid (y5.out.trans (Touch.of_below hb8))
  replace y6 := Lib.hid (y6.out.trans (Touch.of_below hb8))
  replace y7 := Lib.hid (y7.out.trans (Touch.of_below hb8))
  have y8 := Lib.hid (Touch.refl (fun _ => False) w8)
  clear ho8 hl8 hn8 hb8
  refine hK.out _ _ (⟨⟨⟨⟨⟨H2b.out _ y2.out, H3b.out _ y3.out⟩, H4b.out _ y4.out⟩, H5b.out _ y5.out⟩, H6b.out _ y6.out⟩, H7b.out _ y7.out⟩) (fun _ => ?_)
  clear hK K hHeld
  refine region_more (S' := fun w' : World => (((((((convert 31 9 (.slice a2 3 c2)).run Try.prog w' = .ok (.string (strOfNums (putList n 3 3))) w') ∧ ((convert 31 9 (.slice a3 3 c3)).run Try.prog w' = .ok (.string (strOfNums (putList n 3 3))) w')) ∧ ((convert 31 9 (.slice a4 3 c4)).run Try.prog w' = .ok (.string (strOfNums (putList n 3 3))) w')) ∧ ((convert 31 9 (.slice a5 1 c5)).run Try.prog w' = .ok (.string (strOfNums (putList n 1 1))) w')) ∧ ((convert 31 9 (.slice a6 1 c6)).run Try.prog w' = .ok (.string (strOfNums (putList n 1 1))) w')) ∧ ((convert 31 9 (.slice a7 7 c7)).run Try.prog w' = .ok (.string (strOfNums (putList n 7 7))) w')) ∧ ((convert 31 9 (.slice a8 7 c8)).run Try.prog w' = .ok (.string (strOfNums (putList n 7 7))) w')) (fun _ h => h.1) _ _ _ _ ?_
  have hHeld : (fun w' : World => (((((((convert 31 9 (.slice a2 3 c2)).run Try.prog w' = .ok (.string (strOfNums (putList n 3 3))) w') ∧ ((convert 31 9 (.slice a3 3 c3)).run Try.prog w' = .ok (.string (strOfNums (putList n 3 3))) w')) ∧ ((convert 31 9 (.slice a4 3 c4)).run Try.prog w' = .ok (.string (strOfNums (putList n 3 3))) w')) ∧ ((convert 31 9 (.slice a5 1 c5)).run Try.prog w' = .ok (.string (strOfNums (putList n 1 1))) w')) ∧ ((convert 31 9 (.slice a6 1 c6)).run Try.prog w' = .ok (.string (strOfNums (putList n 1 1))) w')) ∧ ((convert 31 9 (.slice a7 7 c7)).run Try.prog w' = .ok (.string (strOfNums (putList n 7 7))) w')) ∧ ((convert 31 9 (.slice a8 7 c8)).run Try.prog w' = .ok (.string (strOfNums (putList n 7 7))) w')) _ := ⟨⟨⟨⟨⟨⟨H2b.out _ y2.out, H3b.out _ y3.out⟩, H4b.out _ y4.out⟩, H5b.out _ y5.out⟩, H6b.out _ y6.out⟩, H7b.out _ y7.out⟩, H8b.out _ y8.out⟩
  try simp only [Act.put, List.setIfInBounds_toArray, List.set_cons_zero, List.set_cons_succ]
  refine region_take 48 (v := ?va48) rfl rfl (by kernel_rfl) (by kernel_rfl) (by kernel_rfl) (fun _ _ _ h => h) hHeld (Or.inl ⟨by rfl, ?ya48⟩) ?ra48
  case ya48 => (intro w hSw; (try dsimp only at hSw); go_simp; try with_reducible rfl)
  try simp only [Act.put, List.setIfInBounds_toArray, List.set_cons_zero, List.set_cons_succ]
  refine region_take 49 (v := ?va49) rfl rfl (by kernel_rfl) (by kernel_rfl) (by kernel_rfl) (fun _ _ _ h => h) hHeld (Or.inl ⟨by rfl, ?ya49⟩) ?ra49
  case ya49 => (intro w hSw; (try dsimp only at hSw); go_simp; try with_reducible rfl)
  try simp only [Act.put, List.setIfInBounds_toArray, List.set_cons_zero, List.set_cons_succ]
  refine region_take 50 (v := ?va50) rfl rfl (by kernel_rfl) (by kernel_rfl) (by kernel_rfl) (fun _ _ _ h => h) hHeld (Or.inl ⟨by rfl, ?ya50⟩) ?ra50
  case ya50 => (intro w hSw; (try dsimp only at hSw); go_simp; try with_reducible rfl)
  try simp only [Act.put, List.setIfInBounds_toArray, List.set_cons_zero, List.set_cons_succ]
  refine region_take 51 (v := ?va51) rfl rfl (by kernel_rfl) (by kernel_rfl) (by kernel_rfl) (fun _ _ _ h => h) hHeld (Or.inl ⟨by rfl, ?ya51⟩) ?ra51
  case ya51 => (intro w hSw; (try dsimp only at hSw); go_simp; try with_reducible rfl)
  try simp only [Act.put, List.setIfInBounds_toArray, List.set_cons_zero, List.set_cons_succ]
  refine wpAnyH_done (by kernel_rfl) ?_ _
  go_wp2_with fail
  go_ret
  exact ⟨rfl, hb.trans ((H2.out.1.trans (y2.out.below H2.out.1.size (fun _ _ h => h))).mono hb.size)⟩

set_option maxRecDepth 100000 in
set_option maxHeartbeats 4000000 in
theorem fieldWraps_4 (n : Int) (w : World) (h1 : -72057594037927936 ≤ n) (h2 : n ≤ 72057594037927936) :
    Calls Try.prog 10 #[.int .i64 n, .int .i64 4] w fun e w' => e = .returned (.bool true) ∧ Below w.heap.size w w' := by
  have k1 : IntKind.i64.wrap (n + 4294967296) = n + 1 * 2 ^ (8 * 4) := by rw [IntWalk.i64_in _ (by omega)]; omega
  have k2 : IntKind.i64.wrap (n - 4294967296) = n + (-1) * 2 ^ (8 * 4) := by rw [IntWalk.i64_in _ (by omega)]; omega
  have KW := Lib.hid (And.intro k1 k2)
  clear k1 k2
  have sh : ∀ (w : World), (Op.shift BinOp.shl IntKind.i64 1 IntKind.i64 (IntKind.i64.wrap 32)).run Try.prog w = .ok (.int .i64 4294967296) w := fun _ => rfl
  go_enter Try.func10, Try.ntmps10
  go_wp2_with fail
  refine (fieldSmall_any w).mono ?_
  rintro e w1 ⟨rfl, hb⟩
  go_wp2_with fail
  refine (put_nil n 4 4 (putList n 4 4) w1 rfl rfl).mono ?_
  rintro e w2 ⟨a2, c2, rfl, ho2, hl2, hn2, hb2⟩
  have G2 : ∀ W, Touch (fun _ => False) w2 W → (convert 31 9 (.slice a2 4 c2)).run Try.prog W = .ok (.string (strOfNums (putList n 4 4))) W := fun W h => str_of (owns_touch ho2 h (fun _ _ h => h))
  have H2 := Lib.hid (And.intro hb2 G2)
  have y2 := Lib.hid ((Touch.refl (fun _ => False) w2).drew)
  have G2 := H2.out.2
  clear hb2 ho2 hl2 hn2
  have H2b := Lib.hid G2
  clear G2
  go_wp2_with fail
  refine wp_region_held_drew (S := fun w' : World => (convert 31 9 (.slice a2 4 c2)).run Try.prog w' = .ok (.string (strOfNums (putList n 4 4))) w') (by kernel_rfl) (H2b.out _ y2.out) (fun hHeld => ?_)
  refine region_take 0 (v := ?va0) rfl rfl (by kernel_rfl) (by kernel_rfl) (by kernel_rfl) (fun _ _ _ h => h) hHeld (Or.inl ⟨by rfl, ?ya0⟩) ?ra0
  case ya0 => (intro w hSw; (try dsimp only at hSw); go_simp; try with_reducible rfl)
  try simp only [Act.put, List.setIfInBounds_toArray, List.set_cons_zero, List.set_cons_succ]
  refine region_take 1 (v := ?va1) rfl rfl (by kernel_rfl) (by kernel_rfl) (by kernel_rfl) (fun _ _ _ h => h) hHeld (Or.inl ⟨by rfl, ?ya1⟩) ?ra1
  case ya1 => (intro w hSw; (try dsimp only at hSw); go_simp; try with_reducible rfl)
  try simp only [Act.put, List.setIfInBounds_toArray, List.set_cons_zero, List.set_cons_succ]
  refine region_take 2 (v := ?va2) rfl rfl (by kernel_rfl) (by kernel_rfl) (by kernel_rfl) (fun _ _ _ h => h) hHeld (Or.inl ⟨by rfl, ?ya2⟩) ?ra2
  case ya2 => (intro w hSw; (try dsimp only at hSw); go_simp; try with_reducible rfl)
  try simp only [Act.put, List.setIfInBounds_toArray, List.set_cons_zero, List.set_cons_succ]
  refine region_take 3 (v := ?va3) rfl rfl (by kernel_rfl) (by kernel_rfl) (by kernel_rfl) (fun _ _ _ h => h) hHeld (Or.inl ⟨by rfl, ?ya3⟩) ?ra3
  case ya3 => (intro w hSw; (try dsimp only at hSw); go_simp; try with_reducible rfl)
  try simp only [Act.put, List.setIfInBounds_toArray, List.set_cons_zero, List.set_cons_succ]
  refine region_take 4 (v := ?va4) rfl rfl (by kernel_rfl) (by kernel_rfl) (by kernel_rfl) (fun _ _ _ h => h) hHeld (Or.inl ⟨by rfl, ?ya4⟩) ?ra4
  case ya4 => (intro w hSw; (try dsimp only at hSw); go_simp; try with_reducible rfl)
  try simp only [Act.put, List.setIfInBounds_toArray, List.set_cons_zero, List.set_cons_succ]
  refine region_take 5 (v := ?va5) rfl rfl (by kernel_rfl) (by kernel_rfl) (by kernel_rfl) (fun _ _ _ h => h) hHeld (Or.inl ⟨by rfl, ?ya5⟩) ?ra5
  case ya5 => (intro w hSw; (try dsimp only at hSw); go_simp; try with_reducible rfl)
  try simp only [Act.put, List.setIfInBounds_toArray, List.set_cons_zero, List.set_cons_succ]
  refine region_take 6 (v := ?va6) rfl rfl (by kernel_rfl) (by kernel_rfl) (by kernel_rfl) (fun _ _ _ h => h) hHeld (Or.inl ⟨by rfl, ?ya6⟩) ?ra6
  case ya6 => (intro w hSw; (try dsimp only at hSw); go_simp; try with_reducible rfl)
  try simp only [Act.put, List.setIfInBounds_toArray, List.set_cons_zero, List.set_cons_succ]
  refine region_take 7 (v := ?va7) rfl rfl (by kernel_rfl) (by kernel_rfl) (by kernel_rfl) (fun _ _ _ h => h) hHeld (Or.inl ⟨by rfl, ?ya7⟩) ?ra7
  case ya7 => (intro w hSw; (try dsimp only at hSw); go_simp; try with_reducible rfl)
  try simp only [Act.put, List.setIfInBounds_toArray, List.set_cons_zero, List.set_cons_succ]
  refine region_take 8 (v := ?va8) rfl rfl (by kernel_rfl) (by kernel_rfl) (by kernel_rfl) (fun _ _ _ h => h) hHeld (Or.inl ⟨by rfl, ?ya8⟩) ?ra8
  case ya8 => (intro w hSw; (try dsimp only at hSw); go_simp; try with_reducible rfl)
  try simp only [Act.put, List.setIfInBounds_toArray, List.set_cons_zero, List.set_cons_succ]
  refine region_take 9 (v := ?va9) rfl rfl (by kernel_rfl) (by kernel_rfl) (by kernel_rfl) (fun _ _ _ h => h) hHeld (Or.inl ⟨by rfl, ?ya9⟩) ?ra9
  case ya9 => (intro w hSw; (try dsimp only at hSw); go_simp; try with_reducible rfl)
  try simp only [Act.put, List.setIfInBounds_toArray, List.set_cons_zero, List.set_cons_succ]
  refine region_take 10 (v := ?va10) rfl rfl (by kernel_rfl) (by kernel_rfl) (by kernel_rfl) (fun _ _ _ h => h) hHeld (Or.inl ⟨by rfl, ?ya10⟩) ?ra10
  case ya10 => (intro w hSw; (try dsimp only at hSw); go_simp; try with_reducible rfl)
  try simp only [Act.put, List.setIfInBounds_toArray, List.set_cons_zero, List.set_cons_succ]
  refine region_take 11 (v := ?va11) rfl rfl (by kernel_rfl) (by kernel_rfl) (by kernel_rfl) (fun _ _ _ h => h) hHeld (Or.inl ⟨by rfl, ?ya11⟩) ?ra11
  case ya11 => (intro w hSw; (try dsimp only at hSw); go_simp; try with_reducible rfl)
  try simp only [Act.put, List.setIfInBounds_toArray, List.set_cons_zero, List.set_cons_succ]
  refine region_take 12 (v := ?va12) rfl rfl (by kernel_rfl) (by kernel_rfl) (by kernel_rfl) (fun _ _ _ h => h) hHeld (Or.inl ⟨by rfl, ?ya12⟩) ?ra12
  case ya12 => (intro w hSw; (try dsimp only at hSw); go_simp; try with_reducible rfl)
  try simp only [Act.put, List.setIfInBounds_toArray, List.set_cons_zero, List.set_cons_succ]
  refine region_take 13 (v := ?va13) rfl rfl (by kernel_rfl) (by kernel_rfl) (by kernel_rfl) (fun _ _ _ h => h) hHeld (Or.inl ⟨by rfl, ?ya13⟩) ?ra13
  case ya13 => (intro w hSw; (try dsimp only at hSw); go_simp; try with_reducible rfl)
  try simp only [Act.put, List.setIfInBounds_toArray, List.set_cons_zero, List.set_cons_succ]
  refine region_take 16 (v := ?va16) rfl rfl (by kernel_rfl) (by kernel_rfl) (by kernel_rfl) (fun _ _ _ h => h) hHeld (Or.inl ⟨by rfl, ?ya16⟩) ?ra16
  case ya16 => (intro w hSw; (try dsimp only at hSw); go_simp; try with_reducible rfl)
  try simp only [Act.put, List.setIfInBounds_toArray, List.set_cons_zero, List.set_cons_succ]
  refine region_take 17 (v := ?va17) rfl rfl (by kernel_rfl) (by kernel_rfl) (by kernel_rfl) (fun _ _ _ h => h) hHeld (Or.inl ⟨by rfl, ?ya17⟩) ?ra17
  case ya17 => (intro w hSw; (try dsimp only at hSw); go_simp; try with_reducible rfl)
  try simp only [Act.put, List.setIfInBounds_toArray, List.set_cons_zero, List.set_cons_succ]
  refine region_one 14 (by kernel_rfl) rfl (fun K hK => ?_)
  go_simp
  go_at_call 25
  refine (put_nil _ 4 4 (putList n 4 4) _ rfl (by rw [KW.out.1]; exact putList_add n 1 4)).mono ?_
  rintro e w3 ⟨a3, c3, rfl, ho3, hl3, hn3, hb3⟩
  have H3b := Lib.hid (show ∀ W, Touch (fun _ => False) w3 W → (convert 31 9 (.slice a3 4 c3)).run Try.prog W = .ok (.string (strOfNums (putList n 4 4))) W from fun W h => str_of (owns_touch ho3 h (fun _ _ h => h)))
  replace y2 := Lib.hid (y2.out.trans (Touch.of_below hb3))
  have y3 := Lib.hid (Touch.refl (fun _ => False) w3)
  clear ho3 hl3 hn3 hb3
  refine hK.out _ _ (H2b.out _ y2.out) (fun _ => ?_)
  clear hK K hHeld
  refine region_more (S' := fun w' : World => ((convert 31 9 (.slice a2 4 c2)).run Try.prog w' = .ok (.string (strOfNums (putList n 4 4))) w') ∧ ((convert 31 9 (.slice a3 4 c3)).run Try.prog w' = .ok (.string (strOfNums (putList n 4 4))) w')) (fun _ h => h.1) _ _ _ _ ?_
  have hHeld : (fun w' : World => ((convert 31 9 (.slice a2 4 c2)).run Try.prog w' = .ok (.string (strOfNums (putList n 4 4))) w') ∧ ((convert 31 9 (.slice a3 4 c3)).run Try.prog w' = .ok (.string (strOfNums (putList n 4 4))) w')) _ := ⟨H2b.out _ y2.out, H3b.out _ y3.out⟩
  try simp only [Act.put, List.setIfInBounds_toArray, List.set_cons_zero, List.set_cons_succ]
  refine region_take 15 (v := ?va15) rfl rfl (by kernel_rfl) (by kernel_rfl) (by kernel_rfl) (fun _ _ _ h => h) hHeld (Or.inl ⟨by rfl, ?ya15⟩) ?ra15
  case ya15 => (intro w hSw; (try dsimp only at hSw); go_simp; try with_reducible rfl)
  try simp only [Act.put, List.setIfInBounds_toArray, List.set_cons_zero, List.set_cons_succ]
  refine region_take 18 (v := ?va18) rfl rfl (by kernel_rfl) (by kernel_rfl) (by kernel_rfl) (fun _ _ _ h => h) hHeld (Or.inl ⟨by rfl, ?ya18⟩) ?ra18
  case ya18 => (intro w hSw; (try dsimp only at hSw); go_simp; try with_reducible rfl)
  try simp only [Act.put, List.setIfInBounds_toArray, List.set_cons_zero, List.set_cons_succ]
  refine region_take 19 (v := ?va19) rfl rfl (by kernel_rfl) (by kernel_rfl) (by kernel_rfl) (fun _ _ _ h => h) hHeld (Or.inl ⟨by rfl, ?ya19⟩) ?ra19
  case ya19 => (intro w hSw; (try dsimp only at hSw); go_simp; try with_reducible rfl)
  try simp only [Act.put, List.setIfInBounds_toArray, List.set_cons_zero, List.set_cons_succ]
  refine region_take 20 (v := ?va20) rfl rfl (by kernel_rfl) (by kernel_rfl) (by kernel_rfl) (fun _ _ _ h => h) hHeld (Or.inl ⟨by rfl, ?ya20⟩) ?ra20
  case ya20 => (intro w hSw; (try dsimp only at hSw); go_simp; try with_reducible rfl)
  try simp only [Act.put, List.setIfInBounds_toArray, List.set_cons_zero, List.set_cons_succ]
  refine region_take 21 (v := ?va21) rfl rfl (by kernel_rfl) (by kernel_rfl) (by kernel_rfl) (fun _ _ _ h => h) hHeld (Or.inl ⟨by rfl, ?ya21⟩) ?ra21
  case ya21 => (intro w hSw; (try dsimp only at hSw); go_simp; try with_reducible rfl)
  try simp only [Act.put, List.setIfInBounds_toArray, List.set_cons_zero, List.set_cons_succ]
  refine region_take 22 (v := ?va22) rfl rfl (by kernel_rfl) (by kernel_rfl) (by kernel_rfl) (fun _ _ _ h => h) hHeld (Or.inl ⟨by rfl, ?ya22⟩) ?ra22
  case ya22 => (intro w hSw; (try dsimp only at hSw); go_simp; try with_reducible rfl)
  try simp only [Act.put, List.setIfInBounds_toArray, List.set_cons_zero, List.set_cons_succ]
  refine region_take 23 (v := ?va23) rfl rfl (by kernel_rfl) (by kernel_rfl) (by kernel_rfl) (fun _ _ _ h => h) hHeld (Or.inl ⟨by rfl, ?ya23⟩) ?ra23
  case ya23 => (intro w hSw; (try dsimp only at hSw); go_simp; try with_reducible rfl)
  try simp only [Act.put, List.setIfInBounds_toArray, List.set_cons_zero, List.set_cons_succ]
  refine region_take 24 (v := ?va24) rfl rfl (by kernel_rfl) (by kernel_rfl) (by kernel_rfl) (fun _ _ _ h => h) hHeld (Or.inl ⟨by rfl, ?ya24⟩) ?ra24
  case ya24 => (intro w hSw; (try dsimp only at hSw); go_simp; try with_reducible rfl)
  try simp only [Act.put, List.setIfInBounds_toArray, List.set_cons_zero, List.set_cons_succ]
  refine region_take 25 (v := ?va25) rfl rfl (by kernel_rfl) (by kernel_rfl) (by kernel_rfl) (fun _ _ _ h => h) hHeld (Or.inl ⟨by rfl, ?ya25⟩) ?ra25
  case ya25 => (intro w hSw; (try dsimp only at hSw); go_simp; try with_reducible rfl)
  try simp only [Act.put, List.setIfInBounds_toArray, List.set_cons_zero, List.set_cons_succ]
  refine region_take 26 (v := ?va26) rfl rfl (by kernel_rfl) (by kernel_rfl) (by kernel_rfl) (fun _ _ _ h => h) hHeld (Or.inl ⟨by rfl, ?ya26⟩) ?ra26
  case ya26 => (intro w hSw; (try dsimp only at hSw); go_simp; try with_reducible rfl)
  try simp only [Act.put, List.setIfInBounds_toArray, List.set_cons_zero, List.set_cons_succ]
  refine region_take 29 (v := ?va29) rfl rfl (by kernel_rfl) (by kernel_rfl) (by kernel_rfl) (fun _ _ _ h => h) hHeld (Or.inl ⟨by rfl, ?ya29⟩) ?ra29
  case ya29 => (intro w hSw; (try dsimp only at hSw); go_simp; try with_reducible rfl)
  try simp only [Act.put, List.setIfInBounds_toArray, List.set_cons_zero, List.set_cons_succ]
  refine region_take 30 (v := ?va30) rfl rfl (by kernel_rfl) (by kernel_rfl) (by kernel_rfl) (fun _ _ _ h => h) hHeld (Or.inl ⟨by rfl, ?ya30⟩) ?ra30
  case ya30 => (intro w hSw; (try dsimp only at hSw); go_simp; try with_reducible rfl)
  try simp only [Act.put, List.setIfInBounds_toArray, List.set_cons_zero, List.set_cons_succ]
  refine region_one 27 (by kernel_rfl) rfl (fun K hK => ?_)
  go_simp
  go_at_call 25
  refine (put_nil _ 4 4 (putList n 4 4) _ rfl (by rw [KW.out.2]; exact putList_add n (-1) 4)).mono ?_
  rintro e w4 ⟨a4, c4, rfl, ho4, hl4, hn4, hb4⟩
  have H4b := Lib.hid (show ∀ W, Touch (fun _ => False) w4 W → (convert 31 9 (.slice a4 4 c4)).run Try.prog W = .ok (.string (strOfNums (putList n 4 4))) W from fun W h => str_of (owns_touch ho4 h (fun _ _ h => h)))
  replace y2 := Lib.hid (y2.out.trans (Touch.of_below hb4))
  replace y3 := Lib.hid (y3.out.trans (Touch.of_below hb4))
  have y4 := Lib.hid (Touch.refl (fun _ => False) w4)
  clear ho4 hl4 hn4 hb4
  refine hK.out _ _ (⟨H2b.out _ y2.out, H3b.out _ y3.out⟩) (fun _ => ?_)
  clear hK K hHeld
  refine region_more (S' := fun w' : World => (((convert 31 9 (.slice a2 4 c2)).run Try.prog w' = .ok (.string (strOfNums (putList n 4 4))) w') ∧ ((convert 31 9 (.slice a3 4 c3)).run Try.prog w' = .ok (.string (strOfNums (putList n 4 4))) w')) ∧ ((convert 31 9 (.slice a4 4 c4)).run Try.prog w' = .ok (.string (strOfNums (putList n 4 4))) w')) (fun _ h => h.1) _ _ _ _ ?_
  have hHeld : (fun w' : World => (((convert 31 9 (.slice a2 4 c2)).run Try.prog w' = .ok (.string (strOfNums (putList n 4 4))) w') ∧ ((convert 31 9 (.slice a3 4 c3)).run Try.prog w' = .ok (.string (strOfNums (putList n 4 4))) w')) ∧ ((convert 31 9 (.slice a4 4 c4)).run Try.prog w' = .ok (.string (strOfNums (putList n 4 4))) w')) _ := ⟨⟨H2b.out _ y2.out, H3b.out _ y3.out⟩, H4b.out _ y4.out⟩
  try simp only [Act.put, List.setIfInBounds_toArray, List.set_cons_zero, List.set_cons_succ]
  refine region_take 28 (v := ?va28) rfl rfl (by kernel_rfl) (by kernel_rfl) (by kernel_rfl) (fun _ _ _ h => h) hHeld (Or.inl ⟨by rfl, ?ya28⟩) ?ra28
  case ya28 => (intro w hSw; (try dsimp only at hSw); go_simp; try with_reducible rfl)
  try simp only [Act.put, List.setIfInBounds_toArray, List.set_cons_zero, List.set_cons_succ]
  refine region_take 31 (v := ?va31) rfl rfl (by kernel_rfl) (by kernel_rfl) (by kernel_rfl) (fun _ _ _ h => h) hHeld (Or.inl ⟨by rfl, ?ya31⟩) ?ra31
  case ya31 => (intro w hSw; (try dsimp only at hSw); go_simp; try with_reducible rfl)
  try simp only [Act.put, List.setIfInBounds_toArray, List.set_cons_zero, List.set_cons_succ]
  refine region_take 32 (v := ?va32) rfl rfl (by kernel_rfl) (by kernel_rfl) (by kernel_rfl) (fun _ _ _ h => h) hHeld (Or.inl ⟨by rfl, ?ya32⟩) ?ra32
  case ya32 => (intro w hSw; (try dsimp only at hSw); go_simp; try with_reducible rfl)
  try simp only [Act.put, List.setIfInBounds_toArray, List.set_cons_zero, List.set_cons_succ]
  refine region_take 33 (v := ?va33) rfl rfl (by kernel_rfl) (by kernel_rfl) (by kernel_rfl) (fun _ _ _ h => h) hHeld (Or.inl ⟨by rfl, ?ya33⟩) ?ra33
  case ya33 => (intro w hSw; (try dsimp only at hSw); go_simp; try with_reducible rfl)
  try simp only [Act.put, List.setIfInBounds_toArray, List.set_cons_zero, List.set_cons_succ]
  refine region_take 34 (v := ?va34) rfl rfl (by kernel_rfl) (by kernel_rfl) (by kernel_rfl) (fun _ _ _ h => h) hHeld (Or.inl ⟨by rfl, ?ya34⟩) ?ra34
  case ya34 => (intro w hSw; (try dsimp only at hSw); go_simp; try with_reducible rfl)
  try simp only [Act.put, List.setIfInBounds_toArray, List.set_cons_zero, List.set_cons_succ]
  refine region_take 37 (v := ?va37) rfl rfl (by kernel_rfl) (by kernel_rfl) (by kernel_rfl) (fun _ _ _ h => h) hHeld (Or.inl ⟨by rfl, ?ya37⟩) ?ra37
  case ya37 => (intro w hSw; (try dsimp only at hSw); go_simp; try with_reducible rfl)
  try simp only [Act.put, List.setIfInBounds_toArray, List.set_cons_zero, List.set_cons_succ]
  refine region_one 35 (by kernel_rfl) rfl (fun K hK => ?_)
  go_simp
  go_at_call 25
  refine (put_nil n 0 1 (putList n 1 1) _ rfl rfl).mono ?_
  rintro e w5 ⟨a5, c5, rfl, ho5, hl5, hn5, hb5⟩
  have H5b := Lib.hid (show ∀ W, Touch (fun _ => False) w5 W → (convert 31 9 (.slice a5 1 c5)).run Try.prog W = .ok (.string (strOfNums (putList n 1 1))) W from fun W h => str_of (owns_touch ho5 h (fun _ _ h => h)))
  replace y2 := Lib.hid (y2.out.trans (Touch.of_below hb5))
  replace y3 := Lib.hid (y3.out.trans (Touch.of_below hb5))
  replace y4 := Lib.hid (y4.out.trans (Touch.of_below hb5))
  have y5 := Lib.hid (Touch.refl (fun _ => False) w5)
  clear ho5 hl5 hn5 hb5
  refine hK.out _ _ (⟨⟨H2b.out _ y2.out, H3b.out _ y3.out⟩, H4b.out _ y4.out⟩) (fun _ => ?_)
  clear hK K hHeld
  refine region_more (S' := fun w' : World => ((((convert 31 9 (.slice a2 4 c2)).run Try.prog w' = .ok (.string (strOfNums (putList n 4 4))) w') ∧ ((convert 31 9 (.slice a3 4 c3)).run Try.prog w' = .ok (.string (strOfNums (putList n 4 4))) w')) ∧ ((convert 31 9 (.slice a4 4 c4)).run Try.prog w' = .ok (.string (strOfNums (putList n 4 4))) w')) ∧ ((convert 31 9 (.slice a5 1 c5)).run Try.prog w' = .ok (.string (strOfNums (putList n 1 1))) w')) (fun _ h => h.1) _ _ _ _ ?_
  have hHeld : (fun w' : World => ((((convert 31 9 (.slice a2 4 c2)).run Try.prog w' = .ok (.string (strOfNums (putList n 4 4))) w') ∧ ((convert 31 9 (.slice a3 4 c3)).run Try.prog w' = .ok (.string (strOfNums (putList n 4 4))) w')) ∧ ((convert 31 9 (.slice a4 4 c4)).run Try.prog w' = .ok (.string (strOfNums (putList n 4 4))) w')) ∧ ((convert 31 9 (.slice a5 1 c5)).run Try.prog w' = .ok (.string (strOfNums (putList n 1 1))) w')) _ := ⟨⟨⟨H2b.out _ y2.out, H3b.out _ y3.out⟩, H4b.out _ y4.out⟩, H5b.out _ y5.out⟩
  try simp only [Act.put, List.setIfInBounds_toArray, List.set_cons_zero, List.set_cons_succ]
  refine region_take 36 (v := ?va36) rfl rfl (by kernel_rfl) (by kernel_rfl) (by kernel_rfl) (fun _ _ _ h => h) hHeld (Or.inl ⟨by rfl, ?ya36⟩) ?ra36
  case ya36 => (intro w hSw; (try dsimp only at hSw); go_simp; try with_reducible rfl)
  try simp only [Act.put, List.setIfInBounds_toArray, List.set_cons_zero, List.set_cons_succ]
  refine region_one 38 (by kernel_rfl) rfl (fun K hK => ?_)
  go_simp
  go_at_call 25
  refine (put_nil n 1 1 (putList n 1 1) _ rfl rfl).mono ?_
  rintro e w6 ⟨a6, c6, rfl, ho6, hl6, hn6, hb6⟩
  have H6b := Lib.hid (show ∀ W, Touch (fun _ => False) w6 W → (convert 31 9 (.slice a6 1 c6)).run Try.prog W = .ok (.string (strOfNums (putList n 1 1))) W from fun W h => str_of (owns_touch ho6 h (fun _ _ h => h)))
  replace y2 := Lib.hid (y2.out.trans (Touch.of_below hb6))
  replace y3 := Lib.hid (y3.out.trans (Touch.of_below hb6))
  replace y4 := Lib.hid (y4.out.trans (Touch.of_below hb6))
  replace y5 := Lib.hid (y5.out.trans (Touch.of_below hb6))
  have y6 := Lib.hid (Touch.refl (fun _ => False) w6)
  clear ho6 hl6 hn6 hb6
  refine hK.out _ _ (⟨⟨⟨H2b.out _ y2.out, H3b.out _ y3.out⟩, H4b.out _ y4.out⟩, H5b.out _ y5.out⟩) (fun _ => ?_)
  clear hK K hHeld
  refine region_more (S' := fun w' : World => (((((convert 31 9 (.slice a2 4 c2)).run Try.prog w' = .ok (.string (strOfNums (putList n 4 4))) w') ∧ ((convert 31 9 (.slice a3 4 c3)).run Try.prog w' = .ok (.string (strOfNums (putList n 4 4))) w')) ∧ ((convert 31 9 (.slice a4 4 c4)).run Try.prog w' = .ok (.string (strOfNums (putList n 4 4))) w')) ∧ ((convert 31 9 (.slice a5 1 c5)).run Try.prog w' = .ok (.string (strOfNums (putList n 1 1))) w')) ∧ ((convert 31 9 (.slice a6 1 c6)).run Try.prog w' = .ok (.string (strOfNums (putList n 1 1))) w')) (fun _ h => h.1) _ _ _ _ ?_
  have hHeld : (fun w' : World => (((((convert 31 9 (.slice a2 4 c2)).run Try.prog w' = .ok (.string (strOfNums (putList n 4 4))) w') ∧ ((convert 31 9 (.slice a3 4 c3)).run Try.prog w' = .ok (.string (strOfNums (putList n 4 4))) w')) ∧ ((convert 31 9 (.slice a4 4 c4)).run Try.prog w' = .ok (.string (strOfNums (putList n 4 4))) w')) ∧ ((convert 31 9 (.slice a5 1 c5)).run Try.prog w' = .ok (.string (strOfNums (putList n 1 1))) w')) ∧ ((convert 31 9 (.slice a6 1 c6)).run Try.prog w' = .ok (.string (strOfNums (putList n 1 1))) w')) _ := ⟨⟨⟨⟨H2b.out _ y2.out, H3b.out _ y3.out⟩, H4b.out _ y4.out⟩, H5b.out _ y5.out⟩, H6b.out _ y6.out⟩
  try simp only [Act.put, List.setIfInBounds_toArray, List.set_cons_zero, List.set_cons_succ]
  refine region_take 39 (v := ?va39) rfl rfl (by kernel_rfl) (by kernel_rfl) (by kernel_rfl) (fun _ _ _ h => h) hHeld (Or.inl ⟨by rfl, ?ya39⟩) ?ra39
  case ya39 => (intro w hSw; (try dsimp only at hSw); go_simp; try with_reducible rfl)
  try simp only [Act.put, List.setIfInBounds_toArray, List.set_cons_zero, List.set_cons_succ]
  refine region_take 40 (v := ?va40) rfl rfl (by kernel_rfl) (by kernel_rfl) (by kernel_rfl) (fun _ _ _ h => h) hHeld (Or.inl ⟨by rfl, ?ya40⟩) ?ra40
  case ya40 => (intro w hSw; (try dsimp only at hSw); go_simp; try with_reducible rfl)
  try simp only [Act.put, List.setIfInBounds_toArray, List.set_cons_zero, List.set_cons_succ]
  refine region_take 41 (v := ?va41) rfl rfl (by kernel_rfl) (by kernel_rfl) (by kernel_rfl) (fun _ _ _ h => h) hHeld (Or.inl ⟨by rfl, ?ya41⟩) ?ra41
  case ya41 => (intro w hSw; (try dsimp only at hSw); go_simp; try with_reducible rfl)
  try simp only [Act.put, List.setIfInBounds_toArray, List.set_cons_zero, List.set_cons_succ]
  refine region_take 42 (v := ?va42) rfl rfl (by kernel_rfl) (by kernel_rfl) (by kernel_rfl) (fun _ _ _ h => h) hHeld (Or.inl ⟨by rfl, ?ya42⟩) ?ra42
  case ya42 => (intro w hSw; (try dsimp only at hSw); go_simp; try with_reducible rfl)
  try simp only [Act.put, List.setIfInBounds_toArray, List.set_cons_zero, List.set_cons_succ]
  refine region_take 43 (v := ?va43) rfl rfl (by kernel_rfl) (by kernel_rfl) (by kernel_rfl) (fun _ _ _ h => h) hHeld (Or.inl ⟨by rfl, ?ya43⟩) ?ra43
  case ya43 => (intro w hSw; (try dsimp only at hSw); go_simp; try with_reducible rfl)
  try simp only [Act.put, List.setIfInBounds_toArray, List.set_cons_zero, List.set_cons_succ]
  refine region_take 46 (v := ?va46) rfl rfl (by kernel_rfl) (by kernel_rfl) (by kernel_rfl) (fun _ _ _ h => h) hHeld (Or.inl ⟨by rfl, ?ya46⟩) ?ra46
  case ya46 => (intro w hSw; (try dsimp only at hSw); go_simp; try with_reducible rfl)
  try simp only [Act.put, List.setIfInBounds_toArray, List.set_cons_zero, List.set_cons_succ]
  refine region_one 44 (by kernel_rfl) rfl (fun K hK => ?_)
  go_simp
  go_at_call 25
  refine (put_nil n 99 7 (putList n 7 7) _ rfl rfl).mono ?_
  rintro e w7 ⟨a7, c7, rfl, ho7, hl7, hn7, hb7⟩
  have H7b := Lib.hid (show ∀ W, Touch (fun _ => False) w7 W → (convert 31 9 (.slice a7 7 c7)).run Try.prog W = .ok (.string (strOfNums (putList n 7 7))) W from fun W h => str_of (owns_touch ho7 h (fun _ _ h => h)))
  replace y2 := Lib.hid (y2.out.trans (Touch.of_below hb7))
  replace y3 := Lib.hid (y3.out.trans (Touch.of_below hb7))
  replace y4 := Lib.hid (y4.out.trans (Touch.of_below hb7))
  replace y5 := Lib.hid (y5.out.trans (Touch.of_below hb7))
  replace y6 := Lib.hid (y6.out.trans (Touch.of_below hb7))
  have y7 := Lib.hid (Touch.refl (fun _ => False) w7)
  clear ho7 hl7 hn7 hb7
  refine hK.out _ _ (⟨⟨⟨⟨H2b.out _ y2.out, H3b.out _ y3.out⟩, H4b.out _ y4.out⟩, H5b.out _ y5.out⟩, H6b.out _ y6.out⟩) (fun _ => ?_)
  clear hK K hHeld
  refine region_more (S' := fun w' : World => ((((((convert 31 9 (.slice a2 4 c2)).run Try.prog w' = .ok (.string (strOfNums (putList n 4 4))) w') ∧ ((convert 31 9 (.slice a3 4 c3)).run Try.prog w' = .ok (.string (strOfNums (putList n 4 4))) w')) ∧ ((convert 31 9 (.slice a4 4 c4)).run Try.prog w' = .ok (.string (strOfNums (putList n 4 4))) w')) ∧ ((convert 31 9 (.slice a5 1 c5)).run Try.prog w' = .ok (.string (strOfNums (putList n 1 1))) w')) ∧ ((convert 31 9 (.slice a6 1 c6)).run Try.prog w' = .ok (.string (strOfNums (putList n 1 1))) w')) ∧ ((convert 31 9 (.slice a7 7 c7)).run Try.prog w' = .ok (.string (strOfNums (putList n 7 7))) w')) (fun _ h => h.1) _ _ _ _ ?_
  have hHeld : (fun w' : World => ((((((convert 31 9 (.slice a2 4 c2)).run Try.prog w' = .ok (.string (strOfNums (putList n 4 4))) w') ∧ ((convert 31 9 (.slice a3 4 c3)).run Try.prog w' = .ok (.string (strOfNums (putList n 4 4))) w')) ∧ ((convert 31 9 (.slice a4 4 c4)).run Try.prog w' = .ok (.string (strOfNums (putList n 4 4))) w')) ∧ ((convert 31 9 (.slice a5 1 c5)).run Try.prog w' = .ok (.string (strOfNums (putList n 1 1))) w')) ∧ ((convert 31 9 (.slice a6 1 c6)).run Try.prog w' = .ok (.string (strOfNums (putList n 1 1))) w')) ∧ ((convert 31 9 (.slice a7 7 c7)).run Try.prog w' = .ok (.string (strOfNums (putList n 7 7))) w')) _ := ⟨⟨⟨⟨⟨H2b.out _ y2.out, H3b.out _ y3.out⟩, H4b.out _ y4.out⟩, H5b.out _ y5.out⟩, H6b.out _ y6.out⟩, H7b.out _ y7.out⟩
  try simp only [Act.put, List.setIfInBounds_toArray, List.set_cons_zero, List.set_cons_succ]
  refine region_take 45 (v := ?va45) rfl rfl (by kernel_rfl) (by kernel_rfl) (by kernel_rfl) (fun _ _ _ h => h) hHeld (Or.inl ⟨by rfl, ?ya45⟩) ?ra45
  case ya45 => (intro w hSw; (try dsimp only at hSw); go_simp; try with_reducible rfl)
  try simp only [Act.put, List.setIfInBounds_toArray, List.set_cons_zero, List.set_cons_succ]
  refine region_one 47 (by kernel_rfl) rfl (fun K hK => ?_)
  go_simp
  go_at_call 25
  refine (put_nil n 7 7 (putList n 7 7) _ rfl rfl).mono ?_
  rintro e w8 ⟨a8, c8, rfl, ho8, hl8, hn8, hb8⟩
  have H8b := Lib.hid (show ∀ W, Touch (fun _ => False) w8 W → (convert 31 9 (.slice a8 7 c8)).run Try.prog W = .ok (.string (strOfNums (putList n 7 7))) W from fun W h => str_of (owns_touch ho8 h (fun _ _ h => h)))
  replace y2 := Lib.hid (y2.out.trans (Touch.of_below hb8))
  replace y3 := Lib.hid (y3.out.trans (Touch.of_below hb8))
  replace y4 := Lib.hid (y4.out.trans (Touch.of_below hb8))
  replace y5 := Lib.hid (y5.out.trans (Touch.of_below hb8))
  replace y6 := Lib.hid (y6.out.trans (Touch.of_below hb8))
  replace y7 := Lib.hid (y7.out.trans (Touch.of_below hb8))
  have y8 := Lib.hid (Touch.refl (fun _ => False) w8)
  clear ho8 hl8 hn8 hb8
  refine hK.out _ _ (⟨⟨⟨⟨⟨H2b.out _ y2.out, H3b.out _ y3.out⟩, H4b.out _ y4.out⟩, H5b.out _ y5.out⟩, H6b.out _ y6.out⟩, H7b.out _ y7.out⟩) (fun _ => ?_)
  clear hK K hHeld
  refine region_more (S' := fun w' : World => (((((((convert 31 9 (.slice a2 4 c2)).run Try.prog w' = .ok (.string (strOfNums (putList n 4 4))) w') ∧ ((convert 31 9 (.slice a3 4 c3)).run Try.prog w' = .ok (.string (strOfNums (putList n 4 4))) w')) ∧ ((convert 31 9 (.slice a4 4 c4)).run Try.prog w' = .ok (.string (strOfNums (putList n 4 4))) w')) ∧ ((convert 31 9 (.slice a5 1 c5)).run Try.prog w' = .ok (.string (strOfNums (putList n 1 1))) w')) ∧ ((convert 31 9 (.slice a6 1 c6)).run Try.prog w' = .ok (.string (strOfNums (putList n 1 1))) w')) ∧ ((convert 31 9 (.slice a7 7 c7)).run Try.prog w' = .ok (.string (strOfNums (putList n 7 7))) w')) ∧ ((convert 31 9 (.slice a8 7 c8)).run Try.prog w' = .ok (.string (strOfNums (putList n 7 7))) w')) (fun _ h => h.1) _ _ _ _ ?_
  have hHeld : (fun w' : World => (((((((convert 31 9 (.slice a2 4 c2)).run Try.prog w' = .ok (.string (strOfNums (putList n 4 4))) w') ∧ ((convert 31 9 (.slice a3 4 c3)).run Try.prog w' = .ok (.string (strOfNums (putList n 4 4))) w')) ∧ ((convert 31 9 (.slice a4 4 c4)).run Try.prog w' = .ok (.string (strOfNums (putList n 4 4))) w')) ∧ ((convert 31 9 (.slice a5 1 c5)).run Try.prog w' = .ok (.string (strOfNums (putList n 1 1))) w')) ∧ ((convert 31 9 (.slice a6 1 c6)).run Try.prog w' = .ok (.string (strOfNums (putList n 1 1))) w')) ∧ ((convert 31 9 (.slice a7 7 c7)).run Try.prog w' = .ok (.string (strOfNums (putList n 7 7))) w')) ∧ ((convert 31 9 (.slice a8 7 c8)).run Try.prog w' = .ok (.string (strOfNums (putList n 7 7))) w')) _ := ⟨⟨⟨⟨⟨⟨H2b.out _ y2.out, H3b.out _ y3.out⟩, H4b.out _ y4.out⟩, H5b.out _ y5.out⟩, H6b.out _ y6.out⟩, H7b.out _ y7.out⟩, H8b.out _ y8.out⟩
  try simp only [Act.put, List.setIfInBounds_toArray, List.set_cons_zero, List.set_cons_succ]
  refine region_take 48 (v := ?va48) rfl rfl (by kernel_rfl) (by kernel_rfl) (by kernel_rfl) (fun _ _ _ h => h) hHeld (Or.inl ⟨by rfl, ?ya48⟩) ?ra48
  case ya48 => (intro w hSw; (try dsimp only at hSw); go_simp; try with_reducible rfl)
  try simp only [Act.put, List.setIfInBounds_toArray, List.set_cons_zero, List.set_cons_succ]
  refine region_take 49 (v := ?va49) rfl rfl (by kernel_rfl) (by kernel_rfl) (by kernel_rfl) (fun _ _ _ h => h) hHeld (Or.inl ⟨by rfl, ?ya49⟩) ?ra49
  case ya49 => (intro w hSw; (try dsimp only at hSw); go_simp; try with_reducible rfl)
  try simp only [Act.put, List.setIfInBounds_toArray, List.set_cons_zero, List.set_cons_succ]
  refine region_take 50 (v := ?va50) rfl rfl (by kernel_rfl) (by kernel_rfl) (by kernel_rfl) (fun _ _ _ h => h) hHeld (Or.inl ⟨by rfl, ?ya50⟩) ?ra50
  case ya50 => (intro w hSw; (try dsimp only at hSw); go_simp; try with_reducible rfl)
  try simp only [Act.put, List.setIfInBounds_toArray, List.set_cons_zero, List.set_cons_succ]
  refine region_take 51 (v := ?va51) rfl rfl (by kernel_rfl) (by kernel_rfl) (by kernel_rfl) (fun _ _ _ h => h) hHeld (Or.inl ⟨by rfl, ?ya51⟩) ?ra51
  case ya51 => (intro w hSw; (try dsimp only at hSw); go_simp; try with_reducible rfl)
  try simp only [Act.put, List.setIfInBounds_toArray, List.set_cons_zero, List.set_cons_succ]
  refine wpAnyH_done (by kernel_rfl) ?_ _
  go_wp2_with fail
  go_ret
  exact ⟨rfl, hb.trans ((H2.out.1.trans (y2.out.below H2.out.1.size (fun _ _ h => h))).mono hb.size)⟩

set_option maxRecDepth 100000 in
set_option maxHeartbeats 4000000 in
theorem fieldWraps_5 (n : Int) (w : World) (h1 : -72057594037927936 ≤ n) (h2 : n ≤ 72057594037927936) :
    Calls Try.prog 10 #[.int .i64 n, .int .i64 5] w fun e w' => e = .returned (.bool true) ∧ Below w.heap.size w w' := by
  have k1 : IntKind.i64.wrap (n + 1099511627776) = n + 1 * 2 ^ (8 * 5) := by rw [IntWalk.i64_in _ (by omega)]; omega
  have k2 : IntKind.i64.wrap (n - 1099511627776) = n + (-1) * 2 ^ (8 * 5) := by rw [IntWalk.i64_in _ (by omega)]; omega
  have KW := Lib.hid (And.intro k1 k2)
  clear k1 k2
  have sh : ∀ (w : World), (Op.shift BinOp.shl IntKind.i64 1 IntKind.i64 (IntKind.i64.wrap 40)).run Try.prog w = .ok (.int .i64 1099511627776) w := fun _ => rfl
  go_enter Try.func10, Try.ntmps10
  go_wp2_with fail
  refine (fieldSmall_any w).mono ?_
  rintro e w1 ⟨rfl, hb⟩
  go_wp2_with fail
  refine (put_nil n 5 5 (putList n 5 5) w1 rfl rfl).mono ?_
  rintro e w2 ⟨a2, c2, rfl, ho2, hl2, hn2, hb2⟩
  have G2 : ∀ W, Touch (fun _ => False) w2 W → (convert 31 9 (.slice a2 5 c2)).run Try.prog W = .ok (.string (strOfNums (putList n 5 5))) W := fun W h => str_of (owns_touch ho2 h (fun _ _ h => h))
  have H2 := Lib.hid (And.intro hb2 G2)
  have y2 := Lib.hid ((Touch.refl (fun _ => False) w2).drew)
  have G2 := H2.out.2
  clear hb2 ho2 hl2 hn2
  have H2b := Lib.hid G2
  clear G2
  go_wp2_with fail
  refine wp_region_held_drew (S := fun w' : World => (convert 31 9 (.slice a2 5 c2)).run Try.prog w' = .ok (.string (strOfNums (putList n 5 5))) w') (by kernel_rfl) (H2b.out _ y2.out) (fun hHeld => ?_)
  refine region_take 0 (v := ?va0) rfl rfl (by kernel_rfl) (by kernel_rfl) (by kernel_rfl) (fun _ _ _ h => h) hHeld (Or.inl ⟨by rfl, ?ya0⟩) ?ra0
  case ya0 => (intro w hSw; (try dsimp only at hSw); go_simp; try with_reducible rfl)
  try simp only [Act.put, List.setIfInBounds_toArray, List.set_cons_zero, List.set_cons_succ]
  refine region_take 1 (v := ?va1) rfl rfl (by kernel_rfl) (by kernel_rfl) (by kernel_rfl) (fun _ _ _ h => h) hHeld (Or.inl ⟨by rfl, ?ya1⟩) ?ra1
  case ya1 => (intro w hSw; (try dsimp only at hSw); go_simp; try with_reducible rfl)
  try simp only [Act.put, List.setIfInBounds_toArray, List.set_cons_zero, List.set_cons_succ]
  refine region_take 2 (v := ?va2) rfl rfl (by kernel_rfl) (by kernel_rfl) (by kernel_rfl) (fun _ _ _ h => h) hHeld (Or.inl ⟨by rfl, ?ya2⟩) ?ra2
  case ya2 => (intro w hSw; (try dsimp only at hSw); go_simp; try with_reducible rfl)
  try simp only [Act.put, List.setIfInBounds_toArray, List.set_cons_zero, List.set_cons_succ]
  refine region_take 3 (v := ?va3) rfl rfl (by kernel_rfl) (by kernel_rfl) (by kernel_rfl) (fun _ _ _ h => h) hHeld (Or.inl ⟨by rfl, ?ya3⟩) ?ra3
  case ya3 => (intro w hSw; (try dsimp only at hSw); go_simp; try with_reducible rfl)
  try simp only [Act.put, List.setIfInBounds_toArray, List.set_cons_zero, List.set_cons_succ]
  refine region_take 4 (v := ?va4) rfl rfl (by kernel_rfl) (by kernel_rfl) (by kernel_rfl) (fun _ _ _ h => h) hHeld (Or.inl ⟨by rfl, ?ya4⟩) ?ra4
  case ya4 => (intro w hSw; (try dsimp only at hSw); go_simp; try with_reducible rfl)
  try simp only [Act.put, List.setIfInBounds_toArray, List.set_cons_zero, List.set_cons_succ]
  refine region_take 5 (v := ?va5) rfl rfl (by kernel_rfl) (by kernel_rfl) (by kernel_rfl) (fun _ _ _ h => h) hHeld (Or.inl ⟨by rfl, ?ya5⟩) ?ra5
  case ya5 => (intro w hSw; (try dsimp only at hSw); go_simp; try with_reducible rfl)
  try simp only [Act.put, List.setIfInBounds_toArray, List.set_cons_zero, List.set_cons_succ]
  refine region_take 6 (v := ?va6) rfl rfl (by kernel_rfl) (by kernel_rfl) (by kernel_rfl) (fun _ _ _ h => h) hHeld (Or.inl ⟨by rfl, ?ya6⟩) ?ra6
  case ya6 => (intro w hSw; (try dsimp only at hSw); go_simp; try with_reducible rfl)
  try simp only [Act.put, List.setIfInBounds_toArray, List.set_cons_zero, List.set_cons_succ]
  refine region_take 7 (v := ?va7) rfl rfl (by kernel_rfl) (by kernel_rfl) (by kernel_rfl) (fun _ _ _ h => h) hHeld (Or.inl ⟨by rfl, ?ya7⟩) ?ra7
  case ya7 => (intro w hSw; (try dsimp only at hSw); go_simp; try with_reducible rfl)
  try simp only [Act.put, List.setIfInBounds_toArray, List.set_cons_zero, List.set_cons_succ]
  refine region_take 8 (v := ?va8) rfl rfl (by kernel_rfl) (by kernel_rfl) (by kernel_rfl) (fun _ _ _ h => h) hHeld (Or.inl ⟨by rfl, ?ya8⟩) ?ra8
  case ya8 => (intro w hSw; (try dsimp only at hSw); go_simp; try with_reducible rfl)
  try simp only [Act.put, List.setIfInBounds_toArray, List.set_cons_zero, List.set_cons_succ]
  refine region_take 9 (v := ?va9) rfl rfl (by kernel_rfl) (by kernel_rfl) (by kernel_rfl) (fun _ _ _ h => h) hHeld (Or.inl ⟨by rfl, ?ya9⟩) ?ra9
  case ya9 => (intro w hSw; (try dsimp only at hSw); go_simp; try with_reducible rfl)
  try simp only [Act.put, List.setIfInBounds_toArray, List.set_cons_zero, List.set_cons_succ]
  refine region_take 10 (v := ?va10) rfl rfl (by kernel_rfl) (by kernel_rfl) (by kernel_rfl) (fun _ _ _ h => h) hHeld (Or.inl ⟨by rfl, ?ya10⟩) ?ra10
  case ya10 => (intro w hSw; (try dsimp only at hSw); go_simp; try with_reducible rfl)
  try simp only [Act.put, List.setIfInBounds_toArray, List.set_cons_zero, List.set_cons_succ]
  refine region_take 11 (v := ?va11) rfl rfl (by kernel_rfl) (by kernel_rfl) (by kernel_rfl) (fun _ _ _ h => h) hHeld (Or.inl ⟨by rfl, ?ya11⟩) ?ra11
  case ya11 => (intro w hSw; (try dsimp only at hSw); go_simp; try with_reducible rfl)
  try simp only [Act.put, List.setIfInBounds_toArray, List.set_cons_zero, List.set_cons_succ]
  refine region_take 12 (v := ?va12) rfl rfl (by kernel_rfl) (by kernel_rfl) (by kernel_rfl) (fun _ _ _ h => h) hHeld (Or.inl ⟨by rfl, ?ya12⟩) ?ra12
  case ya12 => (intro w hSw; (try dsimp only at hSw); go_simp; try with_reducible rfl)
  try simp only [Act.put, List.setIfInBounds_toArray, List.set_cons_zero, List.set_cons_succ]
  refine region_take 13 (v := ?va13) rfl rfl (by kernel_rfl) (by kernel_rfl) (by kernel_rfl) (fun _ _ _ h => h) hHeld (Or.inl ⟨by rfl, ?ya13⟩) ?ra13
  case ya13 => (intro w hSw; (try dsimp only at hSw); go_simp; try with_reducible rfl)
  try simp only [Act.put, List.setIfInBounds_toArray, List.set_cons_zero, List.set_cons_succ]
  refine region_take 16 (v := ?va16) rfl rfl (by kernel_rfl) (by kernel_rfl) (by kernel_rfl) (fun _ _ _ h => h) hHeld (Or.inl ⟨by rfl, ?ya16⟩) ?ra16
  case ya16 => (intro w hSw; (try dsimp only at hSw); go_simp; try with_reducible rfl)
  try simp only [Act.put, List.setIfInBounds_toArray, List.set_cons_zero, List.set_cons_succ]
  refine region_take 17 (v := ?va17) rfl rfl (by kernel_rfl) (by kernel_rfl) (by kernel_rfl) (fun _ _ _ h => h) hHeld (Or.inl ⟨by rfl, ?ya17⟩) ?ra17
  case ya17 => (intro w hSw; (try dsimp only at hSw); go_simp; try with_reducible rfl)
  try simp only [Act.put, List.setIfInBounds_toArray, List.set_cons_zero, List.set_cons_succ]
  refine region_one 14 (by kernel_rfl) rfl (fun K hK => ?_)
  go_simp
  go_at_call 25
  refine (put_nil _ 5 5 (putList n 5 5) _ rfl (by rw [KW.out.1]; exact putList_add n 1 5)).mono ?_
  rintro e w3 ⟨a3, c3, rfl, ho3, hl3, hn3, hb3⟩
  have H3b := Lib.hid (show ∀ W, Touch (fun _ => False) w3 W → (convert 31 9 (.slice a3 5 c3)).run Try.prog W = .ok (.string (strOfNums (putList n 5 5))) W from fun W h => str_of (owns_touch ho3 h (fun _ _ h => h)))
  replace y2 := Lib.hid (y2.out.trans (Touch.of_below hb3))
  have y3 := Lib.hid (Touch.refl (fun _ => False) w3)
  clear ho3 hl3 hn3 hb3
  refine hK.out _ _ (H2b.out _ y2.out) (fun _ => ?_)
  clear hK K hHeld
  refine region_more (S' := fun w' : World => ((convert 31 9 (.slice a2 5 c2)).run Try.prog w' = .ok (.string (strOfNums (putList n 5 5))) w') ∧ ((convert 31 9 (.slice a3 5 c3)).run Try.prog w' = .ok (.string (strOfNums (putList n 5 5))) w')) (fun _ h => h.1) _ _ _ _ ?_
  have hHeld : (fun w' : World => ((convert 31 9 (.slice a2 5 c2)).run Try.prog w' = .ok (.string (strOfNums (putList n 5 5))) w') ∧ ((convert 31 9 (.slice a3 5 c3)).run Try.prog w' = .ok (.string (strOfNums (putList n 5 5))) w')) _ := ⟨H2b.out _ y2.out, H3b.out _ y3.out⟩
  try simp only [Act.put, List.setIfInBounds_toArray, List.set_cons_zero, List.set_cons_succ]
  refine region_take 15 (v := ?va15) rfl rfl (by kernel_rfl) (by kernel_rfl) (by kernel_rfl) (fun _ _ _ h => h) hHeld (Or.inl ⟨by rfl, ?ya15⟩) ?ra15
  case ya15 => (intro w hSw; (try dsimp only at hSw); go_simp; try with_reducible rfl)
  try simp only [Act.put, List.setIfInBounds_toArray, List.set_cons_zero, List.set_cons_succ]
  refine region_take 18 (v := ?va18) rfl rfl (by kernel_rfl) (by kernel_rfl) (by kernel_rfl) (fun _ _ _ h => h) hHeld (Or.inl ⟨by rfl, ?ya18⟩) ?ra18
  case ya18 => (intro w hSw; (try dsimp only at hSw); go_simp; try with_reducible rfl)
  try simp only [Act.put, List.setIfInBounds_toArray, List.set_cons_zero, List.set_cons_succ]
  refine region_take 19 (v := ?va19) rfl rfl (by kernel_rfl) (by kernel_rfl) (by kernel_rfl) (fun _ _ _ h => h) hHeld (Or.inl ⟨by rfl, ?ya19⟩) ?ra19
  case ya19 => (intro w hSw; (try dsimp only at hSw); go_simp; try with_reducible rfl)
  try simp only [Act.put, List.setIfInBounds_toArray, List.set_cons_zero, List.set_cons_succ]
  refine region_take 20 (v := ?va20) rfl rfl (by kernel_rfl) (by kernel_rfl) (by kernel_rfl) (fun _ _ _ h => h) hHeld (Or.inl ⟨by rfl, ?ya20⟩) ?ra20
  case ya20 => (intro w hSw; (try dsimp only at hSw); go_simp; try with_reducible rfl)
  try simp only [Act.put, List.setIfInBounds_toArray, List.set_cons_zero, List.set_cons_succ]
  refine region_take 21 (v := ?va21) rfl rfl (by kernel_rfl) (by kernel_rfl) (by kernel_rfl) (fun _ _ _ h => h) hHeld (Or.inl ⟨by rfl, ?ya21⟩) ?ra21
  case ya21 => (intro w hSw; (try dsimp only at hSw); go_simp; try with_reducible rfl)
  try simp only [Act.put, List.setIfInBounds_toArray, List.set_cons_zero, List.set_cons_succ]
  refine region_take 22 (v := ?va22) rfl rfl (by kernel_rfl) (by kernel_rfl) (by kernel_rfl) (fun _ _ _ h => h) hHeld (Or.inl ⟨by rfl, ?ya22⟩) ?ra22
  case ya22 => (intro w hSw; (try dsimp only at hSw); go_simp; try with_reducible rfl)
  try simp only [Act.put, List.setIfInBounds_toArray, List.set_cons_zero, List.set_cons_succ]
  refine region_take 23 (v := ?va23) rfl rfl (by kernel_rfl) (by kernel_rfl) (by kernel_rfl) (fun _ _ _ h => h) hHeld (Or.inl ⟨by rfl, ?ya23⟩) ?ra23
  case ya23 => (intro w hSw; (try dsimp only at hSw); go_simp; try with_reducible rfl)
  try simp only [Act.put, List.setIfInBounds_toArray, List.set_cons_zero, List.set_cons_succ]
  refine region_take 24 (v := ?va24) rfl rfl (by kernel_rfl) (by kernel_rfl) (by kernel_rfl) (fun _ _ _ h => h) hHeld (Or.inl ⟨by rfl, ?ya24⟩) ?ra24
  case ya24 => (intro w hSw; (try dsimp only at hSw); go_simp; try with_reducible rfl)
  try simp only [Act.put, List.setIfInBounds_toArray, List.set_cons_zero, List.set_cons_succ]
  refine region_take 25 (v := ?va25) rfl rfl (by kernel_rfl) (by kernel_rfl) (by kernel_rfl) (fun _ _ _ h => h) hHeld (Or.inl ⟨by rfl, ?ya25⟩) ?ra25
  case ya25 => (intro w hSw; (try dsimp only at hSw); go_simp; try with_reducible rfl)
  try simp only [Act.put, List.setIfInBounds_toArray, List.set_cons_zero, List.set_cons_succ]
  refine region_take 26 (v := ?va26) rfl rfl (by kernel_rfl) (by kernel_rfl) (by kernel_rfl) (fun _ _ _ h => h) hHeld (Or.inl ⟨by rfl, ?ya26⟩) ?ra26
  case ya26 => (intro w hSw; (try dsimp only at hSw); go_simp; try with_reducible rfl)
  try simp only [Act.put, List.setIfInBounds_toArray, List.set_cons_zero, List.set_cons_succ]
  refine region_take 29 (v := ?va29) rfl rfl (by kernel_rfl) (by kernel_rfl) (by kernel_rfl) (fun _ _ _ h => h) hHeld (Or.inl ⟨by rfl, ?ya29⟩) ?ra29
  case ya29 => (intro w hSw; (try dsimp only at hSw); go_simp; try with_reducible rfl)
  try simp only [Act.put, List.setIfInBounds_toArray, List.set_cons_zero, List.set_cons_succ]
  refine region_take 30 (v := ?va30) rfl rfl (by kernel_rfl) (by kernel_rfl) (by kernel_rfl) (fun _ _ _ h => h) hHeld (Or.inl ⟨by rfl, ?ya30⟩) ?ra30
  case ya30 => (intro w hSw; (try dsimp only at hSw); go_simp; try with_reducible rfl)
  try simp only [Act.put, List.setIfInBounds_toArray, List.set_cons_zero, List.set_cons_succ]
  refine region_one 27 (by kernel_rfl) rfl (fun K hK => ?_)
  go_simp
  go_at_call 25
  refine (put_nil _ 5 5 (putList n 5 5) _ rfl (by rw [KW.out.2]; exact putList_add n (-1) 5)).mono ?_
  rintro e w4 ⟨a4, c4, rfl, ho4, hl4, hn4, hb4⟩
  have H4b := Lib.hid (show ∀ W, Touch (fun _ => False) w4 W → (convert 31 9 (.slice a4 5 c4)).run Try.prog W = .ok (.string (strOfNums (putList n 5 5))) W from fun W h => str_of (owns_touch ho4 h (fun _ _ h => h)))
  replace y2 := Lib.hid (y2.out.trans (Touch.of_below hb4))
  replace y3 := Lib.hid (y3.out.trans (Touch.of_below hb4))
  have y4 := Lib.hid (Touch.refl (fun _ => False) w4)
  clear ho4 hl4 hn4 hb4
  refine hK.out _ _ (⟨H2b.out _ y2.out, H3b.out _ y3.out⟩) (fun _ => ?_)
  clear hK K hHeld
  refine region_more (S' := fun w' : World => (((convert 31 9 (.slice a2 5 c2)).run Try.prog w' = .ok (.string (strOfNums (putList n 5 5))) w') ∧ ((convert 31 9 (.slice a3 5 c3)).run Try.prog w' = .ok (.string (strOfNums (putList n 5 5))) w')) ∧ ((convert 31 9 (.slice a4 5 c4)).run Try.prog w' = .ok (.string (strOfNums (putList n 5 5))) w')) (fun _ h => h.1) _ _ _ _ ?_
  have hHeld : (fun w' : World => (((convert 31 9 (.slice a2 5 c2)).run Try.prog w' = .ok (.string (strOfNums (putList n 5 5))) w') ∧ ((convert 31 9 (.slice a3 5 c3)).run Try.prog w' = .ok (.string (strOfNums (putList n 5 5))) w')) ∧ ((convert 31 9 (.slice a4 5 c4)).run Try.prog w' = .ok (.string (strOfNums (putList n 5 5))) w')) _ := ⟨⟨H2b.out _ y2.out, H3b.out _ y3.out⟩, H4b.out _ y4.out⟩
  try simp only [Act.put, List.setIfInBounds_toArray, List.set_cons_zero, List.set_cons_succ]
  refine region_take 28 (v := ?va28) rfl rfl (by kernel_rfl) (by kernel_rfl) (by kernel_rfl) (fun _ _ _ h => h) hHeld (Or.inl ⟨by rfl, ?ya28⟩) ?ra28
  case ya28 => (intro w hSw; (try dsimp only at hSw); go_simp; try with_reducible rfl)
  try simp only [Act.put, List.setIfInBounds_toArray, List.set_cons_zero, List.set_cons_succ]
  refine region_take 31 (v := ?va31) rfl rfl (by kernel_rfl) (by kernel_rfl) (by kernel_rfl) (fun _ _ _ h => h) hHeld (Or.inl ⟨by rfl, ?ya31⟩) ?ra31
  case ya31 => (intro w hSw; (try dsimp only at hSw); go_simp; try with_reducible rfl)
  try simp only [Act.put, List.setIfInBounds_toArray, List.set_cons_zero, List.set_cons_succ]
  refine region_take 32 (v := ?va32) rfl rfl (by kernel_rfl) (by kernel_rfl) (by kernel_rfl) (fun _ _ _ h => h) hHeld (Or.inl ⟨by rfl, ?ya32⟩) ?ra32
  case ya32 => (intro w hSw; (try dsimp only at hSw); go_simp; try with_reducible rfl)
  try simp only [Act.put, List.setIfInBounds_toArray, List.set_cons_zero, List.set_cons_succ]
  refine region_take 33 (v := ?va33) rfl rfl (by kernel_rfl) (by kernel_rfl) (by kernel_rfl) (fun _ _ _ h => h) hHeld (Or.inl ⟨by rfl, ?ya33⟩) ?ra33
  case ya33 => (intro w hSw; (try dsimp only at hSw); go_simp; try with_reducible rfl)
  try simp only [Act.put, List.setIfInBounds_toArray, List.set_cons_zero, List.set_cons_succ]
  refine region_take 34 (v := ?va34) rfl rfl (by kernel_rfl) (by kernel_rfl) (by kernel_rfl) (fun _ _ _ h => h) hHeld (Or.inl ⟨by rfl, ?ya34⟩) ?ra34
  case ya34 => (intro w hSw; (try dsimp only at hSw); go_simp; try with_reducible rfl)
  try simp only [Act.put, List.setIfInBounds_toArray, List.set_cons_zero, List.set_cons_succ]
  refine region_take 37 (v := ?va37) rfl rfl (by kernel_rfl) (by kernel_rfl) (by kernel_rfl) (fun _ _ _ h => h) hHeld (Or.inl ⟨by rfl, ?ya37⟩) ?ra37
  case ya37 => (intro w hSw; (try dsimp only at hSw); go_simp; try with_reducible rfl)
  try simp only [Act.put, List.setIfInBounds_toArray, List.set_cons_zero, List.set_cons_succ]
  refine region_one 35 (by kernel_rfl) rfl (fun K hK => ?_)
  go_simp
  go_at_call 25
  refine (put_nil n 0 1 (putList n 1 1) _ rfl rfl).mono ?_
  rintro e w5 ⟨a5, c5, rfl, ho5, hl5, hn5, hb5⟩
  have H5b := Lib.hid (show ∀ W, Touch (fun _ => False) w5 W → (convert 31 9 (.slice a5 1 c5)).run Try.prog W = .ok (.string (strOfNums (putList n 1 1))) W from fun W h => str_of (owns_touch ho5 h (fun _ _ h => h)))
  replace y2 := Lib.hid (y2.out.trans (Touch.of_below hb5))
  replace y3 := Lib.hid (y3.out.trans (Touch.of_below hb5))
  replace y4 := Lib.hid (y4.out.trans (Touch.of_below hb5))
  have y5 := Lib.hid (Touch.refl (fun _ => False) w5)
  clear ho5 hl5 hn5 hb5
  refine hK.out _ _ (⟨⟨H2b.out _ y2.out, H3b.out _ y3.out⟩, H4b.out _ y4.out⟩) (fun _ => ?_)
  clear hK K hHeld
  refine region_more (S' := fun w' : World => ((((convert 31 9 (.slice a2 5 c2)).run Try.prog w' = .ok (.string (strOfNums (putList n 5 5))) w') ∧ ((convert 31 9 (.slice a3 5 c3)).run Try.prog w' = .ok (.string (strOfNums (putList n 5 5))) w')) ∧ ((convert 31 9 (.slice a4 5 c4)).run Try.prog w' = .ok (.string (strOfNums (putList n 5 5))) w')) ∧ ((convert 31 9 (.slice a5 1 c5)).run Try.prog w' = .ok (.string (strOfNums (putList n 1 1))) w')) (fun _ h => h.1) _ _ _ _ ?_
  have hHeld : (fun w' : World => ((((convert 31 9 (.slice a2 5 c2)).run Try.prog w' = .ok (.string (strOfNums (putList n 5 5))) w') ∧ ((convert 31 9 (.slice a3 5 c3)).run Try.prog w' = .ok (.string (strOfNums (putList n 5 5))) w')) ∧ ((convert 31 9 (.slice a4 5 c4)).run Try.prog w' = .ok (.string (strOfNums (putList n 5 5))) w')) ∧ ((convert 31 9 (.slice a5 1 c5)).run Try.prog w' = .ok (.string (strOfNums (putList n 1 1))) w')) _ := ⟨⟨⟨H2b.out _ y2.out, H3b.out _ y3.out⟩, H4b.out _ y4.out⟩, H5b.out _ y5.out⟩
  try simp only [Act.put, List.setIfInBounds_toArray, List.set_cons_zero, List.set_cons_succ]
  refine region_take 36 (v := ?va36) rfl rfl (by kernel_rfl) (by kernel_rfl) (by kernel_rfl) (fun _ _ _ h => h) hHeld (Or.inl ⟨by rfl, ?ya36⟩) ?ra36
  case ya36 => (intro w hSw; (try dsimp only at hSw); go_simp; try with_reducible rfl)
  try simp only [Act.put, List.setIfInBounds_toArray, List.set_cons_zero, List.set_cons_succ]
  refine region_one 38 (by kernel_rfl) rfl (fun K hK => ?_)
  go_simp
  go_at_call 25
  refine (put_nil n 1 1 (putList n 1 1) _ rfl rfl).mono ?_
  rintro e w6 ⟨a6, c6, rfl, ho6, hl6, hn6, hb6⟩
  have H6b := Lib.hid (show ∀ W, Touch (fun _ => False) w6 W → (convert 31 9 (.slice a6 1 c6)).run Try.prog W = .ok (.string (strOfNums (putList n 1 1))) W from fun W h => str_of (owns_touch ho6 h (fun _ _ h => h)))
  replace y2 := Lib.hid (y2.out.trans (Touch.of_below hb6))
  replace y3 := Lib.hid (y3.out.trans (Touch.of_below hb6))
  replace y4 := Lib.hid (y4.out.trans (Touch.of_below hb6))
  replace y5 := Lib.hid (y5.out.trans (Touch.of_below hb6))
  have y6 := Lib.hid (Touch.refl (fun _ => False) w6)
  clear ho6 hl6 hn6 hb6
  refine hK.out _ _ (⟨⟨⟨H2b.out _ y2.out, H3b.out _ y3.out⟩, H4b.out _ y4.out⟩, H5b.out _ y5.out⟩) (fun _ => ?_)
  clear hK K hHeld
  refine region_more (S' := fun w' : World => (((((convert 31 9 (.slice a2 5 c2)).run Try.prog w' = .ok (.string (strOfNums (putList n 5 5))) w') ∧ ((convert 31 9 (.slice a3 5 c3)).run Try.prog w' = .ok (.string (strOfNums (putList n 5 5))) w')) ∧ ((convert 31 9 (.slice a4 5 c4)).run Try.prog w' = .ok (.string (strOfNums (putList n 5 5))) w')) ∧ ((convert 31 9 (.slice a5 1 c5)).run Try.prog w' = .ok (.string (strOfNums (putList n 1 1))) w')) ∧ ((convert 31 9 (.slice a6 1 c6)).run Try.prog w' = .ok (.string (strOfNums (putList n 1 1))) w')) (fun _ h => h.1) _ _ _ _ ?_
  have hHeld : (fun w' : World => (((((convert 31 9 (.slice a2 5 c2)).run Try.prog w' = .ok (.string (strOfNums (putList n 5 5))) w') ∧ ((convert 31 9 (.slice a3 5 c3)).run Try.prog w' = .ok (.string (strOfNums (putList n 5 5))) w')) ∧ ((convert 31 9 (.slice a4 5 c4)).run Try.prog w' = .ok (.string (strOfNums (putList n 5 5))) w')) ∧ ((convert 31 9 (.slice a5 1 c5)).run Try.prog w' = .ok (.string (strOfNums (putList n 1 1))) w')) ∧ ((convert 31 9 (.slice a6 1 c6)).run Try.prog w' = .ok (.string (strOfNums (putList n 1 1))) w')) _ := ⟨⟨⟨⟨H2b.out _ y2.out, H3b.out _ y3.out⟩, H4b.out _ y4.out⟩, H5b.out _ y5.out⟩, H6b.out _ y6.out⟩
  try simp only [Act.put, List.setIfInBounds_toArray, List.set_cons_zero, List.set_cons_succ]
  refine region_take 39 (v := ?va39) rfl rfl (by kernel_rfl) (by kernel_rfl) (by kernel_rfl) (fun _ _ _ h => h) hHeld (Or.inl ⟨by rfl, ?ya39⟩) ?ra39
  case ya39 => (intro w hSw; (try dsimp only at hSw); go_simp; try with_reducible rfl)
  try simp only [Act.put, List.setIfInBounds_toArray, List.set_cons_zero, List.set_cons_succ]
  refine region_take 40 (v := ?va40) rfl rfl (by kernel_rfl) (by kernel_rfl) (by kernel_rfl) (fun _ _ _ h => h) hHeld (Or.inl ⟨by rfl, ?ya40⟩) ?ra40
  case ya40 => (intro w hSw; (try dsimp only at hSw); go_simp; try with_reducible rfl)
  try simp only [Act.put, List.setIfInBounds_toArray, List.set_cons_zero, List.set_cons_succ]
  refine region_take 41 (v := ?va41) rfl rfl (by kernel_rfl) (by kernel_rfl) (by kernel_rfl) (fun _ _ _ h => h) hHeld (Or.inl ⟨by rfl, ?ya41⟩) ?ra41
  case ya41 => (intro w hSw; (try dsimp only at hSw); go_simp; try with_reducible rfl)
  try simp only [Act.put, List.setIfInBounds_toArray, List.set_cons_zero, List.set_cons_succ]
  refine region_take 42 (v := ?va42) rfl rfl (by kernel_rfl) (by kernel_rfl) (by kernel_rfl) (fun _ _ _ h => h) hHeld (Or.inl ⟨by rfl, ?ya42⟩) ?ra42
  case ya42 => (intro w hSw; (try dsimp only at hSw); go_simp; try with_reducible rfl)
  try simp only [Act.put, List.setIfInBounds_toArray, List.set_cons_zero, List.set_cons_succ]
  refine region_take 43 (v := ?va43) rfl rfl (by kernel_rfl) (by kernel_rfl) (by kernel_rfl) (fun _ _ _ h => h) hHeld (Or.inl ⟨by rfl, ?ya43⟩) ?ra43
  case ya43 => (intro w hSw; (try dsimp only at hSw); go_simp; try with_reducible rfl)
  try simp only [Act.put, List.setIfInBounds_toArray, List.set_cons_zero, List.set_cons_succ]
  refine region_take 46 (v := ?va46) rfl rfl (by kernel_rfl) (by kernel_rfl) (by kernel_rfl) (fun _ _ _ h => h) hHeld (Or.inl ⟨by rfl, ?ya46⟩) ?ra46
  case ya46 => (intro w hSw; (try dsimp only at hSw); go_simp; try with_reducible rfl)
  try simp only [Act.put, List.setIfInBounds_toArray, List.set_cons_zero, List.set_cons_succ]
  refine region_one 44 (by kernel_rfl) rfl (fun K hK => ?_)
  go_simp
  go_at_call 25
  refine (put_nil n 99 7 (putList n 7 7) _ rfl rfl).mono ?_
  rintro e w7 ⟨a7, c7, rfl, ho7, hl7, hn7, hb7⟩
  have H7b := Lib.hid (show ∀ W, Touch (fun _ => False) w7 W → (convert 31 9 (.slice a7 7 c7)).run Try.prog W = .ok (.string (strOfNums (putList n 7 7))) W from fun W h => str_of (owns_touch ho7 h (fun _ _ h => h)))
  replace y2 := Lib.hid (y2.out.trans (Touch.of_below hb7))
  replace y3 := Lib.hid (y3.out.trans (Touch.of_below hb7))
  replace y4 := Lib.hid (y4.out.trans (Touch.of_below hb7))
  replace y5 := Lib.hid (y5.out.trans (Touch.of_below hb7))
  replace y6 := Lib.hid (y6.out.trans (Touch.of_below hb7))
  have y7 := Lib.hid (Touch.refl (fun _ => False) w7)
  clear ho7 hl7 hn7 hb7
  refine hK.out _ _ (⟨⟨⟨⟨H2b.out _ y2.out, H3b.out _ y3.out⟩, H4b.out _ y4.out⟩, H5b.out _ y5.out⟩, H6b.out _ y6.out⟩) (fun _ => ?_)
  clear hK K hHeld
  refine region_more (S' := fun w' : World => ((((((convert 31 9 (.slice a2 5 c2)).run Try.prog w' = .ok (.string (strOfNums (putList n 5 5))) w') ∧ ((convert 31 9 (.slice a3 5 c3)).run Try.prog w' = .ok (.string (strOfNums (putList n 5 5))) w')) ∧ ((convert 31 9 (.slice a4 5 c4)).run Try.prog w' = .ok (.string (strOfNums (putList n 5 5))) w')) ∧ ((convert 31 9 (.slice a5 1 c5)).run Try.prog w' = .ok (.string (strOfNums (putList n 1 1))) w')) ∧ ((convert 31 9 (.slice a6 1 c6)).run Try.prog w' = .ok (.string (strOfNums (putList n 1 1))) w')) ∧ ((convert 31 9 (.slice a7 7 c7)).run Try.prog w' = .ok (.string (strOfNums (putList n 7 7))) w')) (fun _ h => h.1) _ _ _ _ ?_
  have hHeld : (fun w' : World => ((((((convert 31 9 (.slice a2 5 c2)).run Try.prog w' = .ok (.string (strOfNums (putList n 5 5))) w') ∧ ((convert 31 9 (.slice a3 5 c3)).run Try.prog w' = .ok (.string (strOfNums (putList n 5 5))) w')) ∧ ((convert 31 9 (.slice a4 5 c4)).run Try.prog w' = .ok (.string (strOfNums (putList n 5 5))) w')) ∧ ((convert 31 9 (.slice a5 1 c5)).run Try.prog w' = .ok (.string (strOfNums (putList n 1 1))) w')) ∧ ((convert 31 9 (.slice a6 1 c6)).run Try.prog w' = .ok (.string (strOfNums (putList n 1 1))) w')) ∧ ((convert 31 9 (.slice a7 7 c7)).run Try.prog w' = .ok (.string (strOfNums (putList n 7 7))) w')) _ := ⟨⟨⟨⟨⟨H2b.out _ y2.out, H3b.out _ y3.out⟩, H4b.out _ y4.out⟩, H5b.out _ y5.out⟩, H6b.out _ y6.out⟩, H7b.out _ y7.out⟩
  try simp only [Act.put, List.setIfInBounds_toArray, List.set_cons_zero, List.set_cons_succ]
  refine region_take 45 (v := ?va45) rfl rfl (by kernel_rfl) (by kernel_rfl) (by kernel_rfl) (fun _ _ _ h => h) hHeld (Or.inl ⟨by rfl, ?ya45⟩) ?ra45
  case ya45 => (intro w hSw; (try dsimp only at hSw); go_simp; try with_reducible rfl)
  try simp only [Act.put, List.setIfInBounds_toArray, List.set_cons_zero, List.set_cons_succ]
  refine region_one 47 (by kernel_rfl) rfl (fun K hK => ?_)
  go_simp
  go_at_call 25
  refine (put_nil n 7 7 (putList n 7 7) _ rfl rfl).mono ?_
  rintro e w8 ⟨a8, c8, rfl, ho8, hl8, hn8, hb8⟩
  have H8b := Lib.hid (show ∀ W, Touch (fun _ => False) w8 W → (convert 31 9 (.slice a8 7 c8)).run Try.prog W = .ok (.string (strOfNums (putList n 7 7))) W from fun W h => str_of (owns_touch ho8 h (fun _ _ h => h)))
  replace y2 := Lib.hid (y2.out.trans (Touch.of_below hb8))
  replace y3 := Lib.hid (y3.out.trans (Touch.of_below hb8))
  replace y4 := Lib.hid (y4.out.trans (Touch.of_below hb8))
  replace y5 := Lib.hid (y5.out.trans (Touch.of_below hb8))
  replace y6 := Lib.hid (y6.out.trans (Touch.of_below hb8))
  replace y7 := Lib.hid (y7.out.trans (Touch.of_below hb8))
  have y8 := Lib.hid (Touch.refl (fun _ => False) w8)
  clear ho8 hl8 hn8 hb8
  refine hK.out _ _ (⟨⟨⟨⟨⟨H2b.out _ y2.out, H3b.out _ y3.out⟩, H4b.out _ y4.out⟩, H5b.out _ y5.out⟩, H6b.out _ y6.out⟩, H7b.out _ y7.out⟩) (fun _ => ?_)
  clear hK K hHeld
  refine region_more (S' := fun w' : World => (((((((convert 31 9 (.slice a2 5 c2)).run Try.prog w' = .ok (.string (strOfNums (putList n 5 5))) w') ∧ ((convert 31 9 (.slice a3 5 c3)).run Try.prog w' = .ok (.string (strOfNums (putList n 5 5))) w')) ∧ ((convert 31 9 (.slice a4 5 c4)).run Try.prog w' = .ok (.string (strOfNums (putList n 5 5))) w')) ∧ ((convert 31 9 (.slice a5 1 c5)).run Try.prog w' = .ok (.string (strOfNums (putList n 1 1))) w')) ∧ ((convert 31 9 (.slice a6 1 c6)).run Try.prog w' = .ok (.string (strOfNums (putList n 1 1))) w')) ∧ ((convert 31 9 (.slice a7 7 c7)).run Try.prog w' = .ok (.string (strOfNums (putList n 7 7))) w')) ∧ ((convert 31 9 (.slice a8 7 c8)).run Try.prog w' = .ok (.string (strOfNums (putList n 7 7))) w')) (fun _ h => h.1) _ _ _ _ ?_
  have hHeld : (fun w' : World => (((((((convert 31 9 (.slice a2 5 c2)).run Try.prog w' = .ok (.string (strOfNums (putList n 5 5))) w') ∧ ((convert 31 9 (.slice a3 5 c3)).run Try.prog w' = .ok (.string (strOfNums (putList n 5 5))) w')) ∧ ((convert 31 9 (.slice a4 5 c4)).run Try.prog w' = .ok (.string (strOfNums (putList n 5 5))) w')) ∧ ((convert 31 9 (.slice a5 1 c5)).run Try.prog w' = .ok (.string (strOfNums (putList n 1 1))) w')) ∧ ((convert 31 9 (.slice a6 1 c6)).run Try.prog w' = .ok (.string (strOfNums (putList n 1 1))) w')) ∧ ((convert 31 9 (.slice a7 7 c7)).run Try.prog w' = .ok (.string (strOfNums (putList n 7 7))) w')) ∧ ((convert 31 9 (.slice a8 7 c8)).run Try.prog w' = .ok (.string (strOfNums (putList n 7 7))) w')) _ := ⟨⟨⟨⟨⟨⟨H2b.out _ y2.out, H3b.out _ y3.out⟩, H4b.out _ y4.out⟩, H5b.out _ y5.out⟩, H6b.out _ y6.out⟩, H7b.out _ y7.out⟩, H8b.out _ y8.out⟩
  try simp only [Act.put, List.setIfInBounds_toArray, List.set_cons_zero, List.set_cons_succ]
  refine region_take 48 (v := ?va48) rfl rfl (by kernel_rfl) (by kernel_rfl) (by kernel_rfl) (fun _ _ _ h => h) hHeld (Or.inl ⟨by rfl, ?ya48⟩) ?ra48
  case ya48 => (intro w hSw; (try dsimp only at hSw); go_simp; try with_reducible rfl)
  try simp only [Act.put, List.setIfInBounds_toArray, List.set_cons_zero, List.set_cons_succ]
  refine region_take 49 (v := ?va49) rfl rfl (by kernel_rfl) (by kernel_rfl) (by kernel_rfl) (fun _ _ _ h => h) hHeld (Or.inl ⟨by rfl, ?ya49⟩) ?ra49
  case ya49 => (intro w hSw; (try dsimp only at hSw); go_simp; try with_reducible rfl)
  try simp only [Act.put, List.setIfInBounds_toArray, List.set_cons_zero, List.set_cons_succ]
  refine region_take 50 (v := ?va50) rfl rfl (by kernel_rfl) (by kernel_rfl) (by kernel_rfl) (fun _ _ _ h => h) hHeld (Or.inl ⟨by rfl, ?ya50⟩) ?ra50
  case ya50 => (intro w hSw; (try dsimp only at hSw); go_simp; try with_reducible rfl)
  try simp only [Act.put, List.setIfInBounds_toArray, List.set_cons_zero, List.set_cons_succ]
  refine region_take 51 (v := ?va51) rfl rfl (by kernel_rfl) (by kernel_rfl) (by kernel_rfl) (fun _ _ _ h => h) hHeld (Or.inl ⟨by rfl, ?ya51⟩) ?ra51
  case ya51 => (intro w hSw; (try dsimp only at hSw); go_simp; try with_reducible rfl)
  try simp only [Act.put, List.setIfInBounds_toArray, List.set_cons_zero, List.set_cons_succ]
  refine wpAnyH_done (by kernel_rfl) ?_ _
  go_wp2_with fail
  go_ret
  exact ⟨rfl, hb.trans ((H2.out.1.trans (y2.out.below H2.out.1.size (fun _ _ h => h))).mono hb.size)⟩

set_option maxRecDepth 100000 in
set_option maxHeartbeats 4000000 in
theorem fieldWraps_6 (n : Int) (w : World) (h1 : -72057594037927936 ≤ n) (h2 : n ≤ 72057594037927936) :
    Calls Try.prog 10 #[.int .i64 n, .int .i64 6] w fun e w' => e = .returned (.bool true) ∧ Below w.heap.size w w' := by
  have k1 : IntKind.i64.wrap (n + 281474976710656) = n + 1 * 2 ^ (8 * 6) := by rw [IntWalk.i64_in _ (by omega)]; omega
  have k2 : IntKind.i64.wrap (n - 281474976710656) = n + (-1) * 2 ^ (8 * 6) := by rw [IntWalk.i64_in _ (by omega)]; omega
  have KW := Lib.hid (And.intro k1 k2)
  clear k1 k2
  have sh : ∀ (w : World), (Op.shift BinOp.shl IntKind.i64 1 IntKind.i64 (IntKind.i64.wrap 48)).run Try.prog w = .ok (.int .i64 281474976710656) w := fun _ => rfl
  go_enter Try.func10, Try.ntmps10
  go_wp2_with fail
  refine (fieldSmall_any w).mono ?_
  rintro e w1 ⟨rfl, hb⟩
  go_wp2_with fail
  refine (put_nil n 6 6 (putList n 6 6) w1 rfl rfl).mono ?_
  rintro e w2 ⟨a2, c2, rfl, ho2, hl2, hn2, hb2⟩
  have G2 : ∀ W, Touch (fun _ => False) w2 W → (convert 31 9 (.slice a2 6 c2)).run Try.prog W = .ok (.string (strOfNums (putList n 6 6))) W := fun W h => str_of (owns_touch ho2 h (fun _ _ h => h))
  have H2 := Lib.hid (And.intro hb2 G2)
  have y2 := Lib.hid ((Touch.refl (fun _ => False) w2).drew)
  have G2 := H2.out.2
  clear hb2 ho2 hl2 hn2
  have H2b := Lib.hid G2
  clear G2
  go_wp2_with fail
  refine wp_region_held_drew (S := fun w' : World => (convert 31 9 (.slice a2 6 c2)).run Try.prog w' = .ok (.string (strOfNums (putList n 6 6))) w') (by kernel_rfl) (H2b.out _ y2.out) (fun hHeld => ?_)
  refine region_take 0 (v := ?va0) rfl rfl (by kernel_rfl) (by kernel_rfl) (by kernel_rfl) (fun _ _ _ h => h) hHeld (Or.inl ⟨by rfl, ?ya0⟩) ?ra0
  case ya0 => (intro w hSw; (try dsimp only at hSw); go_simp; try with_reducible rfl)
  try simp only [Act.put, List.setIfInBounds_toArray, List.set_cons_zero, List.set_cons_succ]
  refine region_take 1 (v := ?va1) rfl rfl (by kernel_rfl) (by kernel_rfl) (by kernel_rfl) (fun _ _ _ h => h) hHeld (Or.inl ⟨by rfl, ?ya1⟩) ?ra1
  case ya1 => (intro w hSw; (try dsimp only at hSw); go_simp; try with_reducible rfl)
  try simp only [Act.put, List.setIfInBounds_toArray, List.set_cons_zero, List.set_cons_succ]
  refine region_take 2 (v := ?va2) rfl rfl (by kernel_rfl) (by kernel_rfl) (by kernel_rfl) (fun _ _ _ h => h) hHeld (Or.inl ⟨by rfl, ?ya2⟩) ?ra2
  case ya2 => (intro w hSw; (try dsimp only at hSw); go_simp; try with_reducible rfl)
  try simp only [Act.put, List.setIfInBounds_toArray, List.set_cons_zero, List.set_cons_succ]
  refine region_take 3 (v := ?va3) rfl rfl (by kernel_rfl) (by kernel_rfl) (by kernel_rfl) (fun _ _ _ h => h) hHeld (Or.inl ⟨by rfl, ?ya3⟩) ?ra3
  case ya3 => (intro w hSw; (try dsimp only at hSw); go_simp; try with_reducible rfl)
  try simp only [Act.put, List.setIfInBounds_toArray, List.set_cons_zero, List.set_cons_succ]
  refine region_take 4 (v := ?va4) rfl rfl (by kernel_rfl) (by kernel_rfl) (by kernel_rfl) (fun _ _ _ h => h) hHeld (Or.inl ⟨by rfl, ?ya4⟩) ?ra4
  case ya4 => (intro w hSw; (try dsimp only at hSw); go_simp; try with_reducible rfl)
  try simp only [Act.put, List.setIfInBounds_toArray, List.set_cons_zero, List.set_cons_succ]
  refine region_take 5 (v := ?va5) rfl rfl (by kernel_rfl) (by kernel_rfl) (by kernel_rfl) (fun _ _ _ h => h) hHeld (Or.inl ⟨by rfl, ?ya5⟩) ?ra5
  case ya5 => (intro w hSw; (try dsimp only at hSw); go_simp; try with_reducible rfl)
  try simp only [Act.put, List.setIfInBounds_toArray, List.set_cons_zero, List.set_cons_succ]
  refine region_take 6 (v := ?va6) rfl rfl (by kernel_rfl) (by kernel_rfl) (by kernel_rfl) (fun _ _ _ h => h) hHeld (Or.inl ⟨by rfl, ?ya6⟩) ?ra6
  case ya6 => (intro w hSw; (try dsimp only at hSw); go_simp; try with_reducible rfl)
  try simp only [Act.put, List.setIfInBounds_toArray, List.set_cons_zero, List.set_cons_succ]
  refine region_take 7 (v := ?va7) rfl rfl (by kernel_rfl) (by kernel_rfl) (by kernel_rfl) (fun _ _ _ h => h) hHeld (Or.inl ⟨by rfl, ?ya7⟩) ?ra7
  case ya7 => (intro w hSw; (try dsimp only at hSw); go_simp; try with_reducible rfl)
  try simp only [Act.put, List.setIfInBounds_toArray, List.set_cons_zero, List.set_cons_succ]
  refine region_take 8 (v := ?va8) rfl rfl (by kernel_rfl) (by kernel_rfl) (by kernel_rfl) (fun _ _ _ h => h) hHeld (Or.inl ⟨by rfl, ?ya8⟩) ?ra8
  case ya8 => (intro w hSw; (try dsimp only at hSw); go_simp; try with_reducible rfl)
  try simp only [Act.put, List.setIfInBounds_toArray, List.set_cons_zero, List.set_cons_succ]
  refine region_take 9 (v := ?va9) rfl rfl (by kernel_rfl) (by kernel_rfl) (by kernel_rfl) (fun _ _ _ h => h) hHeld (Or.inl ⟨by rfl, ?ya9⟩) ?ra9
  case ya9 => (intro w hSw; (try dsimp only at hSw); go_simp; try with_reducible rfl)
  try simp only [Act.put, List.setIfInBounds_toArray, List.set_cons_zero, List.set_cons_succ]
  refine region_take 10 (v := ?va10) rfl rfl (by kernel_rfl) (by kernel_rfl) (by kernel_rfl) (fun _ _ _ h => h) hHeld (Or.inl ⟨by rfl, ?ya10⟩) ?ra10
  case ya10 => (intro w hSw; (try dsimp only at hSw); go_simp; try with_reducible rfl)
  try simp only [Act.put, List.setIfInBounds_toArray, List.set_cons_zero, List.set_cons_succ]
  refine region_take 11 (v := ?va11) rfl rfl (by kernel_rfl) (by kernel_rfl) (by kernel_rfl) (fun _ _ _ h => h) hHeld (Or.inl ⟨by rfl, ?ya11⟩) ?ra11
  case ya11 => (intro w hSw; (try dsimp only at hSw); go_simp; try with_reducible rfl)
  try simp only [Act.put, List.setIfInBounds_toArray, List.set_cons_zero, List.set_cons_succ]
  refine region_take 12 (v := ?va12) rfl rfl (by kernel_rfl) (by kernel_rfl) (by kernel_rfl) (fun _ _ _ h => h) hHeld (Or.inl ⟨by rfl, ?ya12⟩) ?ra12
  case ya12 => (intro w hSw; (try dsimp only at hSw); go_simp; try with_reducible rfl)
  try simp only [Act.put, List.setIfInBounds_toArray, List.set_cons_zero, List.set_cons_succ]
  refine region_take 13 (v := ?va13) rfl rfl (by kernel_rfl) (by kernel_rfl) (by kernel_rfl) (fun _ _ _ h => h) hHeld (Or.inl ⟨by rfl, ?ya13⟩) ?ra13
  case ya13 => (intro w hSw; (try dsimp only at hSw); go_simp; try with_reducible rfl)
  try simp only [Act.put, List.setIfInBounds_toArray, List.set_cons_zero, List.set_cons_succ]
  refine region_take 16 (v := ?va16) rfl rfl (by kernel_rfl) (by kernel_rfl) (by kernel_rfl) (fun _ _ _ h => h) hHeld (Or.inl ⟨by rfl, ?ya16⟩) ?ra16
  case ya16 => (intro w hSw; (try dsimp only at hSw); go_simp; try with_reducible rfl)
  try simp only [Act.put, List.setIfInBounds_toArray, List.set_cons_zero, List.set_cons_succ]
  refine region_take 17 (v := ?va17) rfl rfl (by kernel_rfl) (by kernel_rfl) (by kernel_rfl) (fun _ _ _ h => h) hHeld (Or.inl ⟨by rfl, ?ya17⟩) ?ra17
  case ya17 => (intro w hSw; (try dsimp only at hSw); go_simp; try with_reducible rfl)
  try simp only [Act.put, List.setIfInBounds_toArray, List.set_cons_zero, List.set_cons_succ]
  refine region_one 14 (by kernel_rfl) rfl (fun K hK => ?_)
  go_simp
  go_at_call 25
  refine (put_nil _ 6 6 (putList n 6 6) _ rfl (by rw [KW.out.1]; exact putList_add n 1 6)).mono ?_
  rintro e w3 ⟨a3, c3, rfl, ho3, hl3, hn3, hb3⟩
  have H3b := Lib.hid (show ∀ W, Touch (fun _ => False) w3 W → (convert 31 9 (.slice a3 6 c3)).run Try.prog W = .ok (.string (strOfNums (putList n 6 6))) W from fun W h => str_of (owns_touch ho3 h (fun _ _ h => h)))
  replace y2 := Lib.hid (y2.out.trans (Touch.of_below hb3))
  have y3 := Lib.hid (Touch.refl (fun _ => False) w3)
  clear ho3 hl3 hn3 hb3
  refine hK.out _ _ (H2b.out _ y2.out) (fun _ => ?_)
  clear hK K hHeld
  refine region_more (S' := fun w' : World => ((convert 31 9 (.slice a2 6 c2)).run Try.prog w' = .ok (.string (strOfNums (putList n 6 6))) w') ∧ ((convert 31 9 (.slice a3 6 c3)).run Try.prog w' = .ok (.string (strOfNums (putList n 6 6))) w')) (fun _ h => h.1) _ _ _ _ ?_
  have hHeld : (fun w' : World => ((convert 31 9 (.slice a2 6 c2)).run Try.prog w' = .ok (.string (strOfNums (putList n 6 6))) w') ∧ ((convert 31 9 (.slice a3 6 c3)).run Try.prog w' = .ok (.string (strOfNums (putList n 6 6))) w')) _ := ⟨H2b.out _ y2.out, H3b.out _ y3.out⟩
  try simp only [Act.put, List.setIfInBounds_toArray, List.set_cons_zero, List.set_cons_succ]
  refine region_take 15 (v := ?va15) rfl rfl (by kernel_rfl) (by kernel_rfl) (by kernel_rfl) (fun _ _ _ h => h) hHeld (Or.inl ⟨by rfl, ?ya15⟩) ?ra15
  case ya15 => (intro w hSw; (try dsimp only at hSw); go_simp; try with_reducible rfl)
  try simp only [Act.put, List.setIfInBounds_toArray, List.set_cons_zero, List.set_cons_succ]
  refine region_take 18 (v := ?va18) rfl rfl (by kernel_rfl) (by kernel_rfl) (by kernel_rfl) (fun _ _ _ h => h) hHeld (Or.inl ⟨by rfl, ?ya18⟩) ?ra18
  case ya18 => (intro w hSw; (try dsimp only at hSw); go_simp; try with_reducible rfl)
  try simp only [Act.put, List.setIfInBounds_toArray, List.set_cons_zero, List.set_cons_succ]
  refine region_take 19 (v := ?va19) rfl rfl (by kernel_rfl) (by kernel_rfl) (by kernel_rfl) (fun _ _ _ h => h) hHeld (Or.inl ⟨by rfl, ?ya19⟩) ?ra19
  case ya19 => (intro w hSw; (try dsimp only at hSw); go_simp; try with_reducible rfl)
  try simp only [Act.put, List.setIfInBounds_toArray, List.set_cons_zero, List.set_cons_succ]
  refine region_take 20 (v := ?va20) rfl rfl (by kernel_rfl) (by kernel_rfl) (by kernel_rfl) (fun _ _ _ h => h) hHeld (Or.inl ⟨by rfl, ?ya20⟩) ?ra20
  case ya20 => (intro w hSw; (try dsimp only at hSw); go_simp; try with_reducible rfl)
  try simp only [Act.put, List.setIfInBounds_toArray, List.set_cons_zero, List.set_cons_succ]
  refine region_take 21 (v := ?va21) rfl rfl (by kernel_rfl) (by kernel_rfl) (by kernel_rfl) (fun _ _ _ h => h) hHeld (Or.inl ⟨by rfl, ?ya21⟩) ?ra21
  case ya21 => (intro w hSw; (try dsimp only at hSw); go_simp; try with_reducible rfl)
  try simp only [Act.put, List.setIfInBounds_toArray, List.set_cons_zero, List.set_cons_succ]
  refine region_take 22 (v := ?va22) rfl rfl (by kernel_rfl) (by kernel_rfl) (by kernel_rfl) (fun _ _ _ h => h) hHeld (Or.inl ⟨by rfl, ?ya22⟩) ?ra22
  case ya22 => (intro w hSw; (try dsimp only at hSw); go_simp; try with_reducible rfl)
  try simp only [Act.put, List.setIfInBounds_toArray, List.set_cons_zero, List.set_cons_succ]
  refine region_take 23 (v := ?va23) rfl rfl (by kernel_rfl) (by kernel_rfl) (by kernel_rfl) (fun _ _ _ h => h) hHeld (Or.inl ⟨by rfl, ?ya23⟩) ?ra23
  case ya23 => (intro w hSw; (try dsimp only at hSw); go_simp; try with_reducible rfl)
  try simp only [Act.put, List.setIfInBounds_toArray, List.set_cons_zero, List.set_cons_succ]
  refine region_take 24 (v := ?va24) rfl rfl (by kernel_rfl) (by kernel_rfl) (by kernel_rfl) (fun _ _ _ h => h) hHeld (Or.inl ⟨by rfl, ?ya24⟩) ?ra24
  case ya24 => (intro w hSw; (try dsimp only at hSw); go_simp; try with_reducible rfl)
  try simp only [Act.put, List.setIfInBounds_toArray, List.set_cons_zero, List.set_cons_succ]
  refine region_take 25 (v := ?va25) rfl rfl (by kernel_rfl) (by kernel_rfl) (by kernel_rfl) (fun _ _ _ h => h) hHeld (Or.inl ⟨by rfl, ?ya25⟩) ?ra25
  case ya25 => (intro w hSw; (try dsimp only at hSw); go_simp; try with_reducible rfl)
  try simp only [Act.put, List.setIfInBounds_toArray, List.set_cons_zero, List.set_cons_succ]
  refine region_take 26 (v := ?va26) rfl rfl (by kernel_rfl) (by kernel_rfl) (by kernel_rfl) (fun _ _ _ h => h) hHeld (Or.inl ⟨by rfl, ?ya26⟩) ?ra26
  case ya26 => (intro w hSw; (try dsimp only at hSw); go_simp; try with_reducible rfl)
  try simp only [Act.put, List.setIfInBounds_toArray, List.set_cons_zero, List.set_cons_succ]
  refine region_take 29 (v := ?va29) rfl rfl (by kernel_rfl) (by kernel_rfl) (by kernel_rfl) (fun _ _ _ h => h) hHeld (Or.inl ⟨by rfl, ?ya29⟩) ?ra29
  case ya29 => (intro w hSw; (try dsimp only at hSw); go_simp; try with_reducible rfl)
  try simp only [Act.put, List.setIfInBounds_toArray, List.set_cons_zero, List.set_cons_succ]
  refine region_take 30 (v := ?va30) rfl rfl (by kernel_rfl) (by kernel_rfl) (by kernel_rfl) (fun _ _ _ h => h) hHeld (Or.inl ⟨by rfl, ?ya30⟩) ?ra30
  case ya30 => (intro w hSw; (try dsimp only at hSw); go_simp; try with_reducible rfl)
  try simp only [Act.put, List.setIfInBounds_toArray, List.set_cons_zero, List.set_cons_succ]
  refine region_one 27 (by kernel_rfl) rfl (fun K hK => ?_)
  go_simp
  go_at_call 25
  refine (put_nil _ 6 6 (putList n 6 6) _ rfl (by rw [KW.out.2]; exact putList_add n (-1) 6)).mono ?_
  rintro e w4 ⟨a4, c4, rfl, ho4, hl4, hn4, hb4⟩
  have H4b := Lib.hid (show ∀ W, Touch (fun _ => False) w4 W → (convert 31 9 (.slice a4 6 c4)).run Try.prog W = .ok (.string (strOfNums (putList n 6 6))) W from fun W h => str_of (owns_touch ho4 h (fun _ _ h => h)))
  replace y2 := Lib.hid (y2.out.trans (Touch.of_below hb4))
  replace y3 := Lib.hid (y3.out.trans (Touch.of_below hb4))
  have y4 := Lib.hid (Touch.refl (fun _ => False) w4)
  clear ho4 hl4 hn4 hb4
  refine hK.out _ _ (⟨H2b.out _ y2.out, H3b.out _ y3.out⟩) (fun _ => ?_)
  clear hK K hHeld
  refine region_more (S' := fun w' : World => (((convert 31 9 (.slice a2 6 c2)).run Try.prog w' = .ok (.string (strOfNums (putList n 6 6))) w') ∧ ((convert 31 9 (.slice a3 6 c3)).run Try.prog w' = .ok (.string (strOfNums (putList n 6 6))) w')) ∧ ((convert 31 9 (.slice a4 6 c4)).run Try.prog w' = .ok (.string (strOfNums (putList n 6 6))) w')) (fun _ h => h.1) _ _ _ _ ?_
  have hHeld : (fun w' : World => (((convert 31 9 (.slice a2 6 c2)).run Try.prog w' = .ok (.string (strOfNums (putList n 6 6))) w') ∧ ((convert 31 9 (.slice a3 6 c3)).run Try.prog w' = .ok (.string (strOfNums (putList n 6 6))) w')) ∧ ((convert 31 9 (.slice a4 6 c4)).run Try.prog w' = .ok (.string (strOfNums (putList n 6 6))) w')) _ := ⟨⟨H2b.out _ y2.out, H3b.out _ y3.out⟩, H4b.out _ y4.out⟩
  try simp only [Act.put, List.setIfInBounds_toArray, List.set_cons_zero, List.set_cons_succ]
  refine region_take 28 (v := ?va28) rfl rfl (by kernel_rfl) (by kernel_rfl) (by kernel_rfl) (fun _ _ _ h => h) hHeld (Or.inl ⟨by rfl, ?ya28⟩) ?ra28
  case ya28 => (intro w hSw; (try dsimp only at hSw); go_simp; try with_reducible rfl)
  try simp only [Act.put, List.setIfInBounds_toArray, List.set_cons_zero, List.set_cons_succ]
  refine region_take 31 (v := ?va31) rfl rfl (by kernel_rfl) (by kernel_rfl) (by kernel_rfl) (fun _ _ _ h => h) hHeld (Or.inl ⟨by rfl, ?ya31⟩) ?ra31
  case ya31 => (intro w hSw; (try dsimp only at hSw); go_simp; try with_reducible rfl)
  try simp only [Act.put, List.setIfInBounds_toArray, List.set_cons_zero, List.set_cons_succ]
  refine region_take 32 (v := ?va32) rfl rfl (by kernel_rfl) (by kernel_rfl) (by kernel_rfl) (fun _ _ _ h => h) hHeld (Or.inl ⟨by rfl, ?ya32⟩) ?ra32
  case ya32 => (intro w hSw; (try dsimp only at hSw); go_simp; try with_reducible rfl)
  try simp only [Act.put, List.setIfInBounds_toArray, List.set_cons_zero, List.set_cons_succ]
  refine region_take 33 (v := ?va33) rfl rfl (by kernel_rfl) (by kernel_rfl) (by kernel_rfl) (fun _ _ _ h => h) hHeld (Or.inl ⟨by rfl, ?ya33⟩) ?ra33
  case ya33 => (intro w hSw; (try dsimp only at hSw); go_simp; try with_reducible rfl)
  try simp only [Act.put, List.setIfInBounds_toArray, List.set_cons_zero, List.set_cons_succ]
  refine region_take 34 (v := ?va34) rfl rfl (by kernel_rfl) (by kernel_rfl) (by kernel_rfl) (fun _ _ _ h => h) hHeld (Or.inl ⟨by rfl, ?ya34⟩) ?ra34
  case ya34 => (intro w hSw; (try dsimp only at hSw); go_simp; try with_reducible rfl)
  try simp only [Act.put, List.setIfInBounds_toArray, List.set_cons_zero, List.set_cons_succ]
  refine region_take 37 (v := ?va37) rfl rfl (by kernel_rfl) (by kernel_rfl) (by kernel_rfl) (fun _ _ _ h => h) hHeld (Or.inl ⟨by rfl, ?ya37⟩) ?ra37
  case ya37 => (intro w hSw; (try dsimp only at hSw); go_simp; try with_reducible rfl)
  try simp only [Act.put, List.setIfInBounds_toArray, List.set_cons_zero, List.set_cons_succ]
  refine region_one 35 (by kernel_rfl) rfl (fun K hK => ?_)
  go_simp
  go_at_call 25
  refine (put_nil n 0 1 (putList n 1 1) _ rfl rfl).mono ?_
  rintro e w5 ⟨a5, c5, rfl, ho5, hl5, hn5, hb5⟩
  have H5b := Lib.hid (show ∀ W, Touch (fun _ => False) w5 W → (convert 31 9 (.slice a5 1 c5)).run Try.prog W = .ok (.string (strOfNums (putList n 1 1))) W from fun W h => str_of (owns_touch ho5 h (fun _ _ h => h)))
  replace y2 := Lib.hid (y2.out.trans (Touch.of_below hb5))
  replace y3 := Lib.hid (y3.out.trans (Touch.of_below hb5))
  replace y4 := Lib.hid (y4.out.trans (Touch.of_below hb5))
  have y5 := Lib.hid (Touch.refl (fun _ => False) w5)
  clear ho5 hl5 hn5 hb5
  refine hK.out _ _ (⟨⟨H2b.out _ y2.out, H3b.out _ y3.out⟩, H4b.out _ y4.out⟩) (fun _ => ?_)
  clear hK K hHeld
  refine region_more (S' := fun w' : World => ((((convert 31 9 (.slice a2 6 c2)).run Try.prog w' = .ok (.string (strOfNums (putList n 6 6))) w') ∧ ((convert 31 9 (.slice a3 6 c3)).run Try.prog w' = .ok (.string (strOfNums (putList n 6 6))) w')) ∧ ((convert 31 9 (.slice a4 6 c4)).run Try.prog w' = .ok (.string (strOfNums (putList n 6 6))) w')) ∧ ((convert 31 9 (.slice a5 1 c5)).run Try.prog w' = .ok (.string (strOfNums (putList n 1 1))) w')) (fun _ h => h.1) _ _ _ _ ?_
  have hHeld : (fun w' : World => ((((convert 31 9 (.slice a2 6 c2)).run Try.prog w' = .ok (.string (strOfNums (putList n 6 6))) w') ∧ ((convert 31 9 (.slice a3 6 c3)).run Try.prog w' = .ok (.string (strOfNums (putList n 6 6))) w')) ∧ ((convert 31 9 (.slice a4 6 c4)).run Try.prog w' = .ok (.string (strOfNums (putList n 6 6))) w')) ∧ ((convert 31 9 (.slice a5 1 c5)).run Try.prog w' = .ok (.string (strOfNums (putList n 1 1))) w')) _ := ⟨⟨⟨H2b.out _ y2.out, H3b.out _ y3.out⟩, H4b.out _ y4.out⟩, H5b.out _ y5.out⟩
  try simp only [Act.put, List.setIfInBounds_toArray, List.set_cons_zero, List.set_cons_succ]
  refine region_take 36 (v := ?va36) rfl rfl (by kernel_rfl) (by kernel_rfl) (by kernel_rfl) (fun _ _ _ h => h) hHeld (Or.inl ⟨by rfl, ?ya36⟩) ?ra36
  case ya36 => (intro w hSw; (try dsimp only at hSw); go_simp; try with_reducible rfl)
  try simp only [Act.put, List.setIfInBounds_toArray, List.set_cons_zero, List.set_cons_succ]
  refine region_one 38 (by kernel_rfl) rfl (fun K hK => ?_)
  go_simp
  go_at_call 25
  refine (put_nil n 1 1 (putList n 1 1) _ rfl rfl).mono ?_
  rintro e w6 ⟨a6, c6, rfl, ho6, hl6, hn6, hb6⟩
  have H6b := Lib.hid (show ∀ W, Touch (fun _ => False) w6 W → (convert 31 9 (.slice a6 1 c6)).run Try.prog W = .ok (.string (strOfNums (putList n 1 1))) W from fun W h => str_of (owns_touch ho6 h (fun _ _ h => h)))
  replace y2 := Lib.hid (y2.out.trans (Touch.of_below hb6))
  replace y3 := Lib.hid (y3.out.trans (Touch.of_below hb6))
  replace y4 := Lib.hid (y4.out.trans (Touch.of_below hb6))
  replace y5 := Lib.hid (y5.out.trans (Touch.of_below hb6))
  have y6 := Lib.hid (Touch.refl (fun _ => False) w6)
  clear ho6 hl6 hn6 hb6
  refine hK.out _ _ (⟨⟨⟨H2b.out _ y2.out, H3b.out _ y3.out⟩, H4b.out _ y4.out⟩, H5b.out _ y5.out⟩) (fun _ => ?_)
  clear hK K hHeld
  refine region_more (S' := fun w' : World => (((((convert 31 9 (.slice a2 6 c2)).run Try.prog w' = .ok (.string (strOfNums (putList n 6 6))) w') ∧ ((convert 31 9 (.slice a3 6 c3)).run Try.prog w' = .ok (.string (strOfNums (putList n 6 6))) w')) ∧ ((convert 31 9 (.slice a4 6 c4)).run Try.prog w' = .ok (.string (strOfNums (putList n 6 6))) w')) ∧ ((convert 31 9 (.slice a5 1 c5)).run Try.prog w' = .ok (.string (strOfNums (putList n 1 1))) w')) ∧ ((convert 31 9 (.slice a6 1 c6)).run Try.prog w' = .ok (.string (strOfNums (putList n 1 1))) w')) (fun _ h => h.1) _ _ _ _ ?_
  have hHeld : (fun w' : World => (((((convert 31 9 (.slice a2 6 c2)).run Try.prog w' = .ok (.string (strOfNums (putList n 6 6))) w') ∧ ((convert 31 9 (.slice a3 6 c3)).run Try.prog w' = .ok (.string (strOfNums (putList n 6 6))) w')) ∧ ((convert 31 9 (.slice a4 6 c4)).run Try.prog w' = .ok (.string (strOfNums (putList n 6 6))) w')) ∧ ((convert 31 9 (.slice a5 1 c5)).run Try.prog w' = .ok (.string (strOfNums (putList n 1 1))) w')) ∧ ((convert 31 9 (.slice a6 1 c6)).run Try.prog w' = .ok (.string (strOfNums (putList n 1 1))) w')) _ := ⟨⟨⟨⟨H2b.out _ y2.out, H3b.out _ y3.out⟩, H4b.out _ y4.out⟩, H5b.out _ y5.out⟩, H6b.out _ y6.out⟩
  try simp only [Act.put, List.setIfInBounds_toArray, List.set_cons_zero, List.set_cons_succ]
  refine region_take 39 (v := ?va39) rfl rfl (by kernel_rfl) (by kernel_rfl) (by kernel_rfl) (fun _ _ _ h => h) hHeld (Or.inl ⟨by rfl, ?ya39⟩) ?ra39
  case ya39 => (intro w hSw; (try dsimp only at hSw); go_simp; try with_reducible rfl)
  try simp only [Act.put, List.setIfInBounds_toArray, List.set_cons_zero, List.set_cons_succ]
  refine region_take 40 (v := ?va40) rfl rfl (by kernel_rfl) (by kernel_rfl) (by kernel_rfl) (fun _ _ _ h => h) hHeld (Or.inl ⟨by rfl, ?ya40⟩) ?ra40
  case ya40 => (intro w hSw; (try dsimp only at hSw); go_simp; try with_reducible rfl)
  try simp only [Act.put, List.setIfInBounds_toArray, List.set_cons_zero, List.set_cons_succ]
  refine region_take 41 (v := ?va41) rfl rfl (by kernel_rfl) (by kernel_rfl) (by kernel_rfl) (fun _ _ _ h => h) hHeld (Or.inl ⟨by rfl, ?ya41⟩) ?ra41
  case ya41 => (intro w hSw; (try dsimp only at hSw); go_simp; try with_reducible rfl)
  try simp only [Act.put, List.setIfInBounds_toArray, List.set_cons_zero, List.set_cons_succ]
  refine region_take 42 (v := ?va42) rfl rfl (by kernel_rfl) (by kernel_rfl) (by kernel_rfl) (fun _ _ _ h => h) hHeld (Or.inl ⟨by rfl, ?ya42⟩) ?ra42
  case ya42 => (intro w hSw; (try dsimp only at hSw); go_simp; try with_reducible rfl)
  try simp only [Act.put, List.setIfInBounds_toArray, List.set_cons_zero, List.set_cons_succ]
  refine region_take 43 (v := ?va43) rfl rfl (by kernel_rfl) (by kernel_rfl) (by kernel_rfl) (fun _ _ _ h => h) hHeld (Or.inl ⟨by rfl, ?ya43⟩) ?ra43
  case ya43 => (intro w hSw; (try dsimp only at hSw); go_simp; try with_reducible rfl)
  try simp only [Act.put, List.setIfInBounds_toArray, List.set_cons_zero, List.set_cons_succ]
  refine region_take 46 (v := ?va46) rfl rfl (by kernel_rfl) (by kernel_rfl) (by kernel_rfl) (fun _ _ _ h => h) hHeld (Or.inl ⟨by rfl, ?ya46⟩) ?ra46
  case ya46 => (intro w hSw; (try dsimp only at hSw); go_simp; try with_reducible rfl)
  try simp only [Act.put, List.setIfInBounds_toArray, List.set_cons_zero, List.set_cons_succ]
  refine region_one 44 (by kernel_rfl) rfl (fun K hK => ?_)
  go_simp
  go_at_call 25
  refine (put_nil n 99 7 (putList n 7 7) _ rfl rfl).mono ?_
  rintro e w7 ⟨a7, c7, rfl, ho7, hl7, hn7, hb7⟩
  have H7b := Lib.hid (show ∀ W, Touch (fun _ => False) w7 W → (convert 31 9 (.slice a7 7 c7)).run Try.prog W = .ok (.string (strOfNums (putList n 7 7))) W from fun W h => str_of (owns_touch ho7 h (fun _ _ h => h)))
  replace y2 := Lib.hid (y2.out.trans (Touch.of_below hb7))
  replace y3 := Lib.hid (y3.out.trans (Touch.of_below hb7))
  replace y4 := Lib.hid (y4.out.trans (Touch.of_below hb7))
  replace y5 := Lib.hid (y5.out.trans (Touch.of_below hb7))
  replace y6 := Lib.hid (y6.out.trans (Touch.of_below hb7))
  have y7 := Lib.hid (Touch.refl (fun _ => False) w7)
  clear ho7 hl7 hn7 hb7
  refine hK.out _ _ (⟨⟨⟨⟨H2b.out _ y2.out, H3b.out _ y3.out⟩, H4b.out _ y4.out⟩, H5b.out _ y5.out⟩, H6b.out _ y6.out⟩) (fun _ => ?_)
  clear hK K hHeld
  refine region_more (S' := fun w' : World => ((((((convert 31 9 (.slice a2 6 c2)).run Try.prog w' = .ok (.string (strOfNums (putList n 6 6))) w') ∧ ((convert 31 9 (.slice a3 6 c3)).run Try.prog w' = .ok (.string (strOfNums (putList n 6 6))) w')) ∧ ((convert 31 9 (.slice a4 6 c4)).run Try.prog w' = .ok (.string (strOfNums (putList n 6 6))) w')) ∧ ((convert 31 9 (.slice a5 1 c5)).run Try.prog w' = .ok (.string (strOfNums (putList n 1 1))) w')) ∧ ((convert 31 9 (.slice a6 1 c6)).run Try.prog w' = .ok (.string (strOfNums (putList n 1 1))) w')) ∧ ((convert 31 9 (.slice a7 7 c7)).run Try.prog w' = .ok (.string (strOfNums (putList n 7 7))) w')) (fun _ h => h.1) _ _ _ _ ?_
  have hHeld : (fun w' : World => ((((((convert 31 9 (.slice a2 6 c2)).run Try.prog w' = .ok (.string (strOfNums (putList n 6 6))) w') ∧ ((convert 31 9 (.slice a3 6 c3)).run Try.prog w' = .ok (.string (strOfNums (putList n 6 6))) w')) ∧ ((convert 31 9 (.slice a4 6 c4)).run Try.prog w' = .ok (.string (strOfNums (putList n 6 6))) w')) ∧ ((convert 31 9 (.slice a5 1 c5)).run Try.prog w' = .ok (.string (strOfNums (putList n 1 1))) w')) ∧ ((convert 31 9 (.slice a6 1 c6)).run Try.prog w' = .ok (.string (strOfNums (putList n 1 1))) w')) ∧ ((convert 31 9 (.slice a7 7 c7)).run Try.prog w' = .ok (.string (strOfNums (putList n 7 7))) w')) _ := ⟨⟨⟨⟨⟨H2b.out _ y2.out, H3b.out _ y3.out⟩, H4b.out _ y4.out⟩, H5b.out _ y5.out⟩, H6b.out _ y6.out⟩, H7b.out _ y7.out⟩
  try simp only [Act.put, List.setIfInBounds_toArray, List.set_cons_zero, List.set_cons_succ]
  refine region_take 45 (v := ?va45) rfl rfl (by kernel_rfl) (by kernel_rfl) (by kernel_rfl) (fun _ _ _ h => h) hHeld (Or.inl ⟨by rfl, ?ya45⟩) ?ra45
  case ya45 => (intro w hSw; (try dsimp only at hSw); go_simp; try with_reducible rfl)
  try simp only [Act.put, List.setIfInBounds_toArray, List.set_cons_zero, List.set_cons_succ]
  refine region_one 47 (by kernel_rfl) rfl (fun K hK => ?_)
  go_simp
  go_at_call 25
  refine (put_nil n 7 7 (putList n 7 7) _ rfl rfl).mono ?_
  rintro e w8 ⟨a8, c8, rfl, ho8, hl8, hn8, hb8⟩
  have H8b := Lib.hid (show ∀ W, Touch (fun _ => False) w8 W → (convert 31 9 (.slice a8 7 c8)).run Try.prog W = .ok (.string (strOfNums (putList n 7 7))) W from fun W h => str_of (owns_touch ho8 h (fun _ _ h => h)))
  replace y2 := Lib.hid (y2.out.trans (Touch.of_below hb8))
  replace y3 := Lib.hid (y3.out.trans (Touch.of_below hb8))
  replace y4 := Lib.hid (y4.out.trans (Touch.of_below hb8))
  replace y5 := Lib.hid (y5.out.trans (Touch.of_below hb8))
  replace y6 := Lib.hid (y6.out.trans (Touch.of_below hb8))
  replace y7 := Lib.hid (y7.out.trans (Touch.of_below hb8))
  have y8 := Lib.hid (Touch.refl (fun _ => False) w8)
  clear ho8 hl8 hn8 hb8
  refine hK.out _ _ (⟨⟨⟨⟨⟨H2b.out _ y2.out, H3b.out _ y3.out⟩, H4b.out _ y4.out⟩, H5b.out _ y5.out⟩, H6b.out _ y6.out⟩, H7b.out _ y7.out⟩) (fun _ => ?_)
  clear hK K hHeld
  refine region_more (S' := fun w' : World => (((((((convert 31 9 (.slice a2 6 c2)).run Try.prog w' = .ok (.string (strOfNums (putList n 6 6))) w') ∧ ((convert 31 9 (.slice a3 6 c3)).run Try.prog w' = .ok (.string (strOfNums (putList n 6 6))) w')) ∧ ((convert 31 9 (.slice a4 6 c4)).run Try.prog w' = .ok (.string (strOfNums (putList n 6 6))) w')) ∧ ((convert 31 9 (.slice a5 1 c5)).run Try.prog w' = .ok (.string (strOfNums (putList n 1 1))) w')) ∧ ((convert 31 9 (.slice a6 1 c6)).run Try.prog w' = .ok (.string (strOfNums (putList n 1 1))) w')) ∧ ((convert 31 9 (.slice a7 7 c7)).run Try.prog w' = .ok (.string (strOfNums (putList n 7 7))) w')) ∧ ((convert 31 9 (.slice a8 7 c8)).run Try.prog w' = .ok (.string (strOfNums (putList n 7 7))) w')) (fun _ h => h.1) _ _ _ _ ?_
  have hHeld : (fun w' : World => (((((((convert 31 9 (.slice a2 6 c2)).run Try.prog w' = .ok (.string (strOfNums (putList n 6 6))) w') ∧ ((convert 31 9 (.slice a3 6 c3)).run Try.prog w' = .ok (.string (strOfNums (putList n 6 6))) w')) ∧ ((convert 31 9 (.slice a4 6 c4)).run Try.prog w' = .ok (.string (strOfNums (putList n 6 6))) w')) ∧ ((convert 31 9 (.slice a5 1 c5)).run Try.prog w' = .ok (.string (strOfNums (putList n 1 1))) w')) ∧ ((convert 31 9 (.slice a6 1 c6)).run Try.prog w' = .ok (.string (strOfNums (putList n 1 1))) w')) ∧ ((convert 31 9 (.slice a7 7 c7)).run Try.prog w' = .ok (.string (strOfNums (putList n 7 7))) w')) ∧ ((convert 31 9 (.slice a8 7 c8)).run Try.prog w' = .ok (.string (strOfNums (putList n 7 7))) w')) _ := ⟨⟨⟨⟨⟨⟨H2b.out _ y2.out, H3b.out _ y3.out⟩, H4b.out _ y4.out⟩, H5b.out _ y5.out⟩, H6b.out _ y6.out⟩, H7b.out _ y7.out⟩, H8b.out _ y8.out⟩
  try simp only [Act.put, List.setIfInBounds_toArray, List.set_cons_zero, List.set_cons_succ]
  refine region_take 48 (v := ?va48) rfl rfl (by kernel_rfl) (by kernel_rfl) (by kernel_rfl) (fun _ _ _ h => h) hHeld (Or.inl ⟨by rfl, ?ya48⟩) ?ra48
  case ya48 => (intro w hSw; (try dsimp only at hSw); go_simp; try with_reducible rfl)
  try simp only [Act.put, List.setIfInBounds_toArray, List.set_cons_zero, List.set_cons_succ]
  refine region_take 49 (v := ?va49) rfl rfl (by kernel_rfl) (by kernel_rfl) (by kernel_rfl) (fun _ _ _ h => h) hHeld (Or.inl ⟨by rfl, ?ya49⟩) ?ra49
  case ya49 => (intro w hSw; (try dsimp only at hSw); go_simp; try with_reducible rfl)
  try simp only [Act.put, List.setIfInBounds_toArray, List.set_cons_zero, List.set_cons_succ]
  refine region_take 50 (v := ?va50) rfl rfl (by kernel_rfl) (by kernel_rfl) (by kernel_rfl) (fun _ _ _ h => h) hHeld (Or.inl ⟨by rfl, ?ya50⟩) ?ra50
  case ya50 => (intro w hSw; (try dsimp only at hSw); go_simp; try with_reducible rfl)
  try simp only [Act.put, List.setIfInBounds_toArray, List.set_cons_zero, List.set_cons_succ]
  refine region_take 51 (v := ?va51) rfl rfl (by kernel_rfl) (by kernel_rfl) (by kernel_rfl) (fun _ _ _ h => h) hHeld (Or.inl ⟨by rfl, ?ya51⟩) ?ra51
  case ya51 => (intro w hSw; (try dsimp only at hSw); go_simp; try with_reducible rfl)
  try simp only [Act.put, List.setIfInBounds_toArray, List.set_cons_zero, List.set_cons_succ]
  refine wpAnyH_done (by kernel_rfl) ?_ _
  go_wp2_with fail
  go_ret
  exact ⟨rfl, hb.trans ((H2.out.1.trans (y2.out.below H2.out.1.size (fun _ _ h => h))).mono hb.size)⟩

theorem fieldWraps_walk (n : Int) (_w0 : (Lit.int .i64 n).wf = true) (size : Int) (_w1 : (Lit.int .i64 size).wf = true) (w : World) :
    Calls Try.prog 10 #[.int .i64 n, .int .i64 size] w fun e w' => e = .returned (.bool true) ∧ Below w.heap.size w w' := by
  by_cases h : n < -72057594037927936 ∨ 72057594037927936 < n ∧ -72057594037927936 ≤ n ∨ size < 1 ∧ -72057594037927936 ≤ n ∧ n ≤ 72057594037927936 ∨ 6 < size ∧ 1 ≤ size ∧ -72057594037927936 ≤ n ∧ n ≤ 72057594037927936
  · exact fieldWraps_out n size w h
  · obtain ⟨h1, h2, h⟩ : -72057594037927936 ≤ n ∧ n ≤ 72057594037927936 ∧ (size = 1 ∨ size = 2 ∨ size = 3 ∨ size = 4 ∨ size = 5 ∨ size = 6) := by omega
    rcases h with rfl | rfl | rfl | rfl | rfl | rfl
    · exact fieldWraps_1 n w h1 h2
    · exact fieldWraps_2 n w h1 h2
    · exact fieldWraps_3 n w h1 h2
    · exact fieldWraps_4 n w h1 h2
    · exact fieldWraps_5 n w h1 h2
    · exact fieldWraps_6 n w h1 h2

/-! ### the row's step, and the row -/
theorem fieldWraps_own : ownKnob Try.prog.godebug = none := by kernel_rfl
theorem fieldWraps_laidOut : laidOutB Try.prog = true := by kernel_rfl

set_option linter.unusedVariables false in
set_option maxRecDepth 100000 in
theorem fieldWraps_lifted (os : Os) (started : os.Started) (H : Type) (enc : TypeId × Value → H) :
    ReturnsInHanded {} Try.checked os 10 .any (Rows.fieldWrapsSpec.pre6 enc Try.prog Try.f10 Rows.fieldWrapsRow.domain false) (Rows.fieldWrapsSpec.post enc Try.prog Try.f10 false true false false) := by
  refine returnsInHanded_of_change (C := Try.checked) fieldWraps_own started (by kernel_rfl) Try.func10
    (ChangeSpec.witness6 (enc := enc) (C := Try.checked) false ⟨#[], #[.int .i64 0, .int .i64 0], []⟩ 8 (by kernel_rfl) (by kernel_rfl) (by kernel_rfl) (by kernel_rfl)) ?_
  intro W base args ds gs before hval0 hW hcnd _
  have hval : ∀ (j : Nat) t v, Try.f10.params[j]? = some t → args[j]? = some v → Value.okWide Try.prog W .any base t v := hval0
  have hW' := hW
  obtain ⟨p, q, hA0, hV, rfl, hfz, hnd⟩ := hW
  have hA : DataW.TrodAll enc Try.prog W 0 (fun _ => true) true Try.f10.params.toList args.toList ds p := hA0
  rw [Try.params10] at hA hval
  obtain ⟨v0, vs0, d0, ds0, p0, q0, hargs, rfl, rfl, h0, r0⟩ := trodAll_cons hA
  obtain ⟨v1, vs1, d1, ds1, p1, q1, rfl, rfl, rfl, h1, r1⟩ := trodAll_cons r0
  obtain ⟨rfl, rfl, rfl⟩ := trodAll_nil r1
  obtain rfl : args = #[v0, v1] := by cases args; simp_all
  obtain ⟨rfl, rfl⟩ := trodVars_none hV
  obtain ⟨a0, rfl, rfl, rfl, w0⟩ := open_int Try.underlying3 (hval 0 3 v0 rfl rfl) h0
  obtain ⟨a1, rfl, rfl, rfl, w1⟩ := open_int Try.underlying3 (hval 1 3 v1 rfl rfl) h1
  clear hA0 hval0
  refine (fieldWraps_walk a0 w0 a1 w1 W).mono fun e W' ⟨he, bel⟩ => ?_
  subst he
  exact ⟨_, rfl, _, _, _, [], _, [], hW', trodAll_mk1 (shut_bool Try.underlying4 _), (trodAll_cons_mk (shut_int Try.underlying3 w0) (trodAll_cons_mk (shut_int Try.underlying3 w1) trodAll_mk0)), rfl, bel.frame _, fun h => by cases h⟩

theorem fieldWraps_over : Rows.fieldWrapsRow.holds Try.pinned (OpenSpec.ofChange Rows.fieldWrapsSpec) :=
  OpenClaim.holds_of_wide 10 Try.f10 rfl rfl rfl rfl rfl rfl rfl ⟨rfl, rfl, rfl, rfl, rfl⟩ rfl rfl rfl rfl rfl (by kernel_rfl) Try.func10 (by kernel_rfl)
    (of_decide_eq_true (by kernel_rfl)) (by unfold Func.isWrapper; first | (rw [if_pos (by decide +kernel)]; kernel_rfl) | (rw [if_neg (by decide +kernel)]; exact ⟨rfl, rfl⟩))
    (fun os started H enc _ => fieldWraps_lifted os started H enc)

/-- THE STATEMENT. -/
theorem fieldWraps_proved : Rows.FieldWrapsSaid := fieldWraps_over
#print axioms fieldWraps_proved
end Go.Proofs.Ytgoppolkplmphaa
