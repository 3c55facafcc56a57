/-
  THE WALK over nightjarlaw04.small: the small case comes out right.
-/
import Derived.Test.YtgoppolkplmphaaRows
import Derived.Test.YtgoppolkplmphaaNum
import Derived.Test.YtgoppolkplmphaaStr
namespace Go.Proofs.Ytgoppolkplmphaa
open Go.RowKit

set_option maxHeartbeats 1000000 in
theorem fieldSmall_any (w : World) : Calls Try.prog 22 #[] w fun e w' => e = .returned (.bool true) ∧ Below w.heap.size w w' := by
  have kc := fun (w : World) (C : Array Value) (n c : Nat) => Lib.run_convert_bytes_const (P := Try.prog) w 31 5 C n c Try.underlying31 Try.underlying5
  go_enter Try.func22, Try.ntmps22
  go_wp2_with fail
  refine (open_rd (some ⟨w.heap.size, 0, none⟩) 4 4 [0, 1, 2, 9] _ rfl ?_ (fun h => by cases h) (by decide)).mono ?_
  · refine fun j u hj => ⟨rfl, ?_⟩
    match j, hj with
    | 0, hj => simp [bys] at hj; subst hj; simp
    | 1, hj => simp [bys] at hj; subst hj; simp
    | 2, hj => simp [bys] at hj; subst hj; simp
    | 3, hj => simp [bys] at hj; subst hj; simp
    | j + 4, hj => simp [bys] at hj
  rintro e w1 ⟨rb, rfl, hb1, hr, hbl⟩
  go_wp2_with fail
  refine (num_rd rb _ [0, 1, 2, 9] false 3 w1 hr (by decide) (by decide)).mono ?_
  rintro e w2 ⟨rfl, hr2, ht2⟩
  rw [show (rdTake [0, 1, 2, 9] false (fitN 3)).2.1 = [9] by decide, show (rdTake [0, 1, 2, 9] false (fitN 3)).2.2 = false by decide] at hr2
  rw [show numOf (rdTake [0, 1, 2, 9] false (fitN 3)).1 = 258 by decide]
  go_wp2_with fail
  refine (left_rd rb _ [9] false w2 hr2).mono ?_
  rintro e w3 ⟨rfl, rfl⟩
  rw [show (([9] : List Int).length : Int) = 1 from rfl]
  go_wp2_with fail
  refine (num_rd rb _ [9] false 2 w2 hr2 (by decide) (by decide)).mono ?_
  rintro e w3 ⟨rfl, hr3, ht3⟩
  rw [show (rdTake [9] false (fitN 2)).2.1 = [] by decide, show (rdTake [9] false (fitN 2)).2.2 = true by decide] at hr3
  rw [show numOf (rdTake [9] false (fitN 2)).1 = 0 by decide]
  go_wp2_with fail
  refine (put_any _ 1 _ [120] 258 3 _ rfl ?_ (fun h => by cases h) (by decide)).mono ?_
  · refine fun j u hj => ⟨rfl, ?_⟩
    match j, hj with
    | 0, hj => simp [bys] at hj; subst hj; simp [World.cell?_alloc_mark]
    | j + 1, hj => simp [bys] at hj
  rintro e w4 ⟨v4, rfl, ho4, hb4⟩
  rw [show ([120] ++ putList 258 (fitN 3) (fitN 3) : List Int) = [120, 0, 1, 2] by decide] at ho4
  obtain ⟨a4, n4, rfl, _, _, _, _⟩ := owns_form ho4
  have q4 := run_str (P := Try.prog) w4 31 9 5 Try.underlying31 Try.underlying5 Try.underlying9 a4 4 n4 [120, 0, 1, 2] rfl (SlAt.of_owns ho4)
  rw [show (bys [120, 0, 1, 2]).length = 4 from rfl]
  have b4 : ((strOfNums [120, 0, 1, 2]).toList == ([120, 0, 1, 2] : List UInt8)) = true := by kernel_rfl
  have H4 := Lib.hid (And.intro ho4 hb4)
  clear ho4 hb4
  go_wp2_with fail
  refine (put_any none 0 0 [] (-1) 2 w4 rfl rfl (fun _ => rfl) (by decide)).mono ?_
  rintro e w5 ⟨v5, rfl, ho5, hb5⟩
  rw [show ([] ++ putList (-1) (fitN 2) (fitN 2) : List Int) = [255, 255] by decide] at ho5
  obtain ⟨a5, n5, rfl, _, _, _, _⟩ := owns_form ho5
  have q5 := run_str (P := Try.prog) w5 31 9 5 Try.underlying31 Try.underlying5 Try.underlying9 a5 2 n5 [255, 255] rfl (SlAt.of_owns ho5)
  rw [show (bys [255, 255]).length = 2 from rfl]
  have b5 : ((strOfNums [255, 255]).toList == ([255, 255] : List UInt8)) = true := by kernel_rfl
  have H5 := Lib.hid (And.intro ho5 hb5)
  clear ho5 hb5
  go_wp2_with fail
  refine (put_any none 0 0 [] (7) 0 w5 rfl rfl (fun _ => rfl) (by decide)).mono ?_
  rintro e w6 ⟨v6, rfl, ho6, hb6⟩
  rw [show ([] ++ putList (7) (fitN 0) (fitN 0) : List Int) = [7] by decide] at ho6
  obtain ⟨a6, n6, rfl, _, _, _, _⟩ := owns_form ho6
  have q6 := run_str (P := Try.prog) w6 31 9 5 Try.underlying31 Try.underlying5 Try.underlying9 a6 1 n6 [7] rfl (SlAt.of_owns ho6)
  rw [show (bys [7]).length = 1 from rfl]
  have b6 : ((strOfNums [7]).toList == ([7] : List UInt8)) = true := by kernel_rfl
  have H6 := Lib.hid (And.intro ho6 hb6)
  clear ho6 hb6
  go_wp2_with fail
  have T : Touch (fun k => k = rb) w1 w6 := (ht2.trans ht3).trans (((((Touch.refl _ _).alloc _).trans (Touch.of_below H4.out.2)).trans (Touch.of_below H5.out.2)).trans (Touch.of_below H6.out.2))
  have T36 : Touch (fun _ => False) w3 w6 := (((((Touch.refl _ _).alloc _).trans (Touch.of_below H4.out.2)).trans (Touch.of_below H5.out.2)).trans (Touch.of_below H6.out.2))
  have hr6 := hr3.touch T36 (fun h => h) (fun _ _ _ h => h)
  refine (left_rd rb _ [] true w6 hr6).mono ?_
  rintro e w7 ⟨rfl, rfl⟩
  go_wp2_with fail
  refine (done_rd rb _ [] true w6 hr6).mono ?_
  rintro e w7 ⟨rfl, rfl⟩
  go_wp2_with fail
  go_ret
  have hs := hbl.size
  simp at hs hb1
  refine ⟨rfl, (((Below.refl _ _).alloc (Nat.le_refl _) _).trans (hbl.mono (by simp))).trans (T.below (by omega) (fun k hk => by omega))⟩
end Go.Proofs.Ytgoppolkplmphaa
