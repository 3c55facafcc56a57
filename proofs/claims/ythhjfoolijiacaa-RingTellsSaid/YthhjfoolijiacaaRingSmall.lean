/-
  THE WALK over nightjarlaw08.small: the small case comes out right.
-/
import Derived.Test.YthhjfoolijiacaaRows
import Derived.Test.YthhjfoolijiacaaRingRef
namespace Go.Proofs.Ythhjfoolijiacaa
open Go.RowKit

theorem made_sl {T : TypeId} {w w' : World} {base : Nat} {v : Value} {n : Nat} {xs : List Value} (h : w.ownsRow base T 1 v n xs) (ht : Touch (fun _ => False) w w') : w'.ownsRow base T 1 v n xs :=
  owns_touch h ht (fun _ _ h => h)

set_option maxHeartbeats 1000000 in
theorem small_any (w : World) : Calls Try.prog 7 #[] w fun e w' => e = .returned (.bool true) ∧ Below w.heap.size w w' := by
  go_enter Try.func7, Try.ntmps7
  go_wp2_with fail
  refine (new_any 2 w).mono ?_
  rintro e w1 ⟨rb, sb, rfl, hb1, hb2, hr, hbl⟩
  have HB := Lib.hid hbl; clear hbl
  go_wp2_with fail
  refine (last_any rb sb 2 [] 0 w1 hr).mono ?_
  rintro e w2 ⟨rfl, ht2⟩
  have hr2 := hr.touch ht2 (fun h => h) (fun h => h)
  go_wp2_with fail
  refine (push_any rb sb 2 [] 0 (some ⟨w2.heap.size, 0, none⟩) 3 [1, 2, 3] _ (hr2.touch ((Touch.refl (fun _ => False) _).alloc _) (fun h => h) (fun h => h)) ?_ ?_ (by simp) (by simp)).mono ?_
  · refine fun j u hj => ⟨rfl, ?_⟩
    match j, hj with
    | 0, hj => simp [ints] at hj; subst hj; simp
    | 1, hj => simp [ints] at hj; subst hj; simp
    | 2, hj => simp [ints] at hj; subst hj; simp
    | j + 3, hj => simp [ints] at hj
  · intro x hx _
    cases hx
    obtain ⟨xs, frm, h⟩ := hr2
    exact ⟨(Nat.ne_of_lt h.ring.lt).symm, (Nat.ne_of_lt h.slots.lt).symm⟩
  rintro e w3 ⟨rfl, hr3, ht3⟩
  have hp : pushAll 2 ([], 0) [1, 2, 3] = ([2, 3], 1) := by decide
  rw [hp] at hr3
  clear hp
  have T13 : Touch (fun k => k = rb ∨ k = sb) w1 w3 := (ht2.mono (fun _ _ h => h.elim)).trans (((Touch.refl _ _).alloc _).trans ht3)
  clear ht2 ht3 hr hr2
  go_wp2_with fail
  refine (last_any rb sb 2 [2, 3] 1 w3 hr3).mono ?_
  rintro e w4 ⟨rfl, ht4⟩
  have hr4 := hr3.touch ht4 (fun h => h) (fun h => h)
  go_wp2_with fail
  refine (len_any rb sb 2 [2, 3] 1 w4 hr4).mono ?_
  rintro e w5 ⟨rfl, rfl⟩
  go_wp2_with fail
  refine (lost_any rb sb 2 [2, 3] 1 w4 hr4).mono ?_
  rintro e w5 ⟨rfl, rfl⟩
  go_wp2_with fail
  refine (all_any rb sb 2 [2, 3] 1 w4 hr4).mono ?_
  rintro e w5 ⟨v, rfl, hown, hbl5⟩
  have ho := hown
  obtain ⟨a, cap, rfl, _, _, _, _⟩ := owns_form ho
  clear ho
  go_wp2_with fail
  refine (same_any a (some ⟨w5.heap.size, 0, none⟩) cap 2 [2, 3] [2, 3] _ ?_ ?_ (by simp) (by simp)).mono ?_
  · exact SlAt.of_owns (hown.alloc _)
  · refine fun j u hj => ⟨rfl, ?_⟩
    match j, hj with
    | 0, hj => simp [ints] at hj; subst hj; simp
    | 1, hj => simp [ints] at hj; subst hj; simp
    | j + 2, hj => simp [ints] at hj
  rintro e w6 ⟨rfl, ht6⟩
  go_wp2_with fail
  go_ret
  refine ⟨by simp, ?_⟩
  have T16 : Touch (fun k => k = rb ∨ k = sb) w1 w6 := ((T13.trans (ht4.mono (fun _ _ h => h.elim))).trans (Touch.of_below hbl5)).trans (((Touch.refl _ _).alloc _).trans (ht6.mono (fun _ _ h => h.elim)))
  have H := HB.out
  exact H.trans (T16.below H.size (fun k hk => by omega))
end Go.Proofs.Ythhjfoolijiacaa
