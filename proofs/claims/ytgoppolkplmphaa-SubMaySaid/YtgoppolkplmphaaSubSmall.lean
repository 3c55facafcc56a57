/-
  THE WALK over nightjarlaw16.small: the small case comes out right.
-/
import Derived.Test.YtgoppolkplmphaaRows
import Derived.Test.YtgoppolkplmphaaSub
namespace Go.Proofs.Ytgoppolkplmphaa
open Go.RowKit

set_option maxHeartbeats 1000000 in
theorem subSmall_any (w : World) : Calls Try.prog 15 #[] w fun e w' => e = .returned (.bool true) ∧ Touch (fun _ => False) w w' := by
  go_enter Try.func15, Try.ntmps15
  go_wp2_with fail
  refine (step_any 0 1 w).mono ?_
  rintro e w1 ⟨rfl, t1⟩
  rw [show subStep 0 1 = (1, 0) from rfl]
  go_wp2_with fail
  refine (step_any 1 3 w1).mono ?_
  rintro e w2 ⟨rfl, t2⟩
  rw [show subStep 1 3 = (2, 0) from rfl]
  go_wp2_with fail
  refine (step_any 2 3 w2).mono ?_
  rintro e w3 ⟨rfl, t3⟩
  rw [show subStep 2 3 = (0, 8) from rfl]
  go_wp2_with fail
  refine (step_any 5 1 w3).mono ?_
  rintro e w4 ⟨rfl, t4⟩
  rw [show subStep 5 1 = (0, 1) from rfl]
  go_wp2_with fail
  refine (step_any 0 0 w4).mono ?_
  rintro e w5 ⟨rfl, t5⟩
  rw [show subStep 0 0 = (0, 1) from rfl]
  go_wp2_with fail
  refine (mine_any 2 w5).mono ?_
  rintro e w6 ⟨rfl, rfl⟩
  rw [show subMine 2 = true from rfl]
  go_wp2_with fail
  refine (mine_any 3 w5).mono ?_
  rintro e w6 ⟨rfl, rfl⟩
  rw [show subMine 3 = false from rfl]
  go_wp2_with fail
  refine (named_any 4 w5).mono ?_
  rintro e w6 ⟨rfl, t6⟩
  rw [show subNamed 4 = ⟨#[98, 108, 111, 99, 107, 101, 100]⟩ from rfl]
  go_wp2_with fail
  refine (named_any (-1) w6).mono ?_
  rintro e w7 ⟨rfl, t7⟩
  rw [show subNamed (-1) = ⟨#[]⟩ from rfl]
  go_wp2_with fail
  go_ret
  exact ⟨by simp, (((((t1.trans t2).trans t3).trans t4).trans t5).trans t6).trans t7⟩
end Go.Proofs.Ytgoppolkplmphaa
