/-
  THE WALKS of Named (layer 26), the program's and the document's.
-/
import Derived.Test.YtgoppolkplmphaaRows
import Derived.Test.YtgoppolkplmphaaKit
namespace Go.Proofs.Ytgoppolkplmphaa
open Go.RowKit

def actWords : List (List UInt8) := [[116, 105, 99, 107], [99, 111, 109, 101], [108, 111, 115, 101], [116, 119, 105, 99, 101], [115, 116, 97, 114, 116], [99, 114, 97, 115, 104], [111, 114, 100, 101, 114], [105, 110, 106, 101, 99, 116]]
def actNamed (d : Int) : ByteArray := if d < 0 ∨ 8 ≤ d then ⟨#[]⟩ else ⟨(actWords.getD d.toNat []).toArray⟩

set_option maxRecDepth 100000 in
set_option maxHeartbeats 2000000 in
theorem act_named (d : Int) (w : World) : Calls Try.prog 39 #[.int .i64 d] w fun e w' => e = .returned (.string (actNamed d)) ∧ Below w.heap.size w w' := by
  have hc : d < 0 ∨ (0 ≤ d ∧ 8 ≤ d) ∨ d = 0 ∨ d = 1 ∨ d = 2 ∨ d = 3 ∨ d = 4 ∨ d = 5 ∨ d = 6 ∨ d = 7 := by omega
  rcases hc with h | ⟨h1, h2⟩ | rfl | rfl | rfl | rfl | rfl | rfl | rfl | rfl
  · have e : actNamed d = ⟨#[]⟩ := by unfold actNamed; rw [if_pos (by omega)]
    rw [e]
    go_enter Try.func39, Try.ntmps39
    go_wp2
    go_ret
    exact ⟨rfl, (Below.refl _ _).alloc (Nat.le_refl _) _⟩
  · have e : actNamed d = ⟨#[]⟩ := by unfold actNamed; rw [if_pos (by omega)]
    rw [e]
    go_enter Try.func39, Try.ntmps39
    go_wp2
    go_ret
    exact ⟨rfl, (Below.refl _ _).alloc (Nat.le_refl _) _⟩
  all_goals
    go_enter Try.func39, Try.ntmps39
    go_wp2
    go_ret
    exact ⟨rfl, (Below.refl _ _).alloc (Nat.le_refl _) _⟩

set_option maxRecDepth 100000 in
set_option maxHeartbeats 2000000 in
theorem refact_named (d : Int) (w : World) : Calls Try.prog 40 #[.int .i64 d] w fun e w' => e = .returned (.string (actNamed d)) ∧ Below w.heap.size w w' := by
  have hc : d < 0 ∨ (0 ≤ d ∧ 7 < d) ∨ d = 0 ∨ d = 1 ∨ d = 2 ∨ d = 3 ∨ d = 4 ∨ d = 5 ∨ d = 6 ∨ d = 7 := by omega
  rcases hc with h | ⟨h1, h2⟩ | rfl | rfl | rfl | rfl | rfl | rfl | rfl | rfl
  · have e : actNamed d = ⟨#[]⟩ := by unfold actNamed; rw [if_pos (by omega)]
    rw [e]
    go_enter Try.func40, Try.ntmps40
    go_wp2
    go_ret
    exact ⟨rfl, (Below.refl _ _).alloc (Nat.le_refl _) _⟩
  · have e : actNamed d = ⟨#[]⟩ := by unfold actNamed; rw [if_pos (by omega)]
    rw [e]
    go_enter Try.func40, Try.ntmps40
    go_wp2
    go_ret
    exact ⟨rfl, (Below.refl _ _).alloc (Nat.le_refl _) _⟩
  all_goals
    go_enter Try.func40, Try.ntmps40
    go_wp2
    go_ret
    exact ⟨rfl, (Below.refl _ _).alloc (Nat.le_refl _) _⟩
end Go.Proofs.Ytgoppolkplmphaa
