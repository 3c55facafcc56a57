/-
  THE WALKS of package wire (layer 5): which of a packet's numbers, sealed, Tagged, slots.
-/
import Derived.Test.YthlkmofemnepbaaRows
import Derived.Test.YthlkmofemnepbaaWirePlain
import Derived.Test.YthlkmofemnepbaaChain
import Derived.Laws.EntriesVeiled
namespace Go.Proofs.Ythlkmofemnepbaa
open Go.RowKit

/-- The function that hands out the place of a packet's cell i. -/
def atFn (i : Nat) : FuncId :=
  match i with
  | 1 => 62
  | 2 => 63
  | 3 => 67
  | 4 => 66
  | 5 => 68
  | 6 => 70
  | 7 => 69
  | 8 => 71
  | 9 => 72
  | 10 => 64
  | _ => 65

def atV (i : Nat) : Value := .func (.func (atFn i)) #[] #[]

set_option maxRecDepth 100000 in
theorem at_any (i : Nat) (h1 : 1 ≤ i) (h2 : i < 12) (b : Nat) (w : World) :
    Calls Try.prog (atFn i) #[.pointer (some ⟨b, 0, none⟩)] w fun e w' => e = .returned (.pointer (some ⟨b, i, none⟩)) ∧ w = w' := by
  obtain rfl | rfl | rfl | rfl | rfl | rfl | rfl | rfl | rfl | rfl | rfl : i = 1 ∨ i = 2 ∨ i = 3 ∨ i = 4 ∨ i = 5 ∨ i = 6 ∨ i = 7 ∨ i = 8 ∨ i = 9 ∨ i = 10 ∨ i = 11 := by omega
  case inl =>
    show Calls Try.prog 62 _ _ _
    go_enter Try.func62, Try.ntmps62
    go_wp2
    go_ret
    exact ⟨rfl, rfl⟩
  case inr.inl =>
    show Calls Try.prog 63 _ _ _
    go_enter Try.func63, Try.ntmps63
    go_wp2
    go_ret
    exact ⟨rfl, rfl⟩
  case inr.inr.inl =>
    show Calls Try.prog 67 _ _ _
    go_enter Try.func67, Try.ntmps67
    go_wp2
    go_ret
    exact ⟨rfl, rfl⟩
  case inr.inr.inr.inl =>
    show Calls Try.prog 66 _ _ _
    go_enter Try.func66, Try.ntmps66
    go_wp2
    go_ret
    exact ⟨rfl, rfl⟩
  case inr.inr.inr.inr.inl =>
    show Calls Try.prog 68 _ _ _
    go_enter Try.func68, Try.ntmps68
    go_wp2
    go_ret
    exact ⟨rfl, rfl⟩
  case inr.inr.inr.inr.inr.inl =>
    show Calls Try.prog 70 _ _ _
    go_enter Try.func70, Try.ntmps70
    go_wp2
    go_ret
    exact ⟨rfl, rfl⟩
  case inr.inr.inr.inr.inr.inr.inl =>
    show Calls Try.prog 69 _ _ _
    go_enter Try.func69, Try.ntmps69
    go_wp2
    go_ret
    exact ⟨rfl, rfl⟩
  case inr.inr.inr.inr.inr.inr.inr.inl =>
    show Calls Try.prog 71 _ _ _
    go_enter Try.func71, Try.ntmps71
    go_wp2
    go_ret
    exact ⟨rfl, rfl⟩
  case inr.inr.inr.inr.inr.inr.inr.inr.inl =>
    show Calls Try.prog 72 _ _ _
    go_enter Try.func72, Try.ntmps72
    go_wp2
    go_ret
    exact ⟨rfl, rfl⟩
  case inr.inr.inr.inr.inr.inr.inr.inr.inr.inl =>
    show Calls Try.prog 64 _ _ _
    go_enter Try.func64, Try.ntmps64
    go_wp2
    go_ret
    exact ⟨rfl, rfl⟩
  case inr.inr.inr.inr.inr.inr.inr.inr.inr.inr =>
    show Calls Try.prog 65 _ _ _
    go_enter Try.func65, Try.ntmps65
    go_wp2
    go_ret
    exact ⟨rfl, rfl⟩

set_option maxRecDepth 100000 in
theorem sealed_any (k : Int) (w : World) : Calls Try.prog 43 #[.int .i64 k] w fun e w' => e = .returned (.bool (sealedN k)) ∧ w = w' := by
  by_cases h1 : 2 ≤ k
  · by_cases h2 : k ≤ 4
    all_goals
      go_enter Try.func43, Try.ntmps43
      go_wp2
      go_ret
      exact ⟨by simp [sealedN, h1, h2], rfl⟩
  · skip
    go_enter Try.func43, Try.ntmps43
    go_wp2
    go_ret
    exact ⟨by simp [sealedN]; omega, rfl⟩

set_option maxRecDepth 100000 in
theorem tagged_any (k : Int) (w : World) : Calls Try.prog 27 #[.int .i64 k] w fun e w' => e = .returned (.bool (taggedN k)) ∧ w = w' := by
  by_cases h1 : 5 ≤ k
  · by_cases h2 : k ≤ 11
    all_goals
      go_enter Try.func27, Try.ntmps27
      go_wp2
      go_ret
      exact ⟨by simp [taggedN, h1, h2], rfl⟩
  · skip
    go_enter Try.func27, Try.ntmps27
    go_wp2
    go_ret
    exact ⟨by simp [taggedN]; omega, rfl⟩

def slotV (s : Slot) : List Value := [atV s.i, .int .i64 s.size, .int .i64 s.low, .int .i64 s.high]
def slotsV (L : List Slot) : List Value := L.flatMap slotV

/-- What slots hands out. -/
def SlotsOf (base : Nat) (k : Int) (v : Value) (w' : World) : Prop :=
  (slotsN k = [] ∧ v = .slice none 0 0) ∨ ∃ b, base ≤ b ∧ v = .slice (some ⟨b, 0, none⟩) (slotsN k).length (slotsN k).length ∧ slotsN k ≠ [] ∧ Blk w' b 57 (slotsV (slotsN k)).toArray

theorem blk_new_at {w : World} {n : Nat} {c c' : Array Value} {T : TypeId} (h : n = w.heap.size) (hc : c = c') : Blk (w.alloc (.cells c T)) n T c' := by
  subst h hc
  exact Blk.new w c T

set_option maxRecDepth 100000 in
set_option maxHeartbeats 4000000 in
theorem slots_any (k : Int) (w : World) : Calls Try.prog 41 #[.int .i64 k] w fun e w' => ∃ v, e = .returned v ∧ Below w.heap.size w w' ∧ SlotsOf w.heap.size k v w' := by
  by_cases hk : 1 ≤ k ∧ k ≤ 12
  · obtain rfl | rfl | rfl | rfl | rfl | rfl | rfl | rfl | rfl | rfl | rfl | rfl : k = 1 ∨ k = 2 ∨ k = 3 ∨ k = 4 ∨ k = 5 ∨ k = 6 ∨ k = 7 ∨ k = 8 ∨ k = 9 ∨ k = 10 ∨ k = 11 ∨ k = 12 := by omega
    all_goals
      clear hk
      go_enter Try.func41, Try.ntmps41
      go_wp2_with fail
      go_ret
      refine ⟨_, rfl, ?_, Or.inr ⟨_, ?_, rfl, by decide, blk_new_at ?_ (by kernel_rfl)⟩⟩
      · exact Touch.below (S := fun _ => False) (((((((Touch.refl _ w).alloc _).alloc _).alloc _).alloc _).alloc _).alloc _ |>.alloc _) (Nat.le_refl _) (fun _ _ h => h)
      · omega
      · simp
  · have hn := slots_nil k hk
    have e1 : ∀ j : Int, 1 ≤ j → j ≤ 12 → (k == j) = false := fun j h1 h2 => beq_eq_false_iff_ne.2 (by omega)
    have t1 := e1 1 (by decide) (by decide)
    have t2 := e1 2 (by decide) (by decide)
    have t3 := e1 3 (by decide) (by decide)
    have t4 := e1 4 (by decide) (by decide)
    have t5 := e1 5 (by decide) (by decide)
    have t6 := e1 6 (by decide) (by decide)
    have t7 := e1 7 (by decide) (by decide)
    have t8 := e1 8 (by decide) (by decide)
    have t9 := e1 9 (by decide) (by decide)
    have t10 := e1 10 (by decide) (by decide)
    have t11 := e1 11 (by decide) (by decide)
    have t12 := e1 12 (by decide) (by decide)
    have HN := Lib.hid hn
    clear e1 hk hn
    go_enter Try.func41, Try.ntmps41
    go_wp2_with fail
    go_ret
    exact ⟨_, rfl, Touch.below (S := fun _ => False) (((((((Touch.refl _ w).alloc _).alloc _).alloc _).alloc _).alloc _).alloc _) (Nat.le_refl _) (fun _ _ h => h), Or.inl ⟨HN.out, rfl⟩⟩
end Go.Proofs.Ythlkmofemnepbaa
