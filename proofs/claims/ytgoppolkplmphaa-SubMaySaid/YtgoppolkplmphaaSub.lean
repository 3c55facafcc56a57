/-
  THE WALKS over package sub (layer 16) and the document's own answer: what a state becomes, whose an op is, a state's word.
-/
import Derived.Test.YtgoppolkplmphaaRows
import Derived.Test.YtgoppolkplmphaaKit
namespace Go.Proofs.Ytgoppolkplmphaa
open Go.RowKit

/-- What a state becomes; -1: that may not be done. -/
def subTable : List (List Int) := [[1, -1, -1, -1, -1, 4, -1], [-1, 0, 2, 3, -1, 4, -1], [-1, 0, -1, -1, 0, 4, -1], [1, 0, -1, -1, -1, 4, -1], [-1, -1, -1, -1, -1, -1, 0]]
def subTo (s p : Int) : Int := (subTable.getD s.toNat []).getD (p - 1).toNat (-1)
def subStep (s p : Int) : Int × Int := if s < 0 ∨ 4 < s ∨ p < 1 ∨ 7 < p then (0, 1) else if subTo s p = -1 then (0, 8) else (subTo s p, 0)
def subMine (p : Int) : Bool := decide (p = 1) || decide (p = 2)
def subWords : List (List UInt8) := [[110, 111, 110, 101], [97, 115, 107, 101, 100], [109, 97, 121], [100, 101, 110, 105, 101, 100], [98, 108, 111, 99, 107, 101, 100]]
def subNamed (s : Int) : ByteArray := if s < 0 ∨ 4 < s then ⟨#[]⟩ else ⟨(subWords.getD s.toNat []).toArray⟩

theorem sub_out (s p : Int) (h : s < 0 ∨ 4 < s ∨ p < 1 ∨ 7 < p) : subStep s p = (0, 1) := by simp [subStep, h]

def tableC : Array Value := #[.int .i64 1, .int .i64 (-1), .int .i64 (-1), .int .i64 (-1), .int .i64 (-1), .int .i64 4, .int .i64 (-1), .int .i64 (-1), .int .i64 0, .int .i64 2, .int .i64 3, .int .i64 (-1), .int .i64 4, .int .i64 (-1), .int .i64 (-1), .int .i64 0, .int .i64 (-1), .int .i64 (-1), .int .i64 0, .int .i64 4, .int .i64 (-1), .int .i64 1, .int .i64 0, .int .i64 (-1), .int .i64 (-1), .int .i64 (-1), .int .i64 4, .int .i64 (-1), .int .i64 (-1), .int .i64 (-1), .int .i64 (-1), .int .i64 (-1), .int .i64 (-1), .int .i64 (-1), .int .i64 0]

theorem table_any (w : World) : Calls Try.prog 44 #[] w fun e w' => e = .returned (.agg tableC) ∧ Touch (fun _ => False) w w' := by
  go_enter Try.func44, Try.ntmps44
  go_wp2_with (first
    | (refine wpList_val (o := ⟨some 6, _, _, _, _, _⟩) rfl (.agg tableC) (by kernel_rfl) ?_)
    | (refine wpList_store_blk rfl 59 (.tmp 0) (.tmp 6) rfl w.heap.size 59 _ tableC rfl rfl (Blk.new _ _ _) (by kernel_rfl) (by kernel_rfl) (by kernel_rfl) ?_; intro w1 hB ht hs))
  refine bodyPost_ret (results_cell_row rfl _ _ w.heap.size 59 tableC (0, 0) _ rfl hB Try.underlying59 rfl (by kernel_rfl)) rfl ⟨rfl, ?_⟩
  exact Touch.then (S' := fun k => k = w.heap.size) ((Touch.refl _ _).alloc _) ht (fun i hi e => by omega)

theorem tableC_at (s p : Int) (hs : 0 ≤ s ∧ s ≤ 4) (hp : 1 ≤ p ∧ p ≤ 7) : tableC[s.toNat * 7 + (p.toNat - 1)]? = some (.int .i64 (subTo s p)) := by
  obtain ⟨h1, h2⟩ := hs
  obtain ⟨h3, h4⟩ := hp
  have e1 : s = 0 ∨ s = 1 ∨ s = 2 ∨ s = 3 ∨ s = 4 := by omega
  have e2 : p = 1 ∨ p = 2 ∨ p = 3 ∨ p = 4 ∨ p = 5 ∨ p = 6 ∨ p = 7 := by omega
  rcases e1 with rfl | rfl | rfl | rfl | rfl <;> rcases e2 with rfl | rfl | rfl | rfl | rfl | rfl | rfl <;> rfl

set_option maxHeartbeats 1000000 in
theorem step_any (s p : Int) (w : World) : Calls Try.prog 16 #[.int .i64 s, .int .i64 p] w fun e w' => e = .returned (.tuple #[.int .i64 (subStep s p).1, .int .i64 (subStep s p).2]) ∧ Touch (fun _ => False) w w' := by
  have hc : s < 0 ∨ (0 ≤ s ∧ 5 ≤ s) ∨ (0 ≤ s ∧ s < 5 ∧ p < 1) ∨ (0 ≤ s ∧ s < 5 ∧ 1 ≤ p ∧ 7 < p) ∨ (0 ≤ s ∧ s < 5 ∧ 1 ≤ p ∧ p ≤ 7) := by omega
  have walk : ∀ w1 : World, Touch (fun _ => False) w w1 → True := fun _ _ => trivial
  clear walk
  rcases hc with h | ⟨h1, h2⟩ | ⟨h1, h2, h3⟩ | ⟨h1, h2, h3, h4⟩ | ⟨h1, h2, h3, h4⟩
  case inr.inr.inr.inr =>
    have hat := tableC_at s p ⟨h1, by omega⟩ ⟨h3, h4⟩
    have hin : -1 ≤ subTo s p := by
      have e1 : s = 0 ∨ s = 1 ∨ s = 2 ∨ s = 3 ∨ s = 4 := by omega
      have e2 : p = 1 ∨ p = 2 ∨ p = 3 ∨ p = 4 ∨ p = 5 ∨ p = 6 ∨ p = 7 := by omega
      rcases e1 with rfl | rfl | rfl | rfl | rfl <;> rcases e2 with rfl | rfl | rfl | rfl | rfl | rfl | rfl <;> decide
    have HS : Hid (subStep s p = if subTo s p = -1 then (0, 8) else (subTo s p, 0)) := Lib.hid (by unfold subStep; rw [if_neg (by omega)])
    have HA := Lib.hid hat
    clear hat
    generalize subTo s p = v at HS HA hin
    generalize subStep s p = r at HS
    have hvc : (v = -1 ∧ (v != -1) = false) ∨ (¬ v = -1 ∧ (v != -1) = true) := by by_cases h : v = -1 <;> simp [h]
    rcases hvc with ⟨hv, hvb⟩ | ⟨hv, hvb⟩
    all_goals
      go_enter Try.func16, Try.ntmps16
      go_wp2_with fail
      refine (table_any w).mono ?_
      rintro e w1 ⟨rfl, ht1⟩
      have HV := Lib.hid (And.intro hv ht1)
      clear hv ht1
      go_wp2_with (first
        | (refine wpList_store_blk rfl 59 (.tmp 6) (.tmp 8) rfl w1.heap.size 59 _ tableC rfl rfl (Blk.new _ _ _) (by kernel_rfl) (by kernel_rfl) (by kernel_rfl) ?_; intro w2 hB ht hs; have hcc : w2.cell? ⟨w1.heap.size, s.toNat * 7 + (p.toNat - 1), none⟩ = some (.int .i64 v) := hB.cell _ HA.out; have HB := Lib.hid (And.intro hB (And.intro ht hs)); clear hB ht hs))
      go_ret2
      obtain ⟨hB, ht, hs⟩ := HB.out
      obtain ⟨hv, ht1⟩ := HV.out
      refine ⟨by rw [HS.out]; simp [hv], ?_⟩
      exact ht1.trans (Touch.then (S' := fun k => k = w1.heap.size) ((Touch.refl _ _).alloc _) ht (fun i hi e => by omega))
  all_goals
    have hs : subStep s p = (0, 1) := sub_out s p (by omega)
    rw [hs]
    clear hs
    go_enter Try.func16, Try.ntmps16
    go_wp2_with fail
    refine (table_any w).mono ?_
    rintro e w1 ⟨rfl, ht1⟩
    go_wp2_with (first
      | (refine wpList_store_blk rfl 59 (.tmp 6) (.tmp 8) rfl w1.heap.size 59 _ tableC rfl rfl (Blk.new _ _ _) (by kernel_rfl) (by kernel_rfl) (by kernel_rfl) ?_; intro w2 hB ht hs))
    go_ret2
    exact ⟨rfl, ht1.trans (Touch.then (S' := fun k => k = w1.heap.size) ((Touch.refl _ _).alloc _) ht (fun i hi e => by omega))⟩

theorem mine_any (p : Int) (w : World) : Calls Try.prog 18 #[.int .i64 p] w fun e w' => e = .returned (.bool (subMine p)) ∧ w = w' := by
  by_cases h1 : p = 1
  · subst h1
    go_enter Try.func18, Try.ntmps18
    go_wp2
    go_ret
    exact ⟨rfl, rfl⟩
  · have h1' : (p == 1) = false := by simp [h1]
    have HP := Lib.hid h1
    clear h1
    go_enter Try.func18, Try.ntmps18
    go_wp2
    go_ret
    have e : subMine p = (p == 2) := by
      have := HP.out
      by_cases h2 : p = 2 <;> simp [subMine, this, h2]
    exact ⟨by rw [e]; rfl, rfl⟩

set_option maxHeartbeats 1000000 in
theorem named_any (s : Int) (w : World) : Calls Try.prog 20 #[.int .i64 s] w fun e w' => e = .returned (.string (subNamed s)) ∧ Touch (fun _ => False) w w' := by
  have hc : s < 0 ∨ (0 ≤ s ∧ 5 ≤ s) ∨ (s = 0 ∨ s = 1 ∨ s = 2 ∨ s = 3 ∨ s = 4) := by omega
  rcases hc with h | ⟨h1, h2⟩ | rfl | rfl | rfl | rfl | rfl
  all_goals
    try (have hs : subNamed s = ⟨#[]⟩ := by unfold subNamed; rw [if_pos (by omega)])
    try rw [hs]
    try clear hs
    go_enter Try.func20, Try.ntmps20
    go_wp2
    go_ret
    exact ⟨rfl, (Touch.refl _ _).alloc _⟩

set_option maxHeartbeats 1000000 in
theorem refNamed_any (s : Int) (w : World) : Calls Try.prog 21 #[.int .i64 s] w fun e w' => e = .returned (.string (subNamed s)) ∧ Touch (fun _ => False) w w' := by
  have hc : s < 0 ∨ (0 ≤ s ∧ 4 < s) ∨ (s = 0 ∨ s = 1 ∨ s = 2 ∨ s = 3 ∨ s = 4) := by omega
  rcases hc with h | ⟨h1, h2⟩ | rfl | rfl | rfl | rfl | rfl
  all_goals
    try (have hs : subNamed s = ⟨#[]⟩ := by unfold subNamed; rw [if_pos (by omega)])
    try rw [hs]
    try clear hs
    go_enter Try.func21, Try.ntmps21
    go_wp2
    go_ret
    exact ⟨rfl, (Touch.refl _ _).alloc _⟩

/-- The document's own answer. -/
theorem refMine_any (p : Int) (w : World) : Calls Try.prog 19 #[.int .i64 p] w fun e w' => e = .returned (.bool (subMine p)) ∧ w = w' := by
  by_cases h1 : p = 1
  · subst h1
    go_enter Try.func19, Try.ntmps19
    go_wp2
    go_ret
    exact ⟨rfl, rfl⟩
  · have h1' : (p == 1) = false := by simp [h1]
    have HP := Lib.hid h1
    clear h1
    go_enter Try.func19, Try.ntmps19
    go_wp2
    go_ret
    have e : subMine p = (p == 2) := by
      have := HP.out
      by_cases h2 : p = 2 <;> simp [subMine, this, h2]
    exact ⟨by rw [e]; rfl, rfl⟩

set_option maxHeartbeats 4000000 in
theorem refStep_any (s p : Int) (w : World) : Calls Try.prog 17 #[.int .i64 s, .int .i64 p] w fun e w' => e = .returned (.tuple #[.int .i64 (subStep s p).1, .int .i64 (subStep s p).2]) ∧ w = w' := by
  have hc : s < 0 ∨ (0 ≤ s ∧ 4 < s) ∨ (0 ≤ s ∧ s ≤ 4 ∧ p < 1) ∨ (0 ≤ s ∧ s ≤ 4 ∧ 1 ≤ p ∧ 7 < p) ∨ (0 ≤ s ∧ s ≤ 4 ∧ 1 ≤ p ∧ p ≤ 7) := by omega
  rcases hc with h | ⟨h1, h2⟩ | ⟨h1, h2, h3⟩ | ⟨h1, h2, h3, h4⟩ | ⟨h1, h2, h3, h4⟩
  case inr.inr.inr.inr =>
    have e1 : s = 0 ∨ s = 1 ∨ s = 2 ∨ s = 3 ∨ s = 4 := by omega
    have e2 : p = 1 ∨ p = 2 ∨ p = 3 ∨ p = 4 ∨ p = 5 ∨ p = 6 ∨ p = 7 := by omega
    clear h1 h2 h3 h4
    rcases e1 with rfl | rfl | rfl | rfl | rfl <;> rcases e2 with rfl | rfl | rfl | rfl | rfl | rfl | rfl
    all_goals
      go_enter Try.func17, Try.ntmps17
      go_wp2
      go_ret2
      exact ⟨rfl, rfl⟩
  all_goals
    have hs : subStep s p = (0, 1) := sub_out s p (by omega)
    rw [hs]
    clear hs
    go_enter Try.func17, Try.ntmps17
    go_wp2
    go_ret2
    exact ⟨rfl, rfl⟩
end Go.Proofs.Ytgoppolkplmphaa
