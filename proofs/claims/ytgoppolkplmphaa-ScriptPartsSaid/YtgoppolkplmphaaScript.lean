/-
  THE WALKS over package script and the document's own (layer 26): order, kinds, one.
-/
import Derived.Test.YtgoppolkplmphaaRows
import Derived.Test.YtgoppolkplmphaaKit
import Derived.Test.YtgoppolkplmphaaStr
import Derived.WalkSpells
import Derived.Deep.DeepCutAuto
namespace Go.Proofs.Ytgoppolkplmphaa
open Go.RowKit

theorem Try.infoB5 : (Try.prog.info? 5).map (fun i => (i.zero, i.size, i.bytes)) = some (some (.int .u8 0), 1, 1) := by kernel_rfl

/-- An act, as numbers; the bytes that are sent, if any. -/
structure ActV where
  dn : Int
  who : Int
  k : Int
  kd : Int
  st : Int
  op : Int
  us : Int
  inj : List Int

def ordVal (kd st op us : Int) : Value := .agg #[.int .i64 kd, .int .i64 st, .int .i64 op, .int .i64 us]
def actVal (v : ActV) (s : Option Addr) (n c : Nat) : Value := .agg #[.int .i64 v.dn, .int .i64 v.who, .int .i64 v.k, .int .i64 v.kd, .int .i64 v.st, .int .i64 v.op, .int .i64 v.us, .slice s n c]

def ordOf (r s : Nat) : Nat × Nat × Nat × Nat :=
  if r % 4 = 0 then (6, 1 + s % 3, 0, 0) else if r % 4 = 3 then (10, 0, 0, 0) else (7, 0, 1 + s % 7, 1 + s / 7 % 3)

theorem order_any (r s : Nat) (_hr : r < 256) (_hs : s < 256) (w : World) : Calls Try.prog 51 #[.int .i64 r, .int .i64 s] w fun e w' => e = .returned (ordVal (ordOf r s).1 (ordOf r s).2.1 (ordOf r s).2.2.1 (ordOf r s).2.2.2) ∧ Below w.heap.size w w' := by
  have h4 : r % 4 = 0 ∨ r % 4 = 3 ∨ (r % 4 ≠ 0 ∧ r % 4 ≠ 3) := by omega
  rcases h4 with h | h | ⟨h, h'⟩
  · have e : ordOf r s = (6, 1 + s % 3, 0, 0) := by unfold ordOf; rw [if_pos h]
    rw [e]
    clear e
    go_enter Try.func51, Try.ntmps51
    go_wp2
    refine bodyPost_ret (by simp [results, Try.results51, go_sem]; rfl) rfl ⟨by simp [ordVal], (Below.refl _ _).alloc (Nat.le_refl _) _⟩
  · have e : ordOf r s = (10, 0, 0, 0) := by unfold ordOf; rw [if_neg (by omega), if_pos h]
    have g : ((r : Int) % 4 == 0) = false := by simp; omega
    have g2 : ((r : Int) % 4 == 3) = true := by simp; omega
    rw [e]
    clear e
    go_enter Try.func51, Try.ntmps51
    go_wp2
    refine bodyPost_ret (by simp [results, Try.results51, go_sem]; rfl) rfl ⟨by simp [ordVal], (Below.refl _ _).alloc (Nat.le_refl _) _⟩
  · have e : ordOf r s = (7, 0, 1 + s % 7, 1 + s / 7 % 3) := by unfold ordOf; rw [if_neg h, if_neg h']
    have g : ((r : Int) % 4 == 0) = false := by simp; omega
    have g2 : ((r : Int) % 4 == 3) = false := by simp; omega
    rw [e]
    clear e
    go_enter Try.func51, Try.ntmps51
    go_wp2
    refine bodyPost_ret (by simp [results, Try.results51, go_sem]; rfl) rfl ⟨by simp [ordVal], (Below.refl _ _).alloc (Nat.le_refl _) _⟩
def kOf (p : Nat) : Nat := if p ≤ 3 then 0 else if p ≤ 9 then 1 else if p = 10 then 2 else if p = 11 then 3 else if p = 12 then 4 else if p = 13 then 5 else if p = 14 then 6 else 7
def kindsC : Array Value := #[.int .i64 0, .int .i64 0, .int .i64 0, .int .i64 0, .int .i64 1, .int .i64 1, .int .i64 1, .int .i64 1, .int .i64 1, .int .i64 1, .int .i64 2, .int .i64 3, .int .i64 4, .int .i64 5, .int .i64 6, .int .i64 7]

theorem kinds_any (w : World) : Calls Try.prog 50 #[] w fun e w' => e = .returned (.agg kindsC) ∧ Touch (fun _ => False) w w' := by
  go_enter Try.func50, Try.ntmps50
  go_wp2_with (first
    | (refine wpList_val (o := ⟨some 1, _, _, _, _, _⟩) rfl (.agg kindsC) (by kernel_rfl) ?_)
    | (refine wpList_store_blk rfl 71 (.tmp 0) (.tmp 1) rfl w.heap.size 71 _ kindsC rfl rfl (Blk.new _ _ _) (by kernel_rfl) (by kernel_rfl) (by kernel_rfl) ?_; intro w1 hB ht hs))
  refine bodyPost_ret (results_cell_row rfl _ _ w.heap.size 71 kindsC (0, 0) _ rfl hB Try.underlying71 rfl (by kernel_rfl)) rfl ⟨rfl, ?_⟩
  exact Touch.then (S' := fun k => k = w.heap.size) ((Touch.refl _ _).alloc _) ht (fun i hi e => by omega)

theorem kindsC_at (p : Nat) (h : p < 16) : kindsC[p]? = some (.int .i64 (kOf p : Nat)) := by
  obtain rfl | rfl | rfl | rfl | rfl | rfl | rfl | rfl | rfl | rfl | rfl | rfl | rfl | rfl | rfl | rfl : p = 0 ∨ p = 1 ∨ p = 2 ∨ p = 3 ∨ p = 4 ∨ p = 5 ∨ p = 6 ∨ p = 7 ∨ p = 8 ∨ p = 9 ∨ p = 10 ∨ p = 11 ∨ p = 12 ∨ p = 13 ∨ p = 14 ∨ p = 15 := by omega
  all_goals rfl

/-- The act of four bytes. -/
def actOf (b0 b1 b2 b3 : Nat) : ActV :=
  let d := kOf (b0 % 16)
  let o := if d = 6 then ordOf b2 b3 else (0, 0, 0, 0)
  ⟨d, (1 + b1 % 3 : Nat), (if d = 1 ∨ d = 2 ∨ d = 3 then b2 else if d = 4 then (b2 * 256 + b3) * 1000 else 0 : Nat), o.1, o.2.1, o.2.2.1, o.2.2.2, if d = 7 then [(b2 : Int), b3] else []⟩

/-- An act is handed back; its bytes lie in memory of its own. -/
def OneRet (v : ActV) (w : World) (e : Ending) (w' : World) : Prop :=
  ∃ s c, e = .returned (actVal v s v.inj.length c) ∧ w'.ownsRow w.heap.size 5 1 (.slice s v.inj.length c) v.inj.length (bys v.inj) ∧ Below w.heap.size w w'
end Go.Proofs.Ytgoppolkplmphaa
