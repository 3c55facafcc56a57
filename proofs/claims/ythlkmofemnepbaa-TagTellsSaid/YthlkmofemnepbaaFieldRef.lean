/-
  THE WALKS over the document's own Reader (layer 4).
-/
import Derived.Test.YthlkmofemnepbaaRows
import Derived.Test.YthlkmofemnepbaaNum
namespace Go.Proofs.Ythlkmofemnepbaa
open Go.RowKit

/-- A reader at block rb: zs are left; bad: it has failed. Its slice's block is from base on. -/
structure RfHas (w : World) (rb base : Nat) (a : Option Addr) (cap : Nat) (zs : List Int) (bad : Bool) : Prop where
  rd : Blk w rb 84 #[.slice a zs.length cap, .bool bad]
  cells : SlAt w a (bys zs)
  nil : a = none → cap = 0
  le : zs.length ≤ cap
  cap : cap ≤ maxLen
  apart : ∀ x, a = some x → x.block ≠ rb ∧ base ≤ x.block ∧ x.block < w.heap.size
  low : ∀ x, a = some x → x.block < rb

def RfIs (w : World) (rb base : Nat) (zs : List Int) (bad : Bool) : Prop := ∃ a cap, RfHas w rb base a cap zs bad

theorem RfIs.touch {w w' : World} {rb base : Nat} {zs : List Int} {bad : Bool} (h : RfIs w rb base zs bad) {S : Nat → Prop} (ht : Touch S w w') (h1 : ¬ S rb) (h2 : ∀ k, base ≤ k → k < w.heap.size → ¬ S k) : RfIs w' rb base zs bad := by
  obtain ⟨a, cap, h⟩ := h
  exact ⟨a, cap, h.rd.touch ht h1, h.cells.touch ht (fun x hx _ => h2 _ (h.apart x hx).2.1 (h.apart x hx).2.2), h.nil, h.le, h.cap,
    fun x hx => ⟨(h.apart x hx).1, (h.apart x hx).2.1, Nat.lt_of_lt_of_le (h.apart x hx).2.2 ht.size⟩, h.low⟩

def NewRf (w : World) (zs : List Int) (e : Ending) (w' : World) : Prop :=
  ∃ rb, e = .returned (.pointer (some ⟨rb, 0, none⟩)) ∧ w.heap.size ≤ rb ∧ RfIs w' rb w.heap.size zs false ∧ Below w.heap.size w w'

set_option maxRecDepth 100000 in
theorem done_rf (rb base : Nat) (zs : List Int) (bad : Bool) (w : World) (hr : RfIs w rb base zs bad) :
    Calls Try.prog 55 #[.pointer (some ⟨rb, 0, none⟩)] w fun e w' => e = .returned (.bool (!bad && zs.isEmpty)) ∧ w = w' := by
  obtain ⟨a, cap, hr⟩ := hr
  have c0 : w.cell? ⟨rb, 0, none⟩ = some (.slice a zs.length cap) := hr.rd.cell 0 rfl
  have c1 : w.cell? ⟨rb, 1, none⟩ = some (.bool bad) := hr.rd.cell 1 rfl
  have he : ((zs.length : Int) == 0) = zs.isEmpty := by cases zs <;> simp; omega
  have HE := Lib.hid he
  clear he hr
  cases bad
  all_goals
    go_enter Try.func55, Try.ntmps55
    go_wp2
    go_ret
    exact ⟨by first | rfl | (simp; rw [← HE.out]; rfl) | (rw [← HE.out]; rfl), rfl⟩

/-- A reader has failed. -/
def TakeNoRf (w : World) (rb base : Nat) (e : Ending) (w' : World) : Prop := e = .returned (.slice none 0 0) ∧ RfIs w' rb base [] true ∧ Touch (fun k => k = rb) w w'

set_option maxRecDepth 100000 in
theorem take_no_rf (rb base : Nat) (zs : List Int) (bad : Bool) (n : Int) (w : World) (hr : RfIs w rb base zs bad) (hn : bad = true ∨ (bad = false ∧ n < 0) ∨ (bad = false ∧ 0 ≤ n ∧ (zs.length : Int) < n)) :
    Calls Try.prog 53 #[.pointer (some ⟨rb, 0, none⟩), .int .i64 n] w (TakeNoRf w rb base) := by
  obtain ⟨a, cap, hr⟩ := hr
  have c0 : w.cell? ⟨rb, 0, none⟩ = some (.slice a zs.length cap) := hr.rd.cell 0 rfl
  have c1 : w.cell? ⟨rb, 1, none⟩ = some (.bool bad) := hr.rd.cell 1 rfl
  have f0 := hr.rd.frozen 0
  have f1 := hr.rd.frozen 1
  have HR := Lib.hid hr
  clear hr
  rcases hn with rfl | ⟨rfl, h1⟩ | ⟨rfl, h1, h2⟩
  all_goals
    go_enter Try.func53, Try.ntmps53
    go_wp2
    go_ret
    refine ⟨rfl, ⟨none, 0, ?_, rfl, (fun _ => rfl), Nat.le_refl _, Nat.zero_le _, (fun x h => by cases h), (fun x h => by cases h)⟩, Touch.setCell (S := fun k => k = rb) (Touch.setCell (S := fun k => k = rb) (Touch.refl _ _) (p := ⟨rb, 1, none⟩) (fun _ => rfl) _) (p := ⟨rb, 0, none⟩) (fun _ => rfl) _⟩
    have h := (HR.out.rd.set 1 (.bool true)).set 0 (.slice none 0 0)
    simp at h
    exact h


set_option maxRecDepth 100000 in
theorem open_rf (a : Option Addr) (len cap : Nat) (zs : List Int) (w : World) (hl : zs.length = len) (hz : SlAt w a (bys zs)) (hc : a = none → cap = 0) (hn : len ≤ 90000) :
    Calls Try.prog 51 #[.slice a len cap] w (NewRf w zs) := by
  subst hl
  obtain ⟨i0, hi, hz0, hz1, hz2⟩ := info_parts Try.info5
  have hsv : SlAt (w.alloc (.cells #[] 5)) a (bys zs) := hz.touch ((Touch.refl (fun _ => False) _).alloc _) (fun _ _ _ h => h)
  go_enter Try.func51, Try.ntmps51
  go_wp2_with (at_builtin; refine wpList_append_any rfl (.tmp 3) (.tmp 4) 26 rfl w.heap.size 5 i0 (.int .u8 0) 1 Try.underlying26 hi hz0 hz1 hz2 rfl _ 0 [] rfl (World.ownsRow_made w #[] 0 (Nat.le_refl _) (Nat.zero_le _) rfl) a zs.length cap (bys zs) rfl (bys_length _) hsv hc (bys_one _) (by unfold maxLen; omega) (by omega) (by simp) ?_; intro v1 w1 ho1 hg1 _; have ho := ho1; obtain ⟨a1, c1, rfl, hn1, hl1, hm1, hb1⟩ := owns_form ho; have H1 := Lib.hid (And.intro ho1 (And.intro hg1 (And.intro hn1 (And.intro hl1 (And.intro hm1 hb1))))); clear ho ho1 hg1 hn1 hl1 hm1 hb1)
  go_ret
  obtain ⟨hown, hg, hn1, hl1, hm1, hb1⟩ := H1.out
  have hb : Below w.heap.size w w1 := ((Below.refl _ _).alloc (Nat.le_refl _) _).grown hg (by simp) (fun k hk => by cases hk; exact Nat.le_refl _)
  simp only [Nat.zero_add, List.nil_append] at hown hn1 hl1
  refine ⟨w1.heap.size, rfl, hb.size, ⟨a1, c1, Blk.new _ _ _, (SlAt.of_owns hown).touch ((Touch.refl (fun _ => False) _).alloc _) (fun _ _ _ h => h), (fun h => (hn1 h).2), hl1, hm1, fun x hx => ?_, fun x hx => (hown.lt x.block (by subst hx; rfl)).2⟩, hb.alloc hb.size _⟩
  have hx1 : x.block < w1.heap.size := (hown.lt x.block (by subst hx; rfl)).2
  exact ⟨by omega, (hb1 x hx).1, by simp; omega⟩
end Go.Proofs.Ythlkmofemnepbaa
