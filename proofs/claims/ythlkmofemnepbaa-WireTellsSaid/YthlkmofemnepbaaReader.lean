/-
  THE WALKS over field.Reader (layer 4): Open, Take, Num, Left, Done.
-/
import Derived.Test.YthlkmofemnepbaaRows
import Derived.Test.YthlkmofemnepbaaField
namespace Go.Proofs.Ythlkmofemnepbaa
open Go.RowKit

/-- A reader at block rb: zs are left; bad: it has failed. Its slice's block is from base on. -/
structure RdHas (w : World) (rb base : Nat) (a : Option Addr) (cap : Nat) (zs : List Int) (bad : Bool) : Prop where
  rd : Blk w rb 81 #[.slice a zs.length cap, .bool bad]
  cells : SlAt w a (bys zs)
  nil : a = none → cap = 0
  le : zs.length ≤ cap
  cap : cap ≤ maxLen
  apart : ∀ x, a = some x → x.block ≠ rb ∧ base ≤ x.block ∧ x.block < w.heap.size
  low : ∀ x, a = some x → x.block < rb

def RdIs (w : World) (rb base : Nat) (zs : List Int) (bad : Bool) : Prop := ∃ a cap, RdHas w rb base a cap zs bad

theorem RdIs.touch {w w' : World} {rb base : Nat} {zs : List Int} {bad : Bool} (h : RdIs w rb base zs bad) {S : Nat → Prop} (ht : Touch S w w') (h1 : ¬ S rb) (h2 : ∀ k, base ≤ k → k < w.heap.size → ¬ S k) : RdIs w' rb base zs bad := by
  obtain ⟨a, cap, h⟩ := h
  exact ⟨a, cap, h.rd.touch ht h1, h.cells.touch ht (fun x hx _ => h2 _ (h.apart x hx).2.1 (h.apart x hx).2.2), h.nil, h.le, h.cap,
    fun x hx => ⟨(h.apart x hx).1, (h.apart x hx).2.1, Nat.lt_of_lt_of_le (h.apart x hx).2.2 ht.size⟩, h.low⟩

def NewRd (w : World) (zs : List Int) (e : Ending) (w' : World) : Prop :=
  ∃ rb, e = .returned (.pointer (some ⟨rb, 0, none⟩)) ∧ w.heap.size ≤ rb ∧ RdIs w' rb w.heap.size zs false ∧ Below w.heap.size w w'

set_option maxRecDepth 100000 in
theorem open_rd (a : Option Addr) (len cap : Nat) (zs : List Int) (w : World) (hl : zs.length = len) (hz : SlAt w a (bys zs)) (hc : a = none → cap = 0) (hn : len ≤ 90000) :
    Calls Try.prog 47 #[.slice a len cap] w (NewRd w zs) := by
  go_enter Try.func47, Try.ntmps47
  go_wp2_with fail
  refine (clone_any a len cap zs w hl hz hc (by omega)).mono ?_
  rintro e w1 ⟨v, rfl, hown, hb⟩
  have ho := hown
  obtain ⟨a1, c1, rfl, hn1, hl1, hm1, hb1⟩ := owns_form ho
  rw [bys_length] at hown hl1 ⊢
  have H1 := Lib.hid (And.intro hown (And.intro hb (And.intro hn1 (And.intro hl1 (And.intro hm1 hb1)))))
  clear hown ho hb hn1 hl1 hm1 hb1 hl hz
  go_wp2_with fail
  go_ret
  obtain ⟨hown, hb, hn1, hl1, hm1, hb1⟩ := H1.out
  refine ⟨w1.heap.size, rfl, hb.size, ⟨a1, c1, Blk.new _ _ _, (SlAt.of_owns hown).touch ((Touch.refl (fun _ => False) _).alloc _) (fun _ _ _ h => h), (fun h => (hn1 h).2), hl1, hm1, fun x hx => ?_, fun x hx => (hown.lt x.block (by subst hx; rfl)).2⟩, hb.alloc hb.size _⟩
  have hx1 : x.block < w1.heap.size := (hown.lt x.block (by subst hx; rfl)).2
  exact ⟨by omega, (hb1 x hx).1, by simp; omega⟩

set_option maxRecDepth 100000 in
theorem done_rd (rb base : Nat) (zs : List Int) (bad : Bool) (w : World) (hr : RdIs w rb base zs bad) :
    Calls Try.prog 50 #[.pointer (some ⟨rb, 0, none⟩)] w fun e w' => e = .returned (.bool (!bad && zs.isEmpty)) ∧ w = w' := by
  obtain ⟨a, cap, hr⟩ := hr
  have c0 : w.cell? ⟨rb, 0, none⟩ = some (.slice a zs.length cap) := hr.rd.cell 0 rfl
  have c1 : w.cell? ⟨rb, 1, none⟩ = some (.bool bad) := hr.rd.cell 1 rfl
  have he : ((zs.length : Int) == 0) = zs.isEmpty := by cases zs <;> simp; omega
  have HE := Lib.hid he
  clear he hr
  cases bad
  all_goals
    go_enter Try.func50, Try.ntmps50
    go_wp2
    go_ret
    exact ⟨by first | rfl | (simp; rw [← HE.out]; rfl) | (rw [← HE.out]; rfl), rfl⟩

/-- A reader has failed. -/
def TakeNo (w : World) (rb base : Nat) (e : Ending) (w' : World) : Prop := e = .returned (.slice none 0 0) ∧ RdIs w' rb base [] true ∧ Touch (fun k => k = rb) w w'

set_option maxRecDepth 100000 in
theorem take_no (rb base : Nat) (zs : List Int) (bad : Bool) (n : Int) (w : World) (hr : RdIs w rb base zs bad) (hn : bad = true ∨ (bad = false ∧ n < 0) ∨ (bad = false ∧ 0 ≤ n ∧ (zs.length : Int) < n)) :
    Calls Try.prog 49 #[.pointer (some ⟨rb, 0, none⟩), .int .i64 n] w (TakeNo w rb base) := by
  obtain ⟨a, cap, hr⟩ := hr
  have c0 : w.cell? ⟨rb, 0, none⟩ = some (.slice a zs.length cap) := hr.rd.cell 0 rfl
  have c1 : w.cell? ⟨rb, 1, none⟩ = some (.bool bad) := hr.rd.cell 1 rfl
  have f0 := hr.rd.frozen 0
  have f1 := hr.rd.frozen 1
  have HR := Lib.hid hr
  clear hr
  rcases hn with rfl | ⟨rfl, h1⟩ | ⟨rfl, h1, h2⟩
  all_goals
    go_enter Try.func49, Try.ntmps49
    go_wp2
    go_ret
    refine ⟨rfl, ⟨none, 0, ?_, rfl, (fun _ => rfl), Nat.le_refl _, Nat.zero_le _, (fun x h => by cases h), (fun x h => by cases h)⟩, Touch.setCell (S := fun k => k = rb) (Touch.setCell (S := fun k => k = rb) (Touch.refl _ _) (p := ⟨rb, 0, none⟩) (fun _ => rfl) _) (p := ⟨rb, 1, none⟩) (fun _ => rfl) _⟩
    have h := (HR.out.rd.set 0 (.slice none 0 0)).set 1 (.bool true)
    simp at h
    exact h

theorem map_add_block {a : Option Addr} {n : Nat} {x : Addr} (h : Option.map (fun x => x.add n) a = some x) : ∃ y, a = some y ∧ x.block = y.block := by
  cases a with
  | none => simp at h
  | some y =>
    simp at h
    refine ⟨y, rfl, ?_⟩
    rw [← h]
    unfold Addr.add
    split <;> rfl

/-- A reader has handed out n bytes. -/
def TakeYes (w : World) (rb base : Nat) (zs : List Int) (n : Nat) (e : Ending) (w' : World) : Prop :=
  ∃ v, e = .returned v ∧ w'.ownsRow w.heap.size 5 1 v n (bys (zs.take n)) ∧ RdIs w' rb base (zs.drop n) false ∧ Touch (fun k => k = rb) w w'

set_option maxHeartbeats 1000000 in
set_option maxRecDepth 100000 in
theorem take_yes (rb base : Nat) (zs : List Int) (n : Nat) (w : World) (hr : RdIs w rb base zs false) (hn : n ≤ zs.length) (hz : zs.length ≤ 90000) :
    Calls Try.prog 49 #[.pointer (some ⟨rb, 0, none⟩), .int .i64 n] w (TakeYes w rb base zs n) := by
  obtain ⟨a, cap, hr⟩ := hr
  have c0 : w.cell? ⟨rb, 0, none⟩ = some (.slice a zs.length cap) := hr.rd.cell 0 rfl
  have c1 : w.cell? ⟨rb, 1, none⟩ = some (.bool false) := hr.rd.cell 1 rfl
  have hle := hr.le
  have HR := Lib.hid hr
  clear hr
  by_cases hcc : cap = n
  · obtain rfl : n = cap := hcc.symm
    clear hcc
    go_enter Try.func49, Try.ntmps49
    go_wp2_with fail
    refine (clone_any a n n (zs.take n) w (by simp; omega) (by have h := HR.out.cells.take n; rw [show (bys zs).take n = bys (zs.take n) by simp [bys]] at h; exact h) HR.out.nil (by omega)).mono ?_
    rintro e w1 ⟨v, rfl, hown, hb⟩
    have t1 : Touch (fun _ => False) w w1 := Touch.of_below hb
    have hR1 := HR.out.rd.touch t1 (fun h => h)
    have d0 : w1.cell? ⟨rb, 0, none⟩ = some (.slice a zs.length n) := hR1.cell 0 rfl
    have g0 := hR1.frozen 0
    have H1 := Lib.hid (And.intro hown (And.intro t1 hR1))
    clear hown hb t1 hR1
    go_wp2_with fail
    go_ret
    obtain ⟨hown, t1, hR1⟩ := H1.out
    have tw : Touch (fun k => k = rb) w1 (w1.setCell ⟨rb, 0, none⟩ (.slice a 0 0)) := Touch.setCell (S := fun k => k = rb) (Touch.refl _ _) (p := ⟨rb, 0, none⟩) (fun _ => rfl) _
    have hlt := HR.out.rd.lt
    have hd : (zs.drop n).length = 0 := by have := HR.out.le; simp; omega
    refine ⟨v, rfl, ?_, ⟨a, 0, ?_, ?_, (fun _ => rfl), by omega, by have := HR.out.cap; omega, ?_, HR.out.low⟩, (t1.mono (fun _ _ h => h.elim)).trans tw⟩
    · have e : (bys (zs.take n)).length = n := by simp; omega
      rw [e] at hown
      refine owns_touch (S := fun k => k = rb) hown tw (fun k hk e => ?_)
      have := (hown.lt k hk).1
      omega
    · have h := hR1.set 0 (.slice a 0 0)
      simp at h
      rw [hd]
      exact h
    · have h := (HR.out.cells.touch t1 (fun _ _ _ h => h)).sliced (l := n) (cap := n) (by simpa using HR.out.le)
      rw [if_pos rfl, show (bys zs).drop n = bys (zs.drop n) by simp [bys]] at h
      exact h.touch (S := fun k => k = rb) tw (fun x hx _ => (HR.out.apart x hx).1)
    · intro x hx
      have hs := t1.size
      exact ⟨(HR.out.apart x hx).1, (HR.out.apart x hx).2.1, by have := (HR.out.apart x hx).2.2; simp; omega⟩
  · skip
    go_enter Try.func49, Try.ntmps49
    go_wp2_with fail
    refine (clone_any a n cap (zs.take n) w (by simp; omega) (by have h := HR.out.cells.take n; rw [show (bys zs).take n = bys (zs.take n) by simp [bys]] at h; exact h) HR.out.nil (by omega)).mono ?_
    rintro e w1 ⟨v, rfl, hown, hb⟩
    have t1 : Touch (fun _ => False) w w1 := Touch.of_below hb
    have hR1 := HR.out.rd.touch t1 (fun h => h)
    have d0 : w1.cell? ⟨rb, 0, none⟩ = some (.slice a zs.length cap) := hR1.cell 0 rfl
    have g0 := hR1.frozen 0
    have H1 := Lib.hid (And.intro hown (And.intro t1 hR1))
    clear hown hb t1 hR1
    go_wp2_with fail
    go_ret
    obtain ⟨hown, t1, hR1⟩ := H1.out
    have tw : Touch (fun k => k = rb) w1 (w1.setCell ⟨rb, 0, none⟩ (.slice (Option.map (fun x => x.add n) a) (zs.length - n) (cap - n))) := Touch.setCell (S := fun k => k = rb) (Touch.refl _ _) (p := ⟨rb, 0, none⟩) (fun _ => rfl) _
    have hlt := HR.out.rd.lt
    refine ⟨v, rfl, ?_, ⟨(Option.map (fun x => x.add n) a), cap - n, ?_, ?_, (fun h => by have := HR.out.nil (by simpa using h); omega), by simp; omega, by have := HR.out.cap; omega, ?_, fun x hx => by obtain ⟨y, hy, hb⟩ := map_add_block hx; rw [hb]; exact HR.out.low y hy⟩, (t1.mono (fun _ _ h => h.elim)).trans tw⟩
    · have e : (bys (zs.take n)).length = n := by simp; omega
      rw [e] at hown
      refine owns_touch (S := fun k => k = rb) hown tw (fun k hk e => ?_)
      have := (hown.lt k hk).1
      omega
    · have h := hR1.set 0 (.slice (Option.map (fun x => x.add n) a) (zs.length - n) (cap - n))
      simp at h
      simpa using h
    · have h := (HR.out.cells.touch t1 (fun _ _ _ h => h)).sliced (l := n) (cap := cap) (by simpa using HR.out.le)
      rw [if_neg hcc, show (bys zs).drop n = bys (zs.drop n) by simp [bys]] at h
      exact h.touch (S := fun k => k = rb) tw (fun x hx _ => by obtain ⟨y, hy, hb⟩ := map_add_block hx; rw [hb]; exact (HR.out.apart y hy).1)
    · intro x hx
      have hs := t1.size
      obtain ⟨y, hy, hb⟩ := map_add_block hx
      rw [hb]
      exact ⟨(HR.out.apart y hy).1, (HR.out.apart y hy).2.1, by have := (HR.out.apart y hy).2.2; simp; omega⟩
end Go.Proofs.Ythlkmofemnepbaa
