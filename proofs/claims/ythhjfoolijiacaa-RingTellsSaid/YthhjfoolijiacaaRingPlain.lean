/-
  PLAIN LEMMAS on what a ring holds, and forms of the ring's contracts that laws call.
-/
import Derived.Test.YthhjfoolijiacaaRows
import Derived.Test.YthhjfoolijiacaaRingRef
namespace Go.Proofs.Ythhjfoolijiacaa
open Go.RowKit

theorem pushAll_len (room : Nat) (l : List Int) : ∀ (s : List Int × Nat), s.1.length ≤ room → 1 ≤ room →
    (pushAll room s l).1.length = min room (s.1.length + l.length) ∧ (pushAll room s l).2 = s.2 + (s.1.length + l.length - room) := by
  induction l with
  | nil => intro s h _; simp [pushAll]; omega
  | cons a l ih =>
    intro s h h1
    have e : pushAll room s (a :: l) = pushAll room (push1 room s a) l := rfl
    have hl := push1_len room s a h1 h
    have := ih (push1 room s a) hl h1
    rw [e, this.1, this.2]
    unfold push1 at hl ⊢
    split <;> simp <;> omega

theorem ring_lt {w : World} {rb sb room : Nat} {L : List Int} {lost : Nat} (h : RingIs w rb sb room L lost) : rb < w.heap.size ∧ sb < w.heap.size := by
  obtain ⟨_, _, h⟩ := h
  exact ⟨h.ring.lt, h.slots.lt⟩

theorem sl_new1 (w : World) (n : Int) (T : TypeId) : SlAt (w.alloc (.cells #[.int .i64 n] T)) (some ⟨w.heap.size, 0, none⟩) (ints [n]) := by
  intro j u hj
  match j, hj with
  | 0, hj => simp [ints] at hj; subst hj; simp
  | j + 1, hj => simp [ints] at hj

/-- A push of numbers that came in: their block is an old one, or there are none. -/
theorem push_ext (rb sb room : Nat) (L : List Int) (lost : Nat) (a : Option Addr) (cap : Nat) (zs : List Int) (w : World)
    (hr : RingIs w rb sb room L lost) (hz : SlAt w a (ints zs)) (ha : ∀ x, a = some x → zs ≠ [] → x.block < min rb sb) (hn : zs.length ≤ 1000000) (hl : lost ≤ 1000000000) :
    Calls Try.prog 10 #[.pointer (some ⟨rb, 0, none⟩), .slice a zs.length cap] w fun e w' =>
      e = .returned (.tuple #[]) ∧ RingIs w' rb sb room (pushAll room (L, lost) zs).1 (pushAll room (L, lost) zs).2 ∧ Touch (fun k => k = rb ∨ k = sb) w w' :=
  push_any rb sb room L lost a cap zs w hr hz (fun x hx hne => by have := ha x hx hne; omega) hn hl
theorem push_len (rb sb room : Nat) (L : List Int) (lost : Nat) (a : Option Addr) (len cap : Nat) (zs : List Int) (w : World) (h : zs.length = len)
    (hr : RingIs w rb sb room L lost) (hz : SlAt w a (ints zs)) (ha : ∀ x, a = some x → zs ≠ [] → x.block < min rb sb) (hn : zs.length ≤ 1000000) (hl : lost ≤ 1000000000) :
    Calls Try.prog 10 #[.pointer (some ⟨rb, 0, none⟩), .slice a len cap] w fun e w' =>
      e = .returned (.tuple #[]) ∧ RingIs w' rb sb room (pushAll room (L, lost) zs).1 (pushAll room (L, lost) zs).2 ∧ Touch (fun k => k = rb ∨ k = sb) w w' := by
  subst h
  exact push_ext rb sb room L lost a cap zs w hr hz ha hn hl

theorem same_len (a b : Option Addr) (la lb ca cb : Nat) (xs ys : List Int) (w : World) (h1 : xs.length = la) (h2 : ys.length = lb) (hx : SlAt w a (ints xs)) (hy : SlAt w b (ints ys)) (lx : xs.length ≤ 1000000) (ly : ys.length ≤ 1000000) :
    Calls Try.prog 15 #[.slice a la ca, .slice b lb cb] w fun e w' => e = .returned (.bool (decide (xs = ys))) ∧ Touch (fun _ => False) w w' := by
  subst h1 h2
  exact same_any a b ca cb xs ys w hx hy lx ly

theorem pushAll_last (r : Nat) (l : List Int) : ∀ (s : List Int × Nat), s.1.length ≤ r → 1 ≤ r →
    pushAll r s l = ((s.1 ++ l).drop ((s.1 ++ l).length - r), s.2 + ((s.1 ++ l).length - r)) := by
  induction l with
  | nil =>
    intro s h _
    have e : (s.1 ++ []).length - r = 0 := by simp; omega
    rw [e]; simp [pushAll]
  | cons a l ih =>
    intro s h h1
    have e : pushAll r s (a :: l) = pushAll r (push1 r s a) l := rfl
    have hl := push1_len r s a h1 h
    rw [e, ih (push1 r s a) hl h1]
    by_cases hf : s.1.length = r
    · have e2 : push1 r s a = (s.1.drop 1 ++ [a], s.2 + 1) := by simp [push1, hf]
      rw [e2]
      have e3 : (s.1 ++ a :: l).length - r = ((s.1.drop 1 ++ [a] ++ l).length - r) + 1 := by simp; omega
      rw [e3, show (List.drop 1 s.1 ++ [a] ++ l).length - r + 1 = 1 + ((List.drop 1 s.1 ++ [a] ++ l).length - r) from Nat.add_comm _ _, ← List.drop_drop]
      have e4 : (s.1 ++ a :: l).drop 1 = s.1.drop 1 ++ [a] ++ l := by
        rw [List.drop_append_of_le_length (by omega)]; simp
      rw [e4]
      simp only [Prod.mk.injEq, true_and]
      omega
    · have e2 : push1 r s a = (s.1 ++ [a], s.2) := by simp [push1, hf]
      rw [e2]
      simp

/-- Two rings that hold the same, and a slice; of what was there at wc only the two rings may have turned. -/
def Two (wc : World) (rb sb rb2 sb2 r : Nat) (LL : List Int) (lo : Nat) (a : Option Addr) (zs : List Int) (w : World) : Prop :=
  RingIs w rb sb r LL lo ∧ RingIs w rb2 sb2 r LL lo ∧ SlAt w a (ints zs) ∧ Touch (fun k => (k = rb ∨ k = sb) ∨ (k = rb2 ∨ k = sb2)) wc w

theorem Two.same {wc : World} {rb sb rb2 sb2 r : Nat} {LL : List Int} {lo : Nat} {a : Option Addr} {zs : List Int} {w w' : World} (h : Two wc rb sb rb2 sb2 r LL lo a zs w) (ht : Touch (fun _ => False) w w') : Two wc rb sb rb2 sb2 r LL lo a zs w' :=
  ⟨h.1.touch ht (fun h => h) (fun h => h), h.2.1.touch ht (fun h => h) (fun h => h), h.2.2.1.touch ht (fun _ _ _ h => h), h.2.2.2.trans (ht.mono (fun _ _ h => h.elim))⟩

/-- All's slice, read in every later world. -/
def Row (L : List Int) (a : Option Addr) (w : World) : Prop := SlAt w a (ints L)

theorem two_all1 {wc : World} {rb sb rb2 sb2 r : Nat} {LL : List Int} {lo : Nat} {a : Option Addr} {zs : List Int} {w : World} (h : Two wc rb sb rb2 sb2 r LL lo a zs w) :
    Calls Try.prog 14 #[.pointer (some ⟨rb, 0, none⟩)] w fun e w' => ∃ a1 c1, e = .returned (.slice a1 LL.length c1) ∧ SlAt w' a1 (ints LL) ∧ Touch (fun _ => False) w w' ∧ Two wc rb sb rb2 sb2 r LL lo a zs w' := by
  refine (all_any rb sb r LL lo w h.1).mono ?_
  rintro e w' ⟨v, rfl, hown, hb⟩
  have ho := hown
  obtain ⟨a1, c1, rfl, -, -, -, -⟩ := owns_form ho
  refine ⟨a1, c1, by rw [ints_length], SlAt.of_owns hown, Touch.of_below hb, h.same (Touch.of_below hb)⟩

theorem two_all2 {wc : World} {rb sb rb2 sb2 r : Nat} {LL : List Int} {lo : Nat} {a : Option Addr} {zs : List Int} {w : World} (h : Two wc rb sb rb2 sb2 r LL lo a zs w) :
    Calls Try.prog 14 #[.pointer (some ⟨rb2, 0, none⟩)] w fun e w' => ∃ a1 c1, e = .returned (.slice a1 LL.length c1) ∧ SlAt w' a1 (ints LL) ∧ Touch (fun _ => False) w w' ∧ Two wc rb sb rb2 sb2 r LL lo a zs w' := by
  refine (all_any rb2 sb2 r LL lo w h.2.1).mono ?_
  rintro e w' ⟨v, rfl, hown, hb⟩
  have ho := hown
  obtain ⟨a1, c1, rfl, -, -, -, -⟩ := owns_form ho
  refine ⟨a1, c1, by rw [ints_length], SlAt.of_owns hown, Touch.of_below hb, h.same (Touch.of_below hb)⟩

theorem two_same {wc : World} {rb sb rb2 sb2 r : Nat} {LL : List Int} {lo : Nat} {a : Option Addr} {zs : List Int} {w : World} (h : Two wc rb sb rb2 sb2 r LL lo a zs w)
    (x y : Option Addr) (la lb ca cb : Nat) (X : List Int) (h1 : X.length = la) (h2 : X.length = lb) (hx : SlAt w x (ints X)) (hy : SlAt w y (ints X)) (hl : X.length ≤ 1000000) :
    Calls Try.prog 15 #[.slice x la ca, .slice y lb cb] w fun e w' => e = .returned (.bool true) ∧ Touch (fun _ => False) w w' ∧ Two wc rb sb rb2 sb2 r LL lo a zs w' := by
  refine (same_len x y la lb ca cb X X w h1 h2 hx hy hl hl).mono ?_
  rintro e w' ⟨rfl, ht⟩
  exact ⟨by simp, ht, h.same ht⟩

theorem lastOf_snoc (L : List Int) (n : Int) : lastOf (L ++ [n]) = n := by simp [lastOf]
theorem ints_drop (xs : List Int) (k : Nat) : (ints xs).drop k = ints (xs.drop k) := by simp [ints]
theorem ints_take (xs : List Int) (k : Nat) : (ints xs).take k = ints (xs.take k) := by simp [ints]
end Go.Proofs.Ythhjfoolijiacaa
