/-
  THE WALKS over package ring (layer 8): what New, Push, All, Len, Lost and Last do to a ring that the call itself has made.
-/
import Derived.Test.YthhjfoolijiacaaRows
import Derived.Test.YthhjfoolijiacaaKit
namespace Go.Proofs.Ythhjfoolijiacaa
open Go.RowKit

/-- One number is pushed: the oldest one goes if there is no room. -/
def push1 (room : Nat) (s : List Int × Nat) (n : Int) : List Int × Nat := if s.1.length = room then (s.1.drop 1 ++ [n], s.2 + 1) else (s.1 ++ [n], s.2)
def pushAll (room : Nat) (s : List Int × Nat) (l : List Int) : List Int × Nat := l.foldl (push1 room) s

theorem push1_len (room : Nat) (s : List Int × Nat) (n : Int) (h1 : 1 ≤ room) (h : s.1.length ≤ room) : (push1 room s n).1.length ≤ room := by
  unfold push1; split <;> simp <;> omega
theorem push1_lost (room : Nat) (s : List Int × Nat) (n : Int) : (push1 room s n).2 ≤ s.2 + 1 := by
  unfold push1; split <;> simp

theorem pushAll_snoc (room : Nat) (s : List Int × Nat) (l : List Int) (n : Int) : pushAll room s (l ++ [n]) = push1 room (pushAll room s l) n := by
  simp [pushAll]
theorem pushAll_append (room : Nat) (s : List Int × Nat) (l m : List Int) : pushAll room s (l ++ m) = pushAll room (pushAll room s l) m := by
  simp [pushAll]

theorem take_snoc' (zs : List Int) {k : Nat} (h : k < zs.length) : zs.take (k + 1) = zs.take k ++ [zs.getD k 0] := by
  rw [List.take_succ_eq_append_getElem h]
  simp [List.getD, h]

/-- A ring at block rb, its numbers at block sb: it holds L, the oldest one first; lost are gone. -/
structure RingHas (w : World) (rb sb room : Nat) (xs : List Int) (frm : Nat) (L : List Int) (lost : Nat) : Prop where
  ring : Blk w rb 40 #[.slice (some ⟨sb, 0, none⟩) room room, .int .i64 frm, .int .i64 L.length, .int .i64 lost]
  slots : Blk w sb 3 (ints xs).toArray
  ne : rb ≠ sb
  len : xs.length = room
  room1 : 1 ≤ room
  room64 : room ≤ 64
  frmlt : frm < room
  held : L.length ≤ room
  same : ∀ k, k < L.length → L.getD k 0 = xs.getD ((frm + k) % room) 0

def RingIs (w : World) (rb sb room : Nat) (L : List Int) (lost : Nat) : Prop := ∃ xs frm, RingHas w rb sb room xs frm L lost

theorem RingIs.touch {w w' : World} {rb sb room : Nat} {L : List Int} {lost : Nat} (h : RingIs w rb sb room L lost) {S : Nat → Prop} (ht : Touch S w w') (h1 : ¬ S rb) (h2 : ¬ S sb) : RingIs w' rb sb room L lost := by
  obtain ⟨xs, frm, h⟩ := h
  exact ⟨xs, frm, h.ring.touch ht h1, h.slots.touch ht h2, h.ne, h.len, h.room1, h.room64, h.frmlt, h.held, h.same⟩

/-- A ring's blocks, one number laid at place j. -/
theorem RingHas.laid {w : World} {rb sb room : Nat} {xs : List Int} {frm held lost j : Nat} {L : List Int} {n : Int}
    (hr : Blk w rb 40 #[.slice (some ⟨sb, 0, none⟩) room room, .int .i64 frm, .int .i64 (held + 1), .int .i64 lost]) (hs : Blk w sb 3 (ints (xs.set j n)).toArray)
    (ne : rb ≠ sb) (len : xs.length = room) (r1 : 1 ≤ room) (r64 : room ≤ 64) (hf : frm < room) (hh : held < room) (hL : L.length = held) (hj : j = (frm + held) % room)
    (same : ∀ k, k < held → L.getD k 0 = xs.getD ((frm + k) % room) 0) : RingHas w rb sb room (xs.set j n) frm (L ++ [n]) lost := by
  refine ⟨?_, hs, ne, by simpa using len, r1, r64, hf, by simp; omega, ?_⟩
  · simpa [hL] using hr
  · intro k hk
    simp at hk
    have hjr : j < room := by subst hj; exact Nat.mod_lt _ (by omega)
    by_cases hk' : k < held
    · have h1 := same k hk'
      have hne : (frm + k) % room ≠ j := by
        subst hj
        intro e
        have a1 : (frm + k) % room = if frm + k < room then frm + k else frm + k - room := by
          split
          · exact Nat.mod_eq_of_lt ‹_›
          · rw [Nat.mod_eq_sub_mod (by omega)]; exact Nat.mod_eq_of_lt (by omega)
        have a2 : (frm + held) % room = if frm + held < room then frm + held else frm + held - room := by
          split
          · exact Nat.mod_eq_of_lt ‹_›
          · rw [Nat.mod_eq_sub_mod (by omega)]; exact Nat.mod_eq_of_lt (by omega)
        rw [a1, a2] at e
        split at e <;> split at e <;> omega
      rw [List.getD_eq_getElem?_getD, List.getElem?_append_left (by omega), ← List.getD_eq_getElem?_getD, h1]
      simp only [List.getD_eq_getElem?_getD, List.getElem?_set]
      rw [if_neg (fun e => hne e.symm)]
    · have : k = held := by omega
      subst this
      rw [← hj]
      simp [List.getD_eq_getElem?_getD, hL, len, hjr]

theorem ring_drop {xs L : List Int} {frm room : Nat} (hL : L.length = room) (same : ∀ k, k < L.length → L.getD k 0 = xs.getD ((frm + k) % room) 0) :
    ∀ k, k < room - 1 → (L.drop 1).getD k 0 = xs.getD (((frm + 1) % room + k) % room) 0 := by
  intro k hk
  have h := same (1 + k) (by omega)
  rw [show (L.drop 1).getD k 0 = L.getD (1 + k) 0 by simp [List.getD_eq_getElem?_getD, Nat.add_comm], h, Nat.mod_add_mod]
  congr 2
  omega

set_option maxHeartbeats 1000000 in
theorem push_any (rb sb room : Nat) (L : List Int) (lost : Nat) (a : Option Addr) (cap : Nat) (zs : List Int) (w : World)
    (hr : RingIs w rb sb room L lost) (hz : SlAt w a (ints zs)) (ha : ∀ x, a = some x → zs ≠ [] → x.block ≠ rb ∧ x.block ≠ sb) (hn : zs.length ≤ 1000000) (hl : lost ≤ 1000000000) :
    Calls Try.prog 10 #[.pointer (some ⟨rb, 0, none⟩), .slice a zs.length cap] w fun e w' =>
      e = .returned (.tuple #[]) ∧ RingIs w' rb sb room (pushAll room (L, lost) zs).1 (pushAll room (L, lost) zs).2 ∧ Touch (fun k => k = rb ∨ k = sb) w w' := by
  obtain ⟨xs0, frm0, hr0⟩ := hr
  have c0 := hr0.ring.cell 0 rfl
  go_enter Try.func10, Try.ntmps10
  go_wp2
  go_loopw [14] (fun i wr => ∃ k : Nat, k ≤ zs.length ∧ i = .int .i64 k ∧ (∃ L' lost', lost' ≤ lost + k ∧ pushAll room (L, lost) (zs.take k) = (L', lost') ∧ ∃ xs frm, RingHas wr rb sb room xs frm L' lost') ∧ SlAt wr a (ints zs) ∧ Touch (fun k => k = rb ∨ k = sb) w wr) (fun i _ => zs.length - (intOf i).toNat)
  case atStart => exact ⟨0, Nat.zero_le _, rfl, ⟨L, lost, Nat.le_refl _, by simp [pushAll], xs0, frm0, hr0⟩, hz, Touch.refl _ _⟩
  case round =>
    clear hz c0 hr0
    obtain ⟨k, hk, rfl, ⟨L', lost', hlost, hpush, xs, frm, hr⟩, hz, ht⟩ := hrel
    have HP := Lib.hid hpush; clear hpush
    have hfr := hr.frmlt
    have hro := hr.room1
    have hro4 := hr.room64
    have hhe := hr.held
    by_cases hlt : k < zs.length
    · obtain ⟨b, off, ea, hc⟩ := hz.get (ints_at zs hlt)
      · subst ea
        have HA := Lib.hid (ha _ rfl (by rintro rfl; simp at hlt)); clear ha
        have HZ := Lib.hid hz; clear hz
        generalize hvk : zs.getD k 0 = v at hc
        have HV := Lib.hid hvk; clear hvk
        have c0 : wr.cell? ⟨rb, 0, none⟩ = some (.slice (some ⟨sb, 0, none⟩) room room) := hr.ring.cell 0 rfl
        have c1 : wr.cell? ⟨rb, 1, none⟩ = some (.int .i64 frm) := hr.ring.cell 1 rfl
        have c2 : wr.cell? ⟨rb, 2, none⟩ = some (.int .i64 L'.length) := hr.ring.cell 2 rfl
        have c3 : wr.cell? ⟨rb, 3, none⟩ = some (.int .i64 lost') := hr.ring.cell 3 rfl
        have f1 := hr.ring.frozen 1
        have f2 := hr.ring.frozen 2
        have f3 := hr.ring.frozen 3
        have step : ∃ (L2 : List Int) (held2 lost2 frm2 : Nat), held2 < room ∧ lost2 ≤ lost' + 1 ∧ frm2 < room ∧ L2.length = held2 ∧ push1 room (L', lost') v = (L2 ++ [v], lost2) ∧
            (∀ k, k < held2 → L2.getD k 0 = xs.getD ((frm2 + k) % room) 0) ∧
            ((↑L'.length == (↑room : Int)) = true ∧ frm2 = (frm + 1) % room ∧ held2 = room - 1 ∧ lost2 = lost' + 1 ∨ (↑L'.length == (↑room : Int)) = false ∧ frm2 = frm ∧ held2 = L'.length ∧ lost2 = lost') := by
          by_cases hfull : L'.length = room
          · refine ⟨L'.drop 1, room - 1, lost' + 1, (frm + 1) % room, by omega, by omega, Nat.mod_lt _ (by omega), by simp [hfull], by simp [push1, hfull], ring_drop hfull hr.same, .inl ⟨by simp [hfull], rfl, rfl, rfl⟩⟩
          · refine ⟨L', L'.length, lost', frm, by omega, by omega, hfr, rfl, by simp [push1, hfull], hr.same, .inr ⟨by simp; omega, rfl, rfl, rfl⟩⟩
        obtain ⟨L2, held2, lost2, frm2, hh2, hl2, hf2, hL2, hp2, hsame, hcase⟩ := step
        have H1 := Lib.hid (And.intro hL2 (And.intro hp2 hsame)); clear hL2 hp2 hsame
        have HR := Lib.hid hr; clear hr
        rcases hcase with ⟨hff, e1, e2, e3⟩ | ⟨hff, e1, e2, e3⟩
        all_goals (have HE := Lib.hid (And.intro e1 (And.intro e2 e3)); clear e1 e2 e3)
        all_goals go_wp2
        focus
          go_region
          go_wp2
        refine wp_world (fun w2 => Blk w2 rb 40 #[.slice (some ⟨sb, 0, none⟩) room room, .int .i64 frm2, .int .i64 held2, .int .i64 lost2] ∧ Blk w2 sb 3 (ints xs).toArray ∧ Touch (fun k => k = rb ∨ k = sb) wr w2) ?_ ?_
        · obtain ⟨e1, e2, e3⟩ := HE.out
          have hr := HR.out
          refine ⟨?_, ((hr.slots.set_ne (Ne.symm hr.ne) _).set_ne (Ne.symm hr.ne) _).set_ne (Ne.symm hr.ne) _, Touch.drew (Touch.setCell (Touch.setCell (Touch.setCell (Touch.refl _ _) (fun _ => Or.inl rfl) _) (fun _ => Or.inl rfl) _) (fun _ => Or.inl rfl) _)⟩
          have h := ((hr.ring.set 1 (.int .i64 ((↑frm + 1) % ↑room))).set 2 (.int .i64 (↑L'.length - 1))).set 3 (.int .i64 (↑lost' + 1))
          have hl0 : (L'.length : Int) = room := by simpa using hff
          simp at h
          rw [e1, e2, e3]
          have a1 : (((frm + 1) % room : Nat) : Int) = (↑frm + 1) % ↑room := by simp
          have a2 : ((room - 1 : Nat) : Int) = (L'.length : Int) - 1 := by omega
          rw [a1, a2]
          exact h
        rotate_left
        refine wp_world (fun w2 => Blk w2 rb 40 #[.slice (some ⟨sb, 0, none⟩) room room, .int .i64 frm2, .int .i64 held2, .int .i64 lost2] ∧ Blk w2 sb 3 (ints xs).toArray ∧ Touch (fun k => k = rb ∨ k = sb) wr w2) ?_ ?_
        · obtain ⟨rfl, rfl, rfl⟩ := HE.out
          exact ⟨HR.out.ring, HR.out.slots, Touch.refl _ _⟩
        all_goals
          clear c0 c1 c2 c3 f1 f2 f3 hc hff HE
          intro w2 ⟨hrb, hsb, ht2⟩
          have c0 : w2.cell? ⟨rb, 0, none⟩ = some (.slice (some ⟨sb, 0, none⟩) room room) := hrb.cell 0 rfl
          have c1 : w2.cell? ⟨rb, 1, none⟩ = some (.int .i64 frm2) := hrb.cell 1 rfl
          have c2 : w2.cell? ⟨rb, 2, none⟩ = some (.int .i64 held2) := hrb.cell 2 rfl
          have f2 := hrb.frozen 2
          obtain ⟨j, hj⟩ : ∃ j, j = (frm2 + held2) % room := ⟨_, rfl⟩
          have hjl : j < room := by subst hj; exact Nat.mod_lt _ (by omega)
          have ej : ((frm2 : Int) + held2) % room = j := by subst hj; simp
          have HJ := Lib.hid hj; clear hj
          have cj : w2.cell? ⟨sb, j, none⟩ = some (.int .i64 (xs.getD j 0)) := hsb.cell j (ints_arr_at xs (by have := HR.out.len; omega))
          have fj := hsb.frozen j
          have HB := Lib.hid (And.intro hrb hsb)
          have hne : ¬ sb = rb := fun e => HR.out.ne e.symm
          clear hrb hsb
          go_region
          go_wp2
          go_roundw
          case rel =>
            obtain ⟨hrb, hsb⟩ := HB.out
            obtain ⟨a1, a2, a3⟩ := H1.out
            have tw : Touch (fun k => k = rb ∨ k = sb) wr ((w2.setCell ⟨sb, j, none⟩ (.int .i64 v)).setCell ⟨rb, 2, none⟩ (.int .i64 (↑held2 + 1))).drew :=
              Touch.drew (Touch.setCell (Touch.setCell ht2 (fun _ => Or.inr rfl) _) (fun _ => Or.inl rfl) _)
            refine ⟨k + 1, by omega, by go_num, ⟨L2 ++ [v], lost2, by omega, ?_, xs.set j v, frm2, ?_⟩, HZ.out.touch tw (fun x hx _ => ?_), ht.trans tw⟩
            · rw [take_snoc' zs hlt, pushAll_snoc, HP.out, HV.out, a2]
            · refine RingHas.laid ?_ ?_ HR.out.ne HR.out.len hro hro4 hf2 hh2 a1 HJ.out a3
              · have h := (hrb.set_ne (a := ⟨sb, j, none⟩) HR.out.ne (.int .i64 v)).set 2 (.int .i64 (↑held2 + 1))
                simp at h
                exact h
              · have h := (hsb.set j (.int .i64 v)).set_ne (a := ⟨rb, 2, none⟩) (Ne.symm HR.out.ne) (.int .i64 (↑held2 + 1))
                rw [ints_set] at h
                exact h
            · cases hx
              have := HA.out
              simp
              exact this
          case measure => simp [intOf]; omega
    · have hk' : k = zs.length := by omega
      go_wp2
      go_end0
      refine ⟨rfl, ?_, ht⟩
      have := HP.out
      rw [hk', List.take_length] at this
      rw [this]
      exact ⟨xs, frm, hr⟩

/-! ### New, and what is asked -/
theorem Try.info3 : (Try.prog.info? 3).map (fun i => (i.zero, i.size, i.bytes)) = some (some (.int .i64 0), 1, 8) := by kernel_rfl

/-- A new ring has come. -/
def NewRing (w : World) (n : Nat) (e : Ending) (w' : World) : Prop :=
  ∃ rb sb, e = .returned (.pointer (some ⟨rb, 0, none⟩)) ∧ w.heap.size ≤ rb ∧ w.heap.size ≤ sb ∧ RingIs w' rb sb n [] 0 ∧ Below w.heap.size w w'

theorem newRing_of {w w1 : World} {n : Nat} (h1 : 1 ≤ n) (h64 : n ≤ 64) (hown : w1.ownsRow w.heap.size 3 1 (.slice (some ⟨w.heap.size, 0, none⟩) n n) n (List.replicate n (.int .i64 0))) (hg : w.grownBy w1 none) :
    NewRing w n (.returned (.pointer (some ⟨w1.heap.size, 0, none⟩))) (w1.alloc (.cells #[.slice (some ⟨w.heap.size, 0, none⟩) n n, .int .i64 0, .int .i64 0, .int .i64 0] 40)) := by
  have hb := owns_blk hown
  refine ⟨w1.heap.size, w.heap.size, rfl, hg.size, Nat.le_refl _, ⟨List.replicate n 0, 0, Blk.new _ _ _, ?_, Nat.ne_of_gt hb.lt, by simp, h1, h64, h1, by simp, by simp⟩, ?_⟩
  · have : (List.replicate n (Value.int .i64 0)) = ints (List.replicate n 0) := by simp [ints]
    rw [this] at hb
    exact hb.alloc _
  · exact ((Below.refl _ _).grown hg (Nat.le_refl _) (fun _ h => by cases h)).alloc hg.size _

set_option maxHeartbeats 1000000 in
theorem new_any (room : Int) (w : World) : Calls Try.prog 8 #[.int .i64 room] w (NewRing w (min (max room 1) 64).toNat) := by
  obtain ⟨i0, hi, hz0, hz1, hz2⟩ := info_parts Try.info3
  obtain ⟨n, hn⟩ : ∃ n, n = (min (max room 1) 64).toNat := ⟨_, rfl⟩
  rw [← hn]
  have HN := Lib.hid hn
  have h1 : 1 ≤ n := by omega
  have h64 : n ≤ 64 := by omega
  have hc : room < 1 ∧ (n : Int) = 1 ∨ 1 ≤ room ∧ room ≤ 64 ∧ (n : Int) = room ∨ 64 < room ∧ (n : Int) = 64 := by omega
  clear hn
  rcases hc with ⟨k1, k2⟩ | ⟨k1, k3, k2⟩ | ⟨k1, k2⟩
  all_goals
    have HK := Lib.hid k2
    clear k2
    go_enter Try.func8, Try.ntmps8
    go_wp2_with (at_make; refine wpList_make_full _ rfl _ _ 28 rfl w.heap.size 3 i0 (.int .i64 0) 1 Try.underlying28 hi hz0 hz1 .i64 .i64 _ _ n rfl rfl HK.out.symm HK.out.symm (by rw [hz2]; omega) (by unfold maxLen; omega) (Nat.le_refl _) ?_; intro w1 hown hgrow)
    go_ret
    exact newRing_of h1 h64 (by rw [Nat.mul_one] at hown; have e := toList_madeCells_one (.int .i64 0) n; simp only [Value.cells] at hown; rw [e] at hown; exact hown) hgrow

theorem len_any (rb sb room : Nat) (L : List Int) (lost : Nat) (w : World) (hr : RingIs w rb sb room L lost) :
    Calls Try.prog 17 #[.pointer (some ⟨rb, 0, none⟩)] w fun e w' => e = .returned (.int .i64 L.length) ∧ w = w' := by
  obtain ⟨xs, frm, hr⟩ := hr
  have c2 : w.cell? ⟨rb, 2, none⟩ = some (.int .i64 L.length) := hr.ring.cell 2 rfl
  go_enter Try.func17, Try.ntmps17
  go_wp2
  go_ret
  exact ⟨rfl, rfl⟩

theorem lost_any (rb sb room : Nat) (L : List Int) (lost : Nat) (w : World) (hr : RingIs w rb sb room L lost) :
    Calls Try.prog 19 #[.pointer (some ⟨rb, 0, none⟩)] w fun e w' => e = .returned (.int .i64 lost) ∧ w = w' := by
  obtain ⟨xs, frm, hr⟩ := hr
  have c3 : w.cell? ⟨rb, 3, none⟩ = some (.int .i64 lost) := hr.ring.cell 3 rfl
  go_enter Try.func19, Try.ntmps19
  go_wp2
  go_ret
  exact ⟨rfl, rfl⟩

/-- The newest number, and whether there is one. -/
def lastOf (L : List Int) : Int := L.getD (L.length - 1) 0

theorem last_any (rb sb room : Nat) (L : List Int) (lost : Nat) (w : World) (hr : RingIs w rb sb room L lost) :
    Calls Try.prog 12 #[.pointer (some ⟨rb, 0, none⟩)] w fun e w' => e = .returned (.tuple #[.int .i64 (lastOf L), .bool (!L.isEmpty)]) ∧ Touch (fun _ => False) w w' := by
  obtain ⟨xs, frm, hr⟩ := hr
  have c0 : w.cell? ⟨rb, 0, none⟩ = some (.slice (some ⟨sb, 0, none⟩) room room) := hr.ring.cell 0 rfl
  have c1 : w.cell? ⟨rb, 1, none⟩ = some (.int .i64 frm) := hr.ring.cell 1 rfl
  have c2 : w.cell? ⟨rb, 2, none⟩ = some (.int .i64 L.length) := hr.ring.cell 2 rfl
  by_cases h0 : L.length = 0
  · have hL : L = [] := List.eq_nil_of_length_eq_zero h0
    subst hL
    go_enter Try.func12, Try.ntmps12
    go_wp2
    go_ret2
    exact ⟨rfl, Touch.refl _ _⟩
  · have h0' : ((L.length : Int) == 0) = false := by simp; intro h; apply h0; simp [h]
    obtain ⟨j, hj⟩ : ∃ j, j = (frm + (L.length - 1)) % room := ⟨_, rfl⟩
    have r1 := hr.room1
    have r64 := hr.room64
    have hf := hr.frmlt
    have hh := hr.held
    have hjl : j < room := by subst hj; exact Nat.mod_lt _ (by omega)
    have ej : ((frm : Int) + L.length - 1) % room = j := by subst hj; rw [Int.natCast_emod]; congr 1; omega
    have cj : w.cell? ⟨sb, j, none⟩ = some (.int .i64 (lastOf L)) := by
      rw [hr.slots.cell j (ints_arr_at xs (by have := hr.len; omega))]
      rw [lastOf, hr.same _ (by omega), hj]
    have hl1 : 1 ≤ L.length := by omega
    have HH := Lib.hid (And.intro hr (And.intro h0 hj))
    clear hr h0 hj
    go_enter Try.func12, Try.ntmps12
    go_wp2
    go_quiet (fail)
    go_wp2
    go_ret2
    refine ⟨?_, (Touch.refl _ _).drewN _⟩
    have : L.isEmpty = false := by cases L with
      | nil => simp at hl1
      | cons a l => rfl
    rw [this]
    rfl

set_option maxHeartbeats 1000000 in
theorem all_any (rb sb room : Nat) (L : List Int) (lost : Nat) (w : World) (hr : RingIs w rb sb room L lost) :
    Calls Try.prog 14 #[.pointer (some ⟨rb, 0, none⟩)] w (Made 3 (ints L) w) := by
  obtain ⟨i0, hi, hz0, hz1, hz2⟩ := info_parts Try.info3
  obtain ⟨xs, frm, hr⟩ := hr
  have c2 : w.cell? ⟨rb, 2, none⟩ = some (.int .i64 L.length) := hr.ring.cell 2 rfl
  have hrb := hr.ring.lt
  have hsb := hr.slots.lt
  have hh := hr.held
  have hf := hr.frmlt
  have r1 := hr.room1
  have r64 := hr.room64
  go_enter Try.func14, Try.ntmps14
  go_wp2
  go_loopw [3, 9] (fun o i wr => ∃ k : Nat, k ≤ L.length ∧ i = .int .i64 k ∧ wr.ownsRow w.heap.size 3 1 o k (ints (L.take k)) ∧ Below w.heap.size w wr) (fun _ i _ => L.length - (intOf i).toNat)
  case atStart => exact ⟨0, Nat.zero_le _, rfl, by simpa [ints] using World.ownsRow_nil w _ _ _, Below.refl _ _⟩
  case round =>
    obtain ⟨k, hk, rfl, hown, hb⟩ := hrel
    by_cases hlt : k < L.length
    · have ht : Touch (fun _ => False) w wr := ⟨hb.os, hb.tape, hb.output, hb.size, fun k hk _ => hb.block k hk⟩
      have hR := hr.ring.touch ht (fun h => h)
      have hS := hr.slots.touch ht (fun h => h)
      have d0 : wr.cell? ⟨rb, 0, none⟩ = some (.slice (some ⟨sb, 0, none⟩) room room) := hR.cell 0 rfl
      have d1 : wr.cell? ⟨rb, 1, none⟩ = some (.int .i64 frm) := hR.cell 1 rfl
      obtain ⟨j, hj⟩ : ∃ j, j = (frm + k) % room := ⟨_, rfl⟩
      have hjl : j < room := by subst hj; exact Nat.mod_lt _ (by omega)
      have ej : ((frm : Int) + k) % room = j := by subst hj; simp
      obtain ⟨v, hv⟩ : ∃ v, v = L.getD k 0 := ⟨_, rfl⟩
      have cj : wr.cell? ⟨sb, j, none⟩ = some (.int .i64 v) := by
        rw [hS.cell j (ints_arr_at xs (by have := hr.len; omega)), hv, hr.same k hlt, hj]
      have ew : IntKind.i64.wrap ((frm : Int) + k) = (frm : Int) + k := IntWalk.i64_in _ (by omega)
      have et : ((frm : Int) + k).tmod room = j := by rw [Int.tmod_eq_emod_of_nonneg (by omega)]; exact ej
      have hr0 : ¬ room = 0 := by omega
      clear ej
      have HH := Lib.hid (And.intro hr (And.intro hj (And.intro hv (And.intro hown hb))))
      clear hr hj hv hR hS c2 hown hb
      go_wp2
      obtain ⟨hown, hb⟩ := HH.out.2.2.2
      have hj0 : (0 : Int) ≤ j := by omega
      have hj1 : (j : Int) < room := by omega
      have hw := hb.size
      have nr : some rb ≠ u3.ownBlock := fun e => by have := (hown.lt rb e.symm).1; omega
      have ns : some sb ≠ u3.ownBlock := fun e => by have := (hown.lt sb e.symm).1; omega
      go_region_held3 (fun w' => w'.cell? ⟨rb, 0, none⟩ = some (.slice (some ⟨sb, 0, none⟩) room room) ∧ w'.cell? ⟨rb, 1, none⟩ = some (.int .i64 frm) ∧ w'.cell? ⟨sb, j, none⟩ = some (.int .i64 v))
        (first
          | go_keep
          | exact ⟨q0, q1, q2⟩)
        ((refine step_append_one rfl (.tmp 12) (.tmp 31) 28 rfl w.heap.size 3 i0 (.int .i64 0) 8 Try.underlying28 hi hz0 hz1 hz2 rfl u3 k (ints (L.take k)) rfl (hown.alloc _) wr.heap.size (.int .i64 v) rfl (by go_simp) rfl (by unfold maxLen; omega) (by omega) (by simp; omega) ?_
          intro v' w' hown' hgrow'
          have q0 := hgrow'.cell (a := ⟨rb, 0, none⟩) (v := .slice (some ⟨sb, 0, none⟩) room room) (by go_keep) nr
          have q1 := hgrow'.cell (a := ⟨rb, 1, none⟩) (v := .int .i64 frm) (by go_keep) nr
          have q2 := hgrow'.cell (a := ⟨sb, j, none⟩) (v := .int .i64 v) (by go_keep) ns))
      go_wp2
      go_roundw
      case rel =>
        obtain ⟨hr, hj, hv, _⟩ := HH.out
        refine ⟨k + 1, by omega, by go_num, ?_, ?_⟩
        · rw [take_snoc' L hlt, ints_append, ← hv]
          exact hown'
        · exact (hb.alloc hb.size _).drew.grown hgrow' (by simp; omega) (fun k hk => (hown.lt k hk).1)
      case measure => simp [intOf]; omega
    · have hk' : k = L.length := by omega
      go_wp2
      go_ret
      subst hk'
      rw [List.take_length] at hown
      exact ⟨_, rfl, by simpa using hown, hb⟩
end Go.Proofs.Ythhjfoolijiacaa
