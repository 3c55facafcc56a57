/-
  THE WALKS over the document's own ring (nightjarref08.Ring): New, Push, All, Len, Last, Lost.
-/
import Derived.Test.YthhjfoolijiacaaRows
import Derived.Test.YthhjfoolijiacaaRingRef
import Derived.Test.YthhjfoolijiacaaRingPlain
import Derived.Deep.DeepCutAuto
namespace Go.Proofs.Ythhjfoolijiacaa
open Go.RowKit

/-- An empty slice in a block of its own. -/
theorem owns_empty {w : World} {base g : Nat} {e : TypeId} (hb : base ≤ g) (h : Blk w g e #[]) : w.ownsRow base e 1 (.slice (some ⟨g, 0, none⟩) 0 0) 0 [] :=
  ⟨by simp, .inr ⟨g, 0, #[], rfl, hb, h, Nat.le_refl _, Nat.zero_le _, rfl, rfl⟩⟩

/-- The document's ring at block qb: it holds L, in a slice whose block is from base on and is not qb. -/
structure RefHas (w : World) (qb base room : Nat) (sa : Option Addr) (cap : Nat) (L : List Int) (gone : Nat) : Prop where
  ring : Blk w qb 42 #[.slice sa L.length cap, .int .i64 room, .int .i64 gone]
  cells : SlAt w sa (ints L)
  nil : sa = none → cap = 0
  le : L.length ≤ cap
  cap : cap ≤ maxLen
  apart : ∀ x, sa = some x → x.block ≠ qb ∧ base ≤ x.block ∧ x.block < w.heap.size
  room1 : 1 ≤ room
  room64 : room ≤ 64
  held : L.length ≤ room

def RefIs (w : World) (qb base room : Nat) (L : List Int) (gone : Nat) : Prop := ∃ sa cap, RefHas w qb base room sa cap L gone

theorem RefIs.touch {w w' : World} {qb base room : Nat} {L : List Int} {gone : Nat} (h : RefIs w qb base room L gone) {S : Nat → Prop} (ht : Touch S w w') (h1 : ¬ S qb) (h2 : ∀ k, base ≤ k → k < w.heap.size → ¬ S k) : RefIs w' qb base room L gone := by
  obtain ⟨sa, cap, h⟩ := h
  exact ⟨sa, cap, h.ring.touch ht h1, h.cells.touch ht (fun x hx _ => h2 _ (h.apart x hx).2.1 (h.apart x hx).2.2), h.nil, h.le, h.cap,
    fun x hx => ⟨(h.apart x hx).1, (h.apart x hx).2.1, Nat.lt_of_lt_of_le (h.apart x hx).2.2 ht.size⟩, h.room1, h.room64, h.held⟩

def NewRef (w : World) (n : Nat) (e : Ending) (w' : World) : Prop :=
  ∃ qb, e = .returned (.pointer (some ⟨qb, 0, none⟩)) ∧ w.heap.size ≤ qb ∧ RefIs w' qb w.heap.size n [] 0 ∧ Below w.heap.size w w'

theorem refNew_any (room : Int) (w : World) : Calls Try.prog 9 #[.int .i64 room] w (NewRef w (min (max room 1) 64).toNat) := by
  obtain ⟨n, hn⟩ : ∃ n, n = (min (max room 1) 64).toNat := ⟨_, rfl⟩
  rw [← hn]
  have hc : room ≤ 1 ∧ (n : Int) = 1 ∨ 1 < room ∧ room ≤ 64 ∧ (n : Int) = room ∨ 64 < room ∧ (n : Int) = 64 := by omega
  have h1 : 1 ≤ n := by omega
  have h64 : n ≤ 64 := by omega
  clear hn
  rcases hc with ⟨k1, k2⟩ | ⟨k1, k3, k2⟩ | ⟨k1, k2⟩
  all_goals
    have HK := Lib.hid k2
    clear k2
    go_enter Try.func9, Try.ntmps9
    go_wp2
    go_ret
    refine ⟨w.heap.size, rfl, Nat.le_refl _, ⟨none, 0, ?_, rfl, fun _ => rfl, Nat.le_refl _, Nat.zero_le _, fun x h => (by cases h), h1, h64, (by simp)⟩, (Below.refl _ _).alloc (Nat.le_refl _) _⟩
    show Blk _ _ _ #[.slice none 0 0, .int .i64 n, .int .i64 0]
    rw [HK.out]
    exact Blk.new w _ _

theorem refLen_any (qb base room : Nat) (L : List Int) (gone : Nat) (w : World) (hr : RefIs w qb base room L gone) :
    Calls Try.prog 18 #[.pointer (some ⟨qb, 0, none⟩)] w fun e w' => e = .returned (.int .i64 L.length) ∧ w = w' := by
  obtain ⟨sa, cap, hr⟩ := hr
  have c0 : w.cell? ⟨qb, 0, none⟩ = some (.slice sa L.length cap) := hr.ring.cell 0 rfl
  go_enter Try.func18, Try.ntmps18
  go_wp2
  go_ret
  exact ⟨rfl, rfl⟩

theorem refLost_any (qb base room : Nat) (L : List Int) (gone : Nat) (w : World) (hr : RefIs w qb base room L gone) :
    Calls Try.prog 20 #[.pointer (some ⟨qb, 0, none⟩)] w fun e w' => e = .returned (.int .i64 gone) ∧ w = w' := by
  obtain ⟨sa, cap, hr⟩ := hr
  have c2 : w.cell? ⟨qb, 2, none⟩ = some (.int .i64 gone) := hr.ring.cell 2 rfl
  go_enter Try.func20, Try.ntmps20
  go_wp2
  go_ret
  exact ⟨rfl, rfl⟩

theorem refLast_any (qb base room : Nat) (L : List Int) (gone : Nat) (w : World) (hr : RefIs w qb base room L gone) :
    Calls Try.prog 13 #[.pointer (some ⟨qb, 0, none⟩)] w fun e w' => e = .returned (.tuple #[.int .i64 (lastOf L), .bool (!L.isEmpty)]) ∧ Touch (fun _ => False) w w' := by
  obtain ⟨sa, cap, hr⟩ := hr
  have c0 : w.cell? ⟨qb, 0, none⟩ = some (.slice sa L.length cap) := hr.ring.cell 0 rfl
  by_cases h0 : L.length = 0
  · have hL : L = [] := List.eq_nil_of_length_eq_zero h0
    subst hL
    go_enter Try.func13, Try.ntmps13
    go_wp2
    go_ret2
    exact ⟨rfl, Touch.refl _ _⟩
  · obtain ⟨b, o, ea, hc⟩ := hr.cells.get (ints_at L (k := L.length - 1) (by omega))
    subst ea
    have hh := hr.held
    have h64 := hr.room64
    obtain ⟨m, hm⟩ : ∃ m, L.length = m + 1 := ⟨L.length - 1, by omega⟩
    have hv : lastOf L = L.getD (L.length - 1) 0 := rfl
    rw [← hv] at hc
    rw [hm] at c0 hc hh
    simp only [Nat.add_sub_cancel] at hc
    have HH := Lib.hid (And.intro hr (And.intro h0 (And.intro hv hm)))
    clear hr h0 hv hm
    go_enter Try.func13, Try.ntmps13
    go_wp2
    go_quiet (fail)
    go_wp2
    go_ret2
    refine ⟨?_, (Touch.refl _ _).drewN _⟩
    have : L.isEmpty = false := by
      have := HH.out.2.2.2
      cases L with
      | nil => simp at this
      | cons a l => rfl
    rw [this]
    rfl

set_option maxHeartbeats 1000000 in
theorem refAll_any (qb base room : Nat) (L : List Int) (gone : Nat) (w : World) (hr : RefIs w qb base room L gone) :
    Calls Try.prog 16 #[.pointer (some ⟨qb, 0, none⟩)] w (Made 3 (ints L) w) := by
  obtain ⟨i0, hi, hz0, hz1, hz2⟩ := info_parts Try.info3
  obtain ⟨sa, cap, hr⟩ := hr
  have hh := hr.held
  have h64 := hr.room64
  have c0 : w.cell? ⟨qb, 0, none⟩ = some (.slice sa L.length cap) := hr.ring.cell 0 rfl
  have hq := hr.ring.lt
  have hsv : SlAt (w.alloc (.cells #[] 3)) sa (ints L) := hr.cells.touch ((Touch.refl (fun _ => False) _).alloc _) (fun _ _ _ h => h)
  have HR := Lib.hid hr
  clear hr
  go_enter Try.func16, Try.ntmps16
  go_wp2_with (at_builtin; refine wpList_append_any rfl (.tmp 3) (.tmp 7) 28 rfl w.heap.size 3 i0 (.int .i64 0) 8 Try.underlying28 hi hz0 hz1 hz2 rfl _ 0 [] rfl (World.ownsRow_made w #[] 0 (Nat.le_refl _) (Nat.zero_le _) rfl) sa L.length cap (ints L) rfl (ints_length _) hsv HR.out.nil (ints_one _) (by unfold maxLen; omega) (by omega) (by simp) ?_; intro v1 w1 ho1 hg1 _)
  go_ret
  refine ⟨v1, rfl, by simpa using ho1, ((Below.refl _ _).alloc (Nat.le_refl _) _).grown hg1 (by simp) (fun k hk => by cases hk; exact Nat.le_refl _)⟩

/-- The document's ring behind its append: a row of its own that holds one more. -/
structure RefMid (w w2 : World) (qb base room : Nat) (L : List Int) (v : Int) (gone : Nat) : Prop where
  touch : Touch (fun k => k = qb) w w2
  at_ : ∃ g cap, Blk w2 qb 42 #[.slice (some ⟨g, 0, none⟩) (L.length + 1) cap, .int .i64 room, .int .i64 gone] ∧ SlAt w2 (some ⟨g, 0, none⟩) (ints (L ++ [v])) ∧ L.length + 1 ≤ cap ∧ cap ≤ maxLen ∧ g ≠ qb ∧ base ≤ g ∧ g < w2.heap.size

set_option maxHeartbeats 4000000 in
theorem refPush_any (qb base room : Nat) (L : List Int) (gone : Nat) (a : Option Addr) (cap : Nat) (zs : List Int) (w : World)
    (hr : RefIs w qb base room L gone) (hb : base ≤ w.heap.size) (hz : SlAt w a (ints zs)) (ha : ∀ x, a = some x → zs ≠ [] → x.block ≠ qb) (hn : zs.length ≤ 1000000) (hl : gone ≤ 1000000000) :
    Calls Try.prog 11 #[.pointer (some ⟨qb, 0, none⟩), .slice a zs.length cap] w fun e w' =>
      e = .returned (.tuple #[]) ∧ RefIs w' qb base room (pushAll room (L, gone) zs).1 (pushAll room (L, gone) zs).2 ∧ Touch (fun k => k = qb ∨ base ≤ k) w w' := by
  obtain ⟨i0, hi, hz0, hz1, hz2⟩ := info_parts Try.info3
  go_enter Try.func11, Try.ntmps11
  go_wp2
  go_loopw [4] (fun i wr => ∃ k : Nat, k ≤ zs.length ∧ i = .int .i64 k ∧ (∃ L' gone', gone' ≤ gone + k ∧ pushAll room (L, gone) (zs.take k) = (L', gone') ∧ RefIs wr qb base room L' gone') ∧ SlAt wr a (ints zs) ∧ Touch (fun k => k = qb ∨ base ≤ k) w wr) (fun i _ => zs.length - (intOf i).toNat)
  case atStart => exact ⟨0, Nat.zero_le _, rfl, ⟨L, gone, Nat.le_refl _, by simp [pushAll], hr⟩, hz, Touch.refl _ _⟩
  case round =>
    clear hz hr
    obtain ⟨k, hk, rfl, ⟨L', gone', hgone, hpush, sa, c, hr⟩, hz, ht⟩ := hrel
    have HP := Lib.hid hpush; clear hpush
    have hro := hr.room1
    have hro4 := hr.room64
    have hhe := hr.held
    by_cases hlt : k < zs.length
    · obtain ⟨b, off, ea, hc⟩ := hz.get (ints_at zs hlt)
      subst ea
      have hbq : b ≠ qb := ha _ rfl (by rintro rfl; simp at hlt)
      have hbs : b < wr.heap.size := World.block_lt_of_cell? wr ⟨b, off + k, none⟩ hc
      generalize hvk : zs.getD k 0 = v at hc
      have HV := Lib.hid (And.intro hvk hz); clear hvk hz
      have c0 : wr.cell? ⟨qb, 0, none⟩ = some (.slice sa L'.length c) := hr.ring.cell 0 rfl
      have f0 := hr.ring.frozen 0
      have hq := hr.ring.lt
      have hI0 : (0 : Int) ≤ (k : Int) := by omega
      have hI1 : (k : Int) < (zs.length : Int) := by omega
      have HR := Lib.hid hr; clear hr
      have HT := Lib.hid ht; clear ht
      go_wp2_with fail
      go_cut [4] from 11 to 51 (fun i w2 => i = .int .i64 k ∧ RefMid wr w2 qb base room L' v gone')
      case first =>
        have hsv0 := HR.out.cells
        have q0 : ∀ (W : World), Touch (fun _ => False) wr W → SlAt W sa (ints L') := fun W h => hsv0.touch h (fun _ _ _ h => h)
        have hbv : some b ≠ some wr.heap.size := by simp; omega
        have hbv1 : some b ≠ some (wr.heap.size + 1) := by simp; omega
        have hqv : some qb ≠ some wr.heap.size := by simp; omega
        have hqv1 : some qb ≠ some (wr.heap.size + 1) := by simp; omega
        have Q0 := Lib.hid q0
        clear q0 hsv0
        go_region_law (first
            | (refine step_append_any rfl (.tmp 12) (.tmp 16) 28 rfl wr.heap.size 3 i0 (.int .i64 0) 8 Try.underlying28 hi hz0 hz1 hz2 rfl (.slice (some ⟨wr.heap.size, 0, none⟩) 0 0) 0 [] rfl (show (World.drew (wr.alloc (.cells #[] 3))).ownsRow wr.heap.size 3 1 (.slice (some ⟨wr.heap.size, 0, none⟩) 0 0) 0 [] from owns_empty (by simp) (Blk.new _ _ _)) sa L'.length c (ints L') rfl (ints_length _) (Q0.out _ (by repeat (first | exact Touch.refl _ _ | apply Touch.drew | apply Touch.alloc))) HR.out.nil (ints_one _) (by unfold maxLen; omega) (by omega) (by simp; try omega) ?_
               intro v1 w1 ho1 hg1 _
               have t1 : Touch (fun _ => False) wr w1 := Touch.grown (by repeat (first | exact Touch.refl _ _ | apply Touch.drew | apply Touch.alloc)) hg1 (fun k hk h => by have hk' : some (wr.heap.size) = some k := hk; injection hk' with hk'; omega)
               have r1 : w1.cell? ⟨b, off + k, none⟩ = some (.int .i64 v) := hg1.cell (by go_keep) hbv
               have r2 : w1.cell? ⟨qb, 0, none⟩ = some (.slice sa L'.length c) := hg1.cell (by go_keep) hqv
               have hm1 := trivial)
            | (refine step_append_any rfl (.tmp 12) (.tmp 16) 28 rfl wr.heap.size 3 i0 (.int .i64 0) 8 Try.underlying28 hi hz0 hz1 hz2 rfl (.slice (some ⟨wr.heap.size, 0, none⟩) 0 0) 0 [] rfl (show (World.drew ((wr.alloc (.cells #[] 3)).alloc (.cells #[.int .i64 v] 3))).ownsRow wr.heap.size 3 1 (.slice (some ⟨wr.heap.size, 0, none⟩) 0 0) 0 [] from owns_empty (by simp) ((Blk.new _ _ _).alloc _)) sa L'.length c (ints L') rfl (ints_length _) (Q0.out _ (by repeat (first | exact Touch.refl _ _ | apply Touch.drew | apply Touch.alloc))) HR.out.nil (ints_one _) (by unfold maxLen; omega) (by omega) (by simp; try omega) ?_
               intro v1 w1 ho1 hg1 _
               have t1 : Touch (fun _ => False) wr w1 := Touch.grown (by repeat (first | exact Touch.refl _ _ | apply Touch.drew | apply Touch.alloc)) hg1 (fun k hk h => by have hk' : some (wr.heap.size) = some k := hk; injection hk' with hk'; omega)
               have r1 : w1.cell? ⟨b, off + k, none⟩ = some (.int .i64 v) := hg1.cell (by go_keep) hbv
               have r2 : w1.cell? ⟨qb, 0, none⟩ = some (.slice sa L'.length c) := hg1.cell (by go_keep) hqv
               have r4 : w1.cell? ⟨wr.heap.size + 1, 0, none⟩ = some (.int .i64 v) := hg1.cell (by simp) (by show some (wr.heap.size + 1) ≠ some wr.heap.size; simp))
            | (refine step_append_any rfl (.tmp 12) (.tmp 16) 28 rfl wr.heap.size 3 i0 (.int .i64 0) 8 Try.underlying28 hi hz0 hz1 hz2 rfl (.slice (some ⟨wr.heap.size + 1, 0, none⟩) 0 0) 0 [] rfl (show (World.drew ((wr.alloc (.cells #[.int .i64 v] 3)).alloc (.cells #[] 3))).ownsRow wr.heap.size 3 1 (.slice (some ⟨wr.heap.size + 1, 0, none⟩) 0 0) 0 [] from owns_empty (by simp) (by have h := Blk.new (wr.alloc (.cells #[.int .i64 v] 3)) #[] 3; rw [World.size_alloc] at h; exact h)) sa L'.length c (ints L') rfl (ints_length _) (Q0.out _ (by repeat (first | exact Touch.refl _ _ | apply Touch.drew | apply Touch.alloc))) HR.out.nil (ints_one _) (by unfold maxLen; omega) (by omega) (by simp; try omega) ?_
               intro v1 w1 ho1 hg1 _
               have t1 : Touch (fun _ => False) wr w1 := Touch.grown (by repeat (first | exact Touch.refl _ _ | apply Touch.drew | apply Touch.alloc)) hg1 (fun k hk h => by have hk' : some (wr.heap.size + 1) = some k := hk; injection hk' with hk'; omega)
               have r1 : w1.cell? ⟨b, off + k, none⟩ = some (.int .i64 v) := hg1.cell (by go_keep) hbv1
               have r2 : w1.cell? ⟨qb, 0, none⟩ = some (.slice sa L'.length c) := hg1.cell (by go_keep) hqv1
               have r4 : w1.cell? ⟨wr.heap.size, 0, none⟩ = some (.int .i64 v) := hg1.cell (by simp) (by show some wr.heap.size ≠ some (wr.heap.size + 1); simp))
            | (refine step_append_one rfl (.tmp 17) (.tmp 22) 28 rfl wr.heap.size 3 i0 (.int .i64 0) 8 Try.underlying28 hi hz0 hz1 hz2 rfl v1 _ _ rfl ho1 _ (.int .i64 v) rfl r4 rfl (by unfold maxLen; omega) (by omega) (by have := hg1.size; simp at this ⊢; omega) ?_
               intro v2 w2 ho2 hg2
               obtain ⟨g2, c2, ev2, hb2, hle2, hcm2⟩ := owns_some ho2 (by omega)
               subst ev2
               have t2 : Touch (fun _ => False) wr w2 := Touch.grown t1 hg2 (fun k hk h => by have := (ho1.lt k hk).1; omega)
               have hRq := HR.out.ring.touch t2 (fun h => h)
               have r5 := hRq.frozen 0
               have r6 : w2.cell? ⟨qb, 0, none⟩ = some (.slice sa L'.length c) := hRq.cell 0 rfl
               have HF := Lib.hid (And.intro ho2 (And.intro t2 (And.intro hle2 (And.intro hcm2 (And.intro hb2 hRq)))))
               clear ho2 t2 hle2 hcm2 hb2 hRq hg2)
            | (refine step_append_one rfl (.tmp 17) (.tmp 22) 28 rfl wr.heap.size 3 i0 (.int .i64 0) 8 Try.underlying28 hi hz0 hz1 hz2 rfl v1 _ _ rfl (ho1.alloc _) _ (.int .i64 v) rfl (by simp) rfl (by unfold maxLen; omega) (by omega) (by have := hg1.size; simp at this ⊢; omega) ?_
               intro v2 w2 ho2 hg2
               obtain ⟨g2, c2, ev2, hb2, hle2, hcm2⟩ := owns_some ho2 (by omega)
               subst ev2
               have t2 : Touch (fun _ => False) wr w2 := Touch.grown (t1.alloc _) hg2 (fun k hk h => by have := (ho1.lt k hk).1; omega)
               have hRq := HR.out.ring.touch t2 (fun h => h)
               have r5 := hRq.frozen 0
               have r6 : w2.cell? ⟨qb, 0, none⟩ = some (.slice sa L'.length c) := hRq.cell 0 rfl
               have HF := Lib.hid (And.intro ho2 (And.intro t2 (And.intro hle2 (And.intro hcm2 (And.intro hb2 hRq)))))
               clear ho2 t2 hle2 hcm2 hb2 hRq hg2))
        all_goals go_wp2
        all_goals go_meet
        all_goals
          case rel =>
            obtain ⟨ho2, t2, hle2, hcm2, hb2, hRq⟩ := HF.out
            have hlb : base ≤ wr.heap.size := Nat.le_trans hb HT.out.size
            refine ⟨rfl, ⟨Touch.setCell (S := fun k => k = qb) (t2.mono (fun _ _ h => h.elim)) (p := ⟨qb, 0, none⟩) (fun _ => rfl) _, g2, c2, ?_, ?_, by omega, hcm2, ?_, by omega, ?_⟩⟩
            · have h := hRq.set 0 (.slice (some ⟨g2, 0, none⟩) (L'.length + 1) c2)
              simp at h
              exact h
            · have h := SlAt.of_owns ho2
              rw [List.nil_append] at h
              have h2 : SlAt w2 (some ⟨g2, 0, none⟩) (ints (L' ++ [v])) := by rw [ints_append]; exact h
              exact h2.touch (Touch.setCell (S := fun k => k = qb) (Touch.refl (fun k => k = qb) _) (p := ⟨qb, 0, none⟩) (fun _ => rfl) _) (fun x hx _ => by cases hx; show ¬ g2 = qb; omega)
            · omega
            · have := (ho2.lt g2 rfl).2
              simpa using this
      case rest =>
        obtain ⟨rfl, hmt, g, cp, hB, hS, hle, hcm, hgq, hgb, hgs⟩ := hcut
        have d0 : wc.cell? ⟨qb, 0, none⟩ = some (.slice (some ⟨g, 0, none⟩) (L'.length + 1) cp) := hB.cell 0 rfl
        have d1 : wc.cell? ⟨qb, 1, none⟩ = some (.int .i64 room) := hB.cell 1 rfl
        have d2 : wc.cell? ⟨qb, 2, none⟩ = some (.int .i64 gone') := hB.cell 2 rfl
        have g0 := hB.frozen 0
        have g2 := hB.frozen 2
        have hqc := hB.lt
        have hz2 : SlAt wc (some ⟨b, off, none⟩) (ints zs) := HV.out.2.touch hmt (fun x hx _ => by cases hx; exact hbq)
        have HH := Lib.hid (And.intro hmt (And.intro hB (And.intro hS hz2)))
        clear hmt hB hS hz2
        by_cases hfull : L'.length = room
        · have hcp : ¬ cp = 1 := by omega
          have e1 : (L'.length : Int) ≤ room := by omega
          have e2 : (room : Int) ≤ L'.length := by omega
          have HF := Lib.hid hfull
          clear hfull
          go_wp2_with fail
          go_quiet (fail)
          go_wp2
          go_roundw
          case rel =>
            obtain ⟨hmt, hB, hS, hz2⟩ := HH.out
            have tw : Touch (fun k => k = qb) wc (((wc.drewN nq).setCell ⟨qb, 0, none⟩ (.slice (some ⟨g, 1, none⟩) L'.length (cp - 1))).setCell ⟨qb, 2, none⟩ (.int .i64 (↑gone' + 1))) :=
              Touch.setCell (S := fun k => k = qb) (Touch.setCell (S := fun k => k = qb) ((Touch.refl _ _).drewN _) (p := ⟨qb, 0, none⟩) (fun _ => rfl) _) (p := ⟨qb, 2, none⟩) (fun _ => rfl) _
            have hne : ∀ x, some (⟨g, 1, none⟩ : Addr) = some x → ints ((L' ++ [v]).drop 1) ≠ [] → ¬ x.block = qb := fun x hx _ => by cases hx; exact hgq
            refine ⟨k + 1, by omega, by go_num, ⟨L'.drop 1 ++ [v], gone' + 1, by omega, ?_, some ⟨g, 1, none⟩, cp - 1, ?_⟩, hz2.touch tw (fun x hx _ => by cases hx; exact hbq), HT.out.trans ((hmt.mono (fun _ _ h => .inl h)).trans (tw.mono (fun _ _ h => .inl h)))⟩
            · rw [take_snoc' zs hlt, pushAll_snoc, HP.out, HV.out.1]
              simp [push1, HF.out]
            · have hlen : (L'.drop 1 ++ [v]).length = L'.length := by simp; have := HF.out; omega
              have hdr : (L' ++ [v]).drop 1 = L'.drop 1 ++ [v] := List.drop_append_of_le_length (by have := HF.out; omega)
              refine ⟨?_, ?_, (fun h => by cases h), (by rw [hlen]; omega), (by omega), (fun x hx => by cases hx; exact ⟨hgq, hgb, Nat.lt_of_lt_of_le hgs tw.size⟩), hro, hro4, (by rw [hlen]; omega)⟩
              · have h := ((hB.drewN nq).set 0 (.slice (some ⟨g, 1, none⟩) L'.length (cp - 1))).set 2 (.int .i64 (↑gone' + 1))
                simp at h
                rw [hlen]
                exact h
              · have h := hS.drop 1
                rw [ints_drop] at h
                have h2 := h.touch tw hne
                rw [hdr] at h2
                exact h2
          case measure => simp [intOf]; omega
        · have e1 : (L'.length : Int) < room := by omega
          have HF := Lib.hid hfull
          clear hfull
          go_wp2_with fail
          go_quiet (fail)
          go_wp2
          go_roundw
          case rel =>
            obtain ⟨hmt, hB, hS, hz2⟩ := HH.out
            have tw : Touch (fun k => k = qb) wc (wc.drewN nq) := (Touch.refl _ _).drewN _
            refine ⟨k + 1, by omega, by go_num, ⟨L' ++ [v], gone', by omega, ?_, some ⟨g, 0, none⟩, cp, ?_⟩, hz2.touch tw (fun x hx _ => by cases hx; exact hbq), HT.out.trans ((hmt.mono (fun _ _ h => .inl h)).trans (tw.mono (fun _ _ h => .inl h)))⟩
            · rw [take_snoc' zs hlt, pushAll_snoc, HP.out, HV.out.1]
              simp [push1, HF.out]
            · have hlen : (L' ++ [v]).length = L'.length + 1 := by simp
              refine ⟨?_, hS, (fun h => by cases h), (by rw [hlen]; omega), (by omega), (fun x hx => by cases hx; exact ⟨hgq, hgb, hgs⟩), hro, hro4, (by rw [hlen]; have := HF.out; omega)⟩
              rw [hlen]
              exact hB.drewN nq
          case measure => simp [intOf]; omega
    · have hk' : k = zs.length := by omega
      go_wp2
      go_end0
      refine ⟨rfl, ?_, ht⟩
      have := HP.out
      rw [hk', List.take_length] at this
      rw [this]
      exact ⟨sa, c, hr⟩
end Go.Proofs.Ythhjfoolijiacaa
