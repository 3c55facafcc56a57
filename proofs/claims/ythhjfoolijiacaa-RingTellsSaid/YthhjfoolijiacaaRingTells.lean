/-
  nightjarlaw08.RingTells: for every room and all rows of numbers the law returns true. No conditions: for every input that can be read.
-/
import Derived.Test.YthhjfoolijiacaaRows
import Derived.Test.YthhjfoolijiacaaRingSmall
import Derived.Test.YthhjfoolijiacaaRingPlain
import Derived.Test.YthhjfoolijiacaaRingRef2
import Derived.Test.YthhjfoolijiacaaOpen
namespace Go.Proofs.Ythhjfoolijiacaa
open Go.ChangeShapes Go.WideShapes Go.ChangeAt Go.RowKit

/-- The ring and the document's own one hold the same; both lie behind what was there at w0. -/
structure Pair (w0 : World) (rb sb qb base r : Nat) (L : List Int) (lost : Nat) (w : World) : Prop where
  ring : RingIs w rb sb r L lost
  ref : RefIs w qb base r L lost
  below : Below w0.heap.size w0 w
  h1 : w0.heap.size ≤ rb
  h2 : w0.heap.size ≤ sb
  h3 : rb < base
  h4 : sb < base
  h5 : base ≤ qb
  h6 : base ≤ w.heap.size

theorem Pair.still {w0 : World} {rb sb qb base r : Nat} {L : List Int} {lost : Nat} {w w' : World} (h : Pair w0 rb sb qb base r L lost w) (ht : Touch (fun _ => False) w w') : Pair w0 rb sb qb base r L lost w' :=
  ⟨h.ring.touch ht (fun h => h) (fun h => h), h.ref.touch ht (fun h => h) (fun _ _ _ h => h), h.below.trans (ht.below h.below.size (fun _ _ h => h)), h.h1, h.h2, h.h3, h.h4, h.h5, Nat.le_trans h.h6 ht.size⟩

theorem Pair.new {w0 : World} {rb sb qb base r : Nat} {L : List Int} {lost : Nat} {w w' : World} {g : Nat} (h : Pair w0 rb sb qb base r L lost w) (ht : Touch (fun k => k = g) w w') (hg : w.heap.size ≤ g) : Pair w0 rb sb qb base r L lost w' :=
  h.still ⟨ht.os, ht.tape, ht.output, ht.size, fun k hk _ => ht.block k hk (fun e => by omega)⟩

theorem pair_push {w0 : World} {rb sb qb base r : Nat} {L : List Int} {lost : Nat} {w : World} (h : Pair w0 rb sb qb base r L lost w) (a : Option Addr) (cap : Nat) (zs : List Int)
    (hz : SlAt w a (ints zs)) (ha : ∀ x, a = some x → zs ≠ [] → x.block < w0.heap.size) (hn : zs.length ≤ 1000000) (hl : lost ≤ 1000000000) :
    Calls Try.prog 10 #[.pointer (some ⟨rb, 0, none⟩), .slice a zs.length cap] w fun e w' =>
      e = .returned (.tuple #[]) ∧ RingIs w' rb sb r (pushAll r (L, lost) zs).1 (pushAll r (L, lost) zs).2 ∧ RefIs w' qb base r L lost ∧ Below w0.heap.size w0 w' ∧ base ≤ w'.heap.size := by
  have h1 := h.h1
  have h2 := h.h2
  have h3 := h.h3
  have h4 := h.h4
  have h5 := h.h5
  refine (push_any rb sb r L lost a cap zs w h.ring hz (fun x hx hne => by have := ha x hx hne; omega) hn hl).mono ?_
  rintro e w' ⟨rfl, hr, ht⟩
  exact ⟨rfl, hr, h.ref.touch ht (fun e => by omega) (fun k hk _ e => by omega), h.below.trans (ht.below h.below.size (fun k hk e => by omega)), Nat.le_trans h.h6 ht.size⟩

theorem pair_refPush {w0 : World} {rb sb qb base r : Nat} {L L' : List Int} {lost lost' : Nat} {w : World} (hr : RingIs w rb sb r L' lost') (hq : RefIs w qb base r L lost) (hb : Below w0.heap.size w0 w)
    (h1 : w0.heap.size ≤ rb) (h3 : rb < base) (h4 : sb < base) (h5 : base ≤ qb) (h6 : base ≤ w.heap.size) (a : Option Addr) (cap : Nat) (zs : List Int)
    (hz : SlAt w a (ints zs)) (ha : ∀ x, a = some x → zs ≠ [] → x.block < w0.heap.size) (hn : zs.length ≤ 1000000) (hl : lost ≤ 1000000000) :
    Calls Try.prog 11 #[.pointer (some ⟨qb, 0, none⟩), .slice a zs.length cap] w fun e w' =>
      e = .returned (.tuple #[]) ∧ RingIs w' rb sb r L' lost' ∧ RefIs w' qb base r (pushAll r (L, lost) zs).1 (pushAll r (L, lost) zs).2 ∧ Below w0.heap.size w0 w' ∧ base ≤ w'.heap.size := by
  refine (refPush_any qb base r L lost a cap zs w hq h6 hz (fun x hx hne => by have := ha x hx hne; omega) hn hl).mono ?_
  rintro e w' ⟨rfl, hr', ht⟩
  exact ⟨rfl, hr.touch ht (fun e => by omega) (fun e => by omega), hr', hb.trans (ht.below hb.size (fun k hk e => by omega)), Nat.le_trans h6 ht.size⟩

set_option maxRecDepth 100000 in
set_option maxHeartbeats 4000000 in
theorem ringTells_walk (w : World) (room : Int) (_w0 : (Lit.int .i64 room).wf = true) (a : Option Addr) (len cap : Nat) (A : Nat → Option Addr) (C : Nat → Nat) (Z : Nat → List Int) (hin : RowsIn .i64 w a len cap A C Z) :
    Calls Try.prog 3 #[.int .i64 room, .slice a len cap] w fun e w' => e = .returned (.bool true) ∧ Below w.heap.size w w' := by
  have hlec := hin.le
  have hcm := hin.hcap
  unfold maxLen at hcm
  by_cases hn : 50 < len
  · go_enter Try.func3, Try.ntmps3
    go_wp2_with fail
    refine (small_any w).mono ?_
    rintro e w1 ⟨rfl, hb⟩
    go_wp2_with fail
    go_ret
    exact ⟨rfl, hb⟩
  have HIN := Lib.hid hin; clear hin
  go_enter Try.func3, Try.ntmps3
  go_wp2_with fail
  refine (small_any w).mono ?_
  rintro e wa ⟨rfl, hb⟩
  go_wp2_with fail
  refine (new_any room wa).mono ?_
  rintro e wb ⟨rb, sb, rfl, hb1, hb2, hr, hbl⟩
  obtain ⟨r, hrr⟩ : ∃ r, r = (min (max room 1) 64).toNat := ⟨_, rfl⟩
  rw [← hrr] at hr
  go_wp2_with fail
  refine (refNew_any room wb).mono ?_
  rintro e wc ⟨qb, rfl, hb3, hq, hbl2⟩
  rw [← hrr] at hq
  have hlt := ring_lt hr
  have s1 := hb.size
  have s2 := hbl.size
  have s3 := hbl2.size
  have hP : Pair w rb sb qb wb.heap.size r [] 0 wc :=
    ⟨hr.touch (Touch.of_below (S := fun _ => False) hbl2) (fun h => h) (fun h => h), hq, (hb.trans (hbl.mono s1)).trans (hbl2.mono (by omega)), by omega, by omega, hlt.1, hlt.2, hb3, s3⟩
  generalize wb.heap.size = base at hP
  clear hr hq hbl hbl2 hb hrr hlt hb1 hb2 hb3 s1 s2 s3
  have HP := Lib.hid hP
  clear hP
  go_wp2_with fail
  go_loopw [8] (fun i wr => ∃ k : Nat, k ≤ len ∧ i = .int .i64 k ∧ ∃ L lost, lost ≤ 200 * k ∧ Pair w rb sb qb base r L lost wr) (fun i _ => len - (intOf i).toNat)
  case atStart => exact ⟨0, Nat.zero_le _, rfl, [], 0, Nat.zero_le _, HP.out⟩
  case round =>
    clear HP
    obtain ⟨k, hk, rfl, L, lost, hlost, hP⟩ := hrel
    by_cases hlt : k < len
    · have hrow := HIN.out.rows k hlt
      have hbel := hP.below
      obtain ⟨b, o, ea, hcw⟩ := HIN.out.cells.get (k := k) (u := .slice (A k) (Z k).length (C k)) (by simp [hlt])
      have hbw : b < w.heap.size := World.block_lt_of_cell? w ⟨b, o + k, none⟩ hcw
      have hc : wr.cell? ⟨b, o + k, none⟩ = some (.slice (A k) (Z k).length (C k)) := by rw [hbel.cell (p := ⟨b, o + k, none⟩) hbw]; exact hcw
      subst ea
      have hzs : SlAt wr (A k) (ints (Z k)) := hrow.ints.touch (S := fun k => w.heap.size ≤ k) ⟨hbel.os, hbel.tape, hbel.output, hbel.size, fun k hk _ => hbel.block k hk⟩ (fun x hx hne => by have := hrow.old x hx (by rintro e; rw [e] at hne; exact hne rfl); omega)
      have hold := hrow.old
      have hle := hrow.le
      have hHR := Lib.hid hrow
      have HC := Lib.hid hcw
      clear hcw
      clear hrow hbel
      generalize A k = ak at *
      generalize C k = ck at *
      generalize Z k = zk at *
      by_cases h200 : 200 < zk.length
      · have HH := Lib.hid hP; clear hP
        go_wp2_with fail
        go_ret
        exact ⟨rfl, HH.out.below⟩
      · have HH := Lib.hid (And.intro hP (And.intro hzs hold)); clear hP hzs hold
        go_wp2_with fail
        refine (pair_push HH.out.1 ak ck zk HH.out.2.1 HH.out.2.2 (by omega) (by omega)).mono ?_
        rintro e w1 ⟨rfl, q1, q2, q3, q4⟩
        have P0 := HH.out.1
        have hz1 : SlAt w1 ak (ints zk) := hHR.out.ints.touch (S := fun k => w.heap.size ≤ k) ⟨q3.os, q3.tape, q3.output, q3.size, fun k hk _ => q3.block k hk⟩ (fun x hx hne => by have := hHR.out.old x hx (by rintro e; rw [e] at hne; exact hne rfl); omega)
        have hold := HH.out.2.2
        have hc1 : w1.cell? ⟨b, o + k, none⟩ = some (.slice ak zk.length ck) := by rw [q3.cell (p := ⟨b, o + k, none⟩) hbw]; exact HC.out
        obtain ⟨p1, p2, p3, p4, p5⟩ := And.intro P0.h1 (And.intro P0.h2 (And.intro P0.h3 (And.intro P0.h4 P0.h5)))
        obtain ⟨S, hS⟩ : ∃ S, S = pushAll r (L, lost) zk := ⟨_, rfl⟩
        rw [← hS] at q1
        have hlen2 : S.2 ≤ lost + zk.length ∧ S.1.length ≤ 64 := by
          obtain ⟨_, _, hri⟩ := P0.ring
          have hp := pushAll_len r zk (L, lost) hri.held hri.room1
          rw [← hS] at hp
          have h64 := hri.room64
          have hhe := hri.held
          simp at hp
          omega
        have HS := Lib.hid (And.intro hS P0)
        have Hq := Lib.hid (And.intro q1 (And.intro q2 (And.intro q3 (And.intro q4 (And.intro hz1 hold)))))
        clear q1 q2 q3 q4 hz1 hold P0 hS HH
        go_wp2_with fail
        refine (pair_refPush Hq.out.1 Hq.out.2.1 Hq.out.2.2.1 p1 p3 p4 p5 Hq.out.2.2.2.1 ak ck zk Hq.out.2.2.2.2.1 Hq.out.2.2.2.2.2 (by omega) (by omega)).mono ?_
        rintro e w2 ⟨rfl, q1, q2, q3, q4⟩
        rw [← HS.out.1] at q2
        have P2 : Pair w rb sb qb base r S.1 S.2 w2 := ⟨q1, q2, q3, p1, p2, p3, p4, p5, q4⟩
        have H2 := Lib.hid P2
        clear q1 q2 q3 q4 P2 Hq
        go_wp2_with fail
        refine (last_any rb sb r S.1 S.2 w2 H2.out.ring).mono ?_
        rintro e w3 ⟨rfl, t3⟩
        have H3 := Lib.hid (H2.out.still t3)
        clear t3 H2
        go_wp2_with fail
        refine (refLast_any qb base r S.1 S.2 w3 H3.out.ref).mono ?_
        rintro e w4 ⟨rfl, t4⟩
        have H4 := Lib.hid (H3.out.still t4)
        clear t4 H3
        go_wp2_with fail
        refine (all_any rb sb r S.1 S.2 w4 H4.out.ring).mono ?_
        rintro e w5 ⟨v5, rfl, ho5, hb5⟩
        have ho5' := ho5
        obtain ⟨a5, c5, rfl, hn5, hl5, hm5, hf5⟩ := owns_form ho5'
        have B5 := Lib.hid (Touch.of_below (S := fun _ => False) hb5)
        have H5 := Lib.hid (And.intro (H4.out.still (Touch.of_below hb5)) (And.intro ho5 (And.intro hf5 hn5)))
        clear ho5 ho5' hb5 hf5 hn5
        rw [ints_length] at hl5 ⊢
        go_wp2_with fail
        refine (refAll_any qb base r S.1 S.2 w5 H5.out.1.ref).mono ?_
        rintro e w6 ⟨v6, rfl, ho6, hb6⟩
        have ho6' := ho6
        obtain ⟨a6, c6, rfl, -, -, -, -⟩ := owns_form ho6'
        have t6 : Touch (fun _ => False) w5 w6 := Touch.of_below hb6
        have B6 := Lib.hid (B5.out.trans t6)
        have ho56 := owns_touch H5.out.2.1 t6 (fun _ _ h => h)
        have H6 := Lib.hid (And.intro (H5.out.1.still t6) (And.intro ho56 ho6))
        clear ho6 ho6' hb6 t6 ho56
        rw [ints_length]
        go_wp2_with fail
        refine (same_len a5 a6 _ _ c5 c6 S.1 S.1 w6 rfl rfl (SlAt.of_owns H6.out.2.1) (SlAt.of_owns H6.out.2.2) (by omega) (by omega)).mono ?_
        rintro e w7 ⟨rfl, t7⟩
        have hd : decide (S.1 = S.1) = true := by simp
        rw [hd]
        have H7 := Lib.hid (And.intro (H6.out.1.still t7) (owns_touch H6.out.2.1 t7 (fun _ _ h => h)))
        have B7 := Lib.hid (B6.out.trans t7)
        clear t7 hd H6
        go_wp2_with fail
        refine (len_any rb sb r S.1 S.2 w7 H7.out.1.ring).mono ?_
        rintro e w8 ⟨rfl, rfl⟩
        go_wp2_with fail
        refine (refLen_any qb base r S.1 S.2 w7 H7.out.1.ref).mono ?_
        rintro e w8 ⟨rfl, rfl⟩
        go_wp2_with fail
        refine (lost_any rb sb r S.1 S.2 w7 H7.out.1.ring).mono ?_
        rintro e w8 ⟨rfl, rfl⟩
        go_wp2_with fail
        refine (refLost_any qb base r S.1 S.2 w7 H7.out.1.ref).mono ?_
        rintro e w8 ⟨rfl, rfl⟩
        go_wp2_with fail
        go_loopw [14] (fun i w9 => ∃ q : Nat, q ≤ S.1.length ∧ i = .int .i64 q ∧ Touch (fun _ => False) w4 w9 ∧ ∃ xs, w9.ownsRow w4.heap.size 3 1 (.slice a5 S.1.length c5) S.1.length xs) (fun i _ => S.1.length - (intOf i).toNat)
        case atStart => exact ⟨0, Nat.zero_le _, rfl, B7.out, _, by have h := H7.out.2; rw [ints_length] at h; exact h⟩
        case round =>
          obtain ⟨q, hq, rfl, hP9, xs, ho9⟩ := hrel
          by_cases hq2 : q < S.1.length
          · obtain ⟨g, c9, ev, hgb, _, _⟩ := owns_some ho9 (by omega)
            simp only [Value.slice.injEq, true_and] at ev
            obtain ⟨ea, ec⟩ := ev
            subst ea ec
            have hcell : wr.cell? ⟨g, q, none⟩ = some (xs.getD q undef) := by
              rw [ho9.cellAt q (by omega)]
              have := owns_len ho9
              simp [List.getD, show q < xs.length by omega]
            have hfro := ho9.frozenAt q
            have hset := ho9.stored q (.int .i64 77)
            have H9 := Lib.hid (And.intro hP9 hset)
            clear hP9 hset ho9
            go_wp2_with fail
            go_roundw
            case rel =>
              obtain ⟨P9, hs1, hs2⟩ := H9.out
              exact ⟨q + 1, by omega, by go_num, P9.setCell (p := ⟨g, q, none⟩) (fun h => by simp at h; omega) _, _, hs1⟩
            case measure => simp [intOf]; omega
          · have HH := Lib.hid hP9
            clear hP9 ho9
            go_wp2_with fail
            go_roundw
            case rel => exact ⟨k + 1, by omega, by go_num, S.1, S.2, by omega, H4.out.still HH.out⟩
            case measure => simp [intOf]; omega
    · go_wp2_with fail
      go_ret
      exact ⟨rfl, hP.below⟩

/-! ### the row's step, and the row -/
theorem ringTells_own : ownKnob Try.prog.godebug = none := by kernel_rfl
theorem ringTells_laidOut : laidOutB Try.prog = true := by kernel_rfl

set_option linter.unusedVariables false in
set_option maxRecDepth 100000 in
theorem ringTells_lifted (os : Os) (started : os.Started) (H : Type) (enc : TypeId × Value → H) :
    ReturnsInHanded {} Try.checked os 3 .any (Rows.ringTellsSpec.pre6 enc Try.prog Try.f3 Rows.ringTellsRow.domain false) (Rows.ringTellsSpec.post enc Try.prog Try.f3 false true false false) := by
  refine returnsInHanded_of_change (C := Try.checked) ringTells_own started (by kernel_rfl) Try.func3
    (ChangeSpec.witness6 (enc := enc) (C := Try.checked) false ⟨#[], #[.int .i64 0, .slice none 0 0], []⟩ 8 (by kernel_rfl) (by kernel_rfl) (by kernel_rfl) (by kernel_rfl)) ?_
  intro W base args ds gs before hval0 hW hcnd _
  have hval : ∀ (j : Nat) t v, Try.f3.params[j]? = some t → args[j]? = some v → Value.okWide Try.prog W .any base t v := hval0
  have hW' := hW
  obtain ⟨p, q, hA0, hV, rfl, hfz, hnd⟩ := hW
  have hA : DataW.TrodAll enc Try.prog W 0 (fun _ => true) true Try.f3.params.toList args.toList ds p := hA0
  rw [Try.params3] at hA hval
  obtain ⟨v0, vs0, d0, ds0, p0, q0, hargs, rfl, rfl, h0, r0⟩ := trodAll_cons hA
  obtain ⟨v1, vs1, d1, ds1, p1, q1, rfl, rfl, rfl, h1, r1⟩ := trodAll_cons r0
  obtain ⟨rfl, rfl, rfl⟩ := trodAll_nil r1
  obtain rfl : args = #[v0, v1] := by cases args; simp_all
  obtain ⟨rfl, rfl⟩ := trodVars_none hV
  obtain ⟨a0, rfl, rfl, rfl, w0⟩ := open_int Try.underlying3 (hval 0 3 v0 rfl rfl) h0
  have k1 := h1
  have lt1 : ∀ x ∈ p1, x.block < W.heap.size := by obtain ⟨m, hm⟩ := k1; exact DataW.trod_lt m _ _ _ hm
  have o1 := hval 1 22 v1 rfl rfl
  obtain ⟨a1, len1, cap1, rfl⟩ := okWide_slice Try.underlying22 o1
  obtain ⟨A1, C1, Z1, w1⟩ := rows_of (k := .i64) Try.underlying22 Try.underlying28 Try.underlying3 (by kernel_rfl) (by kernel_rfl) h1
  clear hA0 hval0
  refine (ringTells_walk W a0 w0 a1 len1 cap1 A1 C1 Z1 w1).mono fun e W' ⟨he, bel⟩ => ?_
  subst he
  exact ⟨_, rfl, _, _, _, [], _, [], hW', trodAll_mk1 (shut_bool Try.underlying4 _), (trodAll_cons_mk (shut_int Try.underlying3 w0) (trodAll_cons_mk (Below.trod ringTells_laidOut (by kernel_rfl) (of_decide_eq_true (by kernel_rfl)) k1 bel lt1) trodAll_mk0)), rfl, bel.frame _, fun h => by cases h⟩

theorem ringTells_over : Rows.ringTellsRow.holds Try.pinned (OpenSpec.ofChange Rows.ringTellsSpec) :=
  OpenClaim.holds_of_wide 3 Try.f3 rfl rfl rfl rfl rfl rfl rfl ⟨rfl, rfl, rfl, rfl, rfl⟩ rfl rfl rfl rfl rfl (by kernel_rfl) Try.func3 (by kernel_rfl)
    (of_decide_eq_true (by kernel_rfl)) (by unfold Func.isWrapper; first | (rw [if_pos (by decide +kernel)]; kernel_rfl) | (rw [if_neg (by decide +kernel)]; exact ⟨rfl, rfl⟩))
    (fun os started H enc _ => ringTells_lifted os started H enc)

/-- THE STATEMENT. -/
theorem ringTells_proved : Rows.RingTellsSaid := ringTells_over
#print axioms ringTells_proved
end Go.Proofs.Ythhjfoolijiacaa
