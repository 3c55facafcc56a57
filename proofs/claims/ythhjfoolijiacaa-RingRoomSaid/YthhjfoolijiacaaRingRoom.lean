/-
  nightjarlaw08.RingRoom: for every room and every number the law returns true. No conditions: for every input that can be read.
-/
import Derived.Test.YthhjfoolijiacaaRows
import Derived.Test.YthhjfoolijiacaaRingSmall
import Derived.Test.YthhjfoolijiacaaRingPlain
import Derived.Test.YthhjfoolijiacaaOpen
namespace Go.Proofs.Ythhjfoolijiacaa
open Go.ChangeShapes Go.WideShapes Go.ChangeAt Go.RowKit

def upTo (n : Nat) : List Int := (List.range n).map (fun (k : Nat) => (k : Int))
theorem upTo_succ (n : Nat) : upTo (n + 1) = upTo n ++ [(n : Int)] := by simp [upTo, List.range_succ]

theorem upTo_len (n : Nat) : (upTo n).length = n := by simp [upTo]

set_option maxHeartbeats 1000000 in
theorem ringRoom_walk (room : Int) (_w0 : (Lit.int .i64 room).wf = true) (n : Int) (_w1 : (Lit.int .i64 n).wf = true) (w : World) :
    Calls Try.prog 6 #[.int .i64 room, .int .i64 n] w fun e w' => e = .returned (.bool true) ∧ Below w.heap.size w w' := by
  by_cases hn : n < 0
  · go_enter Try.func6, Try.ntmps6
    go_wp2_with fail
    refine (small_any w).mono ?_
    rintro e w1 ⟨rfl, hb⟩
    go_wp2_with fail
    go_ret
    exact ⟨rfl, hb⟩
  by_cases hn2 : 200 < n
  · go_enter Try.func6, Try.ntmps6
    go_wp2_with fail
    refine (small_any w).mono ?_
    rintro e w1 ⟨rfl, hb⟩
    go_wp2_with fail
    go_ret
    exact ⟨rfl, hb⟩
  obtain ⟨m, hm⟩ : ∃ m : Nat, (m : Int) = n := ⟨n.toNat, by omega⟩
  subst hm
  have hm : m ≤ 200 := by omega
  clear hn hn2
  go_enter Try.func6, Try.ntmps6
  go_wp2_with fail
  refine (small_any w).mono ?_
  rintro e wa ⟨rfl, hb⟩
  have HB := Lib.hid hb; clear hb
  go_wp2_with fail
  refine (new_any room wa).mono ?_
  rintro e wb ⟨rb, sb, rfl, hb1, hb2, hr, hbl⟩
  obtain ⟨r, hrr⟩ : ∃ r, r = (min (max room 1) 64).toNat := ⟨_, rfl⟩
  rw [← hrr] at hr
  have HBL := Lib.hid (And.intro hrr hbl); clear hbl hrr
  go_wp2_with fail
  go_loopw [7] (fun i wr => ∃ k : Nat, k ≤ m ∧ i = .int .i64 k ∧ RingIs wr rb sb r (pushAll r ([], 0) (upTo k)).1 (pushAll r ([], 0) (upTo k)).2 ∧ Touch (fun k => k = rb ∨ k = sb) wb wr) (fun i _ => m - (intOf i).toNat)
  case atStart => exact ⟨0, Nat.zero_le _, rfl, by simpa [upTo, pushAll] using hr, Touch.refl _ _⟩
  case round =>
    clear hr
    obtain ⟨k, hk, rfl, hr, ht⟩ := hrel
    have hl1 : 1 ≤ r := by obtain ⟨_, _, h⟩ := hr; exact h.room1
    have hpl := pushAll_len r (upTo k) ([], 0) (by simp) hl1
    simp [upTo_len] at hpl
    by_cases hlt : k < m
    · have HP := Lib.hid (And.intro hr ht); clear hr ht
      have hlost : (pushAll r ([], 0) (upTo k)).2 ≤ 1000000000 := by omega
      have HL := Lib.hid hpl; clear hpl
      generalize hS : pushAll r ([], 0) (upTo k) = S at HP hlost HL
      have HS := Lib.hid hS; clear hS
      go_wp2_with fail
      refine (push_any rb sb r S.1 S.2 (some ⟨wr.heap.size, 0, none⟩) 1 [(k : Int)] _ (HP.out.1.touch ((Touch.refl (fun _ => False) _).alloc _) (fun h => h) (fun h => h)) ?_ ?_ (by simp) hlost).mono ?_
      · intro j u hj
        match j, hj with
        | 0, hj => simp [ints] at hj; subst hj; simp
        | j + 1, hj => simp [ints] at hj
      · intro x hx _
        cases hx
        obtain ⟨xs, frm, h⟩ := HP.out.1
        exact ⟨(Nat.ne_of_lt h.ring.lt).symm, (Nat.ne_of_lt h.slots.lt).symm⟩
      rintro e w3 ⟨rfl, hr3, ht3⟩
      go_wp2_with fail
      refine (all_any rb sb r _ _ w3 hr3).mono ?_
      rintro e w4 ⟨v, rfl, _, hb4⟩
      have hr4 := hr3.touch (Touch.of_below (S := fun _ => False) hb4) (fun h => h) (fun h => h)
      go_wp2_with fail
      refine (last_any rb sb r _ _ w4 hr4).mono ?_
      rintro e w5 ⟨rfl, ht5⟩
      have hr5 := hr4.touch ht5 (fun h => h) (fun h => h)
      go_wp2_with fail
      go_roundw
      case rel =>
        refine ⟨k + 1, by omega, by go_num, ?_, ?_⟩
        · have e : pushAll r ([], 0) (upTo (k + 1)) = pushAll r (S.1, S.2) [(k : Int)] := by rw [upTo_succ, pushAll_append, HS.out]
          rw [e]
          exact hr5
        · exact (((HP.out.2.alloc _).trans ht3).trans (Touch.of_below hb4)).trans (ht5.mono (fun _ _ h => h.elim))
      case measure => simp [intOf]; omega
    · have hk' : k = m := by omega
      subst hk'
      have HK := Lib.hid (And.intro hr ht); clear hr ht
      have hlost : (pushAll r ([], 0) (upTo k)).2 ≤ 1000000000 := by omega
      have HL := Lib.hid hpl; clear hpl
      generalize hS : pushAll r ([], 0) (upTo k) = S at HK hlost HL
      have HS := Lib.hid hS; clear hS
      go_wp2_with fail
      refine (push_any rb sb r S.1 S.2 none 0 [] _ HK.out.1 rfl (fun x h _ => by cases h) (by simp) hlost).mono ?_
      rintro e w3 ⟨rfl, hr3, ht3⟩
      have hp0 : pushAll r (S.1, S.2) [] = S := rfl
      rw [hp0] at hr3
      clear hp0
      obtain ⟨hrr, hbl⟩ := HBL.out
      obtain ⟨hl, hlo⟩ := HL.out
      have h1 : room ≤ 1 ∧ (r : Int) = 1 ∨ 1 < room ∧ room ≤ 64 ∧ (r : Int) = room ∨ 64 < room ∧ (r : Int) = 64 := by omega
      have h2 : k ≤ r ∧ S.1.length = k ∧ S.2 = 0 ∨ r < k ∧ S.1.length = r ∧ S.2 = k - r := by omega
      have TB : Touch (fun k => k = rb ∨ k = sb) wb w3 := HK.out.2.trans ht3
      have HBL' := Lib.hid (And.intro hbl TB)
      clear hl hlo hbl hrr TB ht3
      have key : ∀ rI : Int, ((r : Int) = rI) → (rI ≤ 64 ∧ 1 ≤ rI) ∧
          (((k : Int) ≤ rI ∧ (S.1.length : Int) ≤ k ∧ (k : Int) ≤ S.1.length ∧ (S.2 : Int) ≤ 0 ∧ (k : Int) - rI ≤ 0) ∨ (rI < (k : Int) ∧ (S.1.length : Int) ≤ rI ∧ rI ≤ S.1.length ∧ (S.2 : Int) ≤ (k : Int) - rI ∧ (k : Int) - rI ≤ S.2 ∧ 0 < (k : Int) - rI)) := by
        intro rI e
        have : 1 ≤ r := hl1
        have : r ≤ 64 := by obtain ⟨_, _, h⟩ := hr3; exact h.room64
        omega
      rcases h1 with ⟨c1, c2⟩ | ⟨c1, c3, c2⟩ | ⟨c1, c2⟩
      all_goals
        obtain ⟨⟨b1, b2⟩, hk⟩ := key _ c2
        clear c2
        rcases hk with ⟨d1, d2, d3, d4, d5⟩ | ⟨d1, d2, d3, d4, d5, d6⟩
        all_goals
          have H2 := Lib.hid h2
          clear key h2
          go_wp2_with fail
          refine (len_any rb sb r _ _ w3 hr3).mono ?_
          rintro e w5 ⟨rfl, rfl⟩
          go_wp2_with fail
          refine (lost_any rb sb r _ _ w3 hr3).mono ?_
          rintro e w5 ⟨rfl, rfl⟩
          go_wp2_with fail
          refine (all_any rb sb r _ _ w3 hr3).mono ?_
          rintro e w4 ⟨v, rfl, hown, hb4⟩
          have ho := hown
          obtain ⟨a, cap, rfl, -, -, -, -⟩ := owns_form ho
          clear ho
          have hr4 := hr3.touch (Touch.of_below (S := fun _ => False) hb4) (fun h => h) (fun h => h)
          rw [ints_length]
          go_wp2_with fail
          refine (len_any rb sb r _ _ w4 hr4).mono ?_
          rintro e w5 ⟨rfl, rfl⟩
          go_wp2_with fail
          go_ret
          refine ⟨by simp, ?_⟩
          obtain ⟨hbl, TB⟩ := HBL'.out
          have H := HB.out
          exact (H.trans (hbl.mono H.size)).trans ((TB.trans (Touch.of_below hb4)).below (Nat.le_trans H.size hbl.size) (fun k hk => by have := H.size; omega))


/-! ### the row's step, and the row -/
theorem ringRoom_own : ownKnob Try.prog.godebug = none := by kernel_rfl
theorem ringRoom_laidOut : laidOutB Try.prog = true := by kernel_rfl

set_option linter.unusedVariables false in
set_option maxRecDepth 100000 in
theorem ringRoom_lifted (os : Os) (started : os.Started) (H : Type) (enc : TypeId × Value → H) :
    ReturnsInHanded {} Try.checked os 6 .any (Rows.ringRoomSpec.pre6 enc Try.prog Try.f6 Rows.ringRoomRow.domain false) (Rows.ringRoomSpec.post enc Try.prog Try.f6 false true false false) := by
  refine returnsInHanded_of_change (C := Try.checked) ringRoom_own started (by kernel_rfl) Try.func6
    (ChangeSpec.witness6 (enc := enc) (C := Try.checked) false ⟨#[], #[.int .i64 0, .int .i64 0], []⟩ 8 (by kernel_rfl) (by kernel_rfl) (by kernel_rfl) (by kernel_rfl)) ?_
  intro W base args ds gs before hval0 hW hcnd _
  have hval : ∀ (j : Nat) t v, Try.f6.params[j]? = some t → args[j]? = some v → Value.okWide Try.prog W .any base t v := hval0
  have hW' := hW
  obtain ⟨p, q, hA0, hV, rfl, hfz, hnd⟩ := hW
  have hA : DataW.TrodAll enc Try.prog W 0 (fun _ => true) true Try.f6.params.toList args.toList ds p := hA0
  rw [Try.params6] at hA hval
  obtain ⟨v0, vs0, d0, ds0, p0, q0, hargs, rfl, rfl, h0, r0⟩ := trodAll_cons hA
  obtain ⟨v1, vs1, d1, ds1, p1, q1, rfl, rfl, rfl, h1, r1⟩ := trodAll_cons r0
  obtain ⟨rfl, rfl, rfl⟩ := trodAll_nil r1
  obtain rfl : args = #[v0, v1] := by cases args; simp_all
  obtain ⟨rfl, rfl⟩ := trodVars_none hV
  obtain ⟨a0, rfl, rfl, rfl, w0⟩ := open_int Try.underlying3 (hval 0 3 v0 rfl rfl) h0
  obtain ⟨a1, rfl, rfl, rfl, w1⟩ := open_int Try.underlying3 (hval 1 3 v1 rfl rfl) h1
  clear hA0 hval0
  refine (ringRoom_walk a0 w0 a1 w1 W).mono fun e W' ⟨he, bel⟩ => ?_
  subst he
  exact ⟨_, rfl, _, _, _, [], _, [], hW', trodAll_mk1 (shut_bool Try.underlying4 _), (trodAll_cons_mk (shut_int Try.underlying3 w0) (trodAll_cons_mk (shut_int Try.underlying3 w1) trodAll_mk0)), rfl, bel.frame _, fun h => by cases h⟩

theorem ringRoom_over : Rows.ringRoomRow.holds Try.pinned (OpenSpec.ofChange Rows.ringRoomSpec) :=
  OpenClaim.holds_of_wide 6 Try.f6 rfl rfl rfl rfl rfl rfl rfl ⟨rfl, rfl, rfl, rfl, rfl⟩ rfl rfl rfl rfl rfl (by kernel_rfl) Try.func6 (by kernel_rfl)
    (of_decide_eq_true (by kernel_rfl)) (by unfold Func.isWrapper; first | (rw [if_pos (by decide +kernel)]; kernel_rfl) | (rw [if_neg (by decide +kernel)]; exact ⟨rfl, rfl⟩))
    (fun os started H enc _ => ringRoom_lifted os started H enc)

/-- THE STATEMENT. -/
theorem ringRoom_proved : Rows.RingRoomSaid := ringRoom_over
#print axioms ringRoom_proved
end Go.Proofs.Ythhjfoolijiacaa
