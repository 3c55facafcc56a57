/-
  THE WALK of nightjarlaw26.small (layer 26): the small case comes out right.
-/
import Derived.Test.YtgoppolkplmphaaRows
import Derived.Test.YtgoppolkplmphaaScriptSame
import Derived.Test.YtgoppolkplmphaaScriptNamed
namespace Go.Proofs.Ytgoppolkplmphaa
open Go.RowKit

theorem SlAt.of_blk {w : World} {b : Nat} {T : TypeId} {c : Array Value} {xs : List Value} (h : Blk w b T c) (hx : c.toList = xs) : SlAt w (some ⟨b, 0, none⟩) xs := by
  subst hx
  intro j u hj
  refine ⟨rfl, ?_⟩
  simp only [Nat.zero_add]
  exact h.cell j (by simpa using hj)

def smallBytes : List Nat := [12, 1, 0, 5, 5, 0, 9, 0, 14, 2, 1, 9, 31, 3, 7, 8, 1, 1]
def smallRow (b : Nat) : ActRow := [(⟨4, 2, 5000, 0, 0, 0, 0, []⟩, none, 0), (⟨1, 1, 9, 0, 0, 0, 0, []⟩, none, 0), (⟨6, 3, 0, 7, 0, 3, 2, []⟩, none, 0), (⟨7, 1, 0, 0, 0, 0, 0, [7, 8]⟩, some ⟨b, 0, none⟩, 2)]
theorem smallRow_acts (b : Nat) : (smallRow b).map (·.1) = actsOf smallBytes := rfl

/-- What acts that were handed back look like. -/
theorem acts_form {w : World} {base : Nat} {v : Value} {R : ActRow} (h : ActsOwn w base v R) : ∃ a c, v = .slice a R.length c ∧ R.length ≤ c ∧ c ≤ maxLen ∧ (a = none → R = []) := by
  obtain ⟨a, c, rfl, h1, h2, h3, _⟩ := owns_form h.row
  exact ⟨a, c, rfl, h2, h3, fun e => List.eq_nil_of_length_eq_zero (h1 e).1⟩

set_option maxRecDepth 100000 in
set_option maxHeartbeats 4000000 in
theorem scriptSmall_any (w : World) : Calls Try.prog 35 #[] w fun e w' => e = .returned (.bool true) ∧ Below w.heap.size w w' := by
  go_enter Try.func35, Try.ntmps35
  go_wp2_with fail
  refine (acts_any (some ⟨w.heap.size, 0, none⟩) 18 18 smallBytes _ rfl (SlAt.of_blk (Blk.new _ _ _) rfl) (by decide) (fun h => by cases h) (by decide) (by decide) (by decide)).mono ?_
  rintro e w1 ⟨v1, R1, rfl, hown, hR1, hb1⟩
  obtain ⟨a1, c1, rfl, hl1, hm1, _⟩ := acts_form hown
  have hn1 : R1.length = 4 := by have h := congrArg List.length hR1; rw [List.length_map] at h; exact h.trans rfl
  rw [hn1] at hown hl1 ⊢
  have hrow := RowAt.of_owns hown
  have hbw : Below w.heap.size w w1 := ((Below.refl _ _).alloc (Nat.le_refl _) _).trans (hb1.mono (by simp))
  have H1 := Lib.hid (And.intro hrow (And.intro hR1 (And.intro hn1 hbw)))
  clear hown hb1 hrow hR1 hn1 hbw
  go_wp2_with fail
  refine (same_eq_acts a1 (some ⟨w1.heap.size + 1, 0, none⟩) 4 c1 4 R1 (smallRow w1.heap.size) _ (H1.out.1.same (((Touch.refl _ _).alloc _).alloc _)) ?_ H1.out.2.2.1 (by rw [H1.out.2.1, smallRow_acts]) hl1 (Nat.le_refl _) hm1 (by decide)).mono ?_
  · refine ⟨SlAt.of_blk (Blk.new' (by simp)) rfl, fun q hq => ?_⟩
    simp [smallRow] at hq
    rcases hq with rfl | rfl | rfl | rfl
    · rfl
    · rfl
    · rfl
    · exact SlAt.of_blk ((Blk.new _ _ _).alloc _) rfl
  rintro e w2 ⟨rfl, hb2⟩
  have t12 : Touch (fun _ => False) w1 w2 := (((Touch.refl _ _).alloc _).alloc _).trans (Touch.of_below hb2)
  have H2 := Lib.hid t12
  clear hb2 t12
  go_wp2_with fail
  refine (act_named 7 w2).mono ?_
  rintro e w3 ⟨rfl, hb3⟩
  rw [show actNamed 7 = ⟨#[105, 110, 106, 101, 99, 116]⟩ from rfl]
  have H3 := Lib.hid hb3
  clear hb3
  go_wp2_with fail
  refine (act_named 8 w3).mono ?_
  rintro e w4 ⟨rfl, hb4⟩
  rw [show actNamed 8 = ⟨#[]⟩ from rfl]
  have H4 := Lib.hid hb4
  clear hb4
  have t14 : Touch (fun _ => False) w1 w4 := (H2.out.trans (Touch.of_below H3.out)).trans (Touch.of_below H4.out)
  have H5 := Lib.hid t14
  clear t14
  go_wp2_with fail
  refine (count_any a1 4 c1 R1 1 w4 (H1.out.1.same H5.out) H1.out.2.2.1 hl1 hm1).mono ?_
  rintro e w5 ⟨rfl, hb5⟩
  rw [H1.out.2.1, show countV (actsOf smallBytes) 1 = 1 from rfl]
  have H6 := Lib.hid hb5
  clear hb5
  go_wp2_with fail
  refine (acts_any (some ⟨w5.heap.size, 0, none⟩) 3 3 [1, 2, 3] _ rfl (SlAt.of_blk (Blk.new _ _ _) rfl) (by decide) (fun h => by cases h) (by decide) (by decide) (by decide)).mono ?_
  rintro e w6 ⟨v6, R6, rfl, hown, hR6, hb6⟩
  obtain ⟨a6, c6, rfl, _, _, _⟩ := acts_form hown
  have hn6 : R6.length = 0 := by have h := congrArg List.length hR6; rw [List.length_map] at h; exact h.trans rfl
  rw [hn6]
  have t56 : Touch (fun _ => False) w5 w6 := ((Touch.refl _ _).alloc _).trans (Touch.of_below hb6)
  have H7 := Lib.hid t56
  clear hown hb6 t56 hR6 hn6
  go_wp2_with fail
  go_ret
  exact ⟨rfl, H1.out.2.2.2.trans (((H5.out.trans (Touch.of_below H6.out)).trans H7.out).below H1.out.2.2.2.size (fun _ _ h => h))⟩
end Go.Proofs.Ytgoppolkplmphaa
