/-
  THE WALKS of cookies (layer 6): a number's bytes.
-/
import Derived.Test.YthlkmofemnepbaaRows
import Derived.Test.YthlkmofemnepbaaCookiePlain
import Derived.Test.YthlkmofemnepbaaFieldRf
import Derived.Test.YthlkmofemnepbaaMacRef
import Derived.Test.YthlkmofemnepbaaMacSmall
import Derived.Test.YthlkmofemnepbaaChain
namespace Go.Proofs.Ythlkmofemnepbaa
open Go.RowKit

/-- Seven new bytes. -/
def Num7 (n : Int) (w : World) (e : Ending) (w' : World) : Prop :=
  ∃ a c, e = .returned (.slice a 7 c) ∧ w'.ownsRow w.heap.size 5 1 (.slice a 7 c) 7 (bn (num7 n)) ∧ SlAt w' a (bn (num7 n)) ∧ (a = none → c = 0) ∧ Below w.heap.size w w'

theorem put7 (n : Int) (w : World) : Calls Try.prog 42 #[.slice none 0 0, .int .i64 n, .int .i64 7] w (Num7 n w) := by
  refine (put_nil n 7 7 (putList n 7 7) w (by decide) rfl).mono ?_
  rintro e w1 ⟨a, c, rfl, ho, hl, hc, hb⟩
  rw [← bn_num7] at ho
  exact ⟨a, c, rfl, ho, SlAt.of_owns ho, hc, hb⟩

theorem refput7 (n : Int) (w : World) : Calls Try.prog 45 #[.slice none 0 0, .int .i64 n, .int .i64 7] w (Num7 n w) := by
  refine (refput_any none 0 0 [] n 7 w rfl rfl (fun _ => rfl) (by decide)).mono ?_
  rintro e w1 ⟨v, rfl, ho, hb⟩
  rw [List.nil_append, show fitN 7 = 7 by decide, bys_length, putList_len, ← bn_num7] at ho
  obtain ⟨a, c, rfl, h1, _, _, _⟩ := owns_form ho
  exact ⟨a, c, rfl, ho, SlAt.of_owns ho, fun h => (h1 h).2, hb⟩

set_option maxRecDepth 100000 in
theorem number_any (n : Int) (w : World) : Calls Try.prog 57 #[.int .i64 n] w (Num7 n w) := by
  go_enter Try.func57, Try.ntmps57
  go_wp2_with fail
  (with_reducible refine (put7 n _).mono ?_)
  rintro e w1 ⟨a, c, rfl, ho, hs, hc, hb⟩
  go_wp2_with fail
  go_ret
  exact ⟨a, c, rfl, ho, hs, hc, hb⟩

set_option maxRecDepth 100000 in
theorem bytes_any (n : Int) (w : World) : Calls Try.prog 59 #[.int .i64 n] w (Num7 n w) := by
  go_enter Try.func59, Try.ntmps59
  go_wp2_with fail
  (with_reducible refine (refput7 n _).mono ?_)
  rintro e w1 ⟨a, c, rfl, ho, hs, hc, hb⟩
  go_wp2_with fail
  go_ret
  exact ⟨a, c, rfl, ho, hs, hc, hb⟩
end Go.Proofs.Ythlkmofemnepbaa
