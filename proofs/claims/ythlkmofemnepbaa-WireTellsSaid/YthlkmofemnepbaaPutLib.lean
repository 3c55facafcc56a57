/-
  PLAIN FACTS about laid numbers, and field.Put at a nil slice (without the reader).
-/
import Derived.Test.YthlkmofemnepbaaField
namespace Go.Proofs.Ythlkmofemnepbaa
open Go.RowKit

theorem putByte_add (n t : Int) (m k : Nat) (h : k < m) : putByte (n + t * 2 ^ (8 * m)) k = putByte n k := by
  obtain ⟨d, rfl⟩ : ∃ d, m = k + 1 + d := ⟨m - k - 1, by omega⟩
  have e : (2 : Int) ^ (8 * (k + 1 + d)) = 2 ^ (8 * d) * 256 * 2 ^ (8 * k) := by
    rw [show 8 * (k + 1 + d) = 8 * d + 8 + 8 * k by omega, Int.pow_add, Int.pow_add]
    rfl
  have hp : (2 : Int) ^ (8 * k) ≠ 0 := Int.ne_of_gt (Int.pow_pos (by decide))
  unfold putByte
  rw [e, show t * (2 ^ (8 * d) * 256 * 2 ^ (8 * k)) = (t * 2 ^ (8 * d) * 256) * 2 ^ (8 * k) by simp only [Int.mul_assoc], Int.add_mul_ediv_right _ _ hp]
  omega

theorem putList_add (n t : Int) (m : Nat) : putList (n + t * 2 ^ (8 * m)) m m = putList n m m := by
  unfold putList
  refine List.map_congr_left fun i hi => ?_
  rw [List.mem_range] at hi
  exact putByte_add n t m _ (by omega)

theorem putByte_range (n : Int) (k : Nat) : 0 ≤ putByte n k ∧ putByte n k < 256 := by
  unfold putByte
  omega

theorem putList_range (n : Int) (m j : Nat) : ∀ z ∈ putList n m j, 0 ≤ z ∧ z < 256 := by
  intro z hz
  unfold putList at hz
  rw [List.mem_map] at hz
  obtain ⟨i, _, rfl⟩ := hz
  exact putByte_range _ _

def PutNil (m : Nat) (xs : List Int) (w : World) (e : Ending) (w' : World) : Prop :=
  ∃ a c, e = .returned (.slice a m c) ∧ w'.ownsRow w.heap.size 5 1 (.slice a m c) m (bys xs) ∧ xs.length = m ∧ (a = none → c = 0) ∧ Below w.heap.size w w'

theorem put_nil (n size : Int) (m : Nat) (xs : List Int) (w : World) (hm : fitN size = m) (hx : putList n m m = xs) :
    Calls Try.prog 42 #[.slice none 0 0, .int .i64 n, .int .i64 size] w (PutNil m xs w) := by
  refine (put_any none 0 0 [] n size w rfl rfl (fun _ => rfl) (by decide)).mono ?_
  rintro e w1 ⟨v, rfl, ho, hb⟩
  subst hm hx
  rw [List.nil_append, bys_length, putList_len] at ho
  obtain ⟨a, c, rfl, h1, _, _, _⟩ := owns_form ho
  exact ⟨a, c, rfl, ho, putList_len _ _ _, fun h => (h1 h).2, hb⟩

end Go.Proofs.Ythlkmofemnepbaa
