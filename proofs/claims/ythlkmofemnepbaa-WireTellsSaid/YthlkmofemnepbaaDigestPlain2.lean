/-
  PLAIN FACTS on the digest's words (layer 2).
-/
import Derived.Test.YthlkmofemnepbaaRows
import Derived.Test.YthlkmofemnepbaaDigestPlain
namespace Go.Proofs.Ythlkmofemnepbaa

/-- The next word of a list that is held the first one first. -/
def nextFwd (l : List Nat) : Nat := nextWord l.reverse
def growW : Nat → List Nat → List Nat
  | 0, l => l
  | n + 1, l => growW n (l ++ [nextFwd l])

theorem growW_eq (n : Nat) : ∀ rev : List Nat, (moreWords n rev).reverse = growW n rev.reverse := by
  induction n with
  | zero => intro rev; rfl
  | succ n ih =>
    intro rev
    simp only [moreWords, growW, nextFwd, List.reverse_reverse]
    rw [ih]
    simp

theorem schedule_grow (bs : List Nat) : schedule bs = growW 48 (words16 16 bs) := by
  unfold schedule
  rw [growW_eq]
  simp

theorem growW_succ (n : Nat) : ∀ l : List Nat, growW (n + 1) l = growW n l ++ [nextFwd (growW n l)] := by
  induction n with
  | zero => intro l; rfl
  | succ n ih =>
    intro l
    rw [show growW (n + 1 + 1) l = growW (n + 1) (l ++ [nextFwd l]) from rfl, ih]
    rfl

theorem growW_len (n : Nat) (l : List Nat) : (growW n l).length = l.length + n := by
  induction n with
  | zero => rfl
  | succ n ih => rw [growW_succ, List.length_append, ih]; rfl

theorem nextFwd_eq (l : List Nat) (h : 16 ≤ l.length) : nextFwd l = (l.getD (l.length - 16) 0 + l.getD (l.length - 7) 0 + sig0 (l.getD (l.length - 15) 0) + sig1 (l.getD (l.length - 2) 0)) % M32 := by
  have e : ∀ k, k < l.length → l.reverse.getD k 0 = l.getD (l.length - 1 - k) 0 := fun k hk => by
    simp only [List.getD_eq_getElem?_getD]
    rw [List.getElem?_reverse hk]
  unfold nextFwd nextWord
  rw [e 15 (by omega), e 6 (by omega), e 14 (by omega), e 1 (by omega)]
  rfl

theorem words16_spec (n : Nat) : ∀ bs : List Nat, bs.length = 4 * n → (words16 n bs).length = n ∧ ∀ j, j < n → (words16 n bs)[j]? = some (word4 (bs.getD (4 * j) 0) (bs.getD (4 * j + 1) 0) (bs.getD (4 * j + 2) 0) (bs.getD (4 * j + 3) 0)) := by
  induction n with
  | zero => intro bs _; exact ⟨rfl, fun j hj => absurd hj (Nat.not_lt_zero _)⟩
  | succ n ih =>
    intro bs h
    match bs, h with
    | a :: b :: c :: d :: r, h =>
      obtain ⟨h1, h2⟩ := ih r (by simp at h; omega)
      refine ⟨by simp [words16, h1], fun j hj => ?_⟩
      cases j with
      | zero => rfl
      | succ j =>
        have h3 := h2 j (by omega)
        simp only [words16, List.getElem?_cons_succ, h3]
        rw [show 4 * (j + 1) = 4 * j + 1 + 1 + 1 + 1 by omega]
        rfl
    | [], h => simp at h
    | [_], h => simp at h; omega
    | [_, _], h => simp at h; omega
    | [_, _, _], h => simp at h; omega
end Go.Proofs.Ythlkmofemnepbaa
