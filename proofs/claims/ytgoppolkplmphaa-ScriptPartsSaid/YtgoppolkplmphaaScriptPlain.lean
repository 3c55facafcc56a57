/-
  PLAIN FACTS on acts (layer 26), for ScriptParts; and an append of acts.
-/
import Derived.Test.YtgoppolkplmphaaRows
import Derived.Test.YtgoppolkplmphaaScriptSmall
namespace Go.Proofs.Ytgoppolkplmphaa
open Go.RowKit

theorem actsOf_split (j : Nat) : ∀ zs : List Nat, 4 * j ≤ zs.length → actsOf (zs.take (4 * j)) ++ actsOf (zs.drop (4 * j)) = actsOf zs := by
  induction j with
  | zero => intro zs _; simp [actsOf]
  | succ j ih =>
    intro zs h
    match zs, h with
    | y0 :: y1 :: y2 :: y3 :: r, h =>
      simp only [List.length_cons] at h
      rw [show 4 * (j + 1) = 4 * j + 1 + 1 + 1 + 1 by omega]
      simp only [List.take_succ_cons, List.drop_succ_cons, actsOf, List.cons_append]
      rw [ih r (by omega)]
    | [], h => simp at h
    | [_], h => simp at h; omega
    | [_, _], h => simp at h; omega
    | [_, _, _], h => simp at h; omega

theorem kOf_le (p : Nat) : kOf p ≤ 7 := by
  unfold kOf
  repeat' split
  all_goals omega

/-- What is right of every act. -/
structure ActRight (v : ActV) : Prop where
  dn : ∃ k : Nat, v.dn = k ∧ k ≤ 7
  who : 1 ≤ v.who ∧ v.who ≤ 3
  inj : v.inj.length = if v.dn = 7 then 2 else 0
  kd : (0 < v.kd) ↔ v.dn = 6

theorem actOf_right (y0 y1 y2 y3 : Nat) : ActRight (actOf y0 y1 y2 y3) := by
  have hk := kOf_le (y0 % 16)
  refine ⟨⟨_, rfl, hk⟩, ?_, ?_, ?_⟩
  · simp [actOf]
    omega
  · simp only [actOf]
    by_cases h : kOf (y0 % 16) = 7
    · simp [h]
    · have h2 : ¬ ((kOf (y0 % 16) : Nat) : Int) = 7 := by omega
      simp [h, h2]
  · simp only [actOf]
    by_cases h : kOf (y0 % 16) = 6
    · simp [h, ordOf]
      repeat' split
      all_goals simp
    · have h2 : ¬ ((kOf (y0 % 16) : Nat) : Int) = 6 := by omega
      simp [h, h2]

theorem actsOf_right (n : Nat) : ∀ zs : List Nat, zs.length ≤ n → ∀ v ∈ actsOf zs, ActRight v := by
  induction n using Nat.strongRecOn with
  | _ n ih =>
    intro zs h v hv
    match zs, h, hv with
    | y0 :: y1 :: y2 :: y3 :: r, h, hv =>
      simp only [actsOf, List.mem_cons] at hv
      rcases hv with rfl | hv
      · exact actOf_right _ _ _ _
      · exact ih (n - 4) (by simp at h; omega) r (by simp at h; omega) v hv
    | [], _, hv => rw [actsOf_small _ (by simp)] at hv; cases hv
    | [_], _, hv => rw [actsOf_small _ (by simp)] at hv; cases hv
    | [_, _], _, hv => rw [actsOf_small _ (by simp)] at hv; cases hv
    | [_, _, _], _, hv => rw [actsOf_small _ (by simp)] at hv; cases hv

/-- All that is done is counted once. -/
theorem count_all (L : List ActV) (h : ∀ v ∈ L, ActRight v) : countV L 0 + countV L 1 + countV L 2 + countV L 3 + countV L 4 + countV L 5 + countV L 6 + countV L 7 = L.length := by
  induction L with
  | nil => rfl
  | cons v L ih =>
    have h2 := ih (fun u hu => h u (List.mem_cons_of_mem _ hu))
    obtain ⟨k, hk, hk7⟩ := (h v (List.mem_cons_self ..)).dn
    have e : ∀ d : Int, countV (v :: L) d = countV L d + (if v.dn = d then 1 else 0) := fun d => by
      unfold countV
      by_cases hd : v.dn = d <;> simp [hd]
    simp only [e, hk, List.length_cons]
    obtain rfl | rfl | rfl | rfl | rfl | rfl | rfl | rfl : k = 0 ∨ k = 1 ∨ k = 2 ∨ k = 3 ∨ k = 4 ∨ k = 5 ∨ k = 6 ∨ k = 7 := by omega
    all_goals (simp; omega)

theorem actNamed_some (k : Nat) (h : k ≤ 7) : actNamed (k : Int) ≠ ⟨#[]⟩ := by
  obtain rfl | rfl | rfl | rfl | rfl | rfl | rfl | rfl : k = 0 ∨ k = 1 ∨ k = 2 ∨ k = 3 ∨ k = 4 ∨ k = 5 ∨ k = 6 ∨ k = 7 := by omega
  all_goals decide
end Go.Proofs.Ytgoppolkplmphaa
