/-
  THE WALKS over package nightjarref08: the document's own ring, and when two rows of numbers are the same.
-/
import Derived.Test.YthhjfoolijiacaaRows
import Derived.Test.YthhjfoolijiacaaRing
namespace Go.Proofs.Ythhjfoolijiacaa
open Go.RowKit

theorem same_any (a b : Option Addr) (ca cb : Nat) (xs ys : List Int) (w : World) (hx : SlAt w a (ints xs)) (hy : SlAt w b (ints ys)) (lx : xs.length ≤ 1000000) (ly : ys.length ≤ 1000000) :
    Calls Try.prog 15 #[.slice a xs.length ca, .slice b ys.length cb] w fun e w' => e = .returned (.bool (decide (xs = ys))) ∧ Touch (fun _ => False) w w' := by
  by_cases hl : xs.length = ys.length
  · have hl' : ((xs.length : Int) != ys.length) = false := by simp [hl]
    have HL := Lib.hid hl; clear hl
    go_enter Try.func15, Try.ntmps15
    go_wp2
    go_loopw [5] (fun i wr => ∃ k : Nat, k ≤ xs.length ∧ i = .int .i64 k ∧ xs.take k = ys.take k ∧ Touch (fun _ => False) w wr) (fun i _ => xs.length - (intOf i).toNat)
    case atStart => exact ⟨0, Nat.zero_le _, rfl, by simp, Touch.refl _ _⟩
    case round =>
      obtain ⟨k, hk, rfl, hsame, ht⟩ := hrel
      by_cases hlt : k < xs.length
      · have hlt' : k < ys.length := by have := HL.out; omega
        have hx' := hx.touch ht (fun _ _ _ h => h)
        have hy' := hy.touch ht (fun _ _ _ h => h)
        obtain ⟨pb, po, ea, -⟩ := hx'.get (ints_at xs hlt)
        obtain ⟨qb, qo, eb, -⟩ := hy'.get (ints_at ys hlt')
        subst ea eb
        obtain ⟨u, hu⟩ : ∃ u, u = xs.getD k 0 := ⟨_, rfl⟩
        obtain ⟨v, hv⟩ : ∃ v, v = ys.getD k 0 := ⟨_, rfl⟩
        have c1 : wr.cell? ⟨pb, po + k, none⟩ = some (.int .i64 u) := by rw [hu]; exact (hx' k _ (ints_at xs hlt)).2
        have c2 : wr.cell? ⟨qb, qo + k, none⟩ = some (.int .i64 v) := by rw [hv]; exact (hy' k _ (ints_at ys hlt')).2
        have HS := Lib.hid (And.intro hu (And.intro hv (And.intro hsame (And.intro hx hy))))
        clear hu hv hsame hx hy hx' hy'
        go_wp2
        go_quiet (fail)
        by_cases huv : u = v
        · have huv' : (u != v) = false := by simp [huv]
          have HUV := Lib.hid huv; clear huv
          go_wp2
          go_roundw
          case rel =>
            obtain ⟨h1, h2, h3, _⟩ := HS.out
            have h4 := HUV.out
            refine ⟨k + 1, by omega, by go_num, ?_, ht.drewN _⟩
            rw [take_snoc' xs hlt, take_snoc' ys hlt', h3, ← h1, ← h2, h4]
          case measure => simp [intOf]; omega
        · have huv' : (u != v) = true := by simp [huv]
          have HUV := Lib.hid huv; clear huv
          go_wp2
          go_ret
          obtain ⟨h1, h2, h3, _⟩ := HS.out
          have h4 := HUV.out
          have hne : xs ≠ ys := by
            rintro rfl
            exact h4 (by rw [h1, h2])
          exact ⟨by simp [hne], ht.drewN _⟩
      · have hk' : k = xs.length := by omega
        have HS := Lib.hid hsame; clear hsame
        go_wp2
        go_ret
        have h1 := HS.out
        have h2 := HL.out
        rw [hk', List.take_length, h2, List.take_length] at h1
        exact ⟨by simp [h1], ht⟩
  · have hl' : ((xs.length : Int) != ys.length) = true := by simp; omega
    have HL := Lib.hid hl; clear hl
    go_enter Try.func15, Try.ntmps15
    go_wp2
    go_ret
    have hne : xs ≠ ys := fun e => HL.out (by rw [e])
    exact ⟨by simp [hne], Touch.refl _ _⟩

end Go.Proofs.Ythhjfoolijiacaa
