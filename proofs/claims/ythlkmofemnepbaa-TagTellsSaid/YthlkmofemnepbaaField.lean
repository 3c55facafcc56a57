/-
  THE WALKS over package field (layer 4) and Go's slices.Clone at []byte.
-/
import Derived.Test.YthlkmofemnepbaaRows
import Derived.Test.YthlkmofemnepbaaKit
import Derived.Test.YthlkmofemnepbaaInfo
import Derived.WalkSpells
namespace Go.Proofs.Ythlkmofemnepbaa
open Go.RowKit


set_option maxHeartbeats 1000000 in
theorem clone_any (a : Option Addr) (len cap : Nat) (zs : List Int) (w : World) (hl : zs.length = len) (hz : SlAt w a (bys zs)) (hc : a = none → cap = 0) (hn : len ≤ 100000) :
    Calls Try.prog 73 #[.slice a len cap] w (Made 5 (bys zs) w) := by
  subst hl
  obtain ⟨i0, hi, hz0, hz1, hz2⟩ := info_parts Try.info5
  cases a with
  | none =>
    have h0 : bys zs = [] := hz
    have h1 : zs = [] := by cases zs with | nil => rfl | cons _ _ => simp [bys] at h0
    subst h1
    have hc0 := hc rfl
    subst hc0
    have qT := fun (w : World) (a : Option Addr) (n c n' c' : Nat) => Lib.run_eql_slice_nil (P := Try.prog) w _ _ a n c n' c' Try.underlying26
    go_enter Try.func73, Try.ntmps73
    go_wp2
    go_ret
    exact ⟨_, rfl, by simpa [bys] using World.ownsRow_nil w _ _ _, Below.refl _ _⟩
  | some x =>
    have hsv : SlAt (w.alloc (.cells #[] 5)) (some x) (bys zs) := hz.touch ((Touch.refl (fun _ => False) _).alloc _) (fun _ _ _ h => h)
    have qT := fun (w : World) (a : Option Addr) (n c n' c' : Nat) => Lib.run_eql_slice_nil (P := Try.prog) w _ _ a n c n' c' Try.underlying26
    go_enter Try.func73, Try.ntmps73
    go_wp2_with (at_builtin; refine wpList_append_any rfl (.tmp 5) (.tmp 6) 26 rfl w.heap.size 5 i0 (.int .u8 0) 1 Try.underlying26 hi hz0 hz1 hz2 rfl _ 0 [] rfl (World.ownsRow_made w #[] 0 (Nat.le_refl _) (Nat.zero_le _) rfl) (some x) zs.length cap (bys zs) rfl (bys_length _) hsv (fun h => by cases h) (bys_one _) (by unfold maxLen; omega) (by omega) (by simp) ?_; intro v1 w1 ho1 hg1 _)
    go_ret
    exact ⟨v1, rfl, by simpa using ho1, ((Below.refl _ _).alloc (Nat.le_refl _) _).grown hg1 (by simp) (fun k hk => by cases hk; exact Nat.le_refl _)⟩

/-- A size, brought into 1 to 7. -/
def fitN (size : Int) : Nat := (min (max size 1) 7).toNat

theorem fit_any (size : Int) (w : World) : Calls Try.prog 74 #[.int .i64 size] w fun e w' => e = .returned (.int .i64 (fitN size)) ∧ w = w' := by
  have hc : size < 1 ∧ (fitN size : Int) = 1 ∨ 1 ≤ size ∧ size ≤ 7 ∧ (fitN size : Int) = size ∨ 7 < size ∧ (fitN size : Int) = 7 := by unfold fitN; omega
  rcases hc with ⟨k1, k2⟩ | ⟨k1, k3, k2⟩ | ⟨k1, k2⟩
  all_goals
    rw [k2]
    clear k2
    go_enter Try.func74, Try.ntmps74
    go_wp2
    go_ret
    exact ⟨rfl, rfl⟩

theorem clamp_any (size : Int) (w : World) : Calls Try.prog 77 #[.int .i64 size] w fun e w' => e = .returned (.int .i64 (fitN size)) ∧ w = w' := by
  have hc : size ≤ 1 ∧ (fitN size : Int) = 1 ∨ 1 < size ∧ size ≤ 7 ∧ (fitN size : Int) = size ∨ 7 < size ∧ (fitN size : Int) = 7 := by unfold fitN; omega
  rcases hc with ⟨k1, k2⟩ | ⟨k1, k3, k2⟩ | ⟨k1, k2⟩
  all_goals
    rw [k2]
    clear k2
    go_enter Try.func77, Try.ntmps77
    go_wp2
    go_ret
    exact ⟨rfl, rfl⟩

/-- Byte k of a number, the lowest one is byte 0. -/
def putByte (n : Int) (k : Nat) : Int := n / 2 ^ (8 * k) % 256
/-- The first j of m bytes of a number, the highest one first. -/
def putList (n : Int) (m j : Nat) : List Int := (List.range j).map fun i => putByte n (m - 1 - i)

theorem putList_succ (n : Int) (m j : Nat) : putList n m (j + 1) = putList n m j ++ [putByte n (m - 1 - j)] := by simp [putList, List.range_succ]
theorem putList_len (n : Int) (m j : Nat) : (putList n m j).length = j := by simp [putList]

set_option maxHeartbeats 1000000 in
theorem put_any (a : Option Addr) (len cap : Nat) (zs : List Int) (n size : Int) (w : World) (hl : zs.length = len) (hz : SlAt w a (bys zs)) (hc : a = none → cap = 0) (hn : len ≤ 90000) :
    Calls Try.prog 42 #[.slice a len cap, .int .i64 n, .int .i64 size] w (Made 5 (bys (zs ++ putList n (fitN size) (fitN size))) w) := by
  obtain ⟨i0, hi, hz0, hz1, hz2⟩ := info_parts Try.info5
  obtain ⟨m, hm⟩ : ∃ m, m = fitN size := ⟨_, rfl⟩
  have h7 : 1 ≤ m ∧ m ≤ 7 := by rw [hm]; unfold fitN; omega
  rw [← hm]
  have HM := Lib.hid hm
  clear hm
  go_enter Try.func42, Try.ntmps42
  go_wp2_with fail
  refine (clone_any a len cap zs w hl hz hc (by omega)).mono ?_
  rintro e w1 ⟨v, rfl, hown, hb⟩
  rw [bys_length, hl] at hown
  have H1 := Lib.hid (And.intro hown hb)
  have HL := Lib.hid hl
  clear hown hb hl hz
  go_wp2_with fail
  refine (fit_any size w1).mono ?_
  rintro e w2 ⟨rfl, rfl⟩
  rw [← HM.out]
  go_wp2_with fail
  go_loopw [7, 8] (fun o k wr => ∃ q j : Nat, q + j = m ∧ k = .int .i64 ((q : Int) - 1) ∧ wr.ownsRow w.heap.size 5 1 o (len + j) (bys (zs ++ putList n m j)) ∧ Below w.heap.size w wr) (fun _ k _ => (intOf k + 1).toNat)
  case atStart => exact ⟨m, 0, rfl, by simp, by simpa [putList] using H1.out.1, H1.out.2⟩
  case round =>
    obtain ⟨q, j, hqj, rfl, hown, hb⟩ := hrel
    by_cases hq : q = 0
    · subst hq
      have hj : j = m := by omega
      subst hj
      have H2 := Lib.hid (And.intro hown hb)
      clear hown hb
      go_wp2_with fail
      go_ret
      refine ⟨u7, rfl, ?_, H2.out.2⟩
      rw [bys_length, List.length_append, putList_len, HL.out]
      exact H2.out.1
    · obtain ⟨k, rfl⟩ : ∃ k, q = k + 1 := ⟨q - 1, by omega⟩
      have H2 := Lib.hid (And.intro hown hb)
      clear hown hb
      go_wp2_with (at_builtin; refine wpList_append_one rfl (.tmp 18) (.tmp 24) 26 rfl w.heap.size 5 i0 (.int .u8 0) 1 Try.underlying26 hi hz0 hz1 hz2 rfl u7 _ _ rfl (H2.out.1.alloc _) wr.heap.size _ rfl (by simp; rfl) rfl (by unfold maxLen; omega) (by omega) (by have := H2.out.2.size; simp; omega) ?_; intro v1 w1 ho1 hg1)
      go_roundw
      case rel =>
        refine ⟨k, j + 1, by omega, by first | go_num | (congr 1; omega), ?_, ?_⟩
        · rw [putList_succ, ← List.append_assoc, bys_append, show m - 1 - j = k by omega]
          exact ho1
        · exact (H2.out.2.alloc H2.out.2.size _).grown hg1 (by have := H2.out.2.size; simp; omega) (fun k hk => (H2.out.1.lt k hk).1)
      case measure => simp [intOf]
end Go.Proofs.Ythlkmofemnepbaa
