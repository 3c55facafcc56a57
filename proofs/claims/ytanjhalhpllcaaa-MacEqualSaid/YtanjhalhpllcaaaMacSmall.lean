/-
  THE WALK over nightjarlaw03.small: the small case comes out right.
-/
import Derived.Test.YtanjhalhpllcaaaRows
import Derived.Test.YtanjhalhpllcaaaMacOf
import Derived.Test.YtanjhalhpllcaaaMacEqual
import Derived.Test.YtanjhalhpllcaaaSlices
namespace Go.Proofs.Ytanjhalhpllcaaa
open Go.RowKit

theorem slat_none (w : World) : SlAt w none (bn []) := rfl

theorem macOf_eq (a : Option Addr) (nk cap : Nat) (key : List Nat) (ap : Option Addr) (n cp : Nat) (L : List Part) (b : List Nat) (w : World) (hk : key.length = nk) (hb : flatP L = b) (hl : L.length = n) (hs : SlAt w a (bn key)) (hc : a = none → cap = 0) (hr : ∀ y ∈ key, y < 256) (hn : nk ≤ 100000)
    (hp : PartsIn w ap L) (hpc : ap = none → cp = 0) (hpr : ∀ y ∈ b, y < 256) (hpn : b.length ≤ 100000) (hm : n ≤ 1000) :
    Calls Try.prog 15 #[.slice a nk cap, .slice ap n cp] w fun e w' => e = .returned (.agg (bn (hmac key b)).toArray) ∧ Below w.heap.size w w' := by
  subst hk hb hl
  exact macOf_any a cap key ap cp L w hs hc hr hn hp hpc hpr hpn hm

theorem macEqual_eq (r : Bool) (a : Option Addr) (n ca : Nat) (x : List Nat) (b : Option Addr) (m cb : Nat) (y : List Nat) (w : World) (hr : decide (x = y) = r) (hn : x.length = n) (hm : y.length = m) (hx : SlAt w a (bn x)) (hy : SlAt w b (bn y)) (hxr : ∀ z ∈ x, z < 256) (hyr : ∀ z ∈ y, z < 256) (hnl : n ≤ 9223372036854775807) (hml : m ≤ 9223372036854775807) :
    Calls Try.prog 17 #[.slice a n ca, .slice b m cb] w fun e w' => e = .returned (.bool r) ∧ Touch (fun _ => False) w w' := by
  subst hn hm hr
  exact macEqual_any a ca x b cb y w hx hy hxr hyr hnl hml

set_option maxRecDepth 100000 in
set_option maxHeartbeats 4000000 in
theorem macSmall_any (w : World) : Calls Try.prog 14 #[] w fun e w' => e = .returned (.bool true) ∧ Below w.heap.size w w' := by
  have kc := fun (w : World) (C : Array Value) (n c : Nat) => Lib.run_convert_bytes_const (P := Try.prog) w 22 5 C n c Try.underlying22 Try.underlying5
  have kc1 := run_const1 (P := Try.prog) 22 5 Try.underlying22 Try.underlying5
  have kc2 := run_const2 (P := Try.prog) 22 5 Try.underlying22 Try.underlying5
  go_enter Try.func14, Try.ntmps14
  go_wp2_with fail
  (with_reducible refine (macOf_eq _ 4 4 [74, 101, 102, 101] _ 2 2 [⟨some ⟨w.heap.size + 1, 0, none⟩, 16, [119, 104, 97, 116, 32, 100, 111, 32, 121, 97, 32, 119, 97, 110, 116, 32]⟩, ⟨some ⟨w.heap.size + 2, 0, none⟩, 12, [102, 111, 114, 32, 110, 111, 116, 104, 105, 110, 103, 63]⟩] [119, 104, 97, 116, 32, 100, 111, 32, 121, 97, 32, 119, 97, 110, 116, 32, 102, 111, 114, 32, 110, 111, 116, 104, 105, 110, 103, 63] _ rfl rfl rfl ?_ (fun h => by cases h) (by decide) (by decide) ?_ (fun h => by cases h) (by decide) (by decide) (by decide)).mono ?_)
  · exact (((SlAt.new_at rfl #[.int .u8 74, .int .u8 101, .int .u8 102, .int .u8 101] _ (4, 5)).alloc _).alloc _).alloc _
  · refine PartsIn.lay (by simp) [⟨some ⟨w.heap.size + 1, 0, none⟩, 16, [119, 104, 97, 116, 32, 100, 111, 32, 121, 97, 32, 119, 97, 110, 116, 32]⟩, ⟨some ⟨w.heap.size + 2, 0, none⟩, 12, [102, 111, 114, 32, 110, 111, 116, 104, 105, 110, 103, 63]⟩] _ (fun p hp => ?_)
    simp only [List.mem_cons, List.not_mem_nil, or_false] at hp
    rcases hp with rfl | rfl
    · exact ⟨(SlAt.new_at (by simp) #[.int .u8 119, .int .u8 104, .int .u8 97, .int .u8 116, .int .u8 32, .int .u8 100, .int .u8 111, .int .u8 32, .int .u8 121, .int .u8 97, .int .u8 32, .int .u8 119, .int .u8 97, .int .u8 110, .int .u8 116, .int .u8 32] _ (16, 17)).alloc _, fun h => by cases h⟩
    · exact ⟨SlAt.new_at (by simp) #[.int .u8 102, .int .u8 111, .int .u8 114, .int .u8 32, .int .u8 110, .int .u8 111, .int .u8 116, .int .u8 104, .int .u8 105, .int .u8 110, .int .u8 103, .int .u8 63] _ (12, 13), fun h => by cases h⟩
  rintro e w1 ⟨rfl, hb1⟩
  obtain ⟨D1, hD1⟩ : ∃ D1, D1 = hmac [74, 101, 102, 101] [119, 104, 97, 116, 32, 100, 111, 32, 121, 97, 32, 119, 97, 110, 116, 32, 102, 111, 114, 32, 110, 111, 116, 104, 105, 110, 103, 63] := ⟨_, rfl⟩
  rw [← hD1]
  have HD1 := Lib.hid (And.intro hD1 (And.intro (show (bn D1).toArray.size = 32 by rw [bn_size, hD1, hmac_len]) (bn_all D1)))
  have H1 : Hid (Touch (fun _ => False) w w1) := Lib.hid (((((Touch.refl _ w).alloc _).alloc _).alloc _).alloc _ |>.trans (Touch.of_below hb1))
  clear hD1 hb1
  go_wp2_with (refine wpList_store_blk rfl 24 (.tmp 1) (.tmp 10) rfl w1.heap.size 24 _ (bn D1).toArray rfl rfl (Blk.new _ _ _) (by rw [HD1.out.2.1]; first | done | kernel_rfl) (by rw [HD1.out.2.1]; first | done | kernel_rfl) HD1.out.2.2 ?_; intro w2 hB2 ht2 hs2; have H2 := Lib.hid (And.intro hB2 (And.intro ht2 hs2)); clear hB2 ht2 hs2)
  (with_reducible refine (macOf_eq none 0 0 [] none 0 0 [] [] w2 rfl rfl rfl (slat_none _) (fun _ => rfl) (by decide) (by decide) (partsIn_nil _) (fun _ => rfl) (by decide) (by decide) (by decide)).mono ?_)
  rintro e w3 ⟨rfl, hb3⟩
  obtain ⟨D2, hD2⟩ : ∃ D2, D2 = hmac [] [] := ⟨_, rfl⟩
  rw [← hD2]
  have HD2 := Lib.hid (And.intro hD2 (And.intro (show (bn D2).toArray.size = 32 by rw [bn_size, hD2, hmac_len]) (And.intro (bn_all D2) hb3)))
  clear hD2 hb3
  go_wp2_with (
    refine wpList_store_blk rfl 24 (.tmp 2) (.tmp 11) rfl w3.heap.size 24 _ (bn D2).toArray rfl rfl (Blk.new _ _ _) (by rw [HD2.out.2.1]; first | done | kernel_rfl) (by rw [HD2.out.2.1]; first | done | kernel_rfl) HD2.out.2.2.1 ?_
    intro w4 hB4 ht4 hs4
    have z2 : w2.heap.size = w1.heap.size + 1 := by have := H2.out.2.2; simpa using this
    have z3 : w2.heap.size ≤ w3.heap.size := HD2.out.2.2.2.size
    have B1 : Blk w4 w1.heap.size 24 (bn D1).toArray := ((H2.out.1.touch (Touch.of_below (S := fun _ => False) HD2.out.2.2.2) (fun h => h)).alloc _).touch ht4 (fun e => by omega)
    have s1 : SlAt w4 (some ⟨w1.heap.size, 0, none⟩) (bys [91, 220, 193, 70, 191, 96, 117, 78]) := by
      have h := (SlAt.of_blk B1).take 8
      rw [bn_take, HD1.out.1, hmac_jefe] at h
      exact h
    have s2 : SlAt w4 (some ⟨w3.heap.size, 0, none⟩) (bys [182, 19, 103, 154]) := by
      have h := (SlAt.of_blk hB4).take 4
      rw [bn_take, HD2.out.1, hmac_nil] at h
      exact h
    have q1 := run_str (P := Try.prog) w4 22 9 5 Try.underlying22 Try.underlying5 Try.underlying9 _ 8 32 [91, 220, 193, 70, 191, 96, 117, 78] rfl s1
    have q2 := run_str (P := Try.prog) w4 22 9 5 Try.underlying22 Try.underlying5 Try.underlying9 _ 4 32 [182, 19, 103, 154] rfl s2
    have b1 : ((strOfNums [91, 220, 193, 70, 191, 96, 117, 78]).toList == ([91, 220, 193, 70, 191, 96, 117, 78] : List UInt8)) = true := by kernel_rfl
    have b2 : ((strOfNums [182, 19, 103, 154]).toList == ([182, 19, 103, 154] : List UInt8)) = true := by kernel_rfl
    have H4 : Hid (Touch (fun _ => False) w w4) := Lib.hid (Touch.then (S := fun _ => False) (((Touch.then (S := fun _ => False) (H1.out.alloc _) H2.out.2.1 (fun i hi e => by have := H1.out.size; omega)).trans (Touch.of_below HD2.out.2.2.2)).alloc _) ht4 (fun i hi e => by have := H1.out.size; omega))
    clear s1 s2 B1 z2 z3 hB4 ht4 hs4)
  (with_reducible refine (macEqual_eq true _ 2 2 [97, 98] _ 2 2 [97, 98] _ (by decide) rfl rfl ?_ ?_ (by decide) (by decide) (by decide) (by decide)).mono ?_)
  · exact (SlAt.new_at rfl #[.int .u8 97, .int .u8 98] _ (2, 3)).alloc _
  · exact SlAt.new_at (by simp) #[.int .u8 97, .int .u8 98] _ (2, 3)
  rintro e w5 ⟨rfl, ht5⟩
  have H5 : Hid (Touch (fun _ => False) w w5) := Lib.hid (((H4.out.alloc _).alloc _).trans ht5)
  clear ht5
  go_wp2_with fail
  (with_reducible refine (macEqual_eq false _ 2 2 [97, 98] _ 2 2 [97, 99] _ (by decide) rfl rfl ?_ ?_ (by decide) (by decide) (by decide) (by decide)).mono ?_)
  · exact (SlAt.new_at rfl #[.int .u8 97, .int .u8 98] _ (2, 3)).alloc _
  · exact SlAt.new_at (by simp) #[.int .u8 97, .int .u8 99] _ (2, 3)
  rintro e w6 ⟨rfl, ht6⟩
  have H6 : Hid (Touch (fun _ => False) w w6) := Lib.hid (((H5.out.alloc _).alloc _).trans ht6)
  clear ht6
  go_wp2_with fail
  (with_reducible refine (macEqual_eq false _ 2 2 [97, 98] _ 1 1 [97] _ (by decide) rfl rfl ?_ ?_ (by decide) (by decide) (by decide) (by decide)).mono ?_)
  · exact (SlAt.new_at rfl #[.int .u8 97, .int .u8 98] _ (2, 3)).alloc _
  · exact SlAt.new_at (by simp) #[.int .u8 97] _ (1, 2)
  rintro e w7 ⟨rfl, ht7⟩
  have H7 : Hid (Touch (fun _ => False) w w7) := Lib.hid (((H6.out.alloc _).alloc _).trans ht7)
  clear ht7
  go_wp2_with fail
  (with_reducible refine (macEqual_eq true none 0 0 [] _ 0 0 [] _ (by decide) rfl rfl (slat_none _) ?_ (by decide) (by decide) (by decide) (by decide)).mono ?_)
  · exact SlAt.nil _ _
  rintro e w8 ⟨rfl, ht8⟩
  have H8 : Hid (Touch (fun _ => False) w w8) := Lib.hid ((H7.out.alloc _).trans ht8)
  clear ht8
  go_wp2_with fail
  go_ret
  exact ⟨rfl, H8.out.below (Nat.le_refl _) (fun _ _ h => h)⟩
end Go.Proofs.Ytanjhalhpllcaaa
