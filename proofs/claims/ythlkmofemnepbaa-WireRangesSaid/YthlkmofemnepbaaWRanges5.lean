/-
  Numbers of packets and their ranges: a part of the numbers.
-/
import Derived.Test.YthlkmofemnepbaaRows
import Derived.Test.YthlkmofemnepbaaWSmall
import Derived.Test.YthlkmofemnepbaaWireLaw
import Derived.Test.YthlkmofemnepbaaPkArg
import Derived.Test.YthlkmofemnepbaaWRanges0
namespace Go.Proofs.Ythlkmofemnepbaa
open Go.ChangeShapes Go.WideShapes Go.ChangeAt Go.RowKit

set_option maxRecDepth 100000 in
set_option maxHeartbeats 8000000 in
theorem wireRanges_big (w : World) (n : Int) (hc : 256 ≤ n ∧ n ≤ 1073741824) :
    Calls Try.prog 9 #[.int .i64 n] w fun e w' => e = .returned (.bool true) ∧ Below w.heap.size w w' := by
  have g0 : 0 ≤ n := by omega
  have g1 : 1 ≤ n := by omega
  have u1073741824 : n ≤ 1073741824 := by omega
  have u3 : ¬ (n ≤ 3) := by omega
  have u7 : ¬ (n ≤ 7) := by omega
  have u16 : ¬ (n ≤ 16) := by omega
  have u4 : ¬ (n ≤ 4) := by omega
  have u255 : ¬ (n ≤ 255) := by omega
  have u15 : ¬ (n ≤ 15) := by omega
  have z0 : (n != 0) = true := by simp; omega
  have R0 : Hid (decide (RightN ⟨[1, 0, 0, 0, 0, 0, 0, 0, 0, 0, n, 0], List.replicate 16 0, List.replicate 8 0⟩) = true) := Lib.hid (decide_eq_true ((range_0 n).2 (by omega)))
  have R1 : Hid (decide (RightN ⟨[5, n, 1, 0, 0, 0, 0, 0, 0, 0, 0, 0], List.replicate 16 0, List.replicate 8 0⟩) = true) := Lib.hid (decide_eq_true ((range_1 n).2 (by omega)))
  have R2 : Hid (decide (RightN ⟨[5, 1, n, 0, 0, 0, 0, 0, 0, 0, 0, 0], List.replicate 16 0, List.replicate 8 0⟩) = true) := Lib.hid (decide_eq_true ((range_2 n).2 (by omega)))
  have R3 : Hid (decide (RightN ⟨[6, 1, 1, 0, 0, n, 0, 0, 0, 0, 0, 0], List.replicate 16 0, List.replicate 8 0⟩) = false) := Lib.hid (decide_eq_false (fun h => absurd ((range_3 n).1 h) (by omega)))
  have R4 : Hid (decide (RightN ⟨[7, 1, 1, 1, n, 0, 0, 0, 0, 0, 0, 0], List.replicate 16 0, List.replicate 8 0⟩) = false) := Lib.hid (decide_eq_false (fun h => absurd ((range_4 n).1 h) (by omega)))
  have R5 : Hid (decide (RightN ⟨[7, 1, 1, n, 1, 0, 0, 0, 0, 0, 0, 0], List.replicate 16 0, List.replicate 8 0⟩) = false) := Lib.hid (decide_eq_false (fun h => absurd ((range_5 n).1 h) (by omega)))
  have R6 : Hid (decide (RightN ⟨[8, 1, 1, n, 0, 0, 0, 0, 0, 0, 0, 0], List.replicate 16 0, List.replicate 8 0⟩) = false) := Lib.hid (decide_eq_false (fun h => absurd ((range_6 n).1 h) (by omega)))
  have R7 : Hid (decide (RightN ⟨[8, 1, 1, 1, 0, 0, n, 0, 0, 0, 0, 0], List.replicate 16 0, List.replicate 8 0⟩) = false) := Lib.hid (decide_eq_false (fun h => absurd ((range_7 n).1 h) (by omega)))
  have R8 : Hid (decide (RightN ⟨[9, 1, 0, 0, 0, 0, 0, 0, 0, n, 0, 0], List.replicate 16 0, List.replicate 8 0⟩) = false) := Lib.hid (decide_eq_false (fun h => absurd ((range_8 n).1 h) (by omega)))
  have R9 : Hid (decide (RightN ⟨[12, 0, 0, 0, n, 0, 0, 0, 0, 0, 0, 0], List.replicate 16 0, List.replicate 8 0⟩) = false) := Lib.hid (decide_eq_false (fun h => absurd ((range_9 n).1 h) (by omega)))
  have R10 : Hid (decide (RightN ⟨[1, 0, 0, 0, 0, 0, 0, 0, n, 0, 0, 0], List.replicate 16 0, List.replicate 8 0⟩) = false) := Lib.hid (decide_eq_false (fun h => absurd ((range_10 n).1 h) (by omega)))
  clear hc
  go_enter Try.func9, Try.ntmps9
  go_wp2_with fail
  (with_reducible refine (wireSmall_any _).mono ?_)
  rintro e w0 ⟨rfl, hb⟩
  have H0 : Hid (Touch (fun _ => False) w w0) := Lib.hid (Touch.of_below hb)
  clear hb
  go_wp2_with fail
  (with_reducible refine (right_lit _ ⟨[1, 0, 0, 0, 0, 0, 0, 0, 0, 0, n, 0], List.replicate 16 0, List.replicate 8 0⟩ true (by kernel_rfl) (pk_zero_ok _ rfl) R0.out _).mono ?_)
  rintro e w1 ⟨rfl, hb⟩
  have H1 : Hid (Touch (fun _ => False) w w1) := Lib.hid (H0.out.trans (Touch.of_below hb))
  clear hb
  go_wp2_with fail
  (with_reducible refine (right_lit _ ⟨[5, n, 1, 0, 0, 0, 0, 0, 0, 0, 0, 0], List.replicate 16 0, List.replicate 8 0⟩ true (by kernel_rfl) (pk_zero_ok _ rfl) R1.out _).mono ?_)
  rintro e w2 ⟨rfl, hb⟩
  have H2 : Hid (Touch (fun _ => False) w w2) := Lib.hid (H1.out.trans (Touch.of_below hb))
  clear hb
  go_wp2_with fail
  (with_reducible refine (right_lit _ ⟨[5, 1, n, 0, 0, 0, 0, 0, 0, 0, 0, 0], List.replicate 16 0, List.replicate 8 0⟩ true (by kernel_rfl) (pk_zero_ok _ rfl) R2.out _).mono ?_)
  rintro e w3 ⟨rfl, hb⟩
  have H3 : Hid (Touch (fun _ => False) w w3) := Lib.hid (H2.out.trans (Touch.of_below hb))
  clear hb
  go_wp2_with fail
  (with_reducible refine (right_lit _ ⟨[6, 1, 1, 0, 0, n, 0, 0, 0, 0, 0, 0], List.replicate 16 0, List.replicate 8 0⟩ false (by kernel_rfl) (pk_zero_ok _ rfl) R3.out _).mono ?_)
  rintro e w4 ⟨rfl, hb⟩
  have H4 : Hid (Touch (fun _ => False) w w4) := Lib.hid (H3.out.trans (Touch.of_below hb))
  clear hb
  go_wp2_with fail
  (with_reducible refine (right_lit _ ⟨[7, 1, 1, 1, n, 0, 0, 0, 0, 0, 0, 0], List.replicate 16 0, List.replicate 8 0⟩ false (by kernel_rfl) (pk_zero_ok _ rfl) R4.out _).mono ?_)
  rintro e w5 ⟨rfl, hb⟩
  have H5 : Hid (Touch (fun _ => False) w w5) := Lib.hid (H4.out.trans (Touch.of_below hb))
  clear hb
  go_wp2_with fail
  (with_reducible refine (right_lit _ ⟨[7, 1, 1, n, 1, 0, 0, 0, 0, 0, 0, 0], List.replicate 16 0, List.replicate 8 0⟩ false (by kernel_rfl) (pk_zero_ok _ rfl) R5.out _).mono ?_)
  rintro e w6 ⟨rfl, hb⟩
  have H6 : Hid (Touch (fun _ => False) w w6) := Lib.hid (H5.out.trans (Touch.of_below hb))
  clear hb
  go_wp2_with fail
  (with_reducible refine (right_lit _ ⟨[8, 1, 1, n, 0, 0, 0, 0, 0, 0, 0, 0], List.replicate 16 0, List.replicate 8 0⟩ false (by kernel_rfl) (pk_zero_ok _ rfl) R6.out _).mono ?_)
  rintro e w7 ⟨rfl, hb⟩
  have H7 : Hid (Touch (fun _ => False) w w7) := Lib.hid (H6.out.trans (Touch.of_below hb))
  clear hb
  go_wp2_with fail
  (with_reducible refine (right_lit _ ⟨[8, 1, 1, 1, 0, 0, n, 0, 0, 0, 0, 0], List.replicate 16 0, List.replicate 8 0⟩ false (by kernel_rfl) (pk_zero_ok _ rfl) R7.out _).mono ?_)
  rintro e w8 ⟨rfl, hb⟩
  have H8 : Hid (Touch (fun _ => False) w w8) := Lib.hid (H7.out.trans (Touch.of_below hb))
  clear hb
  go_wp2_with fail
  (with_reducible refine (right_lit _ ⟨[9, 1, 0, 0, 0, 0, 0, 0, 0, n, 0, 0], List.replicate 16 0, List.replicate 8 0⟩ false (by kernel_rfl) (pk_zero_ok _ rfl) R8.out _).mono ?_)
  rintro e w9 ⟨rfl, hb⟩
  have H9 : Hid (Touch (fun _ => False) w w9) := Lib.hid (H8.out.trans (Touch.of_below hb))
  clear hb
  go_wp2_with fail
  (with_reducible refine (right_lit _ ⟨[12, 0, 0, 0, n, 0, 0, 0, 0, 0, 0, 0], List.replicate 16 0, List.replicate 8 0⟩ false (by kernel_rfl) (pk_zero_ok _ rfl) R9.out _).mono ?_)
  rintro e w10 ⟨rfl, hb⟩
  have H10 : Hid (Touch (fun _ => False) w w10) := Lib.hid (H9.out.trans (Touch.of_below hb))
  clear hb
  go_wp2_with fail
  (with_reducible refine (right_lit _ ⟨[1, 0, 0, 0, 0, 0, 0, 0, n, 0, 0, 0], List.replicate 16 0, List.replicate 8 0⟩ false (by kernel_rfl) (pk_zero_ok _ rfl) R10.out _).mono ?_)
  rintro e w11 ⟨rfl, hb⟩
  have H11 : Hid (Touch (fun _ => False) w w11) := Lib.hid (H10.out.trans (Touch.of_below hb))
  clear hb
  go_wp2_with fail
  go_ret
  exact ⟨by first | rfl | (simp; done) | (simp; omega), H11.out.below (Nat.le_refl _) (fun _ _ h => h)⟩

set_option maxRecDepth 100000 in
set_option maxHeartbeats 8000000 in
theorem wireRanges_above (w : World) (n : Int) (hc : 1073741824 < n) :
    Calls Try.prog 9 #[.int .i64 n] w fun e w' => e = .returned (.bool true) ∧ Below w.heap.size w w' := by
  have g0 : 0 ≤ n := by omega
  have g1 : 1 ≤ n := by omega
  have u1073741824 : ¬ (n ≤ 1073741824) := by omega
  have u3 : ¬ (n ≤ 3) := by omega
  have u7 : ¬ (n ≤ 7) := by omega
  have u16 : ¬ (n ≤ 16) := by omega
  have u4 : ¬ (n ≤ 4) := by omega
  have u255 : ¬ (n ≤ 255) := by omega
  have u15 : ¬ (n ≤ 15) := by omega
  have z0 : (n != 0) = true := by simp; omega
  have R0 : Hid (decide (RightN ⟨[1, 0, 0, 0, 0, 0, 0, 0, 0, 0, n, 0], List.replicate 16 0, List.replicate 8 0⟩) = false) := Lib.hid (decide_eq_false (fun h => absurd ((range_0 n).1 h) (by omega)))
  have R1 : Hid (decide (RightN ⟨[5, n, 1, 0, 0, 0, 0, 0, 0, 0, 0, 0], List.replicate 16 0, List.replicate 8 0⟩) = false) := Lib.hid (decide_eq_false (fun h => absurd ((range_1 n).1 h) (by omega)))
  have R2 : Hid (decide (RightN ⟨[5, 1, n, 0, 0, 0, 0, 0, 0, 0, 0, 0], List.replicate 16 0, List.replicate 8 0⟩) = false) := Lib.hid (decide_eq_false (fun h => absurd ((range_2 n).1 h) (by omega)))
  have R3 : Hid (decide (RightN ⟨[6, 1, 1, 0, 0, n, 0, 0, 0, 0, 0, 0], List.replicate 16 0, List.replicate 8 0⟩) = false) := Lib.hid (decide_eq_false (fun h => absurd ((range_3 n).1 h) (by omega)))
  have R4 : Hid (decide (RightN ⟨[7, 1, 1, 1, n, 0, 0, 0, 0, 0, 0, 0], List.replicate 16 0, List.replicate 8 0⟩) = false) := Lib.hid (decide_eq_false (fun h => absurd ((range_4 n).1 h) (by omega)))
  have R5 : Hid (decide (RightN ⟨[7, 1, 1, n, 1, 0, 0, 0, 0, 0, 0, 0], List.replicate 16 0, List.replicate 8 0⟩) = false) := Lib.hid (decide_eq_false (fun h => absurd ((range_5 n).1 h) (by omega)))
  have R6 : Hid (decide (RightN ⟨[8, 1, 1, n, 0, 0, 0, 0, 0, 0, 0, 0], List.replicate 16 0, List.replicate 8 0⟩) = false) := Lib.hid (decide_eq_false (fun h => absurd ((range_6 n).1 h) (by omega)))
  have R7 : Hid (decide (RightN ⟨[8, 1, 1, 1, 0, 0, n, 0, 0, 0, 0, 0], List.replicate 16 0, List.replicate 8 0⟩) = false) := Lib.hid (decide_eq_false (fun h => absurd ((range_7 n).1 h) (by omega)))
  have R8 : Hid (decide (RightN ⟨[9, 1, 0, 0, 0, 0, 0, 0, 0, n, 0, 0], List.replicate 16 0, List.replicate 8 0⟩) = false) := Lib.hid (decide_eq_false (fun h => absurd ((range_8 n).1 h) (by omega)))
  have R9 : Hid (decide (RightN ⟨[12, 0, 0, 0, n, 0, 0, 0, 0, 0, 0, 0], List.replicate 16 0, List.replicate 8 0⟩) = false) := Lib.hid (decide_eq_false (fun h => absurd ((range_9 n).1 h) (by omega)))
  have R10 : Hid (decide (RightN ⟨[1, 0, 0, 0, 0, 0, 0, 0, n, 0, 0, 0], List.replicate 16 0, List.replicate 8 0⟩) = false) := Lib.hid (decide_eq_false (fun h => absurd ((range_10 n).1 h) (by omega)))
  clear hc
  go_enter Try.func9, Try.ntmps9
  go_wp2_with fail
  (with_reducible refine (wireSmall_any _).mono ?_)
  rintro e w0 ⟨rfl, hb⟩
  have H0 : Hid (Touch (fun _ => False) w w0) := Lib.hid (Touch.of_below hb)
  clear hb
  go_wp2_with fail
  (with_reducible refine (right_lit _ ⟨[1, 0, 0, 0, 0, 0, 0, 0, 0, 0, n, 0], List.replicate 16 0, List.replicate 8 0⟩ false (by kernel_rfl) (pk_zero_ok _ rfl) R0.out _).mono ?_)
  rintro e w1 ⟨rfl, hb⟩
  have H1 : Hid (Touch (fun _ => False) w w1) := Lib.hid (H0.out.trans (Touch.of_below hb))
  clear hb
  go_wp2_with fail
  (with_reducible refine (right_lit _ ⟨[5, n, 1, 0, 0, 0, 0, 0, 0, 0, 0, 0], List.replicate 16 0, List.replicate 8 0⟩ false (by kernel_rfl) (pk_zero_ok _ rfl) R1.out _).mono ?_)
  rintro e w2 ⟨rfl, hb⟩
  have H2 : Hid (Touch (fun _ => False) w w2) := Lib.hid (H1.out.trans (Touch.of_below hb))
  clear hb
  go_wp2_with fail
  (with_reducible refine (right_lit _ ⟨[5, 1, n, 0, 0, 0, 0, 0, 0, 0, 0, 0], List.replicate 16 0, List.replicate 8 0⟩ false (by kernel_rfl) (pk_zero_ok _ rfl) R2.out _).mono ?_)
  rintro e w3 ⟨rfl, hb⟩
  have H3 : Hid (Touch (fun _ => False) w w3) := Lib.hid (H2.out.trans (Touch.of_below hb))
  clear hb
  go_wp2_with fail
  (with_reducible refine (right_lit _ ⟨[6, 1, 1, 0, 0, n, 0, 0, 0, 0, 0, 0], List.replicate 16 0, List.replicate 8 0⟩ false (by kernel_rfl) (pk_zero_ok _ rfl) R3.out _).mono ?_)
  rintro e w4 ⟨rfl, hb⟩
  have H4 : Hid (Touch (fun _ => False) w w4) := Lib.hid (H3.out.trans (Touch.of_below hb))
  clear hb
  go_wp2_with fail
  (with_reducible refine (right_lit _ ⟨[7, 1, 1, 1, n, 0, 0, 0, 0, 0, 0, 0], List.replicate 16 0, List.replicate 8 0⟩ false (by kernel_rfl) (pk_zero_ok _ rfl) R4.out _).mono ?_)
  rintro e w5 ⟨rfl, hb⟩
  have H5 : Hid (Touch (fun _ => False) w w5) := Lib.hid (H4.out.trans (Touch.of_below hb))
  clear hb
  go_wp2_with fail
  (with_reducible refine (right_lit _ ⟨[7, 1, 1, n, 1, 0, 0, 0, 0, 0, 0, 0], List.replicate 16 0, List.replicate 8 0⟩ false (by kernel_rfl) (pk_zero_ok _ rfl) R5.out _).mono ?_)
  rintro e w6 ⟨rfl, hb⟩
  have H6 : Hid (Touch (fun _ => False) w w6) := Lib.hid (H5.out.trans (Touch.of_below hb))
  clear hb
  go_wp2_with fail
  (with_reducible refine (right_lit _ ⟨[8, 1, 1, n, 0, 0, 0, 0, 0, 0, 0, 0], List.replicate 16 0, List.replicate 8 0⟩ false (by kernel_rfl) (pk_zero_ok _ rfl) R6.out _).mono ?_)
  rintro e w7 ⟨rfl, hb⟩
  have H7 : Hid (Touch (fun _ => False) w w7) := Lib.hid (H6.out.trans (Touch.of_below hb))
  clear hb
  go_wp2_with fail
  (with_reducible refine (right_lit _ ⟨[8, 1, 1, 1, 0, 0, n, 0, 0, 0, 0, 0], List.replicate 16 0, List.replicate 8 0⟩ false (by kernel_rfl) (pk_zero_ok _ rfl) R7.out _).mono ?_)
  rintro e w8 ⟨rfl, hb⟩
  have H8 : Hid (Touch (fun _ => False) w w8) := Lib.hid (H7.out.trans (Touch.of_below hb))
  clear hb
  go_wp2_with fail
  (with_reducible refine (right_lit _ ⟨[9, 1, 0, 0, 0, 0, 0, 0, 0, n, 0, 0], List.replicate 16 0, List.replicate 8 0⟩ false (by kernel_rfl) (pk_zero_ok _ rfl) R8.out _).mono ?_)
  rintro e w9 ⟨rfl, hb⟩
  have H9 : Hid (Touch (fun _ => False) w w9) := Lib.hid (H8.out.trans (Touch.of_below hb))
  clear hb
  go_wp2_with fail
  (with_reducible refine (right_lit _ ⟨[12, 0, 0, 0, n, 0, 0, 0, 0, 0, 0, 0], List.replicate 16 0, List.replicate 8 0⟩ false (by kernel_rfl) (pk_zero_ok _ rfl) R9.out _).mono ?_)
  rintro e w10 ⟨rfl, hb⟩
  have H10 : Hid (Touch (fun _ => False) w w10) := Lib.hid (H9.out.trans (Touch.of_below hb))
  clear hb
  go_wp2_with fail
  (with_reducible refine (right_lit _ ⟨[1, 0, 0, 0, 0, 0, 0, 0, n, 0, 0, 0], List.replicate 16 0, List.replicate 8 0⟩ false (by kernel_rfl) (pk_zero_ok _ rfl) R10.out _).mono ?_)
  rintro e w11 ⟨rfl, hb⟩
  have H11 : Hid (Touch (fun _ => False) w w11) := Lib.hid (H10.out.trans (Touch.of_below hb))
  clear hb
  go_wp2_with fail
  go_ret
  exact ⟨by first | rfl | (simp; done) | (simp; omega), H11.out.below (Nat.le_refl _) (fun _ _ h => h)⟩

end Go.Proofs.Ythlkmofemnepbaa
