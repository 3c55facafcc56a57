/-
  nightjarlaw06.CookieAges: for all secrets, numbers and cookies the law returns true. No conditions: for every input that can be read.
-/
import Derived.Test.YthlkmofemnepbaaRows
import Derived.Test.YthlkmofemnepbaaDigestLib
import Derived.Test.YthlkmofemnepbaaCSmall
import Derived.Test.YthlkmofemnepbaaArr
namespace Go.Proofs.Ythlkmofemnepbaa
open Go.ChangeShapes Go.WideShapes Go.ChangeAt Go.RowKit

set_option maxRecDepth 100000 in
theorem check_to (a : Option Addr) (nk cap : Nat) (s : List Nat) (ad no ep now : Int) (c : List Nat) (r : Int) (w : World) (hk : s.length = nk) (hs : SlAt w a (bn s)) (hc : a = none → cap = 0) (hr : ∀ y ∈ s, y < 256) (hn : nk ≤ 100000)
    (hcl : c.length = 16) (hcr : ∀ y ∈ c, y < 256) (hm : now ≤ 9223372036854775807) (he : checkN s ad no ep now c = r) :
    Calls Try.prog 32 #[.slice a nk cap, .int .i64 ad, .int .i64 no, .int .i64 ep, .int .i64 now, .agg (bn c).toArray] w fun e w' => e = .returned (.int .i64 r) ∧ Below w.heap.size w w' := by
  subst he
  exact check_any a nk cap s ad no ep now c w hk hs hc hr hn hcl hcr hm

set_option maxRecDepth 100000 in
theorem refCheck_to (a : Option Addr) (nk cap : Nat) (s : List Nat) (ad no ep now : Int) (c : List Nat) (r : Int) (w : World) (hk : s.length = nk) (hs : SlAt w a (bn s)) (hc : a = none → cap = 0) (hr : ∀ y ∈ s, y < 256) (hn : nk ≤ 100000)
    (hcl : c.length = 16) (hcr : ∀ y ∈ c, y < 256) (hm0 : -9223372036854775808 ≤ now) (hm : now ≤ 9223372036854775807) (he : checkN s ad no ep now c = r) :
    Calls Try.prog 33 #[.slice a nk cap, .int .i64 ad, .int .i64 no, .int .i64 ep, .int .i64 now, .agg (bn c).toArray] w fun e w' => e = .returned (.int .i64 r) ∧ Below w.heap.size w w' := by
  subst he
  exact refCheck_any a nk cap s ad no ep now c w hk hs hc hr hn hcl hcr hm0 hm

set_option maxRecDepth 100000 in
theorem run_eql16_of (w : World) (M c : List Nat) (q : Bool) (hq : decide (M = c) = q) (h1 : M.length = 16) (h2 : c.length = 16) (h3 : ∀ y ∈ M, y < 256) (h4 : ∀ y ∈ c, y < 256) : (binOp .eql 22 (.agg (bn M).toArray) (.agg (bn c).toArray)).run Try.prog w = .ok (.bool q) w := by
  obtain ⟨i0, hi, hz0, hz1, hz2⟩ := info_parts Try.info5
  have h := run_eql_bn (P := Try.prog) w 22 5 16 Try.underlying22 Try.underlying5 (fun w => by rw [run_sizeOf w hi]; rfl) M c h1 h2 h3 h4
  rw [h, ← hq]
  congr 2
  rw [Bool.eq_iff_iff, beq_iff_eq, decide_eq_true_iff]

set_option maxRecDepth 100000 in
set_option maxHeartbeats 4000000 in
theorem cookieAges_in (w : World) (a0 : Option Addr) (c0 : Nat) (s : List Nat) (h0 : BytesIn w a0 s.length c0 s) (ad no ep now later : Int) (c : List Nat) (hcl : c.length = 16) (hcr : ∀ y ∈ c, y < 256) (k0 : ¬ 300 < s.length) (k1 : ¬ later ≤ now) (hm : -9223372036854775808 ≤ now ∧ now ≤ 9223372036854775807) (hm5 : -9223372036854775808 ≤ later ∧ later ≤ 9223372036854775807) :
    Calls Try.prog 14 #[.slice a0 s.length c0, .int .i64 ad, .int .i64 no, .int .i64 ep, .int .i64 now, .int .i64 later, .agg (bn c).toArray] w fun e w' => e = .returned (.bool true) ∧ Below w.heap.size w w' := by
  have HIN := Lib.hid h0
  have HC := Lib.hid (And.intro hcl hcr)
  have HCS : Hid ((bn c).toArray.size = 16 ∧ (bn c).toArray.all (·.oneCell') = true) := Lib.hid ⟨by rw [bn_size]; exact HC.out.1, bn_all c⟩
  have HMM := Lib.hid hm
  clear h0 hcl hcr hm
  obtain ⟨M, hM⟩ : ∃ M, M = mintN s ad no ep := ⟨_, rfl⟩
  have HML : Hid (M.length = 16 ∧ ∀ y ∈ M, y < 256) := Lib.hid ⟨by rw [hM]; exact mintN_len _ _ _ _, by rw [hM]; exact mintN_lt _ _ _ _⟩
  have hk1 : now < later := by omega
  have hcc : (∃ a b : Int, checkN s ad no ep now c = a ∧ checkN s ad no ep later c = b ∧ IntKind.i64.wrap (ep + 1) = ep + 1 ∧
      ((a = 0 ∧ b = 0 ∧ (now == ep) = true ∧ (later == ep + 1) = true) ∨ (a = 0 ∧ b = 4 ∧ (now == ep) = true) ∨ (a = 0 ∧ b = 4 ∧ (now == ep) = false ∧ (now == ep + 1) = true) ∨ (a = 3 ∧ b = 3) ∨ (a = 3 ∧ b = 4))) ∨
      (∃ b : Int, checkN s ad no ep now c = 4 ∧ checkN s ad no ep later c = b ∧ (b = 0 ∨ b = 3 ∨ b = 4)) := by
    have hm := HMM.out
    by_cases o1 : ep < 0 ∨ now < ep ∨ 1 < now - ep
    · refine Or.inr ⟨_, by unfold checkN; rw [if_pos o1], rfl, ?_⟩
      unfold checkN
      repeat' split
      all_goals simp
    · have kw : IntKind.i64.wrap (ep + 1) = ep + 1 := by
        simp [IntKind.wrap, IntKind.bits, IntKind.signed]
        omega
      refine Or.inl ⟨_, _, rfl, rfl, kw, ?_⟩
      have hb : ∀ x y : Int, x = y → (x == y) = true := fun x y h => by rw [h]; exact beq_self_eq_true y
      have hb2 : ∀ x y : Int, ¬ x = y → (x == y) = false := fun x y h => beq_eq_false_iff_ne.2 h
      by_cases hq : mintN s ad no ep = c
      · by_cases o2 : ep < 0 ∨ later < ep ∨ 1 < later - ep
        · by_cases o3 : now = ep
          · exact Or.inr (Or.inl ⟨by unfold checkN; rw [if_neg o1, if_pos hq], by unfold checkN; rw [if_pos o2], hb _ _ o3⟩)
          · exact Or.inr (Or.inr (Or.inl ⟨by unfold checkN; rw [if_neg o1, if_pos hq], by unfold checkN; rw [if_pos o2], hb2 _ _ o3, hb _ _ (by omega)⟩))
        · exact Or.inl ⟨by unfold checkN; rw [if_neg o1, if_pos hq], by unfold checkN; rw [if_neg o2, if_pos hq], hb _ _ (by omega), hb _ _ (by omega)⟩
      · by_cases o2 : ep < 0 ∨ later < ep ∨ 1 < later - ep
        · exact Or.inr (Or.inr (Or.inr (Or.inr ⟨by unfold checkN; rw [if_neg o1, if_neg hq], by unfold checkN; rw [if_pos o2]⟩)))
        · exact Or.inr (Or.inr (Or.inr (Or.inl ⟨by unfold checkN; rw [if_neg o1, if_neg hq], by unfold checkN; rw [if_neg o2, if_neg hq]⟩)))
  have HM5 := Lib.hid hm5
  have HM := Lib.hid hM
  clear hM hm5 hk1
  rcases hcc with ⟨a, b, ha, hb, kw, ⟨rfl, rfl, t1, t2⟩ | ⟨rfl, rfl, t1⟩ | ⟨rfl, rfl, t1, t2⟩ | ⟨rfl, rfl⟩ | ⟨rfl, rfl⟩⟩ | ⟨b, ha, hb, rfl | rfl | rfl⟩
  · have HRA := Lib.hid ha
    have HRB := Lib.hid hb
    clear ha hb
    go_enter Try.func14, Try.ntmps14
    go_wp2_with fail
    (with_reducible refine (cookieSmall_any _).mono ?_)
    rintro e wa ⟨rfl, hba⟩
    obtain ⟨n0, hn0⟩ : ∃ n0, n0 = w.heap.size := ⟨_, rfl⟩
    rw [← hn0]
    have HA : Hid (Touch (fun _ => False) w wa ∧ Blk wa n0 22 (bn c).toArray) := Lib.hid ⟨((Touch.refl (fun _ => False) w).alloc _).trans (Touch.of_below hba), by rw [hn0]; exact (Blk.new w (bn c).toArray 22).touch (Touch.of_below (S := fun _ => False) hba) (fun h => h)⟩
    clear hba hn0
    go_wp2_with (refine wpList_load_blk rfl 22 (.tmp 13) rfl n0 22 (bn c).toArray _ rfl (HA.out.2) Try.underlying22 rfl (by rw [HCS.out.1]; first | done | kernel_rfl) ?_)
    (with_reducible refine (check_to a0 s.length c0 s ad no ep now c (0) _ rfl (HIN.out.cells.touch (HA.out.1) (fun _ _ _ h => h)) HIN.out.nil HIN.out.lt (by omega) HC.out.1 HC.out.2 HMM.out.2 HRA.out).mono ?_)
    rintro e wb ⟨rfl, hbb⟩
    have HB : Hid (Touch (fun _ => False) w wb ∧ Blk wb n0 22 (bn c).toArray) := Lib.hid ⟨HA.out.1.trans (Touch.of_below hbb), HA.out.2.touch (Touch.of_below (S := fun _ => False) hbb) (fun h => h)⟩
    clear hbb
    go_wp2_with (refine wpList_load_blk rfl 22 (.tmp 13) rfl n0 22 (bn c).toArray _ rfl (HB.out.2) Try.underlying22 rfl (by rw [HCS.out.1]; first | done | kernel_rfl) ?_)
    (with_reducible refine (check_to a0 s.length c0 s ad no ep later c (0) _ rfl (HIN.out.cells.touch (HB.out.1) (fun _ _ _ h => h)) HIN.out.nil HIN.out.lt (by omega) HC.out.1 HC.out.2 HM5.out.2 HRB.out).mono ?_)
    rintro e wd ⟨rfl, hbd⟩
    have HD : Hid (Touch (fun _ => False) w wd) := Lib.hid (HB.out.1.trans (Touch.of_below hbd))
    clear hbd
    go_wp2_with fail
    go_ret
    exact ⟨by first | rfl | simp, HD.out.below (Nat.le_refl _) (fun _ _ h => h)⟩
  · have HRA := Lib.hid ha
    have HRB := Lib.hid hb
    clear ha hb
    go_enter Try.func14, Try.ntmps14
    go_wp2_with fail
    (with_reducible refine (cookieSmall_any _).mono ?_)
    rintro e wa ⟨rfl, hba⟩
    obtain ⟨n0, hn0⟩ : ∃ n0, n0 = w.heap.size := ⟨_, rfl⟩
    rw [← hn0]
    have HA : Hid (Touch (fun _ => False) w wa ∧ Blk wa n0 22 (bn c).toArray) := Lib.hid ⟨((Touch.refl (fun _ => False) w).alloc _).trans (Touch.of_below hba), by rw [hn0]; exact (Blk.new w (bn c).toArray 22).touch (Touch.of_below (S := fun _ => False) hba) (fun h => h)⟩
    clear hba hn0
    go_wp2_with (refine wpList_load_blk rfl 22 (.tmp 13) rfl n0 22 (bn c).toArray _ rfl (HA.out.2) Try.underlying22 rfl (by rw [HCS.out.1]; first | done | kernel_rfl) ?_)
    (with_reducible refine (check_to a0 s.length c0 s ad no ep now c (0) _ rfl (HIN.out.cells.touch (HA.out.1) (fun _ _ _ h => h)) HIN.out.nil HIN.out.lt (by omega) HC.out.1 HC.out.2 HMM.out.2 HRA.out).mono ?_)
    rintro e wb ⟨rfl, hbb⟩
    have HB : Hid (Touch (fun _ => False) w wb ∧ Blk wb n0 22 (bn c).toArray) := Lib.hid ⟨HA.out.1.trans (Touch.of_below hbb), HA.out.2.touch (Touch.of_below (S := fun _ => False) hbb) (fun h => h)⟩
    clear hbb
    go_wp2_with (refine wpList_load_blk rfl 22 (.tmp 13) rfl n0 22 (bn c).toArray _ rfl (HB.out.2) Try.underlying22 rfl (by rw [HCS.out.1]; first | done | kernel_rfl) ?_)
    (with_reducible refine (check_to a0 s.length c0 s ad no ep later c (4) _ rfl (HIN.out.cells.touch (HB.out.1) (fun _ _ _ h => h)) HIN.out.nil HIN.out.lt (by omega) HC.out.1 HC.out.2 HM5.out.2 HRB.out).mono ?_)
    rintro e wd ⟨rfl, hbd⟩
    have HD : Hid (Touch (fun _ => False) w wd) := Lib.hid (HB.out.1.trans (Touch.of_below hbd))
    clear hbd
    go_wp2_with fail
    go_ret
    exact ⟨by first | rfl | simp, HD.out.below (Nat.le_refl _) (fun _ _ h => h)⟩
  · have HRA := Lib.hid ha
    have HRB := Lib.hid hb
    clear ha hb
    go_enter Try.func14, Try.ntmps14
    go_wp2_with fail
    (with_reducible refine (cookieSmall_any _).mono ?_)
    rintro e wa ⟨rfl, hba⟩
    obtain ⟨n0, hn0⟩ : ∃ n0, n0 = w.heap.size := ⟨_, rfl⟩
    rw [← hn0]
    have HA : Hid (Touch (fun _ => False) w wa ∧ Blk wa n0 22 (bn c).toArray) := Lib.hid ⟨((Touch.refl (fun _ => False) w).alloc _).trans (Touch.of_below hba), by rw [hn0]; exact (Blk.new w (bn c).toArray 22).touch (Touch.of_below (S := fun _ => False) hba) (fun h => h)⟩
    clear hba hn0
    go_wp2_with (refine wpList_load_blk rfl 22 (.tmp 13) rfl n0 22 (bn c).toArray _ rfl (HA.out.2) Try.underlying22 rfl (by rw [HCS.out.1]; first | done | kernel_rfl) ?_)
    (with_reducible refine (check_to a0 s.length c0 s ad no ep now c (0) _ rfl (HIN.out.cells.touch (HA.out.1) (fun _ _ _ h => h)) HIN.out.nil HIN.out.lt (by omega) HC.out.1 HC.out.2 HMM.out.2 HRA.out).mono ?_)
    rintro e wb ⟨rfl, hbb⟩
    have HB : Hid (Touch (fun _ => False) w wb ∧ Blk wb n0 22 (bn c).toArray) := Lib.hid ⟨HA.out.1.trans (Touch.of_below hbb), HA.out.2.touch (Touch.of_below (S := fun _ => False) hbb) (fun h => h)⟩
    clear hbb
    go_wp2_with (refine wpList_load_blk rfl 22 (.tmp 13) rfl n0 22 (bn c).toArray _ rfl (HB.out.2) Try.underlying22 rfl (by rw [HCS.out.1]; first | done | kernel_rfl) ?_)
    (with_reducible refine (check_to a0 s.length c0 s ad no ep later c (4) _ rfl (HIN.out.cells.touch (HB.out.1) (fun _ _ _ h => h)) HIN.out.nil HIN.out.lt (by omega) HC.out.1 HC.out.2 HM5.out.2 HRB.out).mono ?_)
    rintro e wd ⟨rfl, hbd⟩
    have HD : Hid (Touch (fun _ => False) w wd) := Lib.hid (HB.out.1.trans (Touch.of_below hbd))
    clear hbd
    go_wp2_with fail
    go_ret
    exact ⟨by first | rfl | simp, HD.out.below (Nat.le_refl _) (fun _ _ h => h)⟩
  · have HRA := Lib.hid ha
    have HRB := Lib.hid hb
    clear ha hb
    go_enter Try.func14, Try.ntmps14
    go_wp2_with fail
    (with_reducible refine (cookieSmall_any _).mono ?_)
    rintro e wa ⟨rfl, hba⟩
    obtain ⟨n0, hn0⟩ : ∃ n0, n0 = w.heap.size := ⟨_, rfl⟩
    rw [← hn0]
    have HA : Hid (Touch (fun _ => False) w wa ∧ Blk wa n0 22 (bn c).toArray) := Lib.hid ⟨((Touch.refl (fun _ => False) w).alloc _).trans (Touch.of_below hba), by rw [hn0]; exact (Blk.new w (bn c).toArray 22).touch (Touch.of_below (S := fun _ => False) hba) (fun h => h)⟩
    clear hba hn0
    go_wp2_with (refine wpList_load_blk rfl 22 (.tmp 13) rfl n0 22 (bn c).toArray _ rfl (HA.out.2) Try.underlying22 rfl (by rw [HCS.out.1]; first | done | kernel_rfl) ?_)
    (with_reducible refine (check_to a0 s.length c0 s ad no ep now c (3) _ rfl (HIN.out.cells.touch (HA.out.1) (fun _ _ _ h => h)) HIN.out.nil HIN.out.lt (by omega) HC.out.1 HC.out.2 HMM.out.2 HRA.out).mono ?_)
    rintro e wb ⟨rfl, hbb⟩
    have HB : Hid (Touch (fun _ => False) w wb ∧ Blk wb n0 22 (bn c).toArray) := Lib.hid ⟨HA.out.1.trans (Touch.of_below hbb), HA.out.2.touch (Touch.of_below (S := fun _ => False) hbb) (fun h => h)⟩
    clear hbb
    go_wp2_with (refine wpList_load_blk rfl 22 (.tmp 13) rfl n0 22 (bn c).toArray _ rfl (HB.out.2) Try.underlying22 rfl (by rw [HCS.out.1]; first | done | kernel_rfl) ?_)
    (with_reducible refine (check_to a0 s.length c0 s ad no ep later c (3) _ rfl (HIN.out.cells.touch (HB.out.1) (fun _ _ _ h => h)) HIN.out.nil HIN.out.lt (by omega) HC.out.1 HC.out.2 HM5.out.2 HRB.out).mono ?_)
    rintro e wd ⟨rfl, hbd⟩
    have HD : Hid (Touch (fun _ => False) w wd) := Lib.hid (HB.out.1.trans (Touch.of_below hbd))
    clear hbd
    go_wp2_with fail
    go_ret
    exact ⟨by first | rfl | simp, HD.out.below (Nat.le_refl _) (fun _ _ h => h)⟩
  · have HRA := Lib.hid ha
    have HRB := Lib.hid hb
    clear ha hb
    go_enter Try.func14, Try.ntmps14
    go_wp2_with fail
    (with_reducible refine (cookieSmall_any _).mono ?_)
    rintro e wa ⟨rfl, hba⟩
    obtain ⟨n0, hn0⟩ : ∃ n0, n0 = w.heap.size := ⟨_, rfl⟩
    rw [← hn0]
    have HA : Hid (Touch (fun _ => False) w wa ∧ Blk wa n0 22 (bn c).toArray) := Lib.hid ⟨((Touch.refl (fun _ => False) w).alloc _).trans (Touch.of_below hba), by rw [hn0]; exact (Blk.new w (bn c).toArray 22).touch (Touch.of_below (S := fun _ => False) hba) (fun h => h)⟩
    clear hba hn0
    go_wp2_with (refine wpList_load_blk rfl 22 (.tmp 13) rfl n0 22 (bn c).toArray _ rfl (HA.out.2) Try.underlying22 rfl (by rw [HCS.out.1]; first | done | kernel_rfl) ?_)
    (with_reducible refine (check_to a0 s.length c0 s ad no ep now c (3) _ rfl (HIN.out.cells.touch (HA.out.1) (fun _ _ _ h => h)) HIN.out.nil HIN.out.lt (by omega) HC.out.1 HC.out.2 HMM.out.2 HRA.out).mono ?_)
    rintro e wb ⟨rfl, hbb⟩
    have HB : Hid (Touch (fun _ => False) w wb ∧ Blk wb n0 22 (bn c).toArray) := Lib.hid ⟨HA.out.1.trans (Touch.of_below hbb), HA.out.2.touch (Touch.of_below (S := fun _ => False) hbb) (fun h => h)⟩
    clear hbb
    go_wp2_with (refine wpList_load_blk rfl 22 (.tmp 13) rfl n0 22 (bn c).toArray _ rfl (HB.out.2) Try.underlying22 rfl (by rw [HCS.out.1]; first | done | kernel_rfl) ?_)
    (with_reducible refine (check_to a0 s.length c0 s ad no ep later c (4) _ rfl (HIN.out.cells.touch (HB.out.1) (fun _ _ _ h => h)) HIN.out.nil HIN.out.lt (by omega) HC.out.1 HC.out.2 HM5.out.2 HRB.out).mono ?_)
    rintro e wd ⟨rfl, hbd⟩
    have HD : Hid (Touch (fun _ => False) w wd) := Lib.hid (HB.out.1.trans (Touch.of_below hbd))
    clear hbd
    go_wp2_with fail
    go_ret
    exact ⟨by first | rfl | simp, HD.out.below (Nat.le_refl _) (fun _ _ h => h)⟩
  · have HRA := Lib.hid ha
    have HRB := Lib.hid hb
    clear ha hb
    go_enter Try.func14, Try.ntmps14
    go_wp2_with fail
    (with_reducible refine (cookieSmall_any _).mono ?_)
    rintro e wa ⟨rfl, hba⟩
    obtain ⟨n0, hn0⟩ : ∃ n0, n0 = w.heap.size := ⟨_, rfl⟩
    rw [← hn0]
    have HA : Hid (Touch (fun _ => False) w wa ∧ Blk wa n0 22 (bn c).toArray) := Lib.hid ⟨((Touch.refl (fun _ => False) w).alloc _).trans (Touch.of_below hba), by rw [hn0]; exact (Blk.new w (bn c).toArray 22).touch (Touch.of_below (S := fun _ => False) hba) (fun h => h)⟩
    clear hba hn0
    go_wp2_with (refine wpList_load_blk rfl 22 (.tmp 13) rfl n0 22 (bn c).toArray _ rfl (HA.out.2) Try.underlying22 rfl (by rw [HCS.out.1]; first | done | kernel_rfl) ?_)
    (with_reducible refine (check_to a0 s.length c0 s ad no ep now c (4) _ rfl (HIN.out.cells.touch (HA.out.1) (fun _ _ _ h => h)) HIN.out.nil HIN.out.lt (by omega) HC.out.1 HC.out.2 HMM.out.2 HRA.out).mono ?_)
    rintro e wb ⟨rfl, hbb⟩
    have HB : Hid (Touch (fun _ => False) w wb ∧ Blk wb n0 22 (bn c).toArray) := Lib.hid ⟨HA.out.1.trans (Touch.of_below hbb), HA.out.2.touch (Touch.of_below (S := fun _ => False) hbb) (fun h => h)⟩
    clear hbb
    go_wp2_with (refine wpList_load_blk rfl 22 (.tmp 13) rfl n0 22 (bn c).toArray _ rfl (HB.out.2) Try.underlying22 rfl (by rw [HCS.out.1]; first | done | kernel_rfl) ?_)
    (with_reducible refine (check_to a0 s.length c0 s ad no ep later c (0) _ rfl (HIN.out.cells.touch (HB.out.1) (fun _ _ _ h => h)) HIN.out.nil HIN.out.lt (by omega) HC.out.1 HC.out.2 HM5.out.2 HRB.out).mono ?_)
    rintro e wd ⟨rfl, hbd⟩
    have HD : Hid (Touch (fun _ => False) w wd) := Lib.hid (HB.out.1.trans (Touch.of_below hbd))
    clear hbd
    go_wp2_with fail
    go_ret
    exact ⟨by first | rfl | simp, HD.out.below (Nat.le_refl _) (fun _ _ h => h)⟩
  · have HRA := Lib.hid ha
    have HRB := Lib.hid hb
    clear ha hb
    go_enter Try.func14, Try.ntmps14
    go_wp2_with fail
    (with_reducible refine (cookieSmall_any _).mono ?_)
    rintro e wa ⟨rfl, hba⟩
    obtain ⟨n0, hn0⟩ : ∃ n0, n0 = w.heap.size := ⟨_, rfl⟩
    rw [← hn0]
    have HA : Hid (Touch (fun _ => False) w wa ∧ Blk wa n0 22 (bn c).toArray) := Lib.hid ⟨((Touch.refl (fun _ => False) w).alloc _).trans (Touch.of_below hba), by rw [hn0]; exact (Blk.new w (bn c).toArray 22).touch (Touch.of_below (S := fun _ => False) hba) (fun h => h)⟩
    clear hba hn0
    go_wp2_with (refine wpList_load_blk rfl 22 (.tmp 13) rfl n0 22 (bn c).toArray _ rfl (HA.out.2) Try.underlying22 rfl (by rw [HCS.out.1]; first | done | kernel_rfl) ?_)
    (with_reducible refine (check_to a0 s.length c0 s ad no ep now c (4) _ rfl (HIN.out.cells.touch (HA.out.1) (fun _ _ _ h => h)) HIN.out.nil HIN.out.lt (by omega) HC.out.1 HC.out.2 HMM.out.2 HRA.out).mono ?_)
    rintro e wb ⟨rfl, hbb⟩
    have HB : Hid (Touch (fun _ => False) w wb ∧ Blk wb n0 22 (bn c).toArray) := Lib.hid ⟨HA.out.1.trans (Touch.of_below hbb), HA.out.2.touch (Touch.of_below (S := fun _ => False) hbb) (fun h => h)⟩
    clear hbb
    go_wp2_with (refine wpList_load_blk rfl 22 (.tmp 13) rfl n0 22 (bn c).toArray _ rfl (HB.out.2) Try.underlying22 rfl (by rw [HCS.out.1]; first | done | kernel_rfl) ?_)
    (with_reducible refine (check_to a0 s.length c0 s ad no ep later c (3) _ rfl (HIN.out.cells.touch (HB.out.1) (fun _ _ _ h => h)) HIN.out.nil HIN.out.lt (by omega) HC.out.1 HC.out.2 HM5.out.2 HRB.out).mono ?_)
    rintro e wd ⟨rfl, hbd⟩
    have HD : Hid (Touch (fun _ => False) w wd) := Lib.hid (HB.out.1.trans (Touch.of_below hbd))
    clear hbd
    go_wp2_with fail
    go_ret
    exact ⟨by first | rfl | simp, HD.out.below (Nat.le_refl _) (fun _ _ h => h)⟩
  · have HRA := Lib.hid ha
    have HRB := Lib.hid hb
    clear ha hb
    go_enter Try.func14, Try.ntmps14
    go_wp2_with fail
    (with_reducible refine (cookieSmall_any _).mono ?_)
    rintro e wa ⟨rfl, hba⟩
    obtain ⟨n0, hn0⟩ : ∃ n0, n0 = w.heap.size := ⟨_, rfl⟩
    rw [← hn0]
    have HA : Hid (Touch (fun _ => False) w wa ∧ Blk wa n0 22 (bn c).toArray) := Lib.hid ⟨((Touch.refl (fun _ => False) w).alloc _).trans (Touch.of_below hba), by rw [hn0]; exact (Blk.new w (bn c).toArray 22).touch (Touch.of_below (S := fun _ => False) hba) (fun h => h)⟩
    clear hba hn0
    go_wp2_with (refine wpList_load_blk rfl 22 (.tmp 13) rfl n0 22 (bn c).toArray _ rfl (HA.out.2) Try.underlying22 rfl (by rw [HCS.out.1]; first | done | kernel_rfl) ?_)
    (with_reducible refine (check_to a0 s.length c0 s ad no ep now c (4) _ rfl (HIN.out.cells.touch (HA.out.1) (fun _ _ _ h => h)) HIN.out.nil HIN.out.lt (by omega) HC.out.1 HC.out.2 HMM.out.2 HRA.out).mono ?_)
    rintro e wb ⟨rfl, hbb⟩
    have HB : Hid (Touch (fun _ => False) w wb ∧ Blk wb n0 22 (bn c).toArray) := Lib.hid ⟨HA.out.1.trans (Touch.of_below hbb), HA.out.2.touch (Touch.of_below (S := fun _ => False) hbb) (fun h => h)⟩
    clear hbb
    go_wp2_with (refine wpList_load_blk rfl 22 (.tmp 13) rfl n0 22 (bn c).toArray _ rfl (HB.out.2) Try.underlying22 rfl (by rw [HCS.out.1]; first | done | kernel_rfl) ?_)
    (with_reducible refine (check_to a0 s.length c0 s ad no ep later c (4) _ rfl (HIN.out.cells.touch (HB.out.1) (fun _ _ _ h => h)) HIN.out.nil HIN.out.lt (by omega) HC.out.1 HC.out.2 HM5.out.2 HRB.out).mono ?_)
    rintro e wd ⟨rfl, hbd⟩
    have HD : Hid (Touch (fun _ => False) w wd) := Lib.hid (HB.out.1.trans (Touch.of_below hbd))
    clear hbd
    go_wp2_with fail
    go_ret
    exact ⟨by first | rfl | simp, HD.out.below (Nat.le_refl _) (fun _ _ h => h)⟩

set_option maxRecDepth 100000 in
set_option maxHeartbeats 4000000 in
theorem cookieAges_walk (w : World) (a0 : Option Addr) (l0 cp0 : Nat) (z0 : List Int) (h0 : RowIn .u8 w a0 l0 cp0 z0) (ad : Int) (_w1 : (Lit.int .i64 ad).wf = true) (no : Int) (_w2 : (Lit.int .i64 no).wf = true) (ep : Int) (_w3 : (Lit.int .i64 ep).wf = true) (now : Int) (_w4 : (Lit.int .i64 now).wf = true) (later : Int) (_w5 : (Lit.int .i64 later).wf = true) (c : List Nat) (hcl : c.length = 16) (hcr : ∀ y ∈ c, y < 256) :
    Calls Try.prog 14 #[.slice a0 l0 cp0, .int .i64 ad, .int .i64 no, .int .i64 ep, .int .i64 now, .int .i64 later, .agg (bn c).toArray] w fun e w' => e = .returned (.bool true) ∧ Below w.heap.size w w' := by
  have i0 := h0.bytes
  have hm := bounds_i64 _w4
  have hm5 := bounds_i64 _w5
  clear _w5
  obtain ⟨s, hs⟩ : ∃ b, b = nats z0 := ⟨_, rfl⟩
  rw [← hs] at i0
  clear hs h0 _w1 _w2 _w3 _w4
  have e0 := i0.hlen
  subst e0
  by_cases k0 : 300 < s.length
  · skip
    clear i0 hm hm5
    have HC := Lib.hid (And.intro hcl hcr)
    clear hcl hcr
    go_enter Try.func14, Try.ntmps14
    go_wp2_with fail
    (with_reducible refine (cookieSmall_any _).mono ?_)
    rintro e w1 ⟨rfl, hb⟩
    have HB := Lib.hid (((Touch.refl (fun _ => False) w).alloc _).trans (Touch.of_below hb))
    clear hb
    go_wp2_with fail
    go_ret
    exact ⟨rfl, HB.out.below (Nat.le_refl _) (fun _ _ h => h)⟩
  by_cases k1 : later ≤ now
  · skip
    clear i0 hm hm5
    have HC := Lib.hid (And.intro hcl hcr)
    clear hcl hcr
    go_enter Try.func14, Try.ntmps14
    go_wp2_with fail
    (with_reducible refine (cookieSmall_any _).mono ?_)
    rintro e w1 ⟨rfl, hb⟩
    have HB := Lib.hid (((Touch.refl (fun _ => False) w).alloc _).trans (Touch.of_below hb))
    clear hb
    go_wp2_with fail
    go_ret
    exact ⟨rfl, HB.out.below (Nat.le_refl _) (fun _ _ h => h)⟩
  · exact cookieAges_in w a0 cp0 s i0 ad no ep now later c hcl hcr k0 k1 hm hm5

/-! ### the row's step, and the row -/
theorem cookieAges_own : ownKnob Try.prog.godebug = none := by kernel_rfl
theorem cookieAges_laidOut : laidOutB Try.prog = true := by kernel_rfl

set_option linter.unusedVariables false in
set_option maxRecDepth 100000 in
theorem cookieAges_lifted (os : Os) (started : os.Started) (H : Type) (enc : TypeId × Value → H) :
    ReturnsInHanded {} Try.checked os 14 .any (Rows.cookieAgesSpec.pre6 enc Try.prog Try.f14 Rows.cookieAgesRow.domain false) (Rows.cookieAgesSpec.post enc Try.prog Try.f14 false true false false) := by
  refine returnsInHanded_of_change (C := Try.checked) cookieAges_own started (by kernel_rfl) Try.func14
    (ChangeSpec.witness6 (enc := enc) (C := Try.checked) false ⟨#[], #[.slice none 0 0, .int .i64 0, .int .i64 0, .int .i64 0, .int .i64 0, .int .i64 0, .agg #[.int .u8 0, .int .u8 0, .int .u8 0, .int .u8 0, .int .u8 0, .int .u8 0, .int .u8 0, .int .u8 0, .int .u8 0, .int .u8 0, .int .u8 0, .int .u8 0, .int .u8 0, .int .u8 0, .int .u8 0, .int .u8 0]], []⟩ 8 (by kernel_rfl) (by kernel_rfl) (by kernel_rfl) (by kernel_rfl)) ?_
  intro W base args ds gs before hval0 hW hcnd _
  have hval : ∀ (j : Nat) t v, Try.f14.params[j]? = some t → args[j]? = some v → Value.okWide Try.prog W .any base t v := hval0
  have hW' := hW
  obtain ⟨p, q, hA0, hV, rfl, hfz, hnd⟩ := hW
  have hA : DataW.TrodAll enc Try.prog W 0 (fun _ => true) true Try.f14.params.toList args.toList ds p := hA0
  rw [Try.params14] at hA hval
  obtain ⟨v0, vs0, d0, ds0, p0, q0, hargs, rfl, rfl, h0, r0⟩ := trodAll_cons hA
  obtain ⟨v1, vs1, d1, ds1, p1, q1, rfl, rfl, rfl, h1, r1⟩ := trodAll_cons r0
  obtain ⟨v2, vs2, d2, ds2, p2, q2, rfl, rfl, rfl, h2, r2⟩ := trodAll_cons r1
  obtain ⟨v3, vs3, d3, ds3, p3, q3, rfl, rfl, rfl, h3, r3⟩ := trodAll_cons r2
  obtain ⟨v4, vs4, d4, ds4, p4, q4, rfl, rfl, rfl, h4, r4⟩ := trodAll_cons r3
  obtain ⟨v5, vs5, d5, ds5, p5, q5, rfl, rfl, rfl, h5, r5⟩ := trodAll_cons r4
  obtain ⟨v6, vs6, d6, ds6, p6, q6, rfl, rfl, rfl, h6, r6⟩ := trodAll_cons r5
  obtain ⟨rfl, rfl, rfl⟩ := trodAll_nil r6
  obtain rfl : args = #[v0, v1, v2, v3, v4, v5, v6] := by cases args; simp_all
  obtain ⟨rfl, rfl⟩ := trodVars_none hV
  have k0 := h0
  have lt0 : ∀ x ∈ p0, x.block < W.heap.size := by obtain ⟨m, hm⟩ := k0; exact DataW.trod_lt m _ _ _ hm
  obtain ⟨a0, len0, cap0, rfl⟩ := okWide_slice Try.underlying26 (hval 0 26 v0 rfl rfl)
  obtain ⟨z0, w0⟩ := row_of (k := .u8) Try.underlying26 Try.underlying5 (by kernel_rfl) h0
  obtain ⟨a1, rfl, rfl, rfl, w1⟩ := open_int Try.underlying3 (hval 1 3 v1 rfl rfl) h1
  obtain ⟨a2, rfl, rfl, rfl, w2⟩ := open_int Try.underlying3 (hval 2 3 v2 rfl rfl) h2
  obtain ⟨a3, rfl, rfl, rfl, w3⟩ := open_int Try.underlying3 (hval 3 3 v3 rfl rfl) h3
  obtain ⟨a4, rfl, rfl, rfl, w4⟩ := open_int Try.underlying3 (hval 4 3 v4 rfl rfl) h4
  obtain ⟨a5, rfl, rfl, rfl, w5⟩ := open_int Try.underlying3 (hval 5 3 v5 rfl rfl) h5
  have k6 := h6
  have lt6 : ∀ x ∈ p6, x.block < W.heap.size := by obtain ⟨m, hm⟩ := k6; exact DataW.trod_lt m _ _ _ hm
  have o6 := hval 6 22 v6 rfl rfl
  obtain ⟨a6, len6, lt86, rfl⟩ := array_of Try.underlying22 Try.underlying5 (by kernel_rfl) (by kernel_rfl) o6 h6
  clear hA0 hval0
  refine (cookieAges_walk W a0 len0 cap0 z0 w0 a1 w1 a2 w2 a3 w3 a4 w4 a5 w5 a6 len6 lt86).mono fun e W' ⟨he, bel⟩ => ?_
  subst he
  exact ⟨_, rfl, _, _, _, [], _, [], hW', trodAll_mk1 (shut_bool Try.underlying4 _), (trodAll_cons_mk (Below.trod cookieAges_laidOut (by kernel_rfl) (of_decide_eq_true (by kernel_rfl)) k0 bel lt0) (trodAll_cons_mk (shut_int Try.underlying3 w1) (trodAll_cons_mk (shut_int Try.underlying3 w2) (trodAll_cons_mk (shut_int Try.underlying3 w3) (trodAll_cons_mk (shut_int Try.underlying3 w4) (trodAll_cons_mk (shut_int Try.underlying3 w5) (trodAll_cons_mk (Below.trod cookieAges_laidOut (by kernel_rfl) (of_decide_eq_true (by kernel_rfl)) k6 bel lt6) trodAll_mk0))))))), rfl, bel.frame _, fun h => by cases h⟩

theorem cookieAges_over : Rows.cookieAgesRow.holds Try.pinned (OpenSpec.ofChange Rows.cookieAgesSpec) :=
  OpenClaim.holds_of_wide 14 Try.f14 rfl rfl rfl rfl rfl rfl rfl ⟨rfl, rfl, rfl, rfl, rfl⟩ rfl rfl rfl rfl rfl (by kernel_rfl) Try.func14 (by kernel_rfl)
    (of_decide_eq_true (by kernel_rfl)) (by unfold Func.isWrapper; first | (rw [if_pos (by decide +kernel)]; kernel_rfl) | (rw [if_neg (by decide +kernel)]; exact ⟨rfl, rfl⟩))
    (fun os started H enc _ => cookieAges_lifted os started H enc)

/-- THE STATEMENT. -/
theorem cookieAges_proved : Rows.CookieAgesSaid := cookieAges_over
#print axioms cookieAges_proved
end Go.Proofs.Ythlkmofemnepbaa
