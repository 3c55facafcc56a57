/-
  THE WALKS of the document's Right, Encode and Decode (layer 5).
-/
import Derived.Test.YthlkmofemnepbaaRows
import Derived.Test.YthlkmofemnepbaaRPartsAll
import Derived.Test.YthlkmofemnepbaaDigestRSum
import Derived.Test.YthlkmofemnepbaaEnc
import Derived.Test.YthlkmofemnepbaaFieldRf
import Derived.Test.YthlkmofemnepbaaRMint
namespace Go.Proofs.Ythlkmofemnepbaa
open Go.RowKit

theorem refGet_at (p : Pk) (hp : p.Ok) (i : Nat) (h1 : 1 ≤ i) (h2 : i < 12) (wh : Int) (hw : wh = (i : Int) - 1) (w : World) :
    Calls Try.prog 46 #[.agg (pkV p), .int .i64 wh] w fun e w' => e = .returned (.int .i64 (p.n.getD i 0)) ∧ Below w.heap.size w w' := by
  rw [hw]
  exact refGet_any p hp i h1 h2 w
theorem refWith_at (p : Pk) (hp : p.Ok) (i : Nat) (h1 : 1 ≤ i) (h2 : i < 12) (wh : Int) (hw : wh = (i : Int) - 1) (x : Int) (w : World) :
    Calls Try.prog 54 #[.agg (pkV p), .int .i64 wh, .int .i64 x] w fun e w' => e = .returned (.agg (pkV { p with n := p.n.set i x })) ∧ Below w.heap.size w w' := by
  rw [hw]
  exact refWith_any p hp i h1 h2 x w

structure RRInv (w : World) (p : Pk) (n0 n1 : Nat) (a : Option Addr) (j : Nat) (wr : World) : Prop where
  ht : Touch (fun _ => False) w wr
  h0 : Blk wr n0 25 (pkV p)
  h1 : Blk wr n1 25 (pkV (foldB p ((partsN p.kind).take j) (pk0 p.kind)))
  hr : PartsRow wr a (partsN p.kind)
  ap : ∀ x, a = some x → x.block < n1
  lt : n0 < n1 ∧ w.heap.size ≤ n1
  ok : ∀ r ∈ (partsN p.kind).take j, OkR p r

set_option maxRecDepth 100000 in
set_option maxHeartbeats 8000000 in
theorem refRight_any (p : Pk) (hp : p.Ok) (w : World) :
    Calls Try.prog 26 #[.agg (pkV p)] w fun e w' => e = .returned (.bool (decide (RightN p))) ∧ Below w.heap.size w w' := by
  obtain ⟨k, hk⟩ : ∃ k, k = p.kind := ⟨_, rfl⟩
  have e0 : (pkV p)[0]? = some (.int .i64 k) := by rw [hk]; exact pkV_num hp 0 (by decide)
  have HH := Lib.hid (And.intro hp hk)
  clear hp hk
  go_enter Try.func26, Try.ntmps26
  go_wp2_with fail
  (with_reducible refine (refParts_any k _).mono ?_)
  rintro e w1 ⟨v, rfl, hb1, hsl⟩
  obtain ⟨a, rfl, hrow, -⟩ := hsl.row
  clear hsl e0
  obtain ⟨n0, hn0⟩ : ∃ n0, n0 = w.heap.size := ⟨_, rfl⟩
  rw [← hn0]
  have HM0 : Hid (k = p.kind) := Lib.hid HH.out.2
  obtain ⟨m, hm⟩ : ∃ m, m = (partsN k).length := ⟨_, rfl⟩
  rw [← hm]
  have HM : Hid (m = (partsN p.kind).length) := Lib.hid (by rw [← HH.out.2]; exact hm)
  have H1 : Hid (Touch (fun _ => False) w w1 ∧ Blk w1 n0 25 (pkV p) ∧ PartsRow w1 a (partsN p.kind) ∧ n0 = w.heap.size) :=
    Lib.hid ⟨((Touch.refl _ w).alloc _).trans (Touch.of_below hb1), by rw [hn0]; exact (Blk.new w (pkV p) 25).touch (Touch.of_below (S := fun _ => False) hb1) (fun h => h), by rw [← HH.out.2]; exact hrow, hn0⟩
  clear hb1 hrow hn0 hm HM0
  have c1 : w1.cell? ⟨n0, 0, none⟩ = some (.int .i64 k) := by rw [HH.out.2]; exact H1.out.2.1.num HH.out.1 0 (by decide)
  go_wp2_with ((with_reducible refine at_op (.store 25 (.tmp 4) (.tmp 13)) rfl ?_); refine wpList_store_blk rfl 25 (.tmp 4) (.tmp 13) rfl w1.heap.size 25 _ _ rfl rfl (Blk.new _ _ _) (by kernel_rfl) (by kernel_rfl) (by kernel_rfl) ?_; intro w3 hB3 ht3 hs3)
  obtain ⟨n1, hn1⟩ : ∃ n1, n1 = w1.heap.size := ⟨_, rfl⟩
  rw [← hn1]
  have HI0 : Hid (RRInv w p n0 n1 a 0 w3) := Lib.hid (by
    obtain ⟨q1, q2, q3, q4⟩ := H1.out
    have hlt := q2.lt
    have hq1 := q1.size
    refine ⟨Touch.then (S := fun _ => False) (q1.alloc _) ht3 (fun i hi e => by omega), (q2.alloc _).touch ht3 (fun e => by omega), ?_, ?_, ?_, ⟨by omega, by omega⟩, fun s hs => by simp at hs⟩
    · rw [hn1]
      have e : foldB p ((partsN p.kind).take 0) (pk0 p.kind) = pk0 k := by rw [← HH.out.2]; rfl
      rw [e]
      exact hB3
    · exact (q3.touch ((Touch.refl (fun _ => False) _).alloc _) (fun _ _ h => h)).touch ht3 (fun x hx e => by have := q3.lt x hx; omega)
    · intro x hx
      rw [hn1]
      exact q3.lt x hx)
  clear hB3 ht3 hs3 hn1 c1 H1
  go_loopw [5] (fun i wr => ∃ j : Nat, j ≤ m ∧ i = .int .i64 j ∧ RRInv w p n0 n1 a j wr) (fun i _ => (m - intOf i).toNat)
  case atStart => exact ⟨0, Nat.zero_le _, rfl, HI0.out⟩
  case round =>
    obtain ⟨j, hj, rfl, hI⟩ := hrel
    have HI := Lib.hid hI
    clear hI HI0
    by_cases hq : j = m
    · subst hq
      clear hj
      obtain ⟨BE, hBE⟩ : ∃ BE : Pk, BE = ⟨bareNs p, bareSec p, bareTag p⟩ := ⟨_, rfl⟩
      have hfull : foldB p ((partsN p.kind).take j) (pk0 p.kind) = BE := by
        rw [List.take_of_length_le (by rw [← HM.out]; exact Nat.le_refl _), foldB_end, hBE]
      have hBO : BE.Ok := by rw [← hfull]; exact foldB_ok _ _ _ HH.out.1 (pk0_ok _)
      have HE : Hid (Blk wr n0 25 (pkV p) ∧ Blk wr n1 25 (pkV BE) ∧ BE.Ok ∧ InR p) := Lib.hid (by
        refine ⟨HI.out.h0, by rw [← hfull]; exact HI.out.h1, hBO, (okR_all p).1 (fun r hr => HI.out.ok r ?_)⟩
        rw [List.take_of_length_le (by rw [← HM.out]; exact Nat.le_refl _)]
        exact hr)
      obtain ⟨r, hr⟩ : ∃ r, decide (Bare p) = r := ⟨_, rfl⟩
      have HQ : Hid (∀ w, (binOp .eql 25 (.agg (pkV BE)) (.agg (pkV p))).run Try.prog w = .ok (.bool r) w) := Lib.hid (fun w => run_eql_pk w BE p hBO HH.out.1 r (by rw [hBE]; exact hr))
      have HB := Lib.hid hr
      clear hfull hBO hBE hr
      have d0 : wr.cell? ⟨n0, 0, none⟩ = some (.int .i64 k) := by rw [HH.out.2]; exact HI.out.h0.num HH.out.1 0 (by decide)
      obtain ⟨x3, hx3⟩ : ∃ x, x = p.n.getD 3 0 := ⟨_, rfl⟩
      obtain ⟨x5, hx5⟩ : ∃ x, x = p.n.getD 5 0 := ⟨_, rfl⟩
      obtain ⟨x6, hx6⟩ : ∃ x, x = p.n.getD 6 0 := ⟨_, rfl⟩
      obtain ⟨x7, hx7⟩ : ∃ x, x = p.n.getD 7 0 := ⟨_, rfl⟩
      have d3 : wr.cell? ⟨n0, 3, none⟩ = some (.int .i64 x3) := by rw [hx3]; exact HI.out.h0.num HH.out.1 3 (by decide)
      have d5 : wr.cell? ⟨n0, 5, none⟩ = some (.int .i64 x5) := by rw [hx5]; exact HI.out.h0.num HH.out.1 5 (by decide)
      have d6 : wr.cell? ⟨n0, 6, none⟩ = some (.int .i64 x6) := by rw [hx6]; exact HI.out.h0.num HH.out.1 6 (by decide)
      have d7 : wr.cell? ⟨n0, 7, none⟩ = some (.int .i64 x7) := by rw [hx7]; exact HI.out.h0.num HH.out.1 7 (by decide)
      have HX := Lib.hid (And.intro hx3 (And.intro hx5 (And.intro hx6 hx7)))
      clear hx3 hx5 hx6 hx7
      have hno : r = false → decide (RightN p) = false := fun hrr => decide_eq_false (fun hR => by
        have h := decide_eq_true hR.2.2.1
        rw [HB.out, hrr] at h
        cases h)
      have hyes : r = true → slotsN p.kind ≠ [] → ¬ Void p → decide (RightN p) = true := fun hrr hs hv => decide_eq_true ⟨HE.out.2.2.2, hs, of_decide_eq_true (by rw [HB.out, hrr]), hv⟩
      have HNO := Lib.hid hno
      have HYES := Lib.hid hyes
      clear hno hyes
      by_cases h8 : k = 8
      · have t8 : (k == 8) = true := by rw [h8]; rfl
        have hk8 : p.kind = 8 := by rw [← HH.out.2]; exact h8
        have hs8 : slotsN p.kind ≠ [] := by rw [hk8]; decide
        have hjm : j = 7 := by rw [HM.out, hk8]; rfl
        have HK8 := Lib.hid (And.intro hk8 hs8)
        clear hk8 hs8 h8
        subst hjm
        by_cases h3 : x3 = 0
        · have t3 : (x3 == 0) = true := by rw [h3]; rfl
          have HVI : Hid (Void p ↔ ¬ (x7 = 0 ∧ x5 = 0 ∧ x6 = 0)) := Lib.hid (by
            rw [HX.out.2.1, HX.out.2.2.1, HX.out.2.2.2]
            exact void_iff p HE.out.2.2.2 HK8.out.1 (by rw [← HX.out.1]; exact h3))
          clear h3
          cases r
          · have hd := HNO.out rfl
            have HD := Lib.hid hd
            clear hd
            go_wp2_with (first | ((with_reducible refine at_op (.load 25 (.tmp 4)) rfl ?_); refine wpList_load_blk_g (by rfl) 25 (.tmp 4) rfl n1 25 (pkV BE) _ rfl HE.out.2.1 Try.underlying25 rfl (by rw [pkV_size HE.out.2.2.1]; first | done | kernel_rfl) ?_) | ((with_reducible refine at_op (.load 25 (.tmp 1)) rfl ?_); refine wpList_load_blk_g (by rfl) 25 (.tmp 1) rfl n0 25 (pkV p) _ rfl HE.out.1 Try.underlying25 rfl (by rw [pkV_size HH.out.1]; first | done | kernel_rfl) ?_) | ((with_reducible refine at_op (.binOp .eql 25 (.tmp 78) (.tmp 79) 25) rfl ?_); refine wpList_eql_g (by rfl) .eql 25 25 (.tmp 78) (.tmp 79) rfl (pkV BE) (pkV p) rfl rfl (by kernel_rfl) _ (HQ.out _) ?_))
            go_ret
            exact ⟨by rw [HD.out]; try rfl, HI.out.ht.below (Nat.le_refl _) (fun _ _ h => h)⟩
          · by_cases h7 : x7 = 0
            · have t7 : (x7 == 0) = true := by rw [h7]; rfl
              by_cases h5 : x5 = 0
              · have t5 : (x5 == 0) = true := by rw [h5]; rfl
                by_cases h6 : x6 = 0
                · have t6 : (x6 == 0) = true := by rw [h6]; rfl
                  have hd := HYES.out rfl HK8.out.2 (fun hv => HVI.out.1 hv ⟨h7, h5, h6⟩)
                  clear h7 h5 h6
                  have HD := Lib.hid hd
                  clear hd
                  go_wp2_with (first | ((with_reducible refine at_op (.load 25 (.tmp 4)) rfl ?_); refine wpList_load_blk_g (by rfl) 25 (.tmp 4) rfl n1 25 (pkV BE) _ rfl HE.out.2.1 Try.underlying25 rfl (by rw [pkV_size HE.out.2.2.1]; first | done | kernel_rfl) ?_) | ((with_reducible refine at_op (.load 25 (.tmp 1)) rfl ?_); refine wpList_load_blk_g (by rfl) 25 (.tmp 1) rfl n0 25 (pkV p) _ rfl HE.out.1 Try.underlying25 rfl (by rw [pkV_size HH.out.1]; first | done | kernel_rfl) ?_) | ((with_reducible refine at_op (.binOp .eql 25 (.tmp 78) (.tmp 79) 25) rfl ?_); refine wpList_eql_g (by rfl) .eql 25 25 (.tmp 78) (.tmp 79) rfl (pkV BE) (pkV p) rfl rfl (by kernel_rfl) _ (HQ.out _) ?_))
                  go_ret
                  exact ⟨by rw [HD.out]; try rfl, HI.out.ht.below (Nat.le_refl _) (fun _ _ h => h)⟩
                · have t6 : (x6 == 0) = false := beq_eq_false_iff_ne.2 h6
                  have hd : decide (RightN p) = false := decide_eq_false (fun hR => hR.2.2.2 (HVI.out.2 (fun h => h6 h.2.2)))
                  clear h7 h5 h6
                  have HD := Lib.hid hd
                  clear hd
                  go_wp2_with (first | ((with_reducible refine at_op (.load 25 (.tmp 4)) rfl ?_); refine wpList_load_blk_g (by rfl) 25 (.tmp 4) rfl n1 25 (pkV BE) _ rfl HE.out.2.1 Try.underlying25 rfl (by rw [pkV_size HE.out.2.2.1]; first | done | kernel_rfl) ?_) | ((with_reducible refine at_op (.load 25 (.tmp 1)) rfl ?_); refine wpList_load_blk_g (by rfl) 25 (.tmp 1) rfl n0 25 (pkV p) _ rfl HE.out.1 Try.underlying25 rfl (by rw [pkV_size HH.out.1]; first | done | kernel_rfl) ?_) | ((with_reducible refine at_op (.binOp .eql 25 (.tmp 78) (.tmp 79) 25) rfl ?_); refine wpList_eql_g (by rfl) .eql 25 25 (.tmp 78) (.tmp 79) rfl (pkV BE) (pkV p) rfl rfl (by kernel_rfl) _ (HQ.out _) ?_))
                  go_ret
                  exact ⟨by rw [HD.out]; try rfl, HI.out.ht.below (Nat.le_refl _) (fun _ _ h => h)⟩
              · have t5 : (x5 == 0) = false := beq_eq_false_iff_ne.2 h5
                have hd : decide (RightN p) = false := decide_eq_false (fun hR => hR.2.2.2 (HVI.out.2 (fun h => h5 h.2.1)))
                clear h7 h5
                have HD := Lib.hid hd
                clear hd
                go_wp2_with (first | ((with_reducible refine at_op (.load 25 (.tmp 4)) rfl ?_); refine wpList_load_blk_g (by rfl) 25 (.tmp 4) rfl n1 25 (pkV BE) _ rfl HE.out.2.1 Try.underlying25 rfl (by rw [pkV_size HE.out.2.2.1]; first | done | kernel_rfl) ?_) | ((with_reducible refine at_op (.load 25 (.tmp 1)) rfl ?_); refine wpList_load_blk_g (by rfl) 25 (.tmp 1) rfl n0 25 (pkV p) _ rfl HE.out.1 Try.underlying25 rfl (by rw [pkV_size HH.out.1]; first | done | kernel_rfl) ?_) | ((with_reducible refine at_op (.binOp .eql 25 (.tmp 78) (.tmp 79) 25) rfl ?_); refine wpList_eql_g (by rfl) .eql 25 25 (.tmp 78) (.tmp 79) rfl (pkV BE) (pkV p) rfl rfl (by kernel_rfl) _ (HQ.out _) ?_))
                go_ret
                exact ⟨by rw [HD.out]; try rfl, HI.out.ht.below (Nat.le_refl _) (fun _ _ h => h)⟩
            · have t7 : (x7 == 0) = false := beq_eq_false_iff_ne.2 h7
              have hd : decide (RightN p) = false := decide_eq_false (fun hR => hR.2.2.2 (HVI.out.2 (fun h => h7 h.1)))
              clear h7
              have HD := Lib.hid hd
              clear hd
              go_wp2_with (first | ((with_reducible refine at_op (.load 25 (.tmp 4)) rfl ?_); refine wpList_load_blk_g (by rfl) 25 (.tmp 4) rfl n1 25 (pkV BE) _ rfl HE.out.2.1 Try.underlying25 rfl (by rw [pkV_size HE.out.2.2.1]; first | done | kernel_rfl) ?_) | ((with_reducible refine at_op (.load 25 (.tmp 1)) rfl ?_); refine wpList_load_blk_g (by rfl) 25 (.tmp 1) rfl n0 25 (pkV p) _ rfl HE.out.1 Try.underlying25 rfl (by rw [pkV_size HH.out.1]; first | done | kernel_rfl) ?_) | ((with_reducible refine at_op (.binOp .eql 25 (.tmp 78) (.tmp 79) 25) rfl ?_); refine wpList_eql_g (by rfl) .eql 25 25 (.tmp 78) (.tmp 79) rfl (pkV BE) (pkV p) rfl rfl (by kernel_rfl) _ (HQ.out _) ?_))
              go_ret
              exact ⟨by rw [HD.out]; try rfl, HI.out.ht.below (Nat.le_refl _) (fun _ _ h => h)⟩
        · have t3 : (x3 == 0) = false := beq_eq_false_iff_ne.2 h3
          have hv : ¬ Void p := fun hv => h3 (by rw [HX.out.1]; exact hv.2.1)
          clear h3
          cases r
          · have hd := HNO.out rfl
            clear hv
            have HD := Lib.hid hd
            clear hd
            go_wp2_with (first | ((with_reducible refine at_op (.load 25 (.tmp 4)) rfl ?_); refine wpList_load_blk_g (by rfl) 25 (.tmp 4) rfl n1 25 (pkV BE) _ rfl HE.out.2.1 Try.underlying25 rfl (by rw [pkV_size HE.out.2.2.1]; first | done | kernel_rfl) ?_) | ((with_reducible refine at_op (.load 25 (.tmp 1)) rfl ?_); refine wpList_load_blk_g (by rfl) 25 (.tmp 1) rfl n0 25 (pkV p) _ rfl HE.out.1 Try.underlying25 rfl (by rw [pkV_size HH.out.1]; first | done | kernel_rfl) ?_) | ((with_reducible refine at_op (.binOp .eql 25 (.tmp 78) (.tmp 79) 25) rfl ?_); refine wpList_eql_g (by rfl) .eql 25 25 (.tmp 78) (.tmp 79) rfl (pkV BE) (pkV p) rfl rfl (by kernel_rfl) _ (HQ.out _) ?_))
            go_ret
            exact ⟨by rw [HD.out]; try rfl, HI.out.ht.below (Nat.le_refl _) (fun _ _ h => h)⟩
          · have hd := HYES.out rfl HK8.out.2 hv
            clear hv
            have HD := Lib.hid hd
            clear hd
            go_wp2_with (first | ((with_reducible refine at_op (.load 25 (.tmp 4)) rfl ?_); refine wpList_load_blk_g (by rfl) 25 (.tmp 4) rfl n1 25 (pkV BE) _ rfl HE.out.2.1 Try.underlying25 rfl (by rw [pkV_size HE.out.2.2.1]; first | done | kernel_rfl) ?_) | ((with_reducible refine at_op (.load 25 (.tmp 1)) rfl ?_); refine wpList_load_blk_g (by rfl) 25 (.tmp 1) rfl n0 25 (pkV p) _ rfl HE.out.1 Try.underlying25 rfl (by rw [pkV_size HH.out.1]; first | done | kernel_rfl) ?_) | ((with_reducible refine at_op (.binOp .eql 25 (.tmp 78) (.tmp 79) 25) rfl ?_); refine wpList_eql_g (by rfl) .eql 25 25 (.tmp 78) (.tmp 79) rfl (pkV BE) (pkV p) rfl rfl (by kernel_rfl) _ (HQ.out _) ?_))
            go_ret
            exact ⟨by rw [HD.out]; try rfl, HI.out.ht.below (Nat.le_refl _) (fun _ _ h => h)⟩
      · have t8 : (k == 8) = false := beq_eq_false_iff_ne.2 h8
        have hv : ¬ Void p := fun hv => h8 (by rw [HH.out.2]; exact hv.1)
        clear h8
        by_cases hm : j = 0
        · have hd : decide (RightN p) = false := decide_eq_false (fun hR => hR.2.1 ((parts_empty _).1 (List.length_eq_zero_iff.1 (by rw [← HM.out]; exact hm))))
          clear hv
          subst hm
          cases r
          · skip
            have HD := Lib.hid hd
            clear hd
            go_wp2_with (first | ((with_reducible refine at_op (.load 25 (.tmp 4)) rfl ?_); refine wpList_load_blk_g (by rfl) 25 (.tmp 4) rfl n1 25 (pkV BE) _ rfl HE.out.2.1 Try.underlying25 rfl (by rw [pkV_size HE.out.2.2.1]; first | done | kernel_rfl) ?_) | ((with_reducible refine at_op (.load 25 (.tmp 1)) rfl ?_); refine wpList_load_blk_g (by rfl) 25 (.tmp 1) rfl n0 25 (pkV p) _ rfl HE.out.1 Try.underlying25 rfl (by rw [pkV_size HH.out.1]; first | done | kernel_rfl) ?_) | ((with_reducible refine at_op (.binOp .eql 25 (.tmp 78) (.tmp 79) 25) rfl ?_); refine wpList_eql_g (by rfl) .eql 25 25 (.tmp 78) (.tmp 79) rfl (pkV BE) (pkV p) rfl rfl (by kernel_rfl) _ (HQ.out _) ?_))
            go_ret
            exact ⟨by rw [HD.out]; try rfl, HI.out.ht.below (Nat.le_refl _) (fun _ _ h => h)⟩
          · skip
            have HD := Lib.hid hd
            clear hd
            go_wp2_with (first | ((with_reducible refine at_op (.load 25 (.tmp 4)) rfl ?_); refine wpList_load_blk_g (by rfl) 25 (.tmp 4) rfl n1 25 (pkV BE) _ rfl HE.out.2.1 Try.underlying25 rfl (by rw [pkV_size HE.out.2.2.1]; first | done | kernel_rfl) ?_) | ((with_reducible refine at_op (.load 25 (.tmp 1)) rfl ?_); refine wpList_load_blk_g (by rfl) 25 (.tmp 1) rfl n0 25 (pkV p) _ rfl HE.out.1 Try.underlying25 rfl (by rw [pkV_size HH.out.1]; first | done | kernel_rfl) ?_) | ((with_reducible refine at_op (.binOp .eql 25 (.tmp 78) (.tmp 79) 25) rfl ?_); refine wpList_eql_g (by rfl) .eql 25 25 (.tmp 78) (.tmp 79) rfl (pkV BE) (pkV p) rfl rfl (by kernel_rfl) _ (HQ.out _) ?_))
            go_ret
            exact ⟨by rw [HD.out]; try rfl, HI.out.ht.below (Nat.le_refl _) (fun _ _ h => h)⟩
        · have hm0 : 0 < j := by omega
          have hm1 : (0 : Int) < (j : Int) := by omega
          have hs : slotsN p.kind ≠ [] := fun h => hm (by rw [HM.out, (parts_empty _).2 h]; rfl)
          clear hm
          cases r
          · have hd := HNO.out rfl
            clear hs hv
            have HD := Lib.hid hd
            clear hd
            go_wp2_with (first | ((with_reducible refine at_op (.load 25 (.tmp 4)) rfl ?_); refine wpList_load_blk_g (by rfl) 25 (.tmp 4) rfl n1 25 (pkV BE) _ rfl HE.out.2.1 Try.underlying25 rfl (by rw [pkV_size HE.out.2.2.1]; first | done | kernel_rfl) ?_) | ((with_reducible refine at_op (.load 25 (.tmp 1)) rfl ?_); refine wpList_load_blk_g (by rfl) 25 (.tmp 1) rfl n0 25 (pkV p) _ rfl HE.out.1 Try.underlying25 rfl (by rw [pkV_size HH.out.1]; first | done | kernel_rfl) ?_) | ((with_reducible refine at_op (.binOp .eql 25 (.tmp 78) (.tmp 79) 25) rfl ?_); refine wpList_eql_g (by rfl) .eql 25 25 (.tmp 78) (.tmp 79) rfl (pkV BE) (pkV p) rfl rfl (by kernel_rfl) _ (HQ.out _) ?_))
            go_ret
            exact ⟨by rw [HD.out]; try rfl, HI.out.ht.below (Nat.le_refl _) (fun _ _ h => h)⟩
          · have hd := HYES.out rfl hs hv
            clear hs hv
            have HD := Lib.hid hd
            clear hd
            go_wp2_with (first | ((with_reducible refine at_op (.load 25 (.tmp 4)) rfl ?_); refine wpList_load_blk_g (by rfl) 25 (.tmp 4) rfl n1 25 (pkV BE) _ rfl HE.out.2.1 Try.underlying25 rfl (by rw [pkV_size HE.out.2.2.1]; first | done | kernel_rfl) ?_) | ((with_reducible refine at_op (.load 25 (.tmp 1)) rfl ?_); refine wpList_load_blk_g (by rfl) 25 (.tmp 1) rfl n0 25 (pkV p) _ rfl HE.out.1 Try.underlying25 rfl (by rw [pkV_size HH.out.1]; first | done | kernel_rfl) ?_) | ((with_reducible refine at_op (.binOp .eql 25 (.tmp 78) (.tmp 79) 25) rfl ?_); refine wpList_eql_g (by rfl) .eql 25 25 (.tmp 78) (.tmp 79) rfl (pkV BE) (pkV p) rfl rfl (by kernel_rfl) _ (HQ.out _) ?_))
            go_ret
            exact ⟨by rw [HD.out]; try rfl, HI.out.ht.below (Nat.le_refl _) (fun _ _ h => h)⟩
    · have hjl : j < m := by omega
      have hj1 : (j : Int) < m := by omega
      have hj0 : (0 : Int) ≤ j := by omega
      have hm8 : m ≤ 8 := by rw [HM.out]; exact parts_len _
      obtain ⟨r, hr⟩ : ∃ r, (partsN p.kind)[j]? = some r := ⟨_, List.getElem?_eq_getElem (by rw [← HM.out]; exact hjl)⟩
      obtain ⟨sb, rfl, hsb, g0, g1, g2, g3⟩ := HI.out.hr.at hr
      obtain ⟨BJ, hBJ⟩ : ∃ BJ, BJ = foldB p ((partsN p.kind).take j) (pk0 p.kind) := ⟨_, rfl⟩
      have hBO : BJ.Ok := by rw [hBJ]; exact foldB_ok _ _ _ HH.out.1 (pk0_ok _)
      clear hq
      rcases part_kinds hr with rfl | rfl | ⟨hi1, hi2, hwh, e11, e12, -, n11, n12⟩
      · have HBJ := Lib.hid (And.intro hBO hBJ)
        have HR := Lib.hid hr
        clear hBO hBJ hr
        have f0 : wr.cell? ⟨sb, j * 4, none⟩ = some (.int .i64 11) := g0
        clear g0 g1 g2 g3 hsb
        go_wp2_with (first
          | ((with_reducible refine at_op (.load 22 (.tmp 58)) rfl ?_); refine wpList_load_mid rfl 22 (.tmp 58) rfl n0 12 rfl (bn p.sec) _ (HI.out.h0.sec HH.out.1) Try.underlying22 rfl (by rw [bn_len, HH.out.1.hs]; first | done | kernel_rfl) ?_)
          | ((with_reducible refine at_op (.store 22 (.tmp 60) (.tmp 59)) rfl ?_); refine wpList_store_sec rfl 22 (.tmp 60) (.tmp 59) rfl n1 25 BJ p.sec rfl rfl (by rw [HBJ.out.2]; exact HI.out.h1) HBJ.out.1 HH.out.1.hs (by kernel_rfl) ?_; intro w5 hB5 ht5 hs5; have H9 := Lib.hid (And.intro hB5 ht5); clear hB5 ht5 hs5))
        go_roundw
        case rel =>
          obtain ⟨i1, i2, i3, i4, i5, i6, i7⟩ := HI.out
          have hz := i1.size
          have tA : Touch (fun k => k = n1) wr w5 := H9.out.2
          refine ⟨j + 1, hjl, by first | rfl | (congr 1; omega) | (congr 1; unfold wrap64; omega), ⟨Touch.then i1 tA (fun q hq e => by have := i6; omega), i2.touch tA (by have := i6; omega), ?_, i4.touch tA (fun y hy e => by have := i5 y hy; omega), i5, i6, ?_⟩⟩
          · rw [foldB_take _ _ _ _ _ HR.out, ← HBJ.out.2]
            exact H9.out.1
          · intro r hr
            rw [List.take_add_one, HR.out] at hr
            rcases List.mem_append.1 hr with hr | hr
            · exact i7 r hr
            · have e : r = rpSec := by simpa using hr
              rw [e]
              exact Or.inl rfl
        case measure => simp [intOf]; (try unfold wrap64); omega
      · have HBJ := Lib.hid (And.intro hBO hBJ)
        have HR := Lib.hid hr
        clear hBO hBJ hr
        have f0 : wr.cell? ⟨sb, j * 4, none⟩ = some (.int .i64 12) := g0
        clear g0 g1 g2 g3 hsb
        go_wp2_with (first
          | ((with_reducible refine at_op (.load 23 (.tmp 63)) rfl ?_); refine wpList_load_mid rfl 23 (.tmp 63) rfl n0 28 rfl (bn p.tag) _ (HI.out.h0.tag HH.out.1) Try.underlying23 rfl (by rw [bn_len, HH.out.1.ht]; first | done | kernel_rfl) ?_)
          | ((with_reducible refine at_op (.store 23 (.tmp 65) (.tmp 64)) rfl ?_); refine wpList_store_tag rfl 23 (.tmp 65) (.tmp 64) rfl n1 25 BJ p.tag rfl rfl (by rw [HBJ.out.2]; exact HI.out.h1) HBJ.out.1 HH.out.1.ht (by kernel_rfl) ?_; intro w5 hB5 ht5 hs5; have H9 := Lib.hid (And.intro hB5 ht5); clear hB5 ht5 hs5))
        go_roundw
        case rel =>
          obtain ⟨i1, i2, i3, i4, i5, i6, i7⟩ := HI.out
          have hz := i1.size
          have tA : Touch (fun k => k = n1) wr w5 := H9.out.2
          refine ⟨j + 1, hjl, by first | rfl | (congr 1; omega) | (congr 1; unfold wrap64; omega), ⟨Touch.then i1 tA (fun q hq e => by have := i6; omega), i2.touch tA (by have := i6; omega), ?_, i4.touch tA (fun y hy e => by have := i5 y hy; omega), i5, i6, ?_⟩⟩
          · rw [foldB_take _ _ _ _ _ HR.out, ← HBJ.out.2]
            exact H9.out.1
          · intro r hr
            rw [List.take_add_one, HR.out] at hr
            rcases List.mem_append.1 hr with hr | hr
            · exact i7 r hr
            · have e : r = rpTag := by simpa using hr
              rw [e]
              exact Or.inr (Or.inl rfl)
        case measure => simp [intOf]; (try unfold wrap64); omega
      · obtain ⟨wh, sz, lo, hi⟩ := r
        obtain ⟨i, hic⟩ : ∃ i, (⟨wh, sz, lo, hi⟩ : RPart).cell = i := ⟨_, rfl⟩
        rw [hic] at hi1 hi2 hwh
        simp only at g0 g1 g2 g3 e11 e12 n11 n12 hwh
        obtain ⟨x, hx⟩ : ∃ x, x = p.n.getD i 0 := ⟨_, rfl⟩
        have HR := Lib.hid (And.intro hr (And.intro hic (And.intro hwh (And.intro hx (And.intro n11 n12)))))
        have hstb : stB p BJ ⟨wh, sz, lo, hi⟩ = { BJ with n := BJ.n.set i x } := by
          unfold stB
          rw [hic, ← hx, if_neg n11, if_neg n12]
        have HBJ := Lib.hid (And.intro hBO (And.intro hBJ hstb))
        have hC : ∀ W, TG wr W → W.cell? ⟨sb, j * 4, none⟩ = some (.int .i64 wh) ∧ W.cell? ⟨sb, j * 4 + 1, none⟩ = some (.int .i64 sz) ∧ W.cell? ⟨sb, j * 4 + 2, none⟩ = some (.int .i64 lo) ∧ W.cell? ⟨sb, j * 4 + 3, none⟩ = some (.int .i64 hi) := by
          intro W hW
          have hk := HI.out.hr.touch hW.still2 (fun _ _ h => h)
          obtain ⟨sb2, e, -, k0, k1, k2, k3⟩ := hk.at hr
          cases e
          exact ⟨k0, k1, k2, k3⟩
        have HC := Lib.hid hC
        clear hC hBO hBJ hstb hr hic hwh hx n11 n12 hsb
        go_wp2_with fail
        clear g0 g1 g2 g3
        refine wp_region_held_drew (S := fun w' : World => TG wr w') (by kernel_rfl) ((TG.refl wr).drew) (fun hHeld => ?_)
        refine anyH_world (R := fun w' : World => TG wr w') hHeld ?_
        clear hHeld
        intro W0q hHeld
        refine region_take 0 (v := ?vq0_1) rfl rfl (by kernel_rfl) (by kernel_rfl) (by kernel_rfl) (fun _ _ _ h => h) hHeld (Or.inl ⟨by rfl, ?yq0_1⟩) ?rq0_1
        case yq0_1 => (intro w hSw; refine (yields_load_blk 25 (.tmp 1) rfl n0 25 (pkV p) _ rfl (HI.out.h0.tg hSw) Try.underlying25 rfl (by rw [pkV_size HH.out.1]; first | done | kernel_rfl)).trans ?_; with_reducible rfl)
        try simp only [Act.put, List.setIfInBounds_toArray, List.set_cons_zero, List.set_cons_succ]
        refine region_take 1 (v := ?vq1_2) rfl rfl (by kernel_rfl) (by kernel_rfl) (by kernel_rfl) (fun _ _ _ h => h) hHeld (Or.inl ⟨by rfl, ?yq1_2⟩) ?rq1_2
        case yq1_2 => (intro w hSw; (try dsimp only at hSw); go_simp; try with_reducible rfl)
        try simp only [Act.put, List.setIfInBounds_toArray, List.set_cons_zero, List.set_cons_succ]
        refine region_take 2 (v := ?vq2_3) rfl rfl (by kernel_rfl) (by kernel_rfl) (by kernel_rfl) (fun _ _ _ h => h) hHeld (Or.inl ⟨by rfl, ?yq2_3⟩) ?rq2_3
        case yq2_3 => (intro w hSw; (try dsimp only at hSw); go_simp; try with_reducible rfl)
        try simp only [Act.put, List.setIfInBounds_toArray, List.set_cons_zero, List.set_cons_succ]
        refine region_take 3 (v := ?vq3_4) rfl rfl (by kernel_rfl) (by kernel_rfl) (by kernel_rfl) (fun _ _ _ h => h) hHeld (Or.inl ⟨by rfl, ?yq3_4⟩) ?rq3_4
        case yq3_4 => (intro w hSw; (try dsimp only at hSw); go_simp; try with_reducible rfl)
        try simp only [Act.put, List.setIfInBounds_toArray, List.set_cons_zero, List.set_cons_succ]
        refine region_take 4 (v := ?vq4_5) rfl rfl (by kernel_rfl) (by kernel_rfl) (by kernel_rfl) (fun _ _ _ h => h) hHeld (Or.inl ⟨by rfl, ?yq4_5⟩) ?rq4_5
        case yq4_5 => (intro w hSw; (try dsimp only at hSw); go_simp; try with_reducible rfl)
        try simp only [Act.put, List.setIfInBounds_toArray, List.set_cons_zero, List.set_cons_succ]
        refine region_take 5 (v := ?vq5_6) rfl rfl (by kernel_rfl) (by kernel_rfl) (by kernel_rfl) (fun _ _ _ h => h) hHeld (Or.inl ⟨by rfl, ?yq5_6⟩) ?rq5_6
        case yq5_6 => (intro w hSw; have d := (HC.out _ hSw).1; go_simp; try with_reducible rfl)
        try simp only [Act.put, List.setIfInBounds_toArray, List.set_cons_zero, List.set_cons_succ]
        refine region_one 6 (by kernel_rfl) rfl (fun K hK => ?_)
        go_simp
        go_at_call 46
        (with_reducible refine (refGet_at p HH.out.1 i hi1 hi2 wh HR.out.2.2.1 _).mono ?_)
        rintro e uq_7 ⟨rfl, hb8⟩
        rw [← HR.out.2.2.2.1]
        have ht := Touch.of_below (S := fun _ => False) hb8
        refine hK.out _ _ (((hHeld).still ht)) (fun hHeld2 => ?_)
        clear hK K hHeld ht
        have hHeld := hHeld2
        clear hHeld2
        try simp only [Act.put, List.setIfInBounds_toArray, List.set_cons_zero, List.set_cons_succ]
        refine region_take 7 (v := ?vq7_8) rfl rfl (by kernel_rfl) (by kernel_rfl) (by kernel_rfl) (fun _ _ _ h => h) hHeld (Or.inl ⟨by rfl, ?yq7_8⟩) ?rq7_8
        case yq7_8 => (intro w hSw; (try dsimp only at hSw); go_simp; try with_reducible rfl)
        try simp only [Act.put, List.setIfInBounds_toArray, List.set_cons_zero, List.set_cons_succ]
        refine wpAnyH_done (by kernel_rfl) ?_ _
        have HTG := Lib.hid (hHeld)
        clear hHeld
        obtain ⟨g0, g1, g2, g3⟩ := HC.out _ HTG.out
        by_cases hlo : x < lo
        · have hd : decide (RightN p) = false := decide_eq_false (fun hRn => by
            have h := (okR_all p).2 hRn.1 _ (List.mem_of_getElem? HR.out.1)
            rcases h with h | h | h
            · exact HR.out.2.2.2.2.1 h
            · exact HR.out.2.2.2.2.2 h
            · rw [HR.out.2.1, ← HR.out.2.2.2.1] at h
              simp only at h
              omega)
          have HD := Lib.hid hd
          clear hd
          go_wp2_with fail
          go_ret
          exact ⟨by rw [HD.out]; try rfl, (HI.out.ht.trans HTG.out.still2).below (Nat.le_refl _) (fun _ _ h => h)⟩
        · by_cases hhi : hi < x
          · have hd : decide (RightN p) = false := decide_eq_false (fun hRn => by
              have h := (okR_all p).2 hRn.1 _ (List.mem_of_getElem? HR.out.1)
              rcases h with h | h | h
              · exact HR.out.2.2.2.2.1 h
              · exact HR.out.2.2.2.2.2 h
              · rw [HR.out.2.1, ← HR.out.2.2.2.1] at h
                simp only at h
                omega)
            have HD := Lib.hid hd
            clear hd
            go_wp2_with fail
            go_ret
            exact ⟨by rw [HD.out]; try rfl, (HI.out.ht.trans HTG.out.still2).below (Nat.le_refl _) (fun _ _ h => h)⟩
          · have HLO : Hid (lo ≤ x ∧ x ≤ hi) := Lib.hid ⟨by omega, by omega⟩
            go_wp2_with fail
            clear g0 g1 g2 g3 hlo hhi
            have HBW : Hid (Blk uq_7 n1 25 (pkV BJ)) := Lib.hid (by rw [HBJ.out.2.1]; exact HI.out.h1.tg HTG.out)
            refine wp_region_held_drew (S := fun _ => True) (by kernel_rfl) trivial (fun _ => ?_)
            refine anyH_world (R := fun w' : World => TG uq_7 w' ∧ TG wr w') (And.intro (TG.refl uq_7).drew ((HTG.out).drew)) ?_
            intro W0s hHeld
            refine region_take 1 (v := ?vs1_1) rfl rfl (by kernel_rfl) (by kernel_rfl) (by kernel_rfl) (fun _ _ _ h => h) trivial (Or.inl ⟨by rfl, ?ys1_1⟩) ?rs1_1
            case ys1_1 => (intro w hSw; (try dsimp only at hSw); go_simp; try with_reducible rfl)
            try simp only [Act.put, List.setIfInBounds_toArray, List.set_cons_zero, List.set_cons_succ]
            refine region_take 2 (v := ?vs2_2) rfl rfl (by kernel_rfl) (by kernel_rfl) (by kernel_rfl) (fun _ _ _ h => h) trivial (Or.inl ⟨by rfl, ?ys2_2⟩) ?rs2_2
            case ys2_2 => (intro w hSw; (try dsimp only at hSw); go_simp; try with_reducible rfl)
            try simp only [Act.put, List.setIfInBounds_toArray, List.set_cons_zero, List.set_cons_succ]
            refine region_take 3 (v := ?vs3_3) rfl rfl (by kernel_rfl) (by kernel_rfl) (by kernel_rfl) (fun _ _ _ h => h) trivial (Or.inl ⟨by rfl, ?ys3_3⟩) ?rs3_3
            case ys3_3 => (intro w hSw; (try dsimp only at hSw); go_simp; try with_reducible rfl)
            try simp only [Act.put, List.setIfInBounds_toArray, List.set_cons_zero, List.set_cons_succ]
            refine region_take 4 (v := ?vs4_4) rfl rfl (by kernel_rfl) (by kernel_rfl) (by kernel_rfl) (fun _ _ _ h => h) trivial (Or.inl ⟨by rfl, ?ys4_4⟩) ?rs4_4
            case ys4_4 => (intro w hSw; (try dsimp only at hSw); go_simp; try with_reducible rfl)
            try simp only [Act.put, List.setIfInBounds_toArray, List.set_cons_zero, List.set_cons_succ]
            refine region_take 6 (v := ?vs6_5) rfl rfl (by kernel_rfl) (by kernel_rfl) (by kernel_rfl) (fun _ _ _ h => h) trivial (Or.inl ⟨by rfl, ?ys6_5⟩) ?rs6_5
            case ys6_5 => (intro w hSw; (try dsimp only at hSw); go_simp; try with_reducible rfl)
            try simp only [Act.put, List.setIfInBounds_toArray, List.set_cons_zero, List.set_cons_succ]
            refine region_two 0 5 (by kernel_rfl) rfl rfl (fun K hK => ?_) (fun K hK => ?_)
            · refine step_load_blk rfl 25 (.tmp 4) rfl n1 25 (pkV BJ) _ rfl (HBW.out.tg (hHeld.1)) Try.underlying25 rfl (by rw [pkV_size HBJ.out.1]; first | done | kernel_rfl) ?_
              refine K_world (fun w' : World => Touch (fun _ => False) W0s w') (Touch.refl _ _) ?_
              intro us_6 hx
              have ht := hx
              have hHeld2 := (And.intro (((hHeld.1)).still ht) ((((hHeld.2)).still ht)))
              clear hHeld ht
              have hHeld := hHeld2
              clear hHeld2
              refine hK.out _ _ trivial (fun _ => ?_)
              clear hK K
              try simp only [Act.put, List.setIfInBounds_toArray, List.set_cons_zero, List.set_cons_succ]
              refine region_one 5 (by kernel_rfl) rfl (fun K hK => ?_)
              have d := (HC.out _ (hHeld.2)).1
              go_simp
              refine K_world (fun w' : World => Touch (fun _ => False) us_6 w') (Touch.refl _ _) ?_
              intro us_7 hx
              have ht := hx
              have hHeld2 := (And.intro (((hHeld.1)).still ht) ((((hHeld.2)).still ht)))
              clear hHeld ht
              have hHeld := hHeld2
              clear hHeld2
              refine hK.out _ _ trivial (fun _ => ?_)
              clear hK K
              try simp only [Act.put, List.setIfInBounds_toArray, List.set_cons_zero, List.set_cons_succ]
              refine region_one 7 (by kernel_rfl) rfl (fun K hK => ?_)
              go_simp
              go_at_call 54
              (with_reducible refine (refWith_at BJ HBJ.out.1 i hi1 hi2 wh HR.out.2.2.1 x _).mono ?_)
              rintro e us_8 ⟨rfl, hb8⟩
              have ht := Touch.of_below (S := fun _ => False) hb8
              have hHeld2 := (And.intro (((hHeld.1)).still ht) ((((hHeld.2)).still ht)))
              clear hHeld ht
              have hHeld := hHeld2
              clear hHeld2
              refine hK.out _ _ trivial (fun _ => ?_)
              clear hK K
              try simp only [Act.put, List.setIfInBounds_toArray, List.set_cons_zero, List.set_cons_succ]
              refine region_one 8 (by kernel_rfl) rfl (fun K hK => ?_)
              have HBF := Lib.hid (((hHeld.1)).still2)
              refine step_store_blk rfl 25 (.tmp 4) (.tmp 55) rfl n1 25 (pkV BJ) (pkV { BJ with n := BJ.n.set i x }) rfl rfl (HBW.out.tg (hHeld.1)) (by rw [pkV_size (HBJ.out.1.setN i x)]; first | done | kernel_rfl) (by rw [pkV_size HBJ.out.1, pkV_size (HBJ.out.1.setN i x)]) (pkV_one _) ?_
              intro us_9 hB9 ht9 hs9
              have H9 := Lib.hid (And.intro hB9 ht9)
              clear hB9 hs9
              have ht := ht9
              clear hHeld ht
              refine hK.out _ _ trivial (fun _ => ?_)
              clear hK K
              try simp only [Act.put]
              refine wpAnyH_done (by kernel_rfl) ?_ _
              go_wp2_with fail
              go_roundw
              case rel =>
                obtain ⟨i1, i2, i3, i4, i5, i6, i7⟩ := HI.out
                have tws : Touch (fun _ => False) wr uq_7 := HTG.out.still2
                have hz := i1.size
                have tA : Touch (fun k => k = n1) wr us_9 := Touch.then (S := fun k => k = n1) ((tws.trans HBF.out).mono (fun _ _ h => h.elim)) H9.out.2 (fun _ _ h => h)
                refine ⟨j + 1, hjl, by first | rfl | (congr 1; omega) | (congr 1; unfold wrap64; omega), ⟨Touch.then i1 tA (fun q hq e => by have := i6; omega), i2.touch tA (by have := i6; omega), ?_, i4.touch tA (fun y hy e => by have := i5 y hy; omega), i5, i6, ?_⟩⟩
                · rw [foldB_take _ _ _ _ _ HR.out.1, ← HBJ.out.2.1, HBJ.out.2.2]
                  exact H9.out.1
                · intro r hr
                  rw [List.take_add_one, HR.out.1] at hr
                  rcases List.mem_append.1 hr with hr | hr
                  · exact i7 r hr
                  · have e : r = ⟨wh, sz, lo, hi⟩ := by simpa using hr
                    rw [e]
                    exact Or.inr (Or.inr ⟨by rw [HR.out.2.1, ← HR.out.2.2.2.1]; exact HLO.out.1, by rw [HR.out.2.1, ← HR.out.2.2.2.1]; exact HLO.out.2⟩)
              case measure => simp [intOf]; (try unfold wrap64); omega
            · have d := (HC.out _ (hHeld.2)).1
              go_simp
              refine K_world (fun w' : World => Touch (fun _ => False) W0s w') (Touch.refl _ _) ?_
              intro us_10 hx
              have ht := hx
              have hHeld2 := (And.intro (((hHeld.1)).still ht) ((((hHeld.2)).still ht)))
              clear hHeld ht
              have hHeld := hHeld2
              clear hHeld2
              refine hK.out _ _ trivial (fun _ => ?_)
              clear hK K
              try simp only [Act.put, List.setIfInBounds_toArray, List.set_cons_zero, List.set_cons_succ]
              refine region_one 0 (by kernel_rfl) rfl (fun K hK => ?_)
              refine step_load_blk rfl 25 (.tmp 4) rfl n1 25 (pkV BJ) _ rfl (HBW.out.tg (hHeld.1)) Try.underlying25 rfl (by rw [pkV_size HBJ.out.1]; first | done | kernel_rfl) ?_
              refine K_world (fun w' : World => Touch (fun _ => False) us_10 w') (Touch.refl _ _) ?_
              intro us_11 hx
              have ht := hx
              have hHeld2 := (And.intro (((hHeld.1)).still ht) ((((hHeld.2)).still ht)))
              clear hHeld ht
              have hHeld := hHeld2
              clear hHeld2
              refine hK.out _ _ trivial (fun _ => ?_)
              clear hK K
              try simp only [Act.put, List.setIfInBounds_toArray, List.set_cons_zero, List.set_cons_succ]
              refine region_one 7 (by kernel_rfl) rfl (fun K hK => ?_)
              go_simp
              go_at_call 54
              (with_reducible refine (refWith_at BJ HBJ.out.1 i hi1 hi2 wh HR.out.2.2.1 x _).mono ?_)
              rintro e us_12 ⟨rfl, hb8⟩
              have ht := Touch.of_below (S := fun _ => False) hb8
              have hHeld2 := (And.intro (((hHeld.1)).still ht) ((((hHeld.2)).still ht)))
              clear hHeld ht
              have hHeld := hHeld2
              clear hHeld2
              refine hK.out _ _ trivial (fun _ => ?_)
              clear hK K
              try simp only [Act.put, List.setIfInBounds_toArray, List.set_cons_zero, List.set_cons_succ]
              refine region_one 8 (by kernel_rfl) rfl (fun K hK => ?_)
              have HBF := Lib.hid (((hHeld.1)).still2)
              refine step_store_blk rfl 25 (.tmp 4) (.tmp 55) rfl n1 25 (pkV BJ) (pkV { BJ with n := BJ.n.set i x }) rfl rfl (HBW.out.tg (hHeld.1)) (by rw [pkV_size (HBJ.out.1.setN i x)]; first | done | kernel_rfl) (by rw [pkV_size HBJ.out.1, pkV_size (HBJ.out.1.setN i x)]) (pkV_one _) ?_
              intro us_13 hB9 ht9 hs9
              have H9 := Lib.hid (And.intro hB9 ht9)
              clear hB9 hs9
              have ht := ht9
              clear hHeld ht
              refine hK.out _ _ trivial (fun _ => ?_)
              clear hK K
              try simp only [Act.put]
              refine wpAnyH_done (by kernel_rfl) ?_ _
              go_wp2_with fail
              go_roundw
              case rel =>
                obtain ⟨i1, i2, i3, i4, i5, i6, i7⟩ := HI.out
                have tws : Touch (fun _ => False) wr uq_7 := HTG.out.still2
                have hz := i1.size
                have tA : Touch (fun k => k = n1) wr us_13 := Touch.then (S := fun k => k = n1) ((tws.trans HBF.out).mono (fun _ _ h => h.elim)) H9.out.2 (fun _ _ h => h)
                refine ⟨j + 1, hjl, by first | rfl | (congr 1; omega) | (congr 1; unfold wrap64; omega), ⟨Touch.then i1 tA (fun q hq e => by have := i6; omega), i2.touch tA (by have := i6; omega), ?_, i4.touch tA (fun y hy e => by have := i5 y hy; omega), i5, i6, ?_⟩⟩
                · rw [foldB_take _ _ _ _ _ HR.out.1, ← HBJ.out.2.1, HBJ.out.2.2]
                  exact H9.out.1
                · intro r hr
                  rw [List.take_add_one, HR.out.1] at hr
                  rcases List.mem_append.1 hr with hr | hr
                  · exact i7 r hr
                  · have e : r = ⟨wh, sz, lo, hi⟩ := by simpa using hr
                    rw [e]
                    exact Or.inr (Or.inr ⟨by rw [HR.out.2.1, ← HR.out.2.2.2.1]; exact HLO.out.1, by rw [HR.out.2.1, ← HR.out.2.2.2.1]; exact HLO.out.2⟩)
              case measure => simp [intOf]; (try unfold wrap64); omega
end Go.Proofs.Ythlkmofemnepbaa

namespace Go.Proofs.Ythlkmofemnepbaa
open Go.RowKit

theorem fit_int (sz : Int) (h : sz = 1 ∨ sz = 4) : fitN sz = sz.toNat := by
  rcases h with rfl | rfl <;> rfl

/-- The secret and the tag stand last. -/
theorem parts_last {k : Int} {j : Nat} {r : RPart} (h : (partsN k)[j]? = some r) (hr : r.what = 11 ∨ r.what = 12) : j + 1 = (partsN k).length := by
  have hj : j < (partsN k).length := (List.getElem?_eq_some_iff.1 h).1
  have hn : ¬ j < (slotsN k).length := by
    intro hlt
    unfold partsN at h
    rw [List.getElem?_append_left (by simpa using hlt), List.getElem?_map] at h
    obtain ⟨s, hs, rfl⟩ := Option.map_eq_some_iff.1 h
    have ho := slots_ok k s (List.mem_of_getElem? hs)
    have := ho.i1
    have e : (rpOf s).what = (s.i : Int) - 1 := rfl
    rw [e] at hr
    omega
  have hl : (partsN k).length ≤ (slotsN k).length + 1 := by
    unfold partsN
    rw [List.length_append, List.length_map, List.length_append]
    cases h1 : sealedN k <;> cases h2 : taggedN k
    all_goals try simp
    exfalso
    simp [sealedN] at h1
    simp [taggedN] at h2
    omega
  omega

structure REInv (w : World) (p : Pk) (n0 : Nat) (a : Option Addr) (j : Nat) (o : Value) (wr : World) : Prop where
  ht : Touch (fun _ => False) w wr
  h0 : Blk wr n0 25 (pkV p)
  hr : j < (partsN p.kind).length → PartsRow wr a (partsN p.kind)
  own : ∃ base, n0 < base ∧ w.heap.size ≤ base ∧ OwnBy wr base o (p.kind % 256 :: layRs p ((partsN p.kind).take j))

set_option maxRecDepth 100000 in
set_option maxHeartbeats 4000000 in
theorem refEnc_no (p : Pk) (hp : p.Ok) (hR : ¬ RightN p) (w : World) :
    Calls Try.prog 22 #[.agg (pkV p)] w fun e w' => e = .returned (.tuple #[.slice none 0 0, .int .i64 1]) ∧ Below w.heap.size w w' := by
  have hd : decide (RightN p) = false := decide_eq_false hR
  have HH := Lib.hid (And.intro hp hd)
  clear hp hd hR
  go_enter Try.func22, Try.ntmps22
  go_wp2_with ((with_reducible refine at_op (.load 25 (.tmp 1)) rfl ?_); refine wpList_load_blk rfl 25 (.tmp 1) rfl w.heap.size 25 (pkV p) _ rfl (Blk.new _ _ _) Try.underlying25 rfl (by rw [pkV_size HH.out.1]; first | done | kernel_rfl) ?_)
  (with_reducible refine (refRight_any p HH.out.1 _).mono ?_)
  rintro e w1 ⟨rfl, hb1⟩
  rw [HH.out.2]
  have H1 := Lib.hid (((Touch.refl (fun _ => False) w).alloc _).trans (Touch.of_below hb1))
  clear hb1
  go_wp2_with fail
  go_ret2
  exact ⟨rfl, H1.out.below (Nat.le_refl _) (fun _ _ h => h)⟩

set_option maxRecDepth 100000 in
set_option maxHeartbeats 8000000 in
theorem refEnc_yes (p : Pk) (hp : p.Ok) (hR : RightN p) (w : World) :
    Calls Try.prog 22 #[.agg (pkV p)] w fun e w' => (∃ v, e = .returned (.tuple #[v, .int .i64 0]) ∧ OwnBy w' w.heap.size v (encN p)) ∧ Below w.heap.size w w' := by
  obtain ⟨i0, hi8, hz0, hz1, hz2⟩ := info_parts Try.info5
  have hd : decide (RightN p) = true := decide_eq_true hR
  obtain ⟨k, hk⟩ : ∃ k, k = p.kind := ⟨_, rfl⟩
  have HH := Lib.hid (And.intro hp (And.intro hd hk))
  clear hp hd hR hk
  go_enter Try.func22, Try.ntmps22
  go_wp2_with ((with_reducible refine at_op (.load 25 (.tmp 1)) rfl ?_); refine wpList_load_blk rfl 25 (.tmp 1) rfl w.heap.size 25 (pkV p) _ rfl (Blk.new _ _ _) Try.underlying25 rfl (by rw [pkV_size HH.out.1]; first | done | kernel_rfl) ?_)
  (with_reducible refine (refRight_any p HH.out.1 _).mono ?_)
  rintro e w1 ⟨rfl, hb1⟩
  rw [HH.out.2.1]
  obtain ⟨n0, hn0⟩ : ∃ n0, n0 = w.heap.size := ⟨_, rfl⟩
  rw [← hn0]
  have H1 : Hid (Touch (fun _ => False) w w1 ∧ Blk w1 n0 25 (pkV p) ∧ n0 = w.heap.size) :=
    Lib.hid ⟨((Touch.refl _ w).alloc _).trans (Touch.of_below hb1), by rw [hn0]; exact (Blk.new w (pkV p) 25).touch (Touch.of_below (S := fun _ => False) hb1) (fun h => h), hn0⟩
  clear hb1 hn0
  have c1 : ∀ o, (w1.alloc o).cell? ⟨n0, 0, none⟩ = some (.int .i64 k) := fun o => by
    rw [HH.out.2.2]
    exact (H1.out.2.1.alloc o).num HH.out.1 0 (by decide)
  have c2 : w1.cell? ⟨n0, 0, none⟩ = some (.int .i64 k) := by
    rw [HH.out.2.2]
    exact H1.out.2.1.num HH.out.1 0 (by decide)
  go_wp2_with fail
  (with_reducible refine (refParts_any k _).mono ?_)
  rintro e w2 ⟨v, rfl, hb2, hsl⟩
  obtain ⟨a, rfl, hrow, -⟩ := hsl.row
  clear hsl c1 c2
  obtain ⟨m, hm⟩ : ∃ m, m = (partsN k).length := ⟨_, rfl⟩
  rw [← hm]
  have HM : Hid (m = (partsN p.kind).length) := Lib.hid (by rw [← HH.out.2.2]; exact hm)
  have HI0 : Hid (REInv w p n0 a 0 (.slice (some ⟨w1.heap.size, 0, none⟩) 1 1) w2) := Lib.hid (by
    obtain ⟨q1, q2, q3⟩ := H1.out
    have hlt := q2.lt
    have hq := q1.size
    have t2 : Touch (fun _ => False) w1 w2 := ((Touch.refl (fun _ => False) w1).alloc _).trans (Touch.of_below hb2)
    have hz := hb2.size
    simp at hz
    refine ⟨q1.trans t2, q2.touch t2 (fun h => h), fun _ => by rw [← HH.out.2.2]; exact hrow, w1.heap.size, hlt, hq, ⟨?_, by omega⟩⟩
    have ho := World.ownsRow_lit (base := w1.heap.size) (e := 5) (size := 1) w1 #[.int .u8 (k % 256)] 1 (Nat.le_refl _) (by decide) rfl
    rw [← HH.out.2.2]
    exact owns_touch ho (Touch.of_below (S := fun _ => False) hb2) (fun _ _ h => h))
  clear hb2 hrow hm
  go_wp2_with fail
  go_loopw [4, 6] (fun o i wr => ∃ j : Nat, j ≤ m ∧ i = .int .i64 j ∧ REInv w p n0 a j o wr) (fun _ i _ => (m - intOf i).toNat)
  case atStart => exact ⟨0, Nat.zero_le _, rfl, HI0.out⟩
  case round =>
    obtain ⟨j, hj, rfl, hI⟩ := hrel
    obtain ⟨base, hb0, hbw, hO⟩ := hI.own
    obtain ⟨ao, co, rfl, ho1, ho2, ho3, ho4⟩ := owns_form hO.own
    have HI := Lib.hid hI
    obtain ⟨Z, hZ⟩ : ∃ Z, Z = p.kind % 256 :: layRs p ((partsN p.kind).take j) := ⟨_, rfl⟩
    rw [← hZ] at hO ho1 ho2 ⊢
    have h25 : Z.length ≤ 200 := by
      rw [hZ, List.length_cons]
      have h1 := layRs_len p HH.out.1 p.kind j
      omega
    have HO : Hid ((ao = none → co = 0) ∧ Z.length ≤ 90000) := Lib.hid ⟨fun h => (ho1 h).2, by omega⟩
    have HOW := Lib.hid (And.intro hO (And.intro hb0 (And.intro hbw (And.intro hZ h25))))
    clear hI hO hb0 hbw hZ ho1 ho2 ho3 ho4 h25
    by_cases hq : j = m
    · have hfull : Z = encN p := by
        rw [HOW.out.2.2.2.1, List.take_of_length_le (by rw [← HM.out, hq]; exact Nat.le_refl _), layRs_end]
        rfl
      have HZ := Lib.hid hfull
      clear hfull
      subst hq
      clear hj
      go_wp2_with fail
      go_ret2
      refine ⟨⟨_, rfl, ?_⟩, HI.out.ht.below (Nat.le_refl _) (fun _ _ h => h)⟩
      rw [← HZ.out]
      exact ⟨owns_mono HOW.out.1.own HOW.out.2.2.1, HI.out.ht.size⟩
    · have hjl : j < m := by omega
      have hj1 : (j : Int) < m := by omega
      have hj0 : (0 : Int) ≤ j := by omega
      have hm8 : m ≤ 8 := by rw [HM.out]; exact parts_len _
      obtain ⟨r, hr⟩ : ∃ r, (partsN p.kind)[j]? = some r := ⟨_, List.getElem?_eq_getElem (by rw [← HM.out]; exact hjl)⟩
      have HPR := Lib.hid (HI.out.hr (by rw [← HM.out]; exact hjl))
      obtain ⟨sb, rfl, hsb, g0, g1, g2, g3⟩ := HPR.out.at hr
      clear hq
      rcases part_kinds hr with rfl | rfl | ⟨hi1, hi2, hwh, e11, e12, hsz, n11, n12⟩
      · have HR := Lib.hid (And.intro hr (parts_last hr (Or.inl rfl)))
        clear hr
        have f0 : wr.cell? ⟨sb, j * 4, none⟩ = some (.int .i64 11) := g0
        clear g0 g1 g2 g3 hsb
        go_wp2_with (at_builtin; refine wpList_append_any rfl (.tmp 44) (.tmp 46) 26 rfl base 5 i0 (.int .u8 0) 1 Try.underlying26 hi8 hz0 hz1 hz2 rfl _ Z.length (bys Z) rfl HOW.out.1.own (some ⟨n0, 12, none⟩) 16 16 (bn p.sec) rfl (by rw [bn_len, HH.out.1.hs]) (fun j u hj => ⟨rfl, HI.out.h0.sec HH.out.1 j u hj⟩) (fun h => by cases h) (bn_one _) (by have := HOW.out.2.2.2.2; unfold maxLen; omega) (by have := HOW.out.2.2.2.2; omega) HOW.out.1.le ?_; intro v1 w5 ho5 hg5 hn5; have tg5 : Touch (fun m => base ≤ m) wr w5 := (Touch.refl _ wr).grown hg5 (fun m hm _ => (HOW.out.1.own.lt m hm).1); have H5 := Lib.hid (And.intro ho5 (And.intro hg5 tg5)); clear ho5 hg5 hn5 tg5)
        go_roundw
        case rel =>
          obtain ⟨i1, i2, i3, i4⟩ := HI.out
          have tg : Touch (fun _ => False) w w5 := i1.grown H5.out.2.1 (fun m hm hlt => by have := (HOW.out.1.own.lt m hm).1; have := HOW.out.2.2.1; omega)
          have hlast := HR.out.2
          refine ⟨j + 1, hjl, by first | rfl | (congr 1; omega) | (congr 1; unfold wrap64; omega), ⟨tg, i2.touch H5.out.2.2 (by have := HOW.out.2.1; omega), fun h => absurd h (by omega), base, HOW.out.2.1, HOW.out.2.2.1, ⟨?_, Nat.le_trans HOW.out.1.le H5.out.2.2.size⟩⟩⟩
          rw [layRs_take _ _ _ _ HR.out.1, ← List.cons_append, ← HOW.out.2.2.2.1]
          have e : layR p rpSec = natsD p.sec := by unfold layR; rw [if_pos (show rpSec.what = 11 from rfl)]
          rw [e, bys_append, List.length_append, natsD_len, HH.out.1.hs]
          exact H5.out.1
        case measure => simp [intOf]; (try unfold wrap64); omega
      · have HR := Lib.hid (And.intro hr (parts_last hr (Or.inr rfl)))
        clear hr
        have f0 : wr.cell? ⟨sb, j * 4, none⟩ = some (.int .i64 12) := g0
        clear g0 g1 g2 g3 hsb
        go_wp2_with (at_builtin; refine wpList_append_any rfl (.tmp 50) (.tmp 52) 26 rfl base 5 i0 (.int .u8 0) 1 Try.underlying26 hi8 hz0 hz1 hz2 rfl _ Z.length (bys Z) rfl HOW.out.1.own (some ⟨n0, 28, none⟩) 8 8 (bn p.tag) rfl (by rw [bn_len, HH.out.1.ht]) (fun j u hj => ⟨rfl, HI.out.h0.tag HH.out.1 j u hj⟩) (fun h => by cases h) (bn_one _) (by have := HOW.out.2.2.2.2; unfold maxLen; omega) (by have := HOW.out.2.2.2.2; omega) HOW.out.1.le ?_; intro v1 w5 ho5 hg5 hn5; have tg5 : Touch (fun m => base ≤ m) wr w5 := (Touch.refl _ wr).grown hg5 (fun m hm _ => (HOW.out.1.own.lt m hm).1); have H5 := Lib.hid (And.intro ho5 (And.intro hg5 tg5)); clear ho5 hg5 hn5 tg5)
        go_roundw
        case rel =>
          obtain ⟨i1, i2, i3, i4⟩ := HI.out
          have tg : Touch (fun _ => False) w w5 := i1.grown H5.out.2.1 (fun m hm hlt => by have := (HOW.out.1.own.lt m hm).1; have := HOW.out.2.2.1; omega)
          have hlast := HR.out.2
          refine ⟨j + 1, hjl, by first | rfl | (congr 1; omega) | (congr 1; unfold wrap64; omega), ⟨tg, i2.touch H5.out.2.2 (by have := HOW.out.2.1; omega), fun h => absurd h (by omega), base, HOW.out.2.1, HOW.out.2.2.1, ⟨?_, Nat.le_trans HOW.out.1.le H5.out.2.2.size⟩⟩⟩
          rw [layRs_take _ _ _ _ HR.out.1, ← List.cons_append, ← HOW.out.2.2.2.1]
          have e : layR p rpTag = natsD p.tag := by unfold layR; rw [if_neg (by decide), if_pos (show rpTag.what = 12 from rfl)]
          rw [e, bys_append, List.length_append, natsD_len, HH.out.1.ht]
          exact H5.out.1
        case measure => simp [intOf]; (try unfold wrap64); omega
      · obtain ⟨wh, sz, lo, hi⟩ := r
        obtain ⟨i, hic⟩ : ∃ i, (⟨wh, sz, lo, hi⟩ : RPart).cell = i := ⟨_, rfl⟩
        rw [hic] at hi1 hi2 hwh
        simp only at g0 g1 g2 g3 e11 e12 n11 n12 hwh hsz
        obtain ⟨x, hx⟩ : ∃ x, x = p.n.getD i 0 := ⟨_, rfl⟩
        have hlay : layR p ⟨wh, sz, lo, hi⟩ = putList x sz.toNat sz.toNat := by
          unfold layR
          rw [hic, ← hx, if_neg n11, if_neg n12]
        have HF := Lib.hid hsz
        have HR := Lib.hid (And.intro hr (And.intro hic (And.intro hwh (And.intro hx (And.intro hlay n12)))))
        have hC : ∀ W, TG wr W → W.cell? ⟨sb, j * 4, none⟩ = some (.int .i64 wh) ∧ W.cell? ⟨sb, j * 4 + 1, none⟩ = some (.int .i64 sz) ∧ W.cell? ⟨sb, j * 4 + 2, none⟩ = some (.int .i64 lo) ∧ W.cell? ⟨sb, j * 4 + 3, none⟩ = some (.int .i64 hi) := by
          intro W hW
          have hk := HPR.out.touch hW.still2 (fun _ _ h => h)
          obtain ⟨sb2, e, -, k0, k1, k2, k3⟩ := hk.at hr
          cases e
          exact ⟨k0, k1, k2, k3⟩
        have HC := Lib.hid hC
        clear hC hr hic hwh hx hlay n11 n12 hsz hsb
        go_wp2_with fail
        clear g0 g1 g2 g3
        refine wp_region_held_drew (S := fun w' : World => TG wr w') (by kernel_rfl) ((TG.refl wr).drew) (fun hHeld => ?_)
        refine anyH_world (R := fun w' : World => TG wr w') hHeld ?_
        clear hHeld
        intro W0q hHeld
        refine region_take 0 (v := ?vq0_1) rfl rfl (by kernel_rfl) (by kernel_rfl) (by kernel_rfl) (fun _ _ _ h => h) hHeld (Or.inl ⟨by rfl, ?yq0_1⟩) ?rq0_1
        case yq0_1 => (intro w hSw; (try dsimp only at hSw); go_simp; try with_reducible rfl)
        try simp only [Act.put, List.setIfInBounds_toArray, List.set_cons_zero, List.set_cons_succ]
        refine region_take 1 (v := ?vq1_2) rfl rfl (by kernel_rfl) (by kernel_rfl) (by kernel_rfl) (fun _ _ _ h => h) hHeld (Or.inl ⟨by rfl, ?yq1_2⟩) ?rq1_2
        case yq1_2 => (intro w hSw; refine (yields_load_blk 25 (.tmp 1) rfl n0 25 (pkV p) _ rfl (HI.out.h0.tg hSw) Try.underlying25 rfl (by rw [pkV_size HH.out.1]; first | done | kernel_rfl)).trans ?_; with_reducible rfl)
        try simp only [Act.put, List.setIfInBounds_toArray, List.set_cons_zero, List.set_cons_succ]
        refine region_take 2 (v := ?vq2_3) rfl rfl (by kernel_rfl) (by kernel_rfl) (by kernel_rfl) (fun _ _ _ h => h) hHeld (Or.inl ⟨by rfl, ?yq2_3⟩) ?rq2_3
        case yq2_3 => (intro w hSw; (try dsimp only at hSw); go_simp; try with_reducible rfl)
        try simp only [Act.put, List.setIfInBounds_toArray, List.set_cons_zero, List.set_cons_succ]
        refine region_take 3 (v := ?vq3_4) rfl rfl (by kernel_rfl) (by kernel_rfl) (by kernel_rfl) (fun _ _ _ h => h) hHeld (Or.inl ⟨by rfl, ?yq3_4⟩) ?rq3_4
        case yq3_4 => (intro w hSw; (try dsimp only at hSw); go_simp; try with_reducible rfl)
        try simp only [Act.put, List.setIfInBounds_toArray, List.set_cons_zero, List.set_cons_succ]
        refine region_take 4 (v := ?vq4_5) rfl rfl (by kernel_rfl) (by kernel_rfl) (by kernel_rfl) (fun _ _ _ h => h) hHeld (Or.inl ⟨by rfl, ?yq4_5⟩) ?rq4_5
        case yq4_5 => (intro w hSw; (try dsimp only at hSw); go_simp; try with_reducible rfl)
        try simp only [Act.put, List.setIfInBounds_toArray, List.set_cons_zero, List.set_cons_succ]
        refine region_take 5 (v := ?vq5_6) rfl rfl (by kernel_rfl) (by kernel_rfl) (by kernel_rfl) (fun _ _ _ h => h) hHeld (Or.inl ⟨by rfl, ?yq5_6⟩) ?rq5_6
        case yq5_6 => (intro w hSw; (try dsimp only at hSw); go_simp; try with_reducible rfl)
        try simp only [Act.put, List.setIfInBounds_toArray, List.set_cons_zero, List.set_cons_succ]
        refine region_take 6 (v := ?vq6_7) rfl rfl (by kernel_rfl) (by kernel_rfl) (by kernel_rfl) (fun _ _ _ h => h) hHeld (Or.inl ⟨by rfl, ?yq6_7⟩) ?rq6_7
        case yq6_7 => (intro w hSw; have d := (HC.out _ hSw).1; go_simp; try with_reducible rfl)
        try simp only [Act.put, List.setIfInBounds_toArray, List.set_cons_zero, List.set_cons_succ]
        refine region_take 8 (v := ?vq8_8) rfl rfl (by kernel_rfl) (by kernel_rfl) (by kernel_rfl) (fun _ _ _ h => h) hHeld (Or.inl ⟨by rfl, ?yq8_8⟩) ?rq8_8
        case yq8_8 => (intro w hSw; (try dsimp only at hSw); go_simp; try with_reducible rfl)
        try simp only [Act.put, List.setIfInBounds_toArray, List.set_cons_zero, List.set_cons_succ]
        refine region_take 9 (v := ?vq9_9) rfl rfl (by kernel_rfl) (by kernel_rfl) (by kernel_rfl) (fun _ _ _ h => h) hHeld (Or.inl ⟨by rfl, ?yq9_9⟩) ?rq9_9
        case yq9_9 => (intro w hSw; (try dsimp only at hSw); go_simp; try with_reducible rfl)
        try simp only [Act.put, List.setIfInBounds_toArray, List.set_cons_zero, List.set_cons_succ]
        refine region_take 10 (v := ?vq10_10) rfl rfl (by kernel_rfl) (by kernel_rfl) (by kernel_rfl) (fun _ _ _ h => h) hHeld (Or.inl ⟨by rfl, ?yq10_10⟩) ?rq10_10
        case yq10_10 => (intro w hSw; (try dsimp only at hSw); go_simp; try with_reducible rfl)
        try simp only [Act.put, List.setIfInBounds_toArray, List.set_cons_zero, List.set_cons_succ]
        refine region_take 11 (v := ?vq11_11) rfl rfl (by kernel_rfl) (by kernel_rfl) (by kernel_rfl) (fun _ _ _ h => h) hHeld (Or.inl ⟨by rfl, ?yq11_11⟩) ?rq11_11
        case yq11_11 => (intro w hSw; (try dsimp only at hSw); go_simp; try with_reducible rfl)
        try simp only [Act.put, List.setIfInBounds_toArray, List.set_cons_zero, List.set_cons_succ]
        refine region_take 12 (v := ?vq12_12) rfl rfl (by kernel_rfl) (by kernel_rfl) (by kernel_rfl) (fun _ _ _ h => h) hHeld (Or.inl ⟨by rfl, ?yq12_12⟩) ?rq12_12
        case yq12_12 => (intro w hSw; have d := (HC.out _ hSw).2.1; go_simp; try with_reducible rfl)
        try simp only [Act.put, List.setIfInBounds_toArray, List.set_cons_zero, List.set_cons_succ]
        refine region_one 7 (by kernel_rfl) rfl (fun K hK => ?_)
        go_simp
        go_at_call 46
        (with_reducible refine (refGet_at p HH.out.1 i hi1 hi2 wh HR.out.2.2.1 _).mono ?_)
        rintro e uq_13 ⟨rfl, hb8⟩
        rw [← HR.out.2.2.2.1]
        have ht := Touch.of_below (S := fun _ => False) hb8
        refine hK.out _ _ (((hHeld).still ht)) (fun hHeld2 => ?_)
        clear hK K hHeld ht
        have hHeld := hHeld2
        clear hHeld2
        try simp only [Act.put, List.setIfInBounds_toArray, List.set_cons_zero, List.set_cons_succ]
        refine region_one 13 (by kernel_rfl) rfl (fun K hK => ?_)
        go_simp
        go_at_call 45
        (with_reducible refine (refput_any ao Z.length co Z x sz _ rfl ((SlAt.of_owns HOW.out.1.own).tg hHeld) HO.out.1 HO.out.2).mono ?_)
        rintro e uq_14 ⟨v, rfl, ho8, hb8⟩
        have HV := Lib.hid (And.intro ho8 (And.intro (hHeld).size hb8.size))
        clear ho8
        have ht := Touch.of_below (S := fun _ => False) hb8
        refine hK.out _ _ (((hHeld).still ht)) (fun hHeld2 => ?_)
        clear hK K hHeld ht
        have hHeld := hHeld2
        clear hHeld2
        try simp only [Act.put, List.setIfInBounds_toArray, List.set_cons_zero, List.set_cons_succ]
        refine region_take 14 (v := ?vq14_15) rfl rfl (by kernel_rfl) (by kernel_rfl) (by kernel_rfl) (fun _ _ _ h => h) hHeld (Or.inl ⟨by rfl, ?yq14_15⟩) ?rq14_15
        case yq14_15 => (intro w hSw; (try dsimp only at hSw); go_simp; try with_reducible rfl)
        try simp only [Act.put, List.setIfInBounds_toArray, List.set_cons_zero, List.set_cons_succ]
        refine wpAnyH_done (by kernel_rfl) ?_ _
        have HT := Lib.hid ((hHeld).still2)
        go_wp2_with fail
        go_roundw
        case rel =>
          obtain ⟨hv, hsz1, hsz2⟩ := HV.out
          obtain ⟨i1, i2, i3, i4⟩ := HI.out
          obtain ⟨base, q1, q2, q3⟩ := i4
          refine ⟨j + 1, hjl, by first | rfl | (congr 1; omega) | (congr 1; unfold wrap64; omega), ⟨i1.trans HT.out, i2.touch HT.out (fun h => h), fun _ => (i3 (by rw [← HM.out]; exact hjl)).touch HT.out (fun _ _ h => h), ?_⟩⟩
          have hlt := i2.lt
          have hsz4 := i1.size
          refine ⟨_, ?_, ?_, ⟨?_, hsz2⟩⟩
          · omega
          · omega
          · rw [layRs_take _ _ _ _ HR.out.1, ← List.cons_append, ← HOW.out.2.2.2.1, HR.out.2.2.2.2.1]
            rw [fit_int sz HF.out, bys_length] at hv
            exact hv
        case measure => simp [intOf]; (try unfold wrap64); omega
end Go.Proofs.Ythlkmofemnepbaa

namespace Go.Proofs.Ythlkmofemnepbaa
open Go.RowKit

theorem RfIs.touch2 {w w' : World} {rb base : Nat} {zs : List Int} {bad : Bool} (h : RfIs w rb base zs bad) {S : Nat → Prop} (ht : Touch S w w') (hS : ∀ k, k ≤ rb → ¬ S k) : RfIs w' rb base zs bad := by
  obtain ⟨a, cap, h⟩ := h
  exact ⟨a, cap, h.rd.touch ht (hS rb (Nat.le_refl _)), h.cells.touch ht (fun x hx _ => hS _ (Nat.le_of_lt (h.low x hx))), h.nil, h.le, h.cap,
    fun x hx => ⟨(h.apart x hx).1, (h.apart x hx).2.1, Nat.lt_of_lt_of_le (h.apart x hx).2.2 ht.size⟩, h.low⟩

/-- Since the world u only the reader's block and newer ones may have turned. -/
def TR (rb : Nat) (u w : World) : Prop := Touch (fun k => k = rb ∨ u.heap.size ≤ k) u w
theorem TR.refl (rb : Nat) (u : World) : TR rb u u := Touch.refl _ _
theorem TR.drew {rb : Nat} {u w : World} (h : TR rb u w) : TR rb u w.drew := Touch.drew h
theorem TR.next {rb : Nat} {u w w' : World} {C : Nat → Prop} (h : TR rb u w) (t : Touch C w w') (hC : ∀ i, C i → i = rb ∨ u.heap.size ≤ i) : TR rb u w' := Touch.then h t (fun i _ hi => hC i hi)
theorem TR.still {rb : Nat} {u w w' : World} (h : TR rb u w) (t : Touch (fun _ => False) w w') : TR rb u w' := h.next t (fun _ h => h.elim)
theorem TR.still2 {rb : Nat} {u w : World} (h : TR rb u w) : Touch (fun k => k = rb) u w := ⟨h.os, h.tape, h.output, Touch.size h, fun k hk hn => h.block k hk (by omega)⟩
theorem Touch.trans2 {S : Nat → Prop} {a b c : World} (h : Touch S a b) (t : Touch S b c) : Touch S a c := Touch.then h t (fun _ _ h => h)

theorem fit_cast (sz : Int) (h : sz = 1 ∨ sz = 4) : ((fitN sz : Nat) : Int) = sz := by
  rcases h with rfl | rfl <;> rfl

/-! ### a byte of a packet's secret, of its tag -/
theorem bn_set (s : List Nat) (i y : Nat) : (bn s).set i (.int .u8 (y : Int)) = bn (s.set i y) := by simp [bn, bys, natsD, List.map_set]
theorem Blk.setSecAt {w : World} {b : Nat} {T : TypeId} {n : List Int} {s t : List Nat} (h : Blk w b T (pkV ⟨n, s, t⟩)) (hn : n.length = 12) (hs : s.length = 16) (i : Nat) (hi : i < 16) (y : Nat) : Blk (w.setCell ⟨b, 12 + i, none⟩ (.int .u8 (y : Int))) b T (pkV ⟨n, s.set i y, t⟩) := by
  have h := h.set (12 + i) (.int .u8 (y : Int))
  have e : (pkV ⟨n, s, t⟩).setIfInBounds (12 + i) (.int .u8 (y : Int)) = pkV ⟨n, s.set i y, t⟩ := by
    unfold pkV Pk.cells
    rw [List.setIfInBounds_toArray, List.set_append_right _ _ (by simp [hn])]
    congr 2
    rw [ints_length, hn, Nat.add_sub_cancel_left, List.set_append_left _ _ (by rw [bn_len, hs]; exact hi), bn_set]
  rw [e] at h
  exact h
theorem Blk.setTagAt {w : World} {b : Nat} {T : TypeId} {n : List Int} {s t : List Nat} (h : Blk w b T (pkV ⟨n, s, t⟩)) (hn : n.length = 12) (hs : s.length = 16) (i : Nat) (y : Nat) : Blk (w.setCell ⟨b, 28 + i, none⟩ (.int .u8 (y : Int))) b T (pkV ⟨n, s, t.set i y⟩) := by
  have h := h.set (28 + i) (.int .u8 (y : Int))
  have e : (pkV ⟨n, s, t⟩).setIfInBounds (28 + i) (.int .u8 (y : Int)) = pkV ⟨n, s, t.set i y⟩ := by
    unfold pkV Pk.cells
    rw [List.setIfInBounds_toArray, List.set_append_right _ _ (by simp [hn]; omega)]
    congr 2
    rw [ints_length, hn, List.set_append_right _ _ (by rw [bn_len, hs]; omega), bn_len, hs, show 28 + i - 12 - 16 = i by omega, bn_set]
  rw [e] at h
  exact h
theorem pad_zero (F : List Nat) (i m : Nat) (hi : i < m) (hl : i ≤ F.length) : (bn (F.take i ++ List.replicate (m - i) 0))[i]? = some (.int .u8 0) := by
  have h := bn_pad F i m hi hl
  rw [List.getElem?_toArray] at h
  exact h
theorem Blk.zeroSec {w : World} {b : Nat} {T : TypeId} {n : List Int} {F t : List Nat} {i : Nat} (h : Blk w b T (pkV ⟨n, F.take i ++ List.replicate (16 - i) 0, t⟩)) (hn : n.length = 12) (hi : i < 16) (hl : i ≤ F.length) : w.cell? ⟨b, 12 + i, none⟩ = some (.int .u8 0) := by
  have h2 := Blk.range (A := ints n) (M := bn (F.take i ++ List.replicate (16 - i) 0)) (B := bn t) h i _ (pad_zero F i 16 hi hl)
  rw [ints_length, hn] at h2
  exact h2
theorem Blk.zeroTag {w : World} {b : Nat} {T : TypeId} {n : List Int} {F s : List Nat} {i : Nat} (h : Blk w b T (pkV ⟨n, s, F.take i ++ List.replicate (8 - i) 0⟩)) (hn : n.length = 12) (hs : s.length = 16) (hi : i < 8) (hl : i ≤ F.length) : w.cell? ⟨b, 28 + i, none⟩ = some (.int .u8 0) := by
  rw [pkV_split_tag] at h
  have h2 := Blk.range (A := ints n ++ bn s) (M := bn (F.take i ++ List.replicate (8 - i) 0)) (B := []) h i _ (pad_zero F i 8 hi hl)
  rw [List.length_append, ints_length, hn, bn_len, hs] at h2
  exact h2

/-- A byte of a row of the call's own. -/
theorem byte_at_row {w : World} {base : Nat} {ao : Option Addr} {nt co : Nat} {TK : List Int} {i : Nat} {z : Int} (ho : w.ownsRow base 5 1 (.slice ao nt co) nt (bys TK)) (hz : TK[i]? = some z) :
    ∃ g, ao = some ⟨g, 0, none⟩ ∧ base ≤ g ∧ ∀ (W : World) (S : Nat → Prop), Touch S w W → ¬ S g → W.cell? ⟨g, i, none⟩ = some (.int .u8 z) := by
  obtain ⟨a, c, e, q1, q2, q3, q4⟩ := owns_form ho
  cases e
  have hs := SlAt.of_owns ho
  have hb : (bys TK)[i]? = some (.int .u8 z) := by unfold bys; rw [List.getElem?_map, hz]; rfl
  cases ao with
  | none =>
    have h0 : bys TK = [] := hs
    rw [h0] at hb
    cases hb
  | some x =>
    obtain ⟨b, o, sp⟩ := x
    obtain ⟨h1, h2, h3⟩ := q4 _ rfl
    simp only at h1 h2 h3
    subst h2 h3
    refine ⟨b, rfl, h1, fun W S hT hS => ?_⟩
    have hw := (hs.touch hT (fun y hy _ => by cases hy; exact hS)) i _ hb
    simpa using hw.2

/-! ### the secret and the tag are read once -/
theorem rdRs_keep (L : List RPart) (st : RdSt) (h : ∀ r ∈ L, ¬ r.what = 11 ∧ ¬ r.what = 12) : (rdRs L st).q.sec = st.q.sec ∧ (rdRs L st).q.tag = st.q.tag := by
  induction L generalizing st with
  | nil => exact ⟨rfl, rfl⟩
  | cons r L ih =>
    have h1 := h r (by simp)
    have h2 := ih (rdR st r) (fun x hx => h x (by simp [hx]))
    have e : (rdR st r).q.sec = st.q.sec ∧ (rdR st r).q.tag = st.q.tag := by
      unfold rdR
      rw [if_neg h1.1, if_neg h1.2]
      exact ⟨rfl, rfl⟩
    exact ⟨h2.1.trans e.1, h2.2.trans e.2⟩
theorem before_last {k : Int} {j : Nat} {r : RPart} (h : (partsN k)[j]? = some r) (hr : r.what = 11 ∨ r.what = 12) : ∀ x ∈ (partsN k).take j, ¬ x.what = 11 ∧ ¬ x.what = 12 := by
  intro x hx
  obtain ⟨i, hi⟩ := List.mem_iff_getElem?.1 hx
  have hij : i < j := by
    have := (List.getElem?_eq_some_iff.1 hi).1
    rw [List.length_take] at this
    omega
  rw [List.getElem?_take, if_pos hij] at hi
  have hl := parts_last h hr
  refine ⟨fun e => ?_, fun e => ?_⟩
  · have := parts_last hi (Or.inl e)
    omega
  · have := parts_last hi (Or.inr e)
    omega

structure RDInv (w : World) (zs : List Int) (rb base n1 n2 : Nat) (a : Option Addr) (j : Nat) (wr : World) : Prop where
  ht : Touch (fun _ => False) w wr
  h2 : Blk wr n2 25 (pkV Pk.zero)
  h1 : Blk wr n1 25 (pkV (rdRs ((partsN (decK zs)).take j) (rd0 zs)).q)
  rd : RfIs wr rb base (rdRs ((partsN (decK zs)).take j) (rd0 zs)).zs (rdRs ((partsN (decK zs)).take j) (rd0 zs)).bad
  hr : PartsRow wr a (partsN (decK zs))
  ap : ∀ x, a = some x → n1 < x.block
  lt : w.heap.size = n2 ∧ n2 < rb ∧ rb < n1

set_option maxRecDepth 100000 in
set_option maxHeartbeats 8000000 in
theorem refDec_any (a0 : Option Addr) (len cap : Nat) (zs : List Int) (w : World) (hl : zs.length = len) (hz : SlAt w a0 (bys zs)) (hc : a0 = none → cap = 0) (hn : len ≤ 90000) (hr : ∀ z ∈ zs, 0 ≤ z ∧ z < 256) :
    Calls Try.prog 24 #[.slice a0 len cap] w fun e w' => e = .returned (.tuple #[.agg (pkV (if DecOk zs then decP zs else Pk.zero)), .int .i64 (if DecOk zs then 0 else 2)]) ∧ Below w.heap.size w w' := by
  have HZ := Lib.hid (And.intro hr (And.intro hl hn))
  have hz1 : SlAt (w.alloc (.cells (pkV Pk.zero) 25)) a0 (bys zs) := hz.alloc _
  go_enter Try.func24, Try.ntmps24
  go_wp2_with fail
  show Calls Try.prog 51 #[.slice a0 len cap] (w.alloc (.cells (pkV Pk.zero) 25)) _
  (with_reducible refine (open_rf a0 len cap zs _ hl hz1 hc hn).mono ?_)
  rintro e w1 ⟨rb, rfl, hrb, hrd, hb1⟩
  obtain ⟨n2, hn2⟩ : ∃ n2, n2 = w.heap.size := ⟨_, rfl⟩
  rw [← hn2]
  obtain ⟨base, hbase⟩ : ∃ b, b = (w.alloc (.cells (pkV Pk.zero) 25)).heap.size := ⟨_, rfl⟩
  have h1 : Touch (fun _ => False) w w1 ∧ Blk w1 n2 25 (pkV Pk.zero) ∧ RfIs w1 rb base zs false ∧ n2 < rb := by
    refine ⟨((Touch.refl _ w).alloc _).trans (Touch.of_below hb1), ?_, by rw [hbase]; exact hrd, ?_⟩
    · rw [hn2]
      exact (Blk.new w (pkV Pk.zero) 25).touch (Touch.of_below (S := fun _ => False) hb1) (fun h => h)
    · have h : (w.alloc (.cells (pkV Pk.zero) 25)).heap.size ≤ rb := hrb
      simp at h
      omega
  have H1 := Lib.hid h1
  have HN2 := Lib.hid hn2
  clear h1 hn2 hbase hrb hrd hb1 hz hz1 hl hc hn hr
  go_wp2_with fail
  (with_reducible refine (num_rf rb base zs false 1 w1 H1.out.2.2.1 (by rw [HZ.out.2.1]; exact HZ.out.2.2) HZ.out.1).mono ?_)
  rintro e w2 ⟨rfl, hrd2, hb2⟩
  obtain ⟨kd, hkd⟩ : ∃ kd, kd = decK zs := ⟨_, rfl⟩
  rw [show numOf (rdTake zs false ((fitN 1 : Nat) : Int)).1 = kd by rw [hkd]; rfl]
  have H2 : Hid (Touch (fun _ => False) w w2 ∧ Blk w2 n2 25 (pkV Pk.zero) ∧ RfIs w2 rb base (rdTake zs false 1).2.1 (rdTake zs false 1).2.2 ∧ n2 < rb ∧ rb < w2.heap.size) := Lib.hid (by
    obtain ⟨q1, q2, q3, q4⟩ := H1.out
    have hz := q1.size
    have hn := HN2.out
    have hlt : rb < w1.heap.size := by obtain ⟨_, _, h⟩ := q3; exact h.rd.lt
    exact ⟨Touch.then q1 hb2 (fun i hi e => by omega), q2.touch hb2 (by omega), hrd2, q4, Nat.lt_of_lt_of_le hlt hb2.size⟩)
  have HK := Lib.hid hkd
  clear hrd2 hb2 hkd
  go_wp2_with ((with_reducible refine at_op (.store 25 (.tmp 5) (.tmp 16)) rfl ?_); refine wpList_store_blk rfl 25 (.tmp 5) (.tmp 16) rfl w2.heap.size 25 _ _ rfl rfl (Blk.new _ _ _) (by kernel_rfl) (by kernel_rfl) (by kernel_rfl) ?_; intro w3 hB3 ht3 hs3; have c3 : w3.cell? ⟨w2.heap.size, 0, none⟩ = some (.int .i64 kd) := hB3.cell 0 rfl; have HB3 := Lib.hid (And.intro hB3 ht3); clear hB3 ht3 hs3)
  (with_reducible refine (refParts_any kd _).mono ?_)
  rintro e w4 ⟨v, rfl, hb4, hsl⟩
  obtain ⟨a, rfl, hrow, hab⟩ := hsl.row
  obtain ⟨n1, hn1⟩ : ∃ n1, n1 = w2.heap.size := ⟨_, rfl⟩
  rw [← hn1]
  obtain ⟨m, hm⟩ : ∃ m, m = (partsN kd).length := ⟨_, rfl⟩
  rw [← hm]
  have HM : Hid (m = (partsN (decK zs)).length) := Lib.hid (by rw [← HK.out]; exact hm)
  have HAP : Hid (w.heap.size = n2 ∧ n2 < rb ∧ rb < n1) := Lib.hid ⟨HN2.out.symm, H2.out.2.2.2.1, by rw [hn1]; exact H2.out.2.2.2.2⟩
  have HI0 : Hid (RDInv w zs rb base n1 n2 a 0 w4) := Lib.hid (by
    obtain ⟨q1, q2, q3, q4, q5⟩ := H2.out
    obtain ⟨B3, t3⟩ := HB3.out
    have hz1 := q1.size
    have t34 : Touch (fun k => k = n1) w2 w4 := Touch.then (S := fun k => k = n1) (((Touch.refl _ w2).alloc _).trans (by rw [hn1]; exact t3)) (Touch.of_below (S := fun _ => False) hb4) (fun _ _ h => h.elim)
    have hlt2 := q2.lt
    refine ⟨Touch.then q1 t34 (fun i hi e => by omega), q2.touch t34 (by omega), ?_, ?_, by rw [← HK.out]; exact hrow, ?_, HAP.out⟩
    · rw [hn1]
      have e : (rdRs ((partsN (decK zs)).take 0) (rd0 zs)).q = pk0 kd := by rw [HK.out]; rfl
      rw [e]
      exact (show Blk w3 w2.heap.size 25 (pkV (pk0 kd)) from B3).touch (Touch.of_below (S := fun _ => False) hb4) (fun h => h)
    · exact q3.touch2 t34 (fun k hk e => by omega)
    · intro x hx
      have h3 := B3.lt
      have h4 := hab x hx
      omega)
  clear hsl hrow hab hm hn1 hb4 c3
  go_wp2_with fail
  go_loopw [7] (fun i wr => ∃ j : Nat, j ≤ m ∧ i = .int .i64 j ∧ RDInv w zs rb base n1 n2 a j wr) (fun i _ => (m - intOf i).toNat)
  case atStart => exact ⟨0, Nat.zero_le _, rfl, HI0.out⟩
  case round =>
    obtain ⟨j, hj, rfl, hI⟩ := hrel
    have HI := Lib.hid hI
    clear hI HI0
    by_cases hq : j = m
    · have HE : Hid (Touch (fun _ => False) w wr ∧ Blk wr n2 25 (pkV Pk.zero) ∧ Blk wr n1 25 (pkV (decP zs)) ∧ RfIs wr rb base (decY zs).2.1 (decY zs).2.2) := Lib.hid (by
        have hf : rdRs ((partsN (decK zs)).take j) (rd0 zs) = ⟨(decY zs).2.1, (decY zs).2.2, decP zs⟩ := by
          rw [List.take_of_length_le (by rw [← HM.out, hq]; exact Nat.le_refl _), rdRs_end]
        have h1 := HI.out.h1
        have h2 := HI.out.rd
        rw [hf] at h1 h2
        exact ⟨HI.out.ht, HI.out.h2, h1, h2⟩)
      subst hq
      clear hj HI
      go_wp2_with fail
      (with_reducible refine (done_rf rb base (decY zs).2.1 (decY zs).2.2 _ HE.out.2.2.2).mono ?_)
      rintro e _ ⟨rfl, rfl⟩
      obtain ⟨q, hq⟩ : ∃ q, (!(decY zs).2.2 && (decY zs).2.1.isEmpty) = q := ⟨_, rfl⟩
      rw [hq]
      have HQ := Lib.hid hq
      clear hq
      cases q
      · have hno : ¬ DecOk zs := fun h => by
          have h1 := HQ.out
          rw [h.1, h.2.1] at h1
          cases h1
        have HNO := Lib.hid hno
        clear hno
        go_wp2_with ((with_reducible refine at_op (.store 25 (.tmp 2) (.tmp 87)) rfl ?_); refine wpList_store_blk rfl 25 (.tmp 2) (.tmp 87) rfl n2 25 (pkV Pk.zero) (pkV Pk.zero) rfl rfl HE.out.2.1 (by kernel_rfl) (by kernel_rfl) (pkV_one _) ?_; intro wz hBz htz hsz; have HF9 := Lib.hid (And.intro hBz htz); clear hBz htz hsz)
        refine bodyPost_ret (results_row_tmp rfl _ _ n2 25 (pkV Pk.zero) _ rfl HF9.out.1 Try.underlying25 rfl (by kernel_rfl)) rfl ⟨by first | rfl | (rw [if_neg HNO.out]; first | rfl | (rw [if_neg HNO.out]; rfl)), ?_⟩
        exact (Touch.then HE.out.1 HF9.out.2 (fun i hi e => by have := HAP.out; omega)).below (Nat.le_refl _) (fun _ _ h => h)
      · go_wp2_with ((with_reducible refine at_op (.load 25 (.tmp 5)) rfl ?_); refine wpList_load_blk_g (by rfl) 25 (.tmp 5) rfl n1 25 (pkV (decP zs)) _ rfl HE.out.2.2.1 Try.underlying25 rfl (by rw [pkV_size (decP_ok zs HZ.out.1)]; first | done | kernel_rfl) ?_)
        (with_reducible refine (refRight_any (decP zs) (decP_ok zs HZ.out.1) _).mono ?_)
        rintro e w9 ⟨rfl, hb9⟩
        have h9 : Touch (fun _ => False) w w9 ∧ Blk w9 n2 25 (pkV Pk.zero) ∧ Blk w9 n1 25 (pkV (decP zs)) := ⟨HE.out.1.trans (Touch.of_below hb9), HE.out.2.1.touch (Touch.of_below (S := fun _ => False) hb9) (fun h => h), HE.out.2.2.1.touch (Touch.of_below (S := fun _ => False) hb9) (fun h => h)⟩
        have H9 := Lib.hid h9
        clear h9 hb9
        by_cases hR : RightN (decP zs)
        · have hy : DecOk zs := by
            have h1 := HQ.out
            simp at h1
            exact ⟨h1.1, h1.2, hR⟩
          rw [decide_eq_true hR]
          have HY := Lib.hid hy
          clear hy hR
          go_wp2_with (first
            | ((with_reducible refine at_op (.load 25 (.tmp 5)) rfl ?_); refine wpList_load_blk rfl 25 (.tmp 5) rfl n1 25 (pkV (decP zs)) _ rfl H9.out.2.2 Try.underlying25 rfl (by rw [pkV_size (decP_ok zs HZ.out.1)]; first | done | kernel_rfl) ?_)
            | ((with_reducible refine at_op (.store 25 (.tmp 2) (.tmp 88)) rfl ?_); refine wpList_store_blk rfl 25 (.tmp 2) (.tmp 88) rfl n2 25 (pkV Pk.zero) (pkV (decP zs)) rfl rfl H9.out.2.1 (by rw [pkV_size (decP_ok zs HZ.out.1)]; first | done | kernel_rfl) (by rw [pkV_size (decP_ok zs HZ.out.1)]; first | done | kernel_rfl) (pkV_one _) ?_; intro wz hBz htz hsz; have HF9 := Lib.hid (And.intro hBz htz); clear hBz htz hsz))
          refine bodyPost_ret (results_row_tmp rfl _ _ n2 25 (pkV (decP zs)) _ rfl HF9.out.1 Try.underlying25 rfl (by rw [pkV_size (decP_ok zs HZ.out.1)]; first | done | kernel_rfl)) rfl ⟨by first | rfl | (rw [if_pos HY.out]; first | rfl | (rw [if_pos HY.out]; rfl)), ?_⟩
          exact (Touch.then H9.out.1 HF9.out.2 (fun i hi e => by have := HAP.out; omega)).below (Nat.le_refl _) (fun _ _ h => h)
        · have hno : ¬ DecOk zs := fun h => hR h.2.2
          rw [decide_eq_false hR]
          have HNO := Lib.hid hno
          clear hno hR
          go_wp2_with ((with_reducible refine at_op (.store 25 (.tmp 2) (.tmp 87)) rfl ?_); refine wpList_store_blk rfl 25 (.tmp 2) (.tmp 87) rfl n2 25 (pkV Pk.zero) (pkV Pk.zero) rfl rfl H9.out.2.1 (by kernel_rfl) (by kernel_rfl) (pkV_one _) ?_; intro wz hBz htz hsz; have HF9 := Lib.hid (And.intro hBz htz); clear hBz htz hsz)
          refine bodyPost_ret (results_row_tmp rfl _ _ n2 25 (pkV Pk.zero) _ rfl HF9.out.1 Try.underlying25 rfl (by kernel_rfl)) rfl ⟨by first | rfl | (rw [if_neg HNO.out]; first | rfl | (rw [if_neg HNO.out]; rfl)), ?_⟩
          exact (Touch.then H9.out.1 HF9.out.2 (fun i hi e => by have := HAP.out; omega)).below (Nat.le_refl _) (fun _ _ h => h)
    · have hjl : j < m := by omega
      have hj1 : (j : Int) < m := by omega
      have hj0 : (0 : Int) ≤ j := by omega
      have hm8 : m ≤ 8 := by rw [HM.out]; exact parts_len _
      obtain ⟨r, hr⟩ : ∃ r, (partsN (decK zs))[j]? = some r := ⟨_, List.getElem?_eq_getElem (by rw [← HM.out]; exact hjl)⟩
      obtain ⟨sb, rfl, hsb, g0, g1, g2, g3⟩ := HI.out.hr.at hr
      obtain ⟨st, hst⟩ : ∃ st, st = rdRs ((partsN (decK zs)).take j) (rd0 zs) := ⟨_, rfl⟩
      have HSO : Hid (st.q.Ok ∧ (∀ z ∈ st.zs, 0 ≤ z ∧ z < 256) ∧ st.zs.length ≤ 90000) := Lib.hid (by
        have h := rdRs_ok ((partsN (decK zs)).take j) (rd0 zs) (pk0_ok _) (rdTake_mem zs false 1 HZ.out.1).2
        have h2 : (rd0 zs).zs.length ≤ zs.length := (rdTake_le zs false 1).2
        have h3 := HZ.out.2
        rw [← hst] at h
        exact ⟨h.1, h.2.1, by omega⟩)
      have HST := Lib.hid hst
      clear hq
      rcases part_kinds hr with rfl | rfl | ⟨hi1, hi2, hwh, e11, e12, hsz, n11, n12⟩
      · have HR := Lib.hid (And.intro hr (parts_last hr (Or.inl rfl)))
        have HSQ : Hid (st.q = ⟨st.q.n, List.replicate 16 0, List.replicate 8 0⟩) := Lib.hid (by
          have h := rdRs_keep _ (rd0 zs) (before_last hr (Or.inl rfl))
          rw [← hst] at h
          exact Pk.ext rfl h.1 h.2)
        clear hr hst
        have f0 : wr.cell? ⟨sb, j * 4, none⟩ = some (.int .i64 11) := g0
        clear g0 g1 g2 g3 hsb
        go_wp2_with fail
        (with_reducible refine (take_rf rb base st.zs st.bad 16 _ (by rw [HST.out]; exact HI.out.rd) HSO.out.2.2).mono ?_)
        rintro e w2 ⟨v, rfl, ho, hrd2, hb2⟩
        obtain ⟨TK, hTK⟩ : ∃ TK, TK = (rdTake st.zs st.bad 16).1 := ⟨_, rfl⟩
        rw [← hTK] at ho
        have hTR : ∀ z ∈ TK, 0 ≤ z ∧ z < 256 := by rw [hTK]; exact (rdTake_mem st.zs st.bad 16 HSO.out.2.1).1
        have hTL : TK.length ≤ 16 := by rw [hTK]; exact (rdTake_le st.zs st.bad 16).1
        obtain ⟨ao, co, rfl, q1, q2, q3, q4⟩ := owns_form ho
        obtain ⟨nt, hnt⟩ : ∃ nt, nt = TK.length := ⟨_, rfl⟩
        rw [← hnt]
        have HTK : Hid (TK = (rdTake st.zs st.bad 16).1 ∧ (∀ z ∈ TK, 0 ≤ z ∧ z < 256) ∧ nt = TK.length ∧ SlAt w2 ao (bys TK) ∧ w2.ownsRow wr.heap.size 5 1 (.slice ao nt co) nt (bys TK)) := Lib.hid ⟨hTK, hTR, hnt, SlAt.of_owns ho, by rw [hnt]; exact ho⟩
        have hntN : nt ≤ 16 := by rw [hnt]; exact hTL
        have hntc : nt ≤ co := by omega
        have hcm : co ≤ maxLen := by omega
        have H2 : Hid (RfIs w2 rb base (rdTake st.zs st.bad 16).2.1 (rdTake st.zs st.bad 16).2.2 ∧ Touch (fun k => k = rb) wr w2 ∧ Blk w2 n1 25 (pkV ⟨st.q.n, List.replicate 16 0, List.replicate 8 0⟩)) := Lib.hid (by
          refine ⟨hrd2, hb2, ?_⟩
          have h := HI.out.h1.touch hb2 (by have := HI.out.lt; omega)
          rw [← HST.out, HSQ.out] at h
          exact h)
        clear hTK hTR hTL hnt ho hrd2 hb2 q1 q2 q3 q4
        go_wp2_with fail
        go_loopw [9] (fun c W => ∃ i : Nat, i ≤ nt ∧ c = .int .i64 i ∧ Blk W n1 25 (pkV (⟨st.q.n, (nats TK).take i ++ List.replicate (16 - i) 0, List.replicate 8 0⟩ : Pk)) ∧ Touch (fun k => k = n1) w2 W) (fun c _ => (nt - intOf c).toNat)
        case atStart => exact ⟨0, Nat.zero_le _, rfl, H2.out.2.2, Touch.refl _ _⟩
        case round =>
          obtain ⟨i, hi, rfl, hB, hT⟩ := hrel
          by_cases hq : i = nt
          · have HE := Lib.hid (And.intro hB hT)
            have HQ := Lib.hid hq
            subst hq
            clear hi hB hT
            go_wp2_with fail
            go_roundw
            case rel =>
              obtain ⟨i1, i2, i3, i4, i5, i6, i7⟩ := HI.out
              have hz := i1.size
              have tA := Touch.then (S := fun k => k = rb ∨ k = n1) (H2.out.2.1.mono (fun _ _ h => Or.inl h)) HE.out.2 (fun _ _ h => Or.inr h)
              have e9 : rdR st rpSec = ⟨(rdTake st.zs st.bad 16).2.1, (rdTake st.zs st.bad 16).2.2, ⟨st.q.n, padN (rdTake st.zs st.bad 16).1 16, List.replicate 8 0⟩⟩ := by
                unfold rdR
                rw [if_pos (show rpSec.what = 11 from rfl)]
                rw [HSQ.out]
              refine ⟨j + 1, hjl, by first | rfl | (congr 1; omega) | (congr 1; unfold wrap64; omega), ⟨Touch.then i1 tA (fun q hq e => by omega), i2.touch tA (by omega), ?_, ?_, i5.touch tA (fun x hx e => by have := i6 x hx; omega), i6, i7⟩⟩
              · rw [rdRs_take _ _ _ _ HR.out.1, ← HST.out, e9]
                have h := HE.out.1
                rw [List.take_of_length_le (by rw [nats_len]; exact Nat.le_of_eq HTK.out.2.2.1.symm)] at h
                rw [← HTK.out.1]
                unfold padN
                rw [← HTK.out.2.2.1]
                exact h
              · rw [rdRs_take _ _ _ _ HR.out.1, ← HST.out, e9]
                exact H2.out.1.touch2 HE.out.2 (fun k hk e => by omega)
            case measure => simp [intOf]; (try unfold wrap64); omega
          · have hil : i < nt := by omega
            have hiI : (i : Int) < nt := by omega
            have hi0 : (0 : Int) ≤ i := by omega
            have hiN : i < 16 := by omega
            have hiN2 : (i : Int) < 16 := by omega
            obtain ⟨z, hz⟩ : ∃ z, TK[i]? = some z := ⟨_, List.getElem?_eq_getElem (by have := HTK.out.2.2.1; omega)⟩
            obtain ⟨b, rfl, hbn, hcell⟩ := byte_at_row HTK.out.2.2.2.2 hz
            have cs : wr.cell? ⟨b, i, none⟩ = some (.int .u8 z) := hcell wr _ hT (by have := HI.out.h1.lt; omega)
            have ct : wr.cell? ⟨n1, 12 + i, none⟩ = some (.int .u8 0) := hB.zeroSec HSO.out.1.hn hiN (by rw [nats_len]; have := HTK.out.2.2.1; omega)
            have fi := hB.frozen (12 + i)
            have HK4 := Lib.hid (And.intro hB (And.intro hT hz))
            clear hB hT hz hcell hbn hq hi
            go_wp2_with fail
            go_roundw
            case rel =>
              obtain ⟨hB, hT, hz⟩ := HK4.out
              have hzr := HTK.out.2.1 z (List.mem_of_getElem? hz)
              refine ⟨i + 1, by omega, by first | rfl | (congr 1; omega) | (congr 1; unfold wrap64; omega), ?_, hT.trans2 (Touch.setCell (S := fun k => k = n1) (Touch.refl _ _) (p := ⟨n1, 12 + i, none⟩) (fun _ => rfl) _)⟩
              have h := hB.setSecAt HSO.out.1.hn (by rw [List.length_append, List.length_take, List.length_replicate, nats_len]; have := HTK.out.2.2.1; omega) i hiN z.toNat
              have e : ((z.toNat : Nat) : Int) = z := by omega
              rw [e, take_set (nats TK) i 16 z.toNat hiN (by unfold nats; rw [List.getElem?_map, hz]; rfl)] at h
              exact h
            case measure => simp [intOf]; (try unfold wrap64); omega
      · have HR := Lib.hid (And.intro hr (parts_last hr (Or.inr rfl)))
        have HSQ : Hid (st.q = ⟨st.q.n, List.replicate 16 0, List.replicate 8 0⟩) := Lib.hid (by
          have h := rdRs_keep _ (rd0 zs) (before_last hr (Or.inr rfl))
          rw [← hst] at h
          exact Pk.ext rfl h.1 h.2)
        clear hr hst
        have f0 : wr.cell? ⟨sb, j * 4, none⟩ = some (.int .i64 12) := g0
        clear g0 g1 g2 g3 hsb
        go_wp2_with fail
        (with_reducible refine (take_rf rb base st.zs st.bad 8 _ (by rw [HST.out]; exact HI.out.rd) HSO.out.2.2).mono ?_)
        rintro e w2 ⟨v, rfl, ho, hrd2, hb2⟩
        obtain ⟨TK, hTK⟩ : ∃ TK, TK = (rdTake st.zs st.bad 8).1 := ⟨_, rfl⟩
        rw [← hTK] at ho
        have hTR : ∀ z ∈ TK, 0 ≤ z ∧ z < 256 := by rw [hTK]; exact (rdTake_mem st.zs st.bad 8 HSO.out.2.1).1
        have hTL : TK.length ≤ 8 := by rw [hTK]; exact (rdTake_le st.zs st.bad 8).1
        obtain ⟨ao, co, rfl, q1, q2, q3, q4⟩ := owns_form ho
        obtain ⟨nt, hnt⟩ : ∃ nt, nt = TK.length := ⟨_, rfl⟩
        rw [← hnt]
        have HTK : Hid (TK = (rdTake st.zs st.bad 8).1 ∧ (∀ z ∈ TK, 0 ≤ z ∧ z < 256) ∧ nt = TK.length ∧ SlAt w2 ao (bys TK) ∧ w2.ownsRow wr.heap.size 5 1 (.slice ao nt co) nt (bys TK)) := Lib.hid ⟨hTK, hTR, hnt, SlAt.of_owns ho, by rw [hnt]; exact ho⟩
        have hntN : nt ≤ 8 := by rw [hnt]; exact hTL
        have hntc : nt ≤ co := by omega
        have hcm : co ≤ maxLen := by omega
        have H2 : Hid (RfIs w2 rb base (rdTake st.zs st.bad 8).2.1 (rdTake st.zs st.bad 8).2.2 ∧ Touch (fun k => k = rb) wr w2 ∧ Blk w2 n1 25 (pkV ⟨st.q.n, List.replicate 16 0, List.replicate 8 0⟩)) := Lib.hid (by
          refine ⟨hrd2, hb2, ?_⟩
          have h := HI.out.h1.touch hb2 (by have := HI.out.lt; omega)
          rw [← HST.out, HSQ.out] at h
          exact h)
        clear hTK hTR hTL hnt ho hrd2 hb2 q1 q2 q3 q4
        go_wp2_with fail
        go_loopw [11] (fun c W => ∃ i : Nat, i ≤ nt ∧ c = .int .i64 i ∧ Blk W n1 25 (pkV (⟨st.q.n, List.replicate 16 0, (nats TK).take i ++ List.replicate (8 - i) 0⟩ : Pk)) ∧ Touch (fun k => k = n1) w2 W) (fun c _ => (nt - intOf c).toNat)
        case atStart => exact ⟨0, Nat.zero_le _, rfl, H2.out.2.2, Touch.refl _ _⟩
        case round =>
          obtain ⟨i, hi, rfl, hB, hT⟩ := hrel
          by_cases hq : i = nt
          · have HE := Lib.hid (And.intro hB hT)
            have HQ := Lib.hid hq
            subst hq
            clear hi hB hT
            go_wp2_with fail
            go_roundw
            case rel =>
              obtain ⟨i1, i2, i3, i4, i5, i6, i7⟩ := HI.out
              have hz := i1.size
              have tA := Touch.then (S := fun k => k = rb ∨ k = n1) (H2.out.2.1.mono (fun _ _ h => Or.inl h)) HE.out.2 (fun _ _ h => Or.inr h)
              have e9 : rdR st rpTag = ⟨(rdTake st.zs st.bad 8).2.1, (rdTake st.zs st.bad 8).2.2, ⟨st.q.n, List.replicate 16 0, padN (rdTake st.zs st.bad 8).1 8⟩⟩ := by
                unfold rdR
                rw [if_neg (by decide), if_pos (show rpTag.what = 12 from rfl)]
                rw [HSQ.out]
              refine ⟨j + 1, hjl, by first | rfl | (congr 1; omega) | (congr 1; unfold wrap64; omega), ⟨Touch.then i1 tA (fun q hq e => by omega), i2.touch tA (by omega), ?_, ?_, i5.touch tA (fun x hx e => by have := i6 x hx; omega), i6, i7⟩⟩
              · rw [rdRs_take _ _ _ _ HR.out.1, ← HST.out, e9]
                have h := HE.out.1
                rw [List.take_of_length_le (by rw [nats_len]; exact Nat.le_of_eq HTK.out.2.2.1.symm)] at h
                rw [← HTK.out.1]
                unfold padN
                rw [← HTK.out.2.2.1]
                exact h
              · rw [rdRs_take _ _ _ _ HR.out.1, ← HST.out, e9]
                exact H2.out.1.touch2 HE.out.2 (fun k hk e => by omega)
            case measure => simp [intOf]; (try unfold wrap64); omega
          · have hil : i < nt := by omega
            have hiI : (i : Int) < nt := by omega
            have hi0 : (0 : Int) ≤ i := by omega
            have hiN : i < 8 := by omega
            have hiN2 : (i : Int) < 8 := by omega
            obtain ⟨z, hz⟩ : ∃ z, TK[i]? = some z := ⟨_, List.getElem?_eq_getElem (by have := HTK.out.2.2.1; omega)⟩
            obtain ⟨b, rfl, hbn, hcell⟩ := byte_at_row HTK.out.2.2.2.2 hz
            have cs : wr.cell? ⟨b, i, none⟩ = some (.int .u8 z) := hcell wr _ hT (by have := HI.out.h1.lt; omega)
            have ct : wr.cell? ⟨n1, 28 + i, none⟩ = some (.int .u8 0) := hB.zeroTag HSO.out.1.hn rfl hiN (by rw [nats_len]; have := HTK.out.2.2.1; omega)
            have fi := hB.frozen (28 + i)
            have HK4 := Lib.hid (And.intro hB (And.intro hT hz))
            clear hB hT hz hcell hbn hq hi
            go_wp2_with fail
            go_roundw
            case rel =>
              obtain ⟨hB, hT, hz⟩ := HK4.out
              have hzr := HTK.out.2.1 z (List.mem_of_getElem? hz)
              refine ⟨i + 1, by omega, by first | rfl | (congr 1; omega) | (congr 1; unfold wrap64; omega), ?_, hT.trans2 (Touch.setCell (S := fun k => k = n1) (Touch.refl _ _) (p := ⟨n1, 28 + i, none⟩) (fun _ => rfl) _)⟩
              have h := hB.setTagAt HSO.out.1.hn rfl i z.toNat
              have e : ((z.toNat : Nat) : Int) = z := by omega
              rw [e, take_set (nats TK) i 8 z.toNat hiN (by unfold nats; rw [List.getElem?_map, hz]; rfl)] at h
              exact h
            case measure => simp [intOf]; (try unfold wrap64); omega
      · obtain ⟨wh, sz, lo, hi⟩ := r
        obtain ⟨i, hic⟩ : ∃ i, (⟨wh, sz, lo, hi⟩ : RPart).cell = i := ⟨_, rfl⟩
        rw [hic] at hi1 hi2 hwh
        simp only at g0 g1 g2 g3 e11 e12 n11 n12 hwh hsz
        have HR := Lib.hid (And.intro hr hwh)
        obtain ⟨y, hy⟩ : ∃ y, numOf (rdTake st.zs st.bad ((fitN sz : Nat) : Int)).1 = y := ⟨_, rfl⟩
        have hrd : rdR st ⟨wh, sz, lo, hi⟩ = ⟨(rdTake st.zs st.bad ((fitN sz : Nat) : Int)).2.1, (rdTake st.zs st.bad ((fitN sz : Nat) : Int)).2.2, { st.q with n := st.q.n.set i y }⟩ := by
          rw [← hy, fit_cast sz hsz]
          unfold rdR
          rw [hic, if_neg n11, if_neg n12]
        have HRD := Lib.hid (And.intro hy hrd)
        have hC : ∀ W, TR rb wr W → Blk W n1 25 (pkV st.q) ∧ W.cell? ⟨sb, j * 4, none⟩ = some (.int .i64 wh) ∧ W.cell? ⟨sb, j * 4 + 1, none⟩ = some (.int .i64 sz) := by
          intro W hW
          have hl := HI.out.lt
          have hap := HI.out.ap _ rfl
          have hk := HI.out.hr.touch hW.still2 (fun x hx e => by cases hx; simp only at hap e; omega)
          obtain ⟨sb2, e, -, k0, k1, k2, k3⟩ := hk.at hr
          cases e
          refine ⟨?_, k0, k1⟩
          rw [hst]
          exact HI.out.h1.touch hW.still2 (by omega)
        have HC := Lib.hid hC
        clear hC hr hic hwh hy hrd n11 n12 hsz hsb hst
        go_wp2_with fail
        clear g0 g1 g2 g3
        refine wp_region_held_drew (S := fun _ => True) (by kernel_rfl) trivial (fun _ => ?_)
        refine anyH_world (R := fun w' : World => TG wr w' ∧ TR rb wr w') (And.intro (TG.refl wr).drew ((TR.refl rb wr).drew)) ?_
        intro W0q hHeld
        refine region_take 1 (v := ?vq1_1) rfl rfl (by kernel_rfl) (by kernel_rfl) (by kernel_rfl) (fun _ _ _ h => h) trivial (Or.inl ⟨by rfl, ?yq1_1⟩) ?rq1_1
        case yq1_1 => (intro w hSw; (try dsimp only at hSw); go_simp; try with_reducible rfl)
        try simp only [Act.put, List.setIfInBounds_toArray, List.set_cons_zero, List.set_cons_succ]
        refine region_take 2 (v := ?vq2_2) rfl rfl (by kernel_rfl) (by kernel_rfl) (by kernel_rfl) (fun _ _ _ h => h) trivial (Or.inl ⟨by rfl, ?yq2_2⟩) ?rq2_2
        case yq2_2 => (intro w hSw; (try dsimp only at hSw); go_simp; try with_reducible rfl)
        try simp only [Act.put, List.setIfInBounds_toArray, List.set_cons_zero, List.set_cons_succ]
        refine region_take 3 (v := ?vq3_3) rfl rfl (by kernel_rfl) (by kernel_rfl) (by kernel_rfl) (fun _ _ _ h => h) trivial (Or.inl ⟨by rfl, ?yq3_3⟩) ?rq3_3
        case yq3_3 => (intro w hSw; (try dsimp only at hSw); go_simp; try with_reducible rfl)
        try simp only [Act.put, List.setIfInBounds_toArray, List.set_cons_zero, List.set_cons_succ]
        refine region_take 4 (v := ?vq4_4) rfl rfl (by kernel_rfl) (by kernel_rfl) (by kernel_rfl) (fun _ _ _ h => h) trivial (Or.inl ⟨by rfl, ?yq4_4⟩) ?rq4_4
        case yq4_4 => (intro w hSw; (try dsimp only at hSw); go_simp; try with_reducible rfl)
        try simp only [Act.put, List.setIfInBounds_toArray, List.set_cons_zero, List.set_cons_succ]
        refine region_take 6 (v := ?vq6_5) rfl rfl (by kernel_rfl) (by kernel_rfl) (by kernel_rfl) (fun _ _ _ h => h) trivial (Or.inl ⟨by rfl, ?yq6_5⟩) ?rq6_5
        case yq6_5 => (intro w hSw; (try dsimp only at hSw); go_simp; try with_reducible rfl)
        try simp only [Act.put, List.setIfInBounds_toArray, List.set_cons_zero, List.set_cons_succ]
        refine region_take 7 (v := ?vq7_6) rfl rfl (by kernel_rfl) (by kernel_rfl) (by kernel_rfl) (fun _ _ _ h => h) trivial (Or.inl ⟨by rfl, ?yq7_6⟩) ?rq7_6
        case yq7_6 => (intro w hSw; (try dsimp only at hSw); go_simp; try with_reducible rfl)
        try simp only [Act.put, List.setIfInBounds_toArray, List.set_cons_zero, List.set_cons_succ]
        refine region_take 8 (v := ?vq8_7) rfl rfl (by kernel_rfl) (by kernel_rfl) (by kernel_rfl) (fun _ _ _ h => h) trivial (Or.inl ⟨by rfl, ?yq8_7⟩) ?rq8_7
        case yq8_7 => (intro w hSw; (try dsimp only at hSw); go_simp; try with_reducible rfl)
        try simp only [Act.put, List.setIfInBounds_toArray, List.set_cons_zero, List.set_cons_succ]
        refine region_take 9 (v := ?vq9_8) rfl rfl (by kernel_rfl) (by kernel_rfl) (by kernel_rfl) (fun _ _ _ h => h) trivial (Or.inl ⟨by rfl, ?yq9_8⟩) ?rq9_8
        case yq9_8 => (intro w hSw; (try dsimp only at hSw); go_simp; try with_reducible rfl)
        try simp only [Act.put, List.setIfInBounds_toArray, List.set_cons_zero, List.set_cons_succ]
        refine region_take 10 (v := ?vq10_9) rfl rfl (by kernel_rfl) (by kernel_rfl) (by kernel_rfl) (fun _ _ _ h => h) trivial (Or.inl ⟨by rfl, ?yq10_9⟩) ?rq10_9
        case yq10_9 => (intro w hSw; (try dsimp only at hSw); go_simp; try with_reducible rfl)
        try simp only [Act.put, List.setIfInBounds_toArray, List.set_cons_zero, List.set_cons_succ]
        refine region_three 0 5 11 (by kernel_rfl) rfl rfl rfl (fun K hK => ?_) (fun K hK => ?_) (fun K hK => ?_)
        · refine step_load_blk rfl 25 (.tmp 5) rfl n1 25 (pkV st.q) _ rfl (HC.out _ (hHeld.2)).1 Try.underlying25 rfl (by rw [pkV_size HSO.out.1]; first | done | kernel_rfl) ?_
          refine K_world (fun w' : World => Touch (fun _ => False) W0q w') (Touch.refl _ _) ?_
          intro uq_10 hx
          have ht := hx
          have hHeld2 := (And.intro (((hHeld.1)).still ht) ((((hHeld.2)).still ht)))
          clear hHeld ht
          have hHeld := hHeld2
          clear hHeld2
          refine hK.out _ _ trivial (fun _ => ?_)
          clear hK K
          try simp only [Act.put, List.setIfInBounds_toArray, List.set_cons_zero, List.set_cons_succ]
          refine region_two 5 11 (by kernel_rfl) rfl rfl (fun K hK => ?_) (fun K hK => ?_)
          · have d := (HC.out _ (hHeld.2)).2.1
            go_simp
            refine K_world (fun w' : World => Touch (fun _ => False) uq_10 w') (Touch.refl _ _) ?_
            intro uq_11 hx
            have ht := hx
            have hHeld2 := (And.intro (((hHeld.1)).still ht) ((((hHeld.2)).still ht)))
            clear hHeld ht
            have hHeld := hHeld2
            clear hHeld2
            refine hK.out _ _ trivial (fun _ => ?_)
            clear hK K
            try simp only [Act.put, List.setIfInBounds_toArray, List.set_cons_zero, List.set_cons_succ]
            refine region_one 11 (by kernel_rfl) rfl (fun K hK => ?_)
            have d := (HC.out _ (hHeld.2)).2.2
            go_simp
            refine K_world (fun w' : World => Touch (fun _ => False) uq_11 w') (Touch.refl _ _) ?_
            intro uq_12 hx
            have ht := hx
            have hHeld2 := (And.intro (((hHeld.1)).still ht) ((((hHeld.2)).still ht)))
            clear hHeld ht
            have hHeld := hHeld2
            clear hHeld2
            refine hK.out _ _ trivial (fun _ => ?_)
            clear hK K
            try simp only [Act.put, List.setIfInBounds_toArray, List.set_cons_zero, List.set_cons_succ]
            refine region_one 12 (by kernel_rfl) rfl (fun K hK => ?_)
            go_simp
            go_at_call 52
            (with_reducible refine (num_rf rb base st.zs st.bad sz _ (HI.out.rd.touch2 ((hHeld.1)).still2 (fun _ _ h => h) |> fun h => by rw [HST.out]; exact h) HSO.out.2.2 HSO.out.2.1).mono ?_)
            rintro e uq_13 ⟨rfl, hrd8, hb8⟩
            rw [HRD.out.1]
            have HN := Lib.hid hrd8
            clear hrd8
            have ht := hb8
            have hHeld2 := (And.intro (((hHeld.2)).next ht (fun i hi => Or.inl hi)) ((TG.refl uq_13)))
            clear hHeld ht
            have hHeld := hHeld2
            clear hHeld2
            refine hK.out _ _ trivial (fun _ => ?_)
            clear hK K
            try simp only [Act.put, List.setIfInBounds_toArray, List.set_cons_zero, List.set_cons_succ]
            refine region_one 13 (by kernel_rfl) rfl (fun K hK => ?_)
            go_simp
            go_at_call 54
            (with_reducible refine (refWith_at st.q HSO.out.1 i hi1 hi2 wh HR.out.2 y _).mono ?_)
            rintro e uq_14 ⟨rfl, hb8⟩
            have ht := Touch.of_below (S := fun _ => False) hb8
            have hHeld2 := (And.intro (((hHeld.1)).still ht) ((((hHeld.2)).still ht)))
            clear hHeld ht
            have hHeld := hHeld2
            clear hHeld2
            refine hK.out _ _ trivial (fun _ => ?_)
            clear hK K
            try simp only [Act.put, List.setIfInBounds_toArray, List.set_cons_zero, List.set_cons_succ]
            refine region_one 14 (by kernel_rfl) rfl (fun K hK => ?_)
            have HBF := Lib.hid (And.intro ((hHeld.1)) ((hHeld.2)))
            refine step_store_blk rfl 25 (.tmp 5) (.tmp 44) rfl n1 25 (pkV st.q) (pkV { st.q with n := st.q.n.set i y }) rfl rfl (HC.out _ (hHeld.1)).1 (by rw [pkV_size (HSO.out.1.setN i y)]; first | done | kernel_rfl) (by rw [pkV_size HSO.out.1, pkV_size (HSO.out.1.setN i y)]) (pkV_one _) ?_
            intro uq_15 hB9 ht9 hs9
            have H9 := Lib.hid (And.intro hB9 ht9)
            clear hB9 hs9
            have ht := ht9
            clear hHeld ht
            refine hK.out _ _ trivial (fun _ => ?_)
            clear hK K
            try simp only [Act.put]
            refine wpAnyH_done (by kernel_rfl) ?_ _
            go_wp2_with fail
            go_roundw
            case rel =>
              obtain ⟨i1, i2, i3, i4, i5, i6, i7⟩ := HI.out
              obtain ⟨b9, t9⟩ := H9.out
              have hz := i1.size
              have tA := Touch.then (S := fun k => k = rb ∨ k = n1) ((HBF.out.1.still2).mono (fun _ _ h => Or.inl h)) t9 (fun _ _ h => Or.inr h)
              refine ⟨j + 1, hjl, by first | rfl | (congr 1; omega) | (congr 1; unfold wrap64; omega), ⟨Touch.then i1 tA (fun q hq e => by omega), i2.touch tA (by omega), ?_, ?_, i5.touch tA (fun x hx e => by have := i6 x hx; omega), i6, i7⟩⟩
              · rw [rdRs_take _ _ _ _ HR.out.1, ← HST.out, HRD.out.2]
                exact b9
              · rw [rdRs_take _ _ _ _ HR.out.1, ← HST.out, HRD.out.2]
                exact (HN.out.touch2 HBF.out.2.still2 (fun _ _ h => h)).touch2 t9 (fun k hk e => by omega)
            case measure => simp [intOf]; (try unfold wrap64); omega
          · have d := (HC.out _ (hHeld.2)).2.2
            go_simp
            refine K_world (fun w' : World => Touch (fun _ => False) uq_10 w') (Touch.refl _ _) ?_
            intro uq_16 hx
            have ht := hx
            have hHeld2 := (And.intro (((hHeld.1)).still ht) ((((hHeld.2)).still ht)))
            clear hHeld ht
            have hHeld := hHeld2
            clear hHeld2
            refine hK.out _ _ trivial (fun _ => ?_)
            clear hK K
            try simp only [Act.put, List.setIfInBounds_toArray, List.set_cons_zero, List.set_cons_succ]
            refine region_two 5 12 (by kernel_rfl) rfl rfl (fun K hK => ?_) (fun K hK => ?_)
            · have d := (HC.out _ (hHeld.2)).2.1
              go_simp
              refine K_world (fun w' : World => Touch (fun _ => False) uq_16 w') (Touch.refl _ _) ?_
              intro uq_17 hx
              have ht := hx
              have hHeld2 := (And.intro (((hHeld.1)).still ht) ((((hHeld.2)).still ht)))
              clear hHeld ht
              have hHeld := hHeld2
              clear hHeld2
              refine hK.out _ _ trivial (fun _ => ?_)
              clear hK K
              try simp only [Act.put, List.setIfInBounds_toArray, List.set_cons_zero, List.set_cons_succ]
              refine region_one 12 (by kernel_rfl) rfl (fun K hK => ?_)
              go_simp
              go_at_call 52
              (with_reducible refine (num_rf rb base st.zs st.bad sz _ (HI.out.rd.touch2 ((hHeld.1)).still2 (fun _ _ h => h) |> fun h => by rw [HST.out]; exact h) HSO.out.2.2 HSO.out.2.1).mono ?_)
              rintro e uq_18 ⟨rfl, hrd8, hb8⟩
              rw [HRD.out.1]
              have HN := Lib.hid hrd8
              clear hrd8
              have ht := hb8
              have hHeld2 := (And.intro (((hHeld.2)).next ht (fun i hi => Or.inl hi)) ((TG.refl uq_18)))
              clear hHeld ht
              have hHeld := hHeld2
              clear hHeld2
              refine hK.out _ _ trivial (fun _ => ?_)
              clear hK K
              try simp only [Act.put, List.setIfInBounds_toArray, List.set_cons_zero, List.set_cons_succ]
              refine region_one 13 (by kernel_rfl) rfl (fun K hK => ?_)
              go_simp
              go_at_call 54
              (with_reducible refine (refWith_at st.q HSO.out.1 i hi1 hi2 wh HR.out.2 y _).mono ?_)
              rintro e uq_19 ⟨rfl, hb8⟩
              have ht := Touch.of_below (S := fun _ => False) hb8
              have hHeld2 := (And.intro (((hHeld.1)).still ht) ((((hHeld.2)).still ht)))
              clear hHeld ht
              have hHeld := hHeld2
              clear hHeld2
              refine hK.out _ _ trivial (fun _ => ?_)
              clear hK K
              try simp only [Act.put, List.setIfInBounds_toArray, List.set_cons_zero, List.set_cons_succ]
              refine region_one 14 (by kernel_rfl) rfl (fun K hK => ?_)
              have HBF := Lib.hid (And.intro ((hHeld.1)) ((hHeld.2)))
              refine step_store_blk rfl 25 (.tmp 5) (.tmp 44) rfl n1 25 (pkV st.q) (pkV { st.q with n := st.q.n.set i y }) rfl rfl (HC.out _ (hHeld.1)).1 (by rw [pkV_size (HSO.out.1.setN i y)]; first | done | kernel_rfl) (by rw [pkV_size HSO.out.1, pkV_size (HSO.out.1.setN i y)]) (pkV_one _) ?_
              intro uq_20 hB9 ht9 hs9
              have H9 := Lib.hid (And.intro hB9 ht9)
              clear hB9 hs9
              have ht := ht9
              clear hHeld ht
              refine hK.out _ _ trivial (fun _ => ?_)
              clear hK K
              try simp only [Act.put]
              refine wpAnyH_done (by kernel_rfl) ?_ _
              go_wp2_with fail
              go_roundw
              case rel =>
                obtain ⟨i1, i2, i3, i4, i5, i6, i7⟩ := HI.out
                obtain ⟨b9, t9⟩ := H9.out
                have hz := i1.size
                have tA := Touch.then (S := fun k => k = rb ∨ k = n1) ((HBF.out.1.still2).mono (fun _ _ h => Or.inl h)) t9 (fun _ _ h => Or.inr h)
                refine ⟨j + 1, hjl, by first | rfl | (congr 1; omega) | (congr 1; unfold wrap64; omega), ⟨Touch.then i1 tA (fun q hq e => by omega), i2.touch tA (by omega), ?_, ?_, i5.touch tA (fun x hx e => by have := i6 x hx; omega), i6, i7⟩⟩
                · rw [rdRs_take _ _ _ _ HR.out.1, ← HST.out, HRD.out.2]
                  exact b9
                · rw [rdRs_take _ _ _ _ HR.out.1, ← HST.out, HRD.out.2]
                  exact (HN.out.touch2 HBF.out.2.still2 (fun _ _ h => h)).touch2 t9 (fun k hk e => by omega)
              case measure => simp [intOf]; (try unfold wrap64); omega
            · go_simp
              go_at_call 52
              (with_reducible refine (num_rf rb base st.zs st.bad sz _ (HI.out.rd.touch2 ((hHeld.1)).still2 (fun _ _ h => h) |> fun h => by rw [HST.out]; exact h) HSO.out.2.2 HSO.out.2.1).mono ?_)
              rintro e uq_21 ⟨rfl, hrd8, hb8⟩
              rw [HRD.out.1]
              have HN := Lib.hid hrd8
              clear hrd8
              have ht := hb8
              have hHeld2 := (And.intro (((hHeld.2)).next ht (fun i hi => Or.inl hi)) ((TG.refl uq_21)))
              clear hHeld ht
              have hHeld := hHeld2
              clear hHeld2
              refine hK.out _ _ trivial (fun _ => ?_)
              clear hK K
              try simp only [Act.put, List.setIfInBounds_toArray, List.set_cons_zero, List.set_cons_succ]
              refine region_one 5 (by kernel_rfl) rfl (fun K hK => ?_)
              have d := (HC.out _ (hHeld.1)).2.1
              go_simp
              refine K_world (fun w' : World => Touch (fun _ => False) uq_21 w') (Touch.refl _ _) ?_
              intro uq_22 hx
              have ht := hx
              have hHeld2 := (And.intro (((hHeld.1)).still ht) ((((hHeld.2)).still ht)))
              clear hHeld ht
              have hHeld := hHeld2
              clear hHeld2
              refine hK.out _ _ trivial (fun _ => ?_)
              clear hK K
              try simp only [Act.put, List.setIfInBounds_toArray, List.set_cons_zero, List.set_cons_succ]
              refine region_one 13 (by kernel_rfl) rfl (fun K hK => ?_)
              go_simp
              go_at_call 54
              (with_reducible refine (refWith_at st.q HSO.out.1 i hi1 hi2 wh HR.out.2 y _).mono ?_)
              rintro e uq_23 ⟨rfl, hb8⟩
              have ht := Touch.of_below (S := fun _ => False) hb8
              have hHeld2 := (And.intro (((hHeld.1)).still ht) ((((hHeld.2)).still ht)))
              clear hHeld ht
              have hHeld := hHeld2
              clear hHeld2
              refine hK.out _ _ trivial (fun _ => ?_)
              clear hK K
              try simp only [Act.put, List.setIfInBounds_toArray, List.set_cons_zero, List.set_cons_succ]
              refine region_one 14 (by kernel_rfl) rfl (fun K hK => ?_)
              have HBF := Lib.hid (And.intro ((hHeld.1)) ((hHeld.2)))
              refine step_store_blk rfl 25 (.tmp 5) (.tmp 44) rfl n1 25 (pkV st.q) (pkV { st.q with n := st.q.n.set i y }) rfl rfl (HC.out _ (hHeld.1)).1 (by rw [pkV_size (HSO.out.1.setN i y)]; first | done | kernel_rfl) (by rw [pkV_size HSO.out.1, pkV_size (HSO.out.1.setN i y)]) (pkV_one _) ?_
              intro uq_24 hB9 ht9 hs9
              have H9 := Lib.hid (And.intro hB9 ht9)
              clear hB9 hs9
              have ht := ht9
              clear hHeld ht
              refine hK.out _ _ trivial (fun _ => ?_)
              clear hK K
              try simp only [Act.put]
              refine wpAnyH_done (by kernel_rfl) ?_ _
              go_wp2_with fail
              go_roundw
              case rel =>
                obtain ⟨i1, i2, i3, i4, i5, i6, i7⟩ := HI.out
                obtain ⟨b9, t9⟩ := H9.out
                have hz := i1.size
                have tA := Touch.then (S := fun k => k = rb ∨ k = n1) ((HBF.out.1.still2).mono (fun _ _ h => Or.inl h)) t9 (fun _ _ h => Or.inr h)
                refine ⟨j + 1, hjl, by first | rfl | (congr 1; omega) | (congr 1; unfold wrap64; omega), ⟨Touch.then i1 tA (fun q hq e => by omega), i2.touch tA (by omega), ?_, ?_, i5.touch tA (fun x hx e => by have := i6 x hx; omega), i6, i7⟩⟩
                · rw [rdRs_take _ _ _ _ HR.out.1, ← HST.out, HRD.out.2]
                  exact b9
                · rw [rdRs_take _ _ _ _ HR.out.1, ← HST.out, HRD.out.2]
                  exact (HN.out.touch2 HBF.out.2.still2 (fun _ _ h => h)).touch2 t9 (fun k hk e => by omega)
              case measure => simp [intOf]; (try unfold wrap64); omega
        · have d := (HC.out _ (hHeld.2)).2.1
          go_simp
          refine K_world (fun w' : World => Touch (fun _ => False) W0q w') (Touch.refl _ _) ?_
          intro uq_25 hx
          have ht := hx
          have hHeld2 := (And.intro (((hHeld.1)).still ht) ((((hHeld.2)).still ht)))
          clear hHeld ht
          have hHeld := hHeld2
          clear hHeld2
          refine hK.out _ _ trivial (fun _ => ?_)
          clear hK K
          try simp only [Act.put, List.setIfInBounds_toArray, List.set_cons_zero, List.set_cons_succ]
          refine region_two 0 11 (by kernel_rfl) rfl rfl (fun K hK => ?_) (fun K hK => ?_)
          · refine step_load_blk rfl 25 (.tmp 5) rfl n1 25 (pkV st.q) _ rfl (HC.out _ (hHeld.2)).1 Try.underlying25 rfl (by rw [pkV_size HSO.out.1]; first | done | kernel_rfl) ?_
            refine K_world (fun w' : World => Touch (fun _ => False) uq_25 w') (Touch.refl _ _) ?_
            intro uq_26 hx
            have ht := hx
            have hHeld2 := (And.intro (((hHeld.1)).still ht) ((((hHeld.2)).still ht)))
            clear hHeld ht
            have hHeld := hHeld2
            clear hHeld2
            refine hK.out _ _ trivial (fun _ => ?_)
            clear hK K
            try simp only [Act.put, List.setIfInBounds_toArray, List.set_cons_zero, List.set_cons_succ]
            refine region_one 11 (by kernel_rfl) rfl (fun K hK => ?_)
            have d := (HC.out _ (hHeld.2)).2.2
            go_simp
            refine K_world (fun w' : World => Touch (fun _ => False) uq_26 w') (Touch.refl _ _) ?_
            intro uq_27 hx
            have ht := hx
            have hHeld2 := (And.intro (((hHeld.1)).still ht) ((((hHeld.2)).still ht)))
            clear hHeld ht
            have hHeld := hHeld2
            clear hHeld2
            refine hK.out _ _ trivial (fun _ => ?_)
            clear hK K
            try simp only [Act.put, List.setIfInBounds_toArray, List.set_cons_zero, List.set_cons_succ]
            refine region_one 12 (by kernel_rfl) rfl (fun K hK => ?_)
            go_simp
            go_at_call 52
            (with_reducible refine (num_rf rb base st.zs st.bad sz _ (HI.out.rd.touch2 ((hHeld.1)).still2 (fun _ _ h => h) |> fun h => by rw [HST.out]; exact h) HSO.out.2.2 HSO.out.2.1).mono ?_)
            rintro e uq_28 ⟨rfl, hrd8, hb8⟩
            rw [HRD.out.1]
            have HN := Lib.hid hrd8
            clear hrd8
            have ht := hb8
            have hHeld2 := (And.intro (((hHeld.2)).next ht (fun i hi => Or.inl hi)) ((TG.refl uq_28)))
            clear hHeld ht
            have hHeld := hHeld2
            clear hHeld2
            refine hK.out _ _ trivial (fun _ => ?_)
            clear hK K
            try simp only [Act.put, List.setIfInBounds_toArray, List.set_cons_zero, List.set_cons_succ]
            refine region_one 13 (by kernel_rfl) rfl (fun K hK => ?_)
            go_simp
            go_at_call 54
            (with_reducible refine (refWith_at st.q HSO.out.1 i hi1 hi2 wh HR.out.2 y _).mono ?_)
            rintro e uq_29 ⟨rfl, hb8⟩
            have ht := Touch.of_below (S := fun _ => False) hb8
            have hHeld2 := (And.intro (((hHeld.1)).still ht) ((((hHeld.2)).still ht)))
            clear hHeld ht
            have hHeld := hHeld2
            clear hHeld2
            refine hK.out _ _ trivial (fun _ => ?_)
            clear hK K
            try simp only [Act.put, List.setIfInBounds_toArray, List.set_cons_zero, List.set_cons_succ]
            refine region_one 14 (by kernel_rfl) rfl (fun K hK => ?_)
            have HBF := Lib.hid (And.intro ((hHeld.1)) ((hHeld.2)))
            refine step_store_blk rfl 25 (.tmp 5) (.tmp 44) rfl n1 25 (pkV st.q) (pkV { st.q with n := st.q.n.set i y }) rfl rfl (HC.out _ (hHeld.1)).1 (by rw [pkV_size (HSO.out.1.setN i y)]; first | done | kernel_rfl) (by rw [pkV_size HSO.out.1, pkV_size (HSO.out.1.setN i y)]) (pkV_one _) ?_
            intro uq_30 hB9 ht9 hs9
            have H9 := Lib.hid (And.intro hB9 ht9)
            clear hB9 hs9
            have ht := ht9
            clear hHeld ht
            refine hK.out _ _ trivial (fun _ => ?_)
            clear hK K
            try simp only [Act.put]
            refine wpAnyH_done (by kernel_rfl) ?_ _
            go_wp2_with fail
            go_roundw
            case rel =>
              obtain ⟨i1, i2, i3, i4, i5, i6, i7⟩ := HI.out
              obtain ⟨b9, t9⟩ := H9.out
              have hz := i1.size
              have tA := Touch.then (S := fun k => k = rb ∨ k = n1) ((HBF.out.1.still2).mono (fun _ _ h => Or.inl h)) t9 (fun _ _ h => Or.inr h)
              refine ⟨j + 1, hjl, by first | rfl | (congr 1; omega) | (congr 1; unfold wrap64; omega), ⟨Touch.then i1 tA (fun q hq e => by omega), i2.touch tA (by omega), ?_, ?_, i5.touch tA (fun x hx e => by have := i6 x hx; omega), i6, i7⟩⟩
              · rw [rdRs_take _ _ _ _ HR.out.1, ← HST.out, HRD.out.2]
                exact b9
              · rw [rdRs_take _ _ _ _ HR.out.1, ← HST.out, HRD.out.2]
                exact (HN.out.touch2 HBF.out.2.still2 (fun _ _ h => h)).touch2 t9 (fun k hk e => by omega)
            case measure => simp [intOf]; (try unfold wrap64); omega
          · have d := (HC.out _ (hHeld.2)).2.2
            go_simp
            refine K_world (fun w' : World => Touch (fun _ => False) uq_25 w') (Touch.refl _ _) ?_
            intro uq_31 hx
            have ht := hx
            have hHeld2 := (And.intro (((hHeld.1)).still ht) ((((hHeld.2)).still ht)))
            clear hHeld ht
            have hHeld := hHeld2
            clear hHeld2
            refine hK.out _ _ trivial (fun _ => ?_)
            clear hK K
            try simp only [Act.put, List.setIfInBounds_toArray, List.set_cons_zero, List.set_cons_succ]
            refine region_two 0 12 (by kernel_rfl) rfl rfl (fun K hK => ?_) (fun K hK => ?_)
            · refine step_load_blk rfl 25 (.tmp 5) rfl n1 25 (pkV st.q) _ rfl (HC.out _ (hHeld.2)).1 Try.underlying25 rfl (by rw [pkV_size HSO.out.1]; first | done | kernel_rfl) ?_
              refine K_world (fun w' : World => Touch (fun _ => False) uq_31 w') (Touch.refl _ _) ?_
              intro uq_32 hx
              have ht := hx
              have hHeld2 := (And.intro (((hHeld.1)).still ht) ((((hHeld.2)).still ht)))
              clear hHeld ht
              have hHeld := hHeld2
              clear hHeld2
              refine hK.out _ _ trivial (fun _ => ?_)
              clear hK K
              try simp only [Act.put, List.setIfInBounds_toArray, List.set_cons_zero, List.set_cons_succ]
              refine region_one 12 (by kernel_rfl) rfl (fun K hK => ?_)
              go_simp
              go_at_call 52
              (with_reducible refine (num_rf rb base st.zs st.bad sz _ (HI.out.rd.touch2 ((hHeld.1)).still2 (fun _ _ h => h) |> fun h => by rw [HST.out]; exact h) HSO.out.2.2 HSO.out.2.1).mono ?_)
              rintro e uq_33 ⟨rfl, hrd8, hb8⟩
              rw [HRD.out.1]
              have HN := Lib.hid hrd8
              clear hrd8
              have ht := hb8
              have hHeld2 := (And.intro (((hHeld.2)).next ht (fun i hi => Or.inl hi)) ((TG.refl uq_33)))
              clear hHeld ht
              have hHeld := hHeld2
              clear hHeld2
              refine hK.out _ _ trivial (fun _ => ?_)
              clear hK K
              try simp only [Act.put, List.setIfInBounds_toArray, List.set_cons_zero, List.set_cons_succ]
              refine region_one 13 (by kernel_rfl) rfl (fun K hK => ?_)
              go_simp
              go_at_call 54
              (with_reducible refine (refWith_at st.q HSO.out.1 i hi1 hi2 wh HR.out.2 y _).mono ?_)
              rintro e uq_34 ⟨rfl, hb8⟩
              have ht := Touch.of_below (S := fun _ => False) hb8
              have hHeld2 := (And.intro (((hHeld.1)).still ht) ((((hHeld.2)).still ht)))
              clear hHeld ht
              have hHeld := hHeld2
              clear hHeld2
              refine hK.out _ _ trivial (fun _ => ?_)
              clear hK K
              try simp only [Act.put, List.setIfInBounds_toArray, List.set_cons_zero, List.set_cons_succ]
              refine region_one 14 (by kernel_rfl) rfl (fun K hK => ?_)
              have HBF := Lib.hid (And.intro ((hHeld.1)) ((hHeld.2)))
              refine step_store_blk rfl 25 (.tmp 5) (.tmp 44) rfl n1 25 (pkV st.q) (pkV { st.q with n := st.q.n.set i y }) rfl rfl (HC.out _ (hHeld.1)).1 (by rw [pkV_size (HSO.out.1.setN i y)]; first | done | kernel_rfl) (by rw [pkV_size HSO.out.1, pkV_size (HSO.out.1.setN i y)]) (pkV_one _) ?_
              intro uq_35 hB9 ht9 hs9
              have H9 := Lib.hid (And.intro hB9 ht9)
              clear hB9 hs9
              have ht := ht9
              clear hHeld ht
              refine hK.out _ _ trivial (fun _ => ?_)
              clear hK K
              try simp only [Act.put]
              refine wpAnyH_done (by kernel_rfl) ?_ _
              go_wp2_with fail
              go_roundw
              case rel =>
                obtain ⟨i1, i2, i3, i4, i5, i6, i7⟩ := HI.out
                obtain ⟨b9, t9⟩ := H9.out
                have hz := i1.size
                have tA := Touch.then (S := fun k => k = rb ∨ k = n1) ((HBF.out.1.still2).mono (fun _ _ h => Or.inl h)) t9 (fun _ _ h => Or.inr h)
                refine ⟨j + 1, hjl, by first | rfl | (congr 1; omega) | (congr 1; unfold wrap64; omega), ⟨Touch.then i1 tA (fun q hq e => by omega), i2.touch tA (by omega), ?_, ?_, i5.touch tA (fun x hx e => by have := i6 x hx; omega), i6, i7⟩⟩
                · rw [rdRs_take _ _ _ _ HR.out.1, ← HST.out, HRD.out.2]
                  exact b9
                · rw [rdRs_take _ _ _ _ HR.out.1, ← HST.out, HRD.out.2]
                  exact (HN.out.touch2 HBF.out.2.still2 (fun _ _ h => h)).touch2 t9 (fun k hk e => by omega)
              case measure => simp [intOf]; (try unfold wrap64); omega
            · go_simp
              go_at_call 52
              (with_reducible refine (num_rf rb base st.zs st.bad sz _ (HI.out.rd.touch2 ((hHeld.1)).still2 (fun _ _ h => h) |> fun h => by rw [HST.out]; exact h) HSO.out.2.2 HSO.out.2.1).mono ?_)
              rintro e uq_36 ⟨rfl, hrd8, hb8⟩
              rw [HRD.out.1]
              have HN := Lib.hid hrd8
              clear hrd8
              have ht := hb8
              have hHeld2 := (And.intro (((hHeld.2)).next ht (fun i hi => Or.inl hi)) ((TG.refl uq_36)))
              clear hHeld ht
              have hHeld := hHeld2
              clear hHeld2
              refine hK.out _ _ trivial (fun _ => ?_)
              clear hK K
              try simp only [Act.put, List.setIfInBounds_toArray, List.set_cons_zero, List.set_cons_succ]
              refine region_one 0 (by kernel_rfl) rfl (fun K hK => ?_)
              refine step_load_blk rfl 25 (.tmp 5) rfl n1 25 (pkV st.q) _ rfl (HC.out _ (hHeld.1)).1 Try.underlying25 rfl (by rw [pkV_size HSO.out.1]; first | done | kernel_rfl) ?_
              refine K_world (fun w' : World => Touch (fun _ => False) uq_36 w') (Touch.refl _ _) ?_
              intro uq_37 hx
              have ht := hx
              have hHeld2 := (And.intro (((hHeld.1)).still ht) ((((hHeld.2)).still ht)))
              clear hHeld ht
              have hHeld := hHeld2
              clear hHeld2
              refine hK.out _ _ trivial (fun _ => ?_)
              clear hK K
              try simp only [Act.put, List.setIfInBounds_toArray, List.set_cons_zero, List.set_cons_succ]
              refine region_one 13 (by kernel_rfl) rfl (fun K hK => ?_)
              go_simp
              go_at_call 54
              (with_reducible refine (refWith_at st.q HSO.out.1 i hi1 hi2 wh HR.out.2 y _).mono ?_)
              rintro e uq_38 ⟨rfl, hb8⟩
              have ht := Touch.of_below (S := fun _ => False) hb8
              have hHeld2 := (And.intro (((hHeld.1)).still ht) ((((hHeld.2)).still ht)))
              clear hHeld ht
              have hHeld := hHeld2
              clear hHeld2
              refine hK.out _ _ trivial (fun _ => ?_)
              clear hK K
              try simp only [Act.put, List.setIfInBounds_toArray, List.set_cons_zero, List.set_cons_succ]
              refine region_one 14 (by kernel_rfl) rfl (fun K hK => ?_)
              have HBF := Lib.hid (And.intro ((hHeld.1)) ((hHeld.2)))
              refine step_store_blk rfl 25 (.tmp 5) (.tmp 44) rfl n1 25 (pkV st.q) (pkV { st.q with n := st.q.n.set i y }) rfl rfl (HC.out _ (hHeld.1)).1 (by rw [pkV_size (HSO.out.1.setN i y)]; first | done | kernel_rfl) (by rw [pkV_size HSO.out.1, pkV_size (HSO.out.1.setN i y)]) (pkV_one _) ?_
              intro uq_39 hB9 ht9 hs9
              have H9 := Lib.hid (And.intro hB9 ht9)
              clear hB9 hs9
              have ht := ht9
              clear hHeld ht
              refine hK.out _ _ trivial (fun _ => ?_)
              clear hK K
              try simp only [Act.put]
              refine wpAnyH_done (by kernel_rfl) ?_ _
              go_wp2_with fail
              go_roundw
              case rel =>
                obtain ⟨i1, i2, i3, i4, i5, i6, i7⟩ := HI.out
                obtain ⟨b9, t9⟩ := H9.out
                have hz := i1.size
                have tA := Touch.then (S := fun k => k = rb ∨ k = n1) ((HBF.out.1.still2).mono (fun _ _ h => Or.inl h)) t9 (fun _ _ h => Or.inr h)
                refine ⟨j + 1, hjl, by first | rfl | (congr 1; omega) | (congr 1; unfold wrap64; omega), ⟨Touch.then i1 tA (fun q hq e => by omega), i2.touch tA (by omega), ?_, ?_, i5.touch tA (fun x hx e => by have := i6 x hx; omega), i6, i7⟩⟩
                · rw [rdRs_take _ _ _ _ HR.out.1, ← HST.out, HRD.out.2]
                  exact b9
                · rw [rdRs_take _ _ _ _ HR.out.1, ← HST.out, HRD.out.2]
                  exact (HN.out.touch2 HBF.out.2.still2 (fun _ _ h => h)).touch2 t9 (fun k hk e => by omega)
              case measure => simp [intOf]; (try unfold wrap64); omega
        · have d := (HC.out _ (hHeld.2)).2.2
          go_simp
          refine K_world (fun w' : World => Touch (fun _ => False) W0q w') (Touch.refl _ _) ?_
          intro uq_40 hx
          have ht := hx
          have hHeld2 := (And.intro (((hHeld.1)).still ht) ((((hHeld.2)).still ht)))
          clear hHeld ht
          have hHeld := hHeld2
          clear hHeld2
          refine hK.out _ _ trivial (fun _ => ?_)
          clear hK K
          try simp only [Act.put, List.setIfInBounds_toArray, List.set_cons_zero, List.set_cons_succ]
          refine region_three 0 5 12 (by kernel_rfl) rfl rfl rfl (fun K hK => ?_) (fun K hK => ?_) (fun K hK => ?_)
          · refine step_load_blk rfl 25 (.tmp 5) rfl n1 25 (pkV st.q) _ rfl (HC.out _ (hHeld.2)).1 Try.underlying25 rfl (by rw [pkV_size HSO.out.1]; first | done | kernel_rfl) ?_
            refine K_world (fun w' : World => Touch (fun _ => False) uq_40 w') (Touch.refl _ _) ?_
            intro uq_41 hx
            have ht := hx
            have hHeld2 := (And.intro (((hHeld.1)).still ht) ((((hHeld.2)).still ht)))
            clear hHeld ht
            have hHeld := hHeld2
            clear hHeld2
            refine hK.out _ _ trivial (fun _ => ?_)
            clear hK K
            try simp only [Act.put, List.setIfInBounds_toArray, List.set_cons_zero, List.set_cons_succ]
            refine region_two 5 12 (by kernel_rfl) rfl rfl (fun K hK => ?_) (fun K hK => ?_)
            · have d := (HC.out _ (hHeld.2)).2.1
              go_simp
              refine K_world (fun w' : World => Touch (fun _ => False) uq_41 w') (Touch.refl _ _) ?_
              intro uq_42 hx
              have ht := hx
              have hHeld2 := (And.intro (((hHeld.1)).still ht) ((((hHeld.2)).still ht)))
              clear hHeld ht
              have hHeld := hHeld2
              clear hHeld2
              refine hK.out _ _ trivial (fun _ => ?_)
              clear hK K
              try simp only [Act.put, List.setIfInBounds_toArray, List.set_cons_zero, List.set_cons_succ]
              refine region_one 12 (by kernel_rfl) rfl (fun K hK => ?_)
              go_simp
              go_at_call 52
              (with_reducible refine (num_rf rb base st.zs st.bad sz _ (HI.out.rd.touch2 ((hHeld.1)).still2 (fun _ _ h => h) |> fun h => by rw [HST.out]; exact h) HSO.out.2.2 HSO.out.2.1).mono ?_)
              rintro e uq_43 ⟨rfl, hrd8, hb8⟩
              rw [HRD.out.1]
              have HN := Lib.hid hrd8
              clear hrd8
              have ht := hb8
              have hHeld2 := (And.intro (((hHeld.2)).next ht (fun i hi => Or.inl hi)) ((TG.refl uq_43)))
              clear hHeld ht
              have hHeld := hHeld2
              clear hHeld2
              refine hK.out _ _ trivial (fun _ => ?_)
              clear hK K
              try simp only [Act.put, List.setIfInBounds_toArray, List.set_cons_zero, List.set_cons_succ]
              refine region_one 13 (by kernel_rfl) rfl (fun K hK => ?_)
              go_simp
              go_at_call 54
              (with_reducible refine (refWith_at st.q HSO.out.1 i hi1 hi2 wh HR.out.2 y _).mono ?_)
              rintro e uq_44 ⟨rfl, hb8⟩
              have ht := Touch.of_below (S := fun _ => False) hb8
              have hHeld2 := (And.intro (((hHeld.1)).still ht) ((((hHeld.2)).still ht)))
              clear hHeld ht
              have hHeld := hHeld2
              clear hHeld2
              refine hK.out _ _ trivial (fun _ => ?_)
              clear hK K
              try simp only [Act.put, List.setIfInBounds_toArray, List.set_cons_zero, List.set_cons_succ]
              refine region_one 14 (by kernel_rfl) rfl (fun K hK => ?_)
              have HBF := Lib.hid (And.intro ((hHeld.1)) ((hHeld.2)))
              refine step_store_blk rfl 25 (.tmp 5) (.tmp 44) rfl n1 25 (pkV st.q) (pkV { st.q with n := st.q.n.set i y }) rfl rfl (HC.out _ (hHeld.1)).1 (by rw [pkV_size (HSO.out.1.setN i y)]; first | done | kernel_rfl) (by rw [pkV_size HSO.out.1, pkV_size (HSO.out.1.setN i y)]) (pkV_one _) ?_
              intro uq_45 hB9 ht9 hs9
              have H9 := Lib.hid (And.intro hB9 ht9)
              clear hB9 hs9
              have ht := ht9
              clear hHeld ht
              refine hK.out _ _ trivial (fun _ => ?_)
              clear hK K
              try simp only [Act.put]
              refine wpAnyH_done (by kernel_rfl) ?_ _
              go_wp2_with fail
              go_roundw
              case rel =>
                obtain ⟨i1, i2, i3, i4, i5, i6, i7⟩ := HI.out
                obtain ⟨b9, t9⟩ := H9.out
                have hz := i1.size
                have tA := Touch.then (S := fun k => k = rb ∨ k = n1) ((HBF.out.1.still2).mono (fun _ _ h => Or.inl h)) t9 (fun _ _ h => Or.inr h)
                refine ⟨j + 1, hjl, by first | rfl | (congr 1; omega) | (congr 1; unfold wrap64; omega), ⟨Touch.then i1 tA (fun q hq e => by omega), i2.touch tA (by omega), ?_, ?_, i5.touch tA (fun x hx e => by have := i6 x hx; omega), i6, i7⟩⟩
                · rw [rdRs_take _ _ _ _ HR.out.1, ← HST.out, HRD.out.2]
                  exact b9
                · rw [rdRs_take _ _ _ _ HR.out.1, ← HST.out, HRD.out.2]
                  exact (HN.out.touch2 HBF.out.2.still2 (fun _ _ h => h)).touch2 t9 (fun k hk e => by omega)
              case measure => simp [intOf]; (try unfold wrap64); omega
            · go_simp
              go_at_call 52
              (with_reducible refine (num_rf rb base st.zs st.bad sz _ (HI.out.rd.touch2 ((hHeld.1)).still2 (fun _ _ h => h) |> fun h => by rw [HST.out]; exact h) HSO.out.2.2 HSO.out.2.1).mono ?_)
              rintro e uq_46 ⟨rfl, hrd8, hb8⟩
              rw [HRD.out.1]
              have HN := Lib.hid hrd8
              clear hrd8
              have ht := hb8
              have hHeld2 := (And.intro (((hHeld.2)).next ht (fun i hi => Or.inl hi)) ((TG.refl uq_46)))
              clear hHeld ht
              have hHeld := hHeld2
              clear hHeld2
              refine hK.out _ _ trivial (fun _ => ?_)
              clear hK K
              try simp only [Act.put, List.setIfInBounds_toArray, List.set_cons_zero, List.set_cons_succ]
              refine region_one 5 (by kernel_rfl) rfl (fun K hK => ?_)
              have d := (HC.out _ (hHeld.1)).2.1
              go_simp
              refine K_world (fun w' : World => Touch (fun _ => False) uq_46 w') (Touch.refl _ _) ?_
              intro uq_47 hx
              have ht := hx
              have hHeld2 := (And.intro (((hHeld.1)).still ht) ((((hHeld.2)).still ht)))
              clear hHeld ht
              have hHeld := hHeld2
              clear hHeld2
              refine hK.out _ _ trivial (fun _ => ?_)
              clear hK K
              try simp only [Act.put, List.setIfInBounds_toArray, List.set_cons_zero, List.set_cons_succ]
              refine region_one 13 (by kernel_rfl) rfl (fun K hK => ?_)
              go_simp
              go_at_call 54
              (with_reducible refine (refWith_at st.q HSO.out.1 i hi1 hi2 wh HR.out.2 y _).mono ?_)
              rintro e uq_48 ⟨rfl, hb8⟩
              have ht := Touch.of_below (S := fun _ => False) hb8
              have hHeld2 := (And.intro (((hHeld.1)).still ht) ((((hHeld.2)).still ht)))
              clear hHeld ht
              have hHeld := hHeld2
              clear hHeld2
              refine hK.out _ _ trivial (fun _ => ?_)
              clear hK K
              try simp only [Act.put, List.setIfInBounds_toArray, List.set_cons_zero, List.set_cons_succ]
              refine region_one 14 (by kernel_rfl) rfl (fun K hK => ?_)
              have HBF := Lib.hid (And.intro ((hHeld.1)) ((hHeld.2)))
              refine step_store_blk rfl 25 (.tmp 5) (.tmp 44) rfl n1 25 (pkV st.q) (pkV { st.q with n := st.q.n.set i y }) rfl rfl (HC.out _ (hHeld.1)).1 (by rw [pkV_size (HSO.out.1.setN i y)]; first | done | kernel_rfl) (by rw [pkV_size HSO.out.1, pkV_size (HSO.out.1.setN i y)]) (pkV_one _) ?_
              intro uq_49 hB9 ht9 hs9
              have H9 := Lib.hid (And.intro hB9 ht9)
              clear hB9 hs9
              have ht := ht9
              clear hHeld ht
              refine hK.out _ _ trivial (fun _ => ?_)
              clear hK K
              try simp only [Act.put]
              refine wpAnyH_done (by kernel_rfl) ?_ _
              go_wp2_with fail
              go_roundw
              case rel =>
                obtain ⟨i1, i2, i3, i4, i5, i6, i7⟩ := HI.out
                obtain ⟨b9, t9⟩ := H9.out
                have hz := i1.size
                have tA := Touch.then (S := fun k => k = rb ∨ k = n1) ((HBF.out.1.still2).mono (fun _ _ h => Or.inl h)) t9 (fun _ _ h => Or.inr h)
                refine ⟨j + 1, hjl, by first | rfl | (congr 1; omega) | (congr 1; unfold wrap64; omega), ⟨Touch.then i1 tA (fun q hq e => by omega), i2.touch tA (by omega), ?_, ?_, i5.touch tA (fun x hx e => by have := i6 x hx; omega), i6, i7⟩⟩
                · rw [rdRs_take _ _ _ _ HR.out.1, ← HST.out, HRD.out.2]
                  exact b9
                · rw [rdRs_take _ _ _ _ HR.out.1, ← HST.out, HRD.out.2]
                  exact (HN.out.touch2 HBF.out.2.still2 (fun _ _ h => h)).touch2 t9 (fun k hk e => by omega)
              case measure => simp [intOf]; (try unfold wrap64); omega
          · have d := (HC.out _ (hHeld.2)).2.1
            go_simp
            refine K_world (fun w' : World => Touch (fun _ => False) uq_40 w') (Touch.refl _ _) ?_
            intro uq_50 hx
            have ht := hx
            have hHeld2 := (And.intro (((hHeld.1)).still ht) ((((hHeld.2)).still ht)))
            clear hHeld ht
            have hHeld := hHeld2
            clear hHeld2
            refine hK.out _ _ trivial (fun _ => ?_)
            clear hK K
            try simp only [Act.put, List.setIfInBounds_toArray, List.set_cons_zero, List.set_cons_succ]
            refine region_two 0 12 (by kernel_rfl) rfl rfl (fun K hK => ?_) (fun K hK => ?_)
            · refine step_load_blk rfl 25 (.tmp 5) rfl n1 25 (pkV st.q) _ rfl (HC.out _ (hHeld.2)).1 Try.underlying25 rfl (by rw [pkV_size HSO.out.1]; first | done | kernel_rfl) ?_
              refine K_world (fun w' : World => Touch (fun _ => False) uq_50 w') (Touch.refl _ _) ?_
              intro uq_51 hx
              have ht := hx
              have hHeld2 := (And.intro (((hHeld.1)).still ht) ((((hHeld.2)).still ht)))
              clear hHeld ht
              have hHeld := hHeld2
              clear hHeld2
              refine hK.out _ _ trivial (fun _ => ?_)
              clear hK K
              try simp only [Act.put, List.setIfInBounds_toArray, List.set_cons_zero, List.set_cons_succ]
              refine region_one 12 (by kernel_rfl) rfl (fun K hK => ?_)
              go_simp
              go_at_call 52
              (with_reducible refine (num_rf rb base st.zs st.bad sz _ (HI.out.rd.touch2 ((hHeld.1)).still2 (fun _ _ h => h) |> fun h => by rw [HST.out]; exact h) HSO.out.2.2 HSO.out.2.1).mono ?_)
              rintro e uq_52 ⟨rfl, hrd8, hb8⟩
              rw [HRD.out.1]
              have HN := Lib.hid hrd8
              clear hrd8
              have ht := hb8
              have hHeld2 := (And.intro (((hHeld.2)).next ht (fun i hi => Or.inl hi)) ((TG.refl uq_52)))
              clear hHeld ht
              have hHeld := hHeld2
              clear hHeld2
              refine hK.out _ _ trivial (fun _ => ?_)
              clear hK K
              try simp only [Act.put, List.setIfInBounds_toArray, List.set_cons_zero, List.set_cons_succ]
              refine region_one 13 (by kernel_rfl) rfl (fun K hK => ?_)
              go_simp
              go_at_call 54
              (with_reducible refine (refWith_at st.q HSO.out.1 i hi1 hi2 wh HR.out.2 y _).mono ?_)
              rintro e uq_53 ⟨rfl, hb8⟩
              have ht := Touch.of_below (S := fun _ => False) hb8
              have hHeld2 := (And.intro (((hHeld.1)).still ht) ((((hHeld.2)).still ht)))
              clear hHeld ht
              have hHeld := hHeld2
              clear hHeld2
              refine hK.out _ _ trivial (fun _ => ?_)
              clear hK K
              try simp only [Act.put, List.setIfInBounds_toArray, List.set_cons_zero, List.set_cons_succ]
              refine region_one 14 (by kernel_rfl) rfl (fun K hK => ?_)
              have HBF := Lib.hid (And.intro ((hHeld.1)) ((hHeld.2)))
              refine step_store_blk rfl 25 (.tmp 5) (.tmp 44) rfl n1 25 (pkV st.q) (pkV { st.q with n := st.q.n.set i y }) rfl rfl (HC.out _ (hHeld.1)).1 (by rw [pkV_size (HSO.out.1.setN i y)]; first | done | kernel_rfl) (by rw [pkV_size HSO.out.1, pkV_size (HSO.out.1.setN i y)]) (pkV_one _) ?_
              intro uq_54 hB9 ht9 hs9
              have H9 := Lib.hid (And.intro hB9 ht9)
              clear hB9 hs9
              have ht := ht9
              clear hHeld ht
              refine hK.out _ _ trivial (fun _ => ?_)
              clear hK K
              try simp only [Act.put]
              refine wpAnyH_done (by kernel_rfl) ?_ _
              go_wp2_with fail
              go_roundw
              case rel =>
                obtain ⟨i1, i2, i3, i4, i5, i6, i7⟩ := HI.out
                obtain ⟨b9, t9⟩ := H9.out
                have hz := i1.size
                have tA := Touch.then (S := fun k => k = rb ∨ k = n1) ((HBF.out.1.still2).mono (fun _ _ h => Or.inl h)) t9 (fun _ _ h => Or.inr h)
                refine ⟨j + 1, hjl, by first | rfl | (congr 1; omega) | (congr 1; unfold wrap64; omega), ⟨Touch.then i1 tA (fun q hq e => by omega), i2.touch tA (by omega), ?_, ?_, i5.touch tA (fun x hx e => by have := i6 x hx; omega), i6, i7⟩⟩
                · rw [rdRs_take _ _ _ _ HR.out.1, ← HST.out, HRD.out.2]
                  exact b9
                · rw [rdRs_take _ _ _ _ HR.out.1, ← HST.out, HRD.out.2]
                  exact (HN.out.touch2 HBF.out.2.still2 (fun _ _ h => h)).touch2 t9 (fun k hk e => by omega)
              case measure => simp [intOf]; (try unfold wrap64); omega
            · go_simp
              go_at_call 52
              (with_reducible refine (num_rf rb base st.zs st.bad sz _ (HI.out.rd.touch2 ((hHeld.1)).still2 (fun _ _ h => h) |> fun h => by rw [HST.out]; exact h) HSO.out.2.2 HSO.out.2.1).mono ?_)
              rintro e uq_55 ⟨rfl, hrd8, hb8⟩
              rw [HRD.out.1]
              have HN := Lib.hid hrd8
              clear hrd8
              have ht := hb8
              have hHeld2 := (And.intro (((hHeld.2)).next ht (fun i hi => Or.inl hi)) ((TG.refl uq_55)))
              clear hHeld ht
              have hHeld := hHeld2
              clear hHeld2
              refine hK.out _ _ trivial (fun _ => ?_)
              clear hK K
              try simp only [Act.put, List.setIfInBounds_toArray, List.set_cons_zero, List.set_cons_succ]
              refine region_one 0 (by kernel_rfl) rfl (fun K hK => ?_)
              refine step_load_blk rfl 25 (.tmp 5) rfl n1 25 (pkV st.q) _ rfl (HC.out _ (hHeld.1)).1 Try.underlying25 rfl (by rw [pkV_size HSO.out.1]; first | done | kernel_rfl) ?_
              refine K_world (fun w' : World => Touch (fun _ => False) uq_55 w') (Touch.refl _ _) ?_
              intro uq_56 hx
              have ht := hx
              have hHeld2 := (And.intro (((hHeld.1)).still ht) ((((hHeld.2)).still ht)))
              clear hHeld ht
              have hHeld := hHeld2
              clear hHeld2
              refine hK.out _ _ trivial (fun _ => ?_)
              clear hK K
              try simp only [Act.put, List.setIfInBounds_toArray, List.set_cons_zero, List.set_cons_succ]
              refine region_one 13 (by kernel_rfl) rfl (fun K hK => ?_)
              go_simp
              go_at_call 54
              (with_reducible refine (refWith_at st.q HSO.out.1 i hi1 hi2 wh HR.out.2 y _).mono ?_)
              rintro e uq_57 ⟨rfl, hb8⟩
              have ht := Touch.of_below (S := fun _ => False) hb8
              have hHeld2 := (And.intro (((hHeld.1)).still ht) ((((hHeld.2)).still ht)))
              clear hHeld ht
              have hHeld := hHeld2
              clear hHeld2
              refine hK.out _ _ trivial (fun _ => ?_)
              clear hK K
              try simp only [Act.put, List.setIfInBounds_toArray, List.set_cons_zero, List.set_cons_succ]
              refine region_one 14 (by kernel_rfl) rfl (fun K hK => ?_)
              have HBF := Lib.hid (And.intro ((hHeld.1)) ((hHeld.2)))
              refine step_store_blk rfl 25 (.tmp 5) (.tmp 44) rfl n1 25 (pkV st.q) (pkV { st.q with n := st.q.n.set i y }) rfl rfl (HC.out _ (hHeld.1)).1 (by rw [pkV_size (HSO.out.1.setN i y)]; first | done | kernel_rfl) (by rw [pkV_size HSO.out.1, pkV_size (HSO.out.1.setN i y)]) (pkV_one _) ?_
              intro uq_58 hB9 ht9 hs9
              have H9 := Lib.hid (And.intro hB9 ht9)
              clear hB9 hs9
              have ht := ht9
              clear hHeld ht
              refine hK.out _ _ trivial (fun _ => ?_)
              clear hK K
              try simp only [Act.put]
              refine wpAnyH_done (by kernel_rfl) ?_ _
              go_wp2_with fail
              go_roundw
              case rel =>
                obtain ⟨i1, i2, i3, i4, i5, i6, i7⟩ := HI.out
                obtain ⟨b9, t9⟩ := H9.out
                have hz := i1.size
                have tA := Touch.then (S := fun k => k = rb ∨ k = n1) ((HBF.out.1.still2).mono (fun _ _ h => Or.inl h)) t9 (fun _ _ h => Or.inr h)
                refine ⟨j + 1, hjl, by first | rfl | (congr 1; omega) | (congr 1; unfold wrap64; omega), ⟨Touch.then i1 tA (fun q hq e => by omega), i2.touch tA (by omega), ?_, ?_, i5.touch tA (fun x hx e => by have := i6 x hx; omega), i6, i7⟩⟩
                · rw [rdRs_take _ _ _ _ HR.out.1, ← HST.out, HRD.out.2]
                  exact b9
                · rw [rdRs_take _ _ _ _ HR.out.1, ← HST.out, HRD.out.2]
                  exact (HN.out.touch2 HBF.out.2.still2 (fun _ _ h => h)).touch2 t9 (fun k hk e => by omega)
              case measure => simp [intOf]; (try unfold wrap64); omega
          · go_simp
            go_at_call 52
            (with_reducible refine (num_rf rb base st.zs st.bad sz _ (HI.out.rd.touch2 ((hHeld.1)).still2 (fun _ _ h => h) |> fun h => by rw [HST.out]; exact h) HSO.out.2.2 HSO.out.2.1).mono ?_)
            rintro e uq_59 ⟨rfl, hrd8, hb8⟩
            rw [HRD.out.1]
            have HN := Lib.hid hrd8
            clear hrd8
            have ht := hb8
            have hHeld2 := (And.intro (((hHeld.2)).next ht (fun i hi => Or.inl hi)) ((TG.refl uq_59)))
            clear hHeld ht
            have hHeld := hHeld2
            clear hHeld2
            refine hK.out _ _ trivial (fun _ => ?_)
            clear hK K
            try simp only [Act.put, List.setIfInBounds_toArray, List.set_cons_zero, List.set_cons_succ]
            refine region_two 0 5 (by kernel_rfl) rfl rfl (fun K hK => ?_) (fun K hK => ?_)
            · refine step_load_blk rfl 25 (.tmp 5) rfl n1 25 (pkV st.q) _ rfl (HC.out _ (hHeld.1)).1 Try.underlying25 rfl (by rw [pkV_size HSO.out.1]; first | done | kernel_rfl) ?_
              refine K_world (fun w' : World => Touch (fun _ => False) uq_59 w') (Touch.refl _ _) ?_
              intro uq_60 hx
              have ht := hx
              have hHeld2 := (And.intro (((hHeld.1)).still ht) ((((hHeld.2)).still ht)))
              clear hHeld ht
              have hHeld := hHeld2
              clear hHeld2
              refine hK.out _ _ trivial (fun _ => ?_)
              clear hK K
              try simp only [Act.put, List.setIfInBounds_toArray, List.set_cons_zero, List.set_cons_succ]
              refine region_one 5 (by kernel_rfl) rfl (fun K hK => ?_)
              have d := (HC.out _ (hHeld.1)).2.1
              go_simp
              refine K_world (fun w' : World => Touch (fun _ => False) uq_60 w') (Touch.refl _ _) ?_
              intro uq_61 hx
              have ht := hx
              have hHeld2 := (And.intro (((hHeld.1)).still ht) ((((hHeld.2)).still ht)))
              clear hHeld ht
              have hHeld := hHeld2
              clear hHeld2
              refine hK.out _ _ trivial (fun _ => ?_)
              clear hK K
              try simp only [Act.put, List.setIfInBounds_toArray, List.set_cons_zero, List.set_cons_succ]
              refine region_one 13 (by kernel_rfl) rfl (fun K hK => ?_)
              go_simp
              go_at_call 54
              (with_reducible refine (refWith_at st.q HSO.out.1 i hi1 hi2 wh HR.out.2 y _).mono ?_)
              rintro e uq_62 ⟨rfl, hb8⟩
              have ht := Touch.of_below (S := fun _ => False) hb8
              have hHeld2 := (And.intro (((hHeld.1)).still ht) ((((hHeld.2)).still ht)))
              clear hHeld ht
              have hHeld := hHeld2
              clear hHeld2
              refine hK.out _ _ trivial (fun _ => ?_)
              clear hK K
              try simp only [Act.put, List.setIfInBounds_toArray, List.set_cons_zero, List.set_cons_succ]
              refine region_one 14 (by kernel_rfl) rfl (fun K hK => ?_)
              have HBF := Lib.hid (And.intro ((hHeld.1)) ((hHeld.2)))
              refine step_store_blk rfl 25 (.tmp 5) (.tmp 44) rfl n1 25 (pkV st.q) (pkV { st.q with n := st.q.n.set i y }) rfl rfl (HC.out _ (hHeld.1)).1 (by rw [pkV_size (HSO.out.1.setN i y)]; first | done | kernel_rfl) (by rw [pkV_size HSO.out.1, pkV_size (HSO.out.1.setN i y)]) (pkV_one _) ?_
              intro uq_63 hB9 ht9 hs9
              have H9 := Lib.hid (And.intro hB9 ht9)
              clear hB9 hs9
              have ht := ht9
              clear hHeld ht
              refine hK.out _ _ trivial (fun _ => ?_)
              clear hK K
              try simp only [Act.put]
              refine wpAnyH_done (by kernel_rfl) ?_ _
              go_wp2_with fail
              go_roundw
              case rel =>
                obtain ⟨i1, i2, i3, i4, i5, i6, i7⟩ := HI.out
                obtain ⟨b9, t9⟩ := H9.out
                have hz := i1.size
                have tA := Touch.then (S := fun k => k = rb ∨ k = n1) ((HBF.out.1.still2).mono (fun _ _ h => Or.inl h)) t9 (fun _ _ h => Or.inr h)
                refine ⟨j + 1, hjl, by first | rfl | (congr 1; omega) | (congr 1; unfold wrap64; omega), ⟨Touch.then i1 tA (fun q hq e => by omega), i2.touch tA (by omega), ?_, ?_, i5.touch tA (fun x hx e => by have := i6 x hx; omega), i6, i7⟩⟩
                · rw [rdRs_take _ _ _ _ HR.out.1, ← HST.out, HRD.out.2]
                  exact b9
                · rw [rdRs_take _ _ _ _ HR.out.1, ← HST.out, HRD.out.2]
                  exact (HN.out.touch2 HBF.out.2.still2 (fun _ _ h => h)).touch2 t9 (fun k hk e => by omega)
              case measure => simp [intOf]; (try unfold wrap64); omega
            · have d := (HC.out _ (hHeld.1)).2.1
              go_simp
              refine K_world (fun w' : World => Touch (fun _ => False) uq_59 w') (Touch.refl _ _) ?_
              intro uq_64 hx
              have ht := hx
              have hHeld2 := (And.intro (((hHeld.1)).still ht) ((((hHeld.2)).still ht)))
              clear hHeld ht
              have hHeld := hHeld2
              clear hHeld2
              refine hK.out _ _ trivial (fun _ => ?_)
              clear hK K
              try simp only [Act.put, List.setIfInBounds_toArray, List.set_cons_zero, List.set_cons_succ]
              refine region_one 0 (by kernel_rfl) rfl (fun K hK => ?_)
              refine step_load_blk rfl 25 (.tmp 5) rfl n1 25 (pkV st.q) _ rfl (HC.out _ (hHeld.1)).1 Try.underlying25 rfl (by rw [pkV_size HSO.out.1]; first | done | kernel_rfl) ?_
              refine K_world (fun w' : World => Touch (fun _ => False) uq_64 w') (Touch.refl _ _) ?_
              intro uq_65 hx
              have ht := hx
              have hHeld2 := (And.intro (((hHeld.1)).still ht) ((((hHeld.2)).still ht)))
              clear hHeld ht
              have hHeld := hHeld2
              clear hHeld2
              refine hK.out _ _ trivial (fun _ => ?_)
              clear hK K
              try simp only [Act.put, List.setIfInBounds_toArray, List.set_cons_zero, List.set_cons_succ]
              refine region_one 13 (by kernel_rfl) rfl (fun K hK => ?_)
              go_simp
              go_at_call 54
              (with_reducible refine (refWith_at st.q HSO.out.1 i hi1 hi2 wh HR.out.2 y _).mono ?_)
              rintro e uq_66 ⟨rfl, hb8⟩
              have ht := Touch.of_below (S := fun _ => False) hb8
              have hHeld2 := (And.intro (((hHeld.1)).still ht) ((((hHeld.2)).still ht)))
              clear hHeld ht
              have hHeld := hHeld2
              clear hHeld2
              refine hK.out _ _ trivial (fun _ => ?_)
              clear hK K
              try simp only [Act.put, List.setIfInBounds_toArray, List.set_cons_zero, List.set_cons_succ]
              refine region_one 14 (by kernel_rfl) rfl (fun K hK => ?_)
              have HBF := Lib.hid (And.intro ((hHeld.1)) ((hHeld.2)))
              refine step_store_blk rfl 25 (.tmp 5) (.tmp 44) rfl n1 25 (pkV st.q) (pkV { st.q with n := st.q.n.set i y }) rfl rfl (HC.out _ (hHeld.1)).1 (by rw [pkV_size (HSO.out.1.setN i y)]; first | done | kernel_rfl) (by rw [pkV_size HSO.out.1, pkV_size (HSO.out.1.setN i y)]) (pkV_one _) ?_
              intro uq_67 hB9 ht9 hs9
              have H9 := Lib.hid (And.intro hB9 ht9)
              clear hB9 hs9
              have ht := ht9
              clear hHeld ht
              refine hK.out _ _ trivial (fun _ => ?_)
              clear hK K
              try simp only [Act.put]
              refine wpAnyH_done (by kernel_rfl) ?_ _
              go_wp2_with fail
              go_roundw
              case rel =>
                obtain ⟨i1, i2, i3, i4, i5, i6, i7⟩ := HI.out
                obtain ⟨b9, t9⟩ := H9.out
                have hz := i1.size
                have tA := Touch.then (S := fun k => k = rb ∨ k = n1) ((HBF.out.1.still2).mono (fun _ _ h => Or.inl h)) t9 (fun _ _ h => Or.inr h)
                refine ⟨j + 1, hjl, by first | rfl | (congr 1; omega) | (congr 1; unfold wrap64; omega), ⟨Touch.then i1 tA (fun q hq e => by omega), i2.touch tA (by omega), ?_, ?_, i5.touch tA (fun x hx e => by have := i6 x hx; omega), i6, i7⟩⟩
                · rw [rdRs_take _ _ _ _ HR.out.1, ← HST.out, HRD.out.2]
                  exact b9
                · rw [rdRs_take _ _ _ _ HR.out.1, ← HST.out, HRD.out.2]
                  exact (HN.out.touch2 HBF.out.2.still2 (fun _ _ h => h)).touch2 t9 (fun k hk e => by omega)
              case measure => simp [intOf]; (try unfold wrap64); omega
end Go.Proofs.Ythlkmofemnepbaa
