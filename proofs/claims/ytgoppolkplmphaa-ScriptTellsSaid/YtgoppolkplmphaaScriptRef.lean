/-
  THE WALKS of the document's own order and one (layer 26).
-/
import Derived.Test.YtgoppolkplmphaaRows
import Derived.Test.YtgoppolkplmphaaScriptActs
namespace Go.Proofs.Ytgoppolkplmphaa
open Go.RowKit

theorem order_rf (r s : Nat) (_hr : r < 256) (_hs : s < 256) (w : World) : Calls Try.prog 52 #[.int .i64 r, .int .i64 s] w fun e w' => e = .returned (ordVal (ordOf r s).1 (ordOf r s).2.1 (ordOf r s).2.2.1 (ordOf r s).2.2.2) ∧ Below w.heap.size w w' := by
  have h4 : r % 4 = 0 ∨ r % 4 = 3 ∨ (r % 4 ≠ 0 ∧ r % 4 ≠ 3) := by omega
  rcases h4 with h | h | ⟨h, h'⟩
  · have e : ordOf r s = (6, 1 + s % 3, 0, 0) := by unfold ordOf; rw [if_pos h]
    rw [e]
    clear e
    go_enter Try.func52, Try.ntmps52
    go_wp2
    refine bodyPost_ret (by simp [results, Try.results52, go_sem]; rfl) rfl ⟨by simp [ordVal], (Below.refl _ _).alloc (Nat.le_refl _) _⟩
  · have e : ordOf r s = (10, 0, 0, 0) := by unfold ordOf; rw [if_neg (by omega), if_pos h]
    have g : ((r : Int) % 4 == 0) = false := by simp; omega
    have g2 : ((r : Int) % 4 == 3) = true := by simp; omega
    rw [e]
    clear e
    go_enter Try.func52, Try.ntmps52
    go_wp2
    refine bodyPost_ret (by simp [results, Try.results52, go_sem]; rfl) rfl ⟨by simp [ordVal], (Below.refl _ _).alloc (Nat.le_refl _) _⟩
  · have e : ordOf r s = (7, 0, 1 + s % 7, 1 + s / 7 % 3) := by unfold ordOf; rw [if_neg h, if_neg h']
    have g : ((r : Int) % 4 == 0) = false := by simp; omega
    have g2 : ((r : Int) % 4 == 3) = false := by simp; omega
    rw [e]
    clear e
    go_enter Try.func52, Try.ntmps52
    go_wp2
    refine bodyPost_ret (by simp [results, Try.results52, go_sem]; rfl) rfl ⟨by simp [ordVal], (Below.refl _ _).alloc (Nat.le_refl _) _⟩

set_option maxRecDepth 100000 in
set_option maxHeartbeats 4000000 in
theorem one_rf (b o cap : Nat) (b0 b1 b2 b3 : Nat) (h0 : b0 < 256) (h1 : b1 < 256) (h2 : b2 < 256) (h3 : b3 < 256) (w : World) (hs : SlAt w (some ⟨b, o, none⟩) (bys [(b0 : Int), b1, b2, b3])) (_hc : 4 ≤ cap) :
    Calls Try.prog 49 #[.slice (some ⟨b, o, none⟩) 4 cap] w (OneRet (actOf b0 b1 b2 b3) w) := by
  have hbl : b < w.heap.size := hs.lt (by simp [bys])
  have C : ∀ W, Touch (fun k => w.heap.size ≤ k) w W → W.cell? ⟨b, o, none⟩ = some (.int .u8 b0) ∧ W.cell? ⟨b, o + 1, none⟩ = some (.int .u8 b1) ∧ W.cell? ⟨b, o + 2, none⟩ = some (.int .u8 b2) ∧ W.cell? ⟨b, o + 3, none⟩ = some (.int .u8 b3) := fun W hW => by
    have h := hs.touch hW (fun x hx _ e => by cases hx; exact absurd e (Nat.not_le.2 hbl))
    exact ⟨(h 0 _ rfl).2, (h 1 _ rfl).2, (h 2 _ rfl).2, (h 3 _ rfl).2⟩
  obtain ⟨R, hR⟩ : ∃ R, R = OneRet (actOf b0 b1 b2 b3) w := ⟨_, rfl⟩
  rw [← hR]
  have HR := Lib.hid hR
  clear hR
  obtain ⟨d0, d1, d2, d3⟩ := C (w.alloc (.cells #[.int .i64 0, .int .i64 0, .int .i64 0, .int .i64 0, .int .i64 0, .int .i64 0, .int .i64 0, .slice none 0 0] 55)) ((Touch.refl _ _).alloc _)
  have CL : ∀ (W : World), Touch (fun k => w.heap.size ≤ k) w W → Below w.heap.size w W := fun W h => h.below (Nat.le_refl _) (fun k hk h => by omega)
  have HL := Lib.hid (And.intro CL C)
  clear CL C hs
  obtain ⟨P, hP⟩ : ∃ P : Int, (b0 : Int) % 16 = P := ⟨_, rfl⟩
  have hPk : (kOf (b0 % 16) = 0 ∧ P ≤ 3) ∨ (kOf (b0 % 16) = 1 ∧ 3 < P ∧ P ≤ 9) ∨ (kOf (b0 % 16) = 2 ∧ P = 10) ∨ (kOf (b0 % 16) = 3 ∧ P = 11) ∨ (kOf (b0 % 16) = 4 ∧ P = 12) ∨ (kOf (b0 % 16) = 5 ∧ P = 13) ∨ (kOf (b0 % 16) = 6 ∧ P = 14) ∨ (kOf (b0 % 16) = 7 ∧ P = 15) := by
    unfold kOf
    have := Nat.mod_lt b0 (show 16 > 0 by decide)
    repeat' split
    all_goals omega
  have hw3 : IntKind.i64.wrap (1 + (b1 : Int) % 3) = 1 + (b1 : Int) % 3 := IntWalk.i64_in _ (by omega)
  rcases hPk with ⟨hk, hp⟩ | ⟨hk, hp, hp'⟩ | ⟨hk, rfl⟩ | ⟨hk, rfl⟩ | ⟨hk, rfl⟩ | ⟨hk, rfl⟩ | ⟨hk, rfl⟩ | ⟨hk, rfl⟩
  · have HK := Lib.hid hk
    clear hk
    go_enter Try.func49, Try.ntmps49
    go_wp2
    refine bodyPost_ret (act_results Try.results49 _ w.heap.size _ _ _ _ _ _ _ _ _ _ _ rfl ((Blk.new _ _ _).alloc _)) rfl ?_
    rw [HR.out]
    refine ⟨none, 0, ?_, ?_, HL.out.1 _ (((Touch.refl _ _).alloc _).alloc _)⟩
    · simp [actOf, HK.out, actVal]
    · simpa [actOf, HK.out, bys] using World.ownsRow_nil _ _ _ _
  · have HK := Lib.hid hk
    clear hk
    go_enter Try.func49, Try.ntmps49
    go_wp2
    refine bodyPost_ret (act_results Try.results49 _ w.heap.size _ _ _ _ _ _ _ _ _ _ _ rfl ((Blk.new _ _ _).alloc _)) rfl ?_
    rw [HR.out]
    refine ⟨none, 0, ?_, ?_, HL.out.1 _ (((Touch.refl _ _).alloc _).alloc _)⟩
    · simp [actOf, HK.out, actVal]
    · simpa [actOf, HK.out, bys] using World.ownsRow_nil _ _ _ _
  · have HK := Lib.hid hk
    clear hk
    go_enter Try.func49, Try.ntmps49
    go_wp2
    refine bodyPost_ret (act_results Try.results49 _ w.heap.size _ _ _ _ _ _ _ _ _ _ _ rfl ((Blk.new _ _ _).alloc _)) rfl ?_
    rw [HR.out]
    refine ⟨none, 0, ?_, ?_, HL.out.1 _ (((Touch.refl _ _).alloc _).alloc _)⟩
    · simp [actOf, HK.out, actVal]
    · simpa [actOf, HK.out, bys] using World.ownsRow_nil _ _ _ _
  · have HK := Lib.hid hk
    clear hk
    go_enter Try.func49, Try.ntmps49
    go_wp2
    refine bodyPost_ret (act_results Try.results49 _ w.heap.size _ _ _ _ _ _ _ _ _ _ _ rfl ((Blk.new _ _ _).alloc _)) rfl ?_
    rw [HR.out]
    refine ⟨none, 0, ?_, ?_, HL.out.1 _ (((Touch.refl _ _).alloc _).alloc _)⟩
    · simp [actOf, HK.out, actVal]
    · simpa [actOf, HK.out, bys] using World.ownsRow_nil _ _ _ _
  · have HK := Lib.hid hk
    clear hk
    have kw1 : IntKind.i64.wrap (256 * (b2 : Int)) = 256 * (b2 : Int) := IntWalk.i64_in _ (by omega)
    have kw2 : IntKind.i64.wrap (256 * (b2 : Int) + b3) = 256 * (b2 : Int) + b3 := IntWalk.i64_in _ (by omega)
    have kw3 : IntKind.i64.wrap (1000 * (256 * (b2 : Int) + b3)) = ((b2 * 256 + b3) * 1000 : Nat) := by rw [IntWalk.i64_in _ (by omega)]; omega
    have kw4 : IntKind.i64.wrap ((256 * (b2 : Int) + b3) * 1000) = ((b2 * 256 + b3) * 1000 : Nat) := by rw [IntWalk.i64_in _ (by omega)]; omega
    go_enter Try.func49, Try.ntmps49
    go_wp2
    refine bodyPost_ret (act_results Try.results49 _ w.heap.size _ _ _ _ _ _ _ _ _ _ _ rfl ((Blk.new _ _ _).alloc _)) rfl ?_
    rw [HR.out]
    refine ⟨none, 0, ?_, ?_, HL.out.1 _ (((Touch.refl _ _).alloc _).alloc _)⟩
    · simp [actOf, HK.out, actVal]
    · simpa [actOf, HK.out, bys] using World.ownsRow_nil _ _ _ _
  · have HK := Lib.hid hk
    clear hk
    go_enter Try.func49, Try.ntmps49
    go_wp2
    refine bodyPost_ret (act_results Try.results49 _ w.heap.size _ _ _ _ _ _ _ _ _ _ _ rfl ((Blk.new _ _ _).alloc _)) rfl ?_
    rw [HR.out]
    refine ⟨none, 0, ?_, ?_, HL.out.1 _ (((Touch.refl _ _).alloc _).alloc _)⟩
    · simp [actOf, HK.out, actVal]
    · simpa [actOf, HK.out, bys] using World.ownsRow_nil _ _ _ _
  · have HK := Lib.hid hk
    clear hk
    go_enter Try.func49, Try.ntmps49
    go_wp2_with fail
    refine (order_rf b2 b3 h2 h3 _).mono ?_
    rintro e w1 ⟨rfl, hb1⟩
    obtain ⟨qq, hqq⟩ : ∃ qq, qq = ordOf b2 b3 := ⟨_, rfl⟩
    rw [← hqq]
    obtain ⟨n1, n2, n3, n4⟩ := qq
    obtain ⟨q1, e1⟩ : ∃ q1 : Int, q1 = (n1 : Int) := ⟨_, rfl⟩
    obtain ⟨q2, e2⟩ : ∃ q2 : Int, q2 = (n2 : Int) := ⟨_, rfl⟩
    obtain ⟨q3, e3⟩ : ∃ q3 : Int, q3 = (n3 : Int) := ⟨_, rfl⟩
    obtain ⟨q4, e4⟩ : ∃ q4 : Int, q4 = (n4 : Int) := ⟨_, rfl⟩
    simp only [ordVal]
    rw [← e1, ← e2, ← e3, ← e4]
    have HQ := Lib.hid (And.intro hqq (And.intro e1 (And.intro e2 (And.intro e3 e4))))
    have t1 : Touch (fun _ => False) ((w.alloc (.cells #[.int .i64 0, .int .i64 0, .int .i64 0, .int .i64 0, .int .i64 0, .int .i64 0, .int .i64 0, .slice none 0 0] 55)).alloc (.cells #[.int .i64 6, .int .i64 (1 + (b1 : Int) % 3), .int .i64 0, .int .i64 0, .int .i64 0, .int .i64 0, .int .i64 0, .slice none 0 0] 55)) w1 := Touch.of_below hb1
    have hBa2 : Blk w1 (w.heap.size + 1) 55 #[.int .i64 6, .int .i64 (1 + (b1 : Int) % 3), .int .i64 0, .int .i64 0, .int .i64 0, .int .i64 0, .int .i64 0, .slice none 0 0] := (Blk.new' (by simp)).touch t1 (fun h => h)
    have hBr2 : Blk w1 w.heap.size 55 #[.int .i64 0, .int .i64 0, .int .i64 0, .int .i64 0, .int .i64 0, .int .i64 0, .int .i64 0, .slice none 0 0] := ((Blk.new _ _ _).alloc _).touch t1 (fun h => h)
    have hal2 := hBa2.lt
    have hrl2 := hBr2.lt
    have a0 := hBa2.cell 0 rfl
    have f0 := hBa2.frozen 0
    have r0 := hBr2.cell 0 rfl
    have g0 := hBr2.frozen 0
    have a1 := hBa2.cell 1 rfl
    have f1 := hBa2.frozen 1
    have r1 := hBr2.cell 1 rfl
    have g1 := hBr2.frozen 1
    have a2 := hBa2.cell 2 rfl
    have f2 := hBa2.frozen 2
    have r2 := hBr2.cell 2 rfl
    have g2 := hBr2.frozen 2
    have a3 := hBa2.cell 3 rfl
    have f3 := hBa2.frozen 3
    have r3 := hBr2.cell 3 rfl
    have g3 := hBr2.frozen 3
    have a4 := hBa2.cell 4 rfl
    have f4 := hBa2.frozen 4
    have r4 := hBr2.cell 4 rfl
    have g4 := hBr2.frozen 4
    have a5 := hBa2.cell 5 rfl
    have f5 := hBa2.frozen 5
    have r5 := hBr2.cell 5 rfl
    have g5 := hBr2.frozen 5
    have a6 := hBa2.cell 6 rfl
    have f6 := hBa2.frozen 6
    have r6 := hBr2.cell 6 rfl
    have g6 := hBr2.frozen 6
    have a7 := hBa2.cell 7 rfl
    have f7 := hBa2.frozen 7
    have r7 := hBr2.cell 7 rfl
    have g7 := hBr2.frozen 7
    have HB2 := Lib.hid (And.intro hBa2 (And.intro hBr2 ((((Touch.refl (fun k => w.heap.size ≤ k) w).alloc _).alloc _).trans (t1.mono (fun _ _ h => h.elim)))))
    clear hBa2 hBr2 t1 hb1 hqq e1 e2 e3 e4
    go_wp2
    have hF := (((((((((((((HB2.out.2.1).set_ne (a := ⟨w.heap.size + 1, 3, none⟩) (by simp) (.int .i64 q1)).set_ne (a := ⟨w.heap.size + 1, 4, none⟩) (by simp) (.int .i64 q2)).set_ne (a := ⟨w.heap.size + 1, 5, none⟩) (by simp) (.int .i64 q3)).set_ne (a := ⟨w.heap.size + 1, 6, none⟩) (by simp) (.int .i64 q4)).set 0 (.int .i64 6)).set 1 (.int .i64 (1 + (b1 : Int) % 3))).set 2 (.int .i64 0)).set 3 (.int .i64 q1)).set 4 (.int .i64 q2)).set 5 (.int .i64 q3)).set 6 (.int .i64 q4)).set 7 (.slice none 0 0))
    simp only [List.setIfInBounds_toArray, List.set_cons_zero, List.set_cons_succ] at hF
    refine bodyPost_ret (act_results Try.results49 _ w.heap.size _ _ _ _ _ _ _ _ _ _ _ rfl hF) rfl ?_
    rw [HR.out]
    obtain ⟨k1, k2, k3, k4, k5⟩ := HQ.out
    refine ⟨none, 0, ?_, ?_, HL.out.1 _ ?_⟩
    · rw [k2, k3, k4, k5]; simp [actOf, HK.out, actVal, ← k1]
    · simpa [actOf, HK.out, bys] using World.ownsRow_nil _ _ _ _
    · iterate 8 (refine Touch.setCell (S := fun k => w.heap.size ≤ k) ?_ (fun _ => Nat.le_refl w.heap.size) _)
      iterate 4 (refine Touch.setCell (S := fun k => w.heap.size ≤ k) ?_ (fun _ => Nat.le_succ w.heap.size) _)
      exact HB2.out.2.2
  · have HK := Lib.hid hk
    clear hk
    have K2 : ∀ W, Touch (fun k => w.heap.size ≤ k) w W → W.cell? ⟨b, o + 2, none⟩ = some (.int .u8 b2) ∧ W.cell? ⟨b, o + 3, none⟩ = some (.int .u8 b3) := fun W hW => ⟨(HL.out.2 W hW).2.2.1, (HL.out.2 W hW).2.2.2⟩
    have HK2 := Lib.hid K2
    clear K2
    go_enter Try.func49, Try.ntmps49
    go_wp2_with fail
    go_region_held3 (fun w' => w'.cell? ⟨b, o + 2, none⟩ = some (.int .u8 b2) ∧ w'.cell? ⟨b, o + 3, none⟩ = some (.int .u8 b3)) (((with_reducible refine HK2.out _ ?_); repeat (first | (with_reducible exact Touch.refl _ _) | (with_reducible refine Touch.drew ?_) | (with_reducible refine Touch.alloc ?_ _))))
      (fail)
    go_wp2
    refine bodyPost_ret (act_results Try.results49 _ w.heap.size _ _ _ _ _ _ _ _ _ _ _ rfl (((Blk.new _ _ _).alloc _).alloc _).drew) rfl ?_
    rw [HR.out]
    have hi : (actOf b0 b1 b2 b3).inj = [(b2 : Int), b3] := by simp [actOf, HK.out]
    refine ⟨some ⟨w.heap.size + 1 + 1, 0, none⟩, 2, ?_, ?_, HL.out.1 _ ((((Touch.refl _ _).alloc _).alloc _).alloc _).drew⟩
    · simp [actOf, HK.out, actVal]
    · rw [hi]
      exact own_blk (Blk.drew (Blk.new' (by simp))) (by omega) (by simp) (by decide) rfl rfl
end Go.Proofs.Ytgoppolkplmphaa
