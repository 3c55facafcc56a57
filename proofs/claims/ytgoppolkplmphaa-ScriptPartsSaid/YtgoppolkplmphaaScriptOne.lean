/-
  THE WALK of script.one (layer 26).
-/
import Derived.Test.YtgoppolkplmphaaRows
import Derived.Test.YtgoppolkplmphaaScript
import Derived.Test.YtgoppolkplmphaaNum
namespace Go.Proofs.Ytgoppolkplmphaa
open Go.RowKit

theorem kinds_index (p : Nat) (h : p < 16) (w : World) : (Instr.index 71 (.agg kindsC) (.int .u8 (p : Int))).run Try.prog w = .ok (.int .i64 (kOf p : Nat)) w := by
  obtain rfl | rfl | rfl | rfl | rfl | rfl | rfl | rfl | rfl | rfl | rfl | rfl | rfl | rfl | rfl | rfl : p = 0 ∨ p = 1 ∨ p = 2 ∨ p = 3 ∨ p = 4 ∨ p = 5 ∨ p = 6 ∨ p = 7 ∨ p = 8 ∨ p = 9 ∨ p = 10 ∨ p = 11 ∨ p = 12 ∨ p = 13 ∨ p = 14 ∨ p = 15 := by omega
  all_goals kernel_rfl

theorem Blk.new' {w : World} {g : Nat} {c : Array Value} {T : TypeId} (h : g = w.heap.size) : Blk (w.alloc (.cells c T)) g T c := by subst h; exact Blk.new _ _ _

theorem own_blk {w : World} {base g n cap : Nat} {T : TypeId} {cur : Array Value} {xs : List Value} (hB : Blk w g T cur) (hg : base ≤ g) (hn : n ≤ cap) (hc : cap ≤ maxLen) (hs : cur.size = cap) (hx : cur.toList.take n = xs) :
    w.ownsRow base T 1 (.slice (some ⟨g, 0, none⟩) n cap) n xs := by
  refine ⟨?_, .inr ⟨g, cap, cur, rfl, hg, hB, hn, hc, by omega, by simpa using hx⟩⟩
  rw [← hx]
  simp
  omega

theorem act_results {fn : Func} (h : fn.results = #[.cell 2 55]) (tmps : Array Value) (rb : Nat) (w : World) (x0 x1 x2 x3 x4 x5 x6 : Int) (s : Option Addr) (n c : Nat) (h2 : tmps.getD 2 undef = .pointer (some ⟨rb, 0, none⟩))
    (hB : Blk w rb 55 #[.int .i64 x0, .int .i64 x1, .int .i64 x2, .int .i64 x3, .int .i64 x4, .int .i64 x5, .int .i64 x6, .slice s n c]) :
    (results fn tmps).run Try.prog w = .ok (.agg #[.int .i64 x0, .int .i64 x1, .int .i64 x2, .int .i64 x3, .int .i64 x4, .int .i64 x5, .int .i64 x6, .slice s n c]) w := by
  have q0 := hB.cell 0 rfl
  have q1 := hB.cell 1 rfl
  have q2 := hB.cell 2 rfl
  have q3 := hB.cell 3 rfl
  have q4 := hB.cell 4 rfl
  have q5 := hB.cell 5 rfl
  have q6 := hB.cell 6 rfl
  have q7 := hB.cell 7 rfl
  have h3 : tmps[2]?.getD undef = .pointer (some ⟨rb, 0, none⟩) := by simpa using h2
  simp [results, h, h3, go_sem, q0, q1, q2, q3, q4, q5, q6, q7]

set_option maxRecDepth 100000 in
set_option maxHeartbeats 4000000 in
theorem one_any (b o cap : Nat) (b0 b1 b2 b3 : Nat) (h0 : b0 < 256) (h1 : b1 < 256) (h2 : b2 < 256) (h3 : b3 < 256) (w : World) (hs : SlAt w (some ⟨b, o, none⟩) (bys [(b0 : Int), b1, b2, b3])) (_hc : 4 ≤ cap) :
    Calls Try.prog 48 #[.slice (some ⟨b, o, none⟩) 4 cap] w (OneRet (actOf b0 b1 b2 b3) w) := by
  have hbl : b < w.heap.size := hs.lt (by simp [bys])
  have C : ∀ W, Touch (fun _ => False) w W → W.cell? ⟨b, o, none⟩ = some (.int .u8 b0) ∧ W.cell? ⟨b, o + 1, none⟩ = some (.int .u8 b1) ∧ W.cell? ⟨b, o + 2, none⟩ = some (.int .u8 b2) ∧ W.cell? ⟨b, o + 3, none⟩ = some (.int .u8 b3) := fun W hW => by
    have h := hs.touch hW (fun _ _ _ h => h)
    exact ⟨(h 0 _ rfl).2, (h 1 _ rfl).2, (h 2 _ rfl).2, (h 3 _ rfl).2⟩
  obtain ⟨R, hR⟩ : ∃ R, R = OneRet (actOf b0 b1 b2 b3) w := ⟨_, rfl⟩
  rw [← hR]
  have HR := Lib.hid hR
  clear hR
  obtain ⟨Z, hZ⟩ : ∃ Z, Z = w.alloc (.cells #[.int .i64 0, .int .i64 0, .int .i64 0, .int .i64 0, .int .i64 0, .int .i64 0, .int .i64 0, .slice none 0 0] 55) := ⟨_, rfl⟩
  have tZ : Touch (fun _ => False) w Z := by rw [hZ]; exact (Touch.refl _ _).alloc _
  obtain ⟨d0, d1, d2, d3⟩ := C Z tZ
  rw [hZ] at d0 d1 d2 d3
  go_enter Try.func48, Try.ntmps48
  go_wp2_with fail
  go_quiet (fail)
  go_wp2_with fail
  clear d0 d1 d2 d3 hs
  obtain ⟨Y, hY⟩ : ∃ Y, Y = Z.drewN nq := ⟨_, rfl⟩
  have tY : Touch (fun _ => False) w Y := by rw [hY]; exact tZ.drewN nq
  have bY : Blk Y w.heap.size 55 #[.int .i64 0, .int .i64 0, .int .i64 0, .int .i64 0, .int .i64 0, .int .i64 0, .int .i64 0, .slice none 0 0] := by rw [hY, hZ]; exact (Blk.new _ _ _).drewN nq
  rw [← hZ, ← hY]
  have HY := Lib.hid (And.intro tY bY)
  have HC := Lib.hid C
  clear hZ hY tZ tY bY C
  have hYs : w.heap.size < Y.heap.size := HY.out.2.lt
  obtain ⟨kv, hkv⟩ : ∃ kv, kv = kOf (b0 % 16) := ⟨_, rfl⟩
  go_cut [5] from 6 to 26 (fun q w2 => ∃ ab, q = .pointer (some ⟨ab, 0, none⟩) ∧ Y.heap.size ≤ ab ∧ Blk w2 ab 55 #[.int .i64 kv, .int .i64 (1 + (b1 : Int) % 3), .int .i64 0, .int .i64 0, .int .i64 0, .int .i64 0, .int .i64 0, .slice none 0 0] ∧ Touch (fun _ => False) Y w2)
  case first =>
    have hix : ∀ (w : World), (Instr.index 71 (.agg kindsC) (.int .u8 ((b0 : Int) % 16))).run Try.prog w = .ok (.int .i64 kv) w := fun w => by
      rw [hkv, show ((b0 : Int) % 16) = ((b0 % 16 : Nat) : Int) by omega]
      exact kinds_index (b0 % 16) (Nat.mod_lt _ (by decide)) w
    have hpi : (b0 : Int).tmod 16 = (b0 : Int) % 16 := Int.tmod_eq_emod_of_nonneg (by omega)
    have hw1 : IntKind.i64.wrap (b1 : Int) = b1 := IntWalk.i64_in _ (by omega)
    have hw2 : (b1 : Int).tmod 3 = (b1 : Int) % 3 := Int.tmod_eq_emod_of_nonneg (by omega)
    have hw3 : IntKind.i64.wrap (1 + (b1 : Int) % 3) = 1 + (b1 : Int) % 3 := IntWalk.i64_in _ (by omega)
    clear hkv
    obtain ⟨e0, e1, _, _⟩ := HC.out Y.drew HY.out.1.drew
    have hK : ∀ W, Touch (fun _ => False) Y W → W.cell? ⟨b, o, none⟩ = some (.int .u8 b0) ∧ W.cell? ⟨b, o + 1, none⟩ = some (.int .u8 b1) := fun W hW => by
      obtain ⟨f0, f1, _, _⟩ := HC.out W (HY.out.1.trans hW)
      exact ⟨f0, f1⟩
    have HK := Lib.hid hK
    clear hK
    have st0 : True := trivial
    go_region_held3 (fun w' => w'.cell? ⟨b, o, none⟩ = some (.int .u8 b0) ∧ w'.cell? ⟨b, o + 1, none⟩ = some (.int .u8 b1)) (((with_reducible refine HK.out _ ?_); repeat (first | (with_reducible exact tk) | (with_reducible exact Touch.refl _ _) | (with_reducible refine Touch.drew ?_) | (with_reducible refine Touch.alloc ?_ _) | (with_reducible refine Touch.setCell ?_ (fun h => by have q := h; have := tk.size; first | (simp at q; done) | (simp at q; omega) | omega) _))))
      (first
        | (have _t := st0; go_at_call 50; refine (kinds_any (Y.drew.alloc (.cells #[.int .i64 0, .int .i64 0, .int .i64 0, .int .i64 0, .int .i64 0, .int .i64 0, .int .i64 0, .slice none 0 0] 55))).mono ?_; rintro e w1 ⟨rfl, hb1⟩; have tk : Touch (fun _ => False) Y w1 := (((Touch.refl _ _).drew).alloc _).trans hb1; have bk : Blk w1 Y.heap.size 55 #[.int .i64 0, .int .i64 0, .int .i64 0, .int .i64 0, .int .i64 0, .int .i64 0, .int .i64 0, .slice none 0 0] := (Blk.new Y.drew #[.int .i64 0, .int .i64 0, .int .i64 0, .int .i64 0, .int .i64 0, .int .i64 0, .int .i64 0, .slice none 0 0] 55).touch hb1 (fun h => h); have hlt := bk.lt; have z0 := bk.cell 0 rfl; have y0 := bk.frozen 0; have z1 := bk.cell 1 rfl; have y1 := bk.frozen 1; have z2 := bk.cell 2 rfl; have y2 := bk.frozen 2; have z3 := bk.cell 3 rfl; have y3 := bk.frozen 3; have z4 := bk.cell 4 rfl; have y4 := bk.frozen 4; have z5 := bk.cell 5 rfl; have y5 := bk.frozen 5; have z6 := bk.cell 6 rfl; have y6 := bk.frozen 6; have z7 := bk.cell 7 rfl; have y7 := bk.frozen 7; have BK := Lib.hid bk; clear st0 _t hb1 bk)
        | (have _t := st0; go_at_call 50; refine (kinds_any Y.drew).mono ?_; rintro e w1 ⟨rfl, hb1⟩; have tk : Touch (fun _ => False) Y w1 := ((Touch.refl _ _).drew).trans hb1; clear st0 _t hb1))
    all_goals go_wp2
    all_goals go_meet
    all_goals
      case rel =>
        refine ⟨_, rfl, by have := tk.size; first | omega | exact Nat.le_refl _, ?_, ?_⟩
        · first
            | with_reducible exact Blk.new _ _ _
            | (have h := (((((((BK.out.set 0 (.int .i64 kv)).set 1 (.int .i64 (1 + (b1 : Int) % 3))).set 2 (.int .i64 0)).set 3 (.int .i64 0)).set 4 (.int .i64 0)).set 5 (.int .i64 0)).set 6 (.int .i64 0)).set 7 (.slice none 0 0)
               simp only [List.setIfInBounds_toArray, List.set_cons_zero, List.set_cons_succ] at h
               exact h)
        · repeat (first | (with_reducible exact tk) | (with_reducible refine Touch.alloc ?_ _) | (with_reducible refine Touch.setCell ?_ (fun h => absurd (show Y.heap.size < Y.heap.size from h) (Nat.lt_irrefl _)) _))
  case rest =>
    obtain ⟨ab, rfl, hab, hBa, hta⟩ := hcut
    have hBr := HY.out.2.touch hta (fun h => h)
    obtain ⟨e0, e1, e2, e3⟩ := HC.out wc (HY.out.1.trans hta)
    have hal := hBa.lt
    have hrl := hBr.lt
    have hne : ab ≠ w.heap.size := by omega
    have a0 := hBa.cell 0 rfl
    have f0 := hBa.frozen 0
    have r0 := hBr.cell 0 rfl
    have g0 := hBr.frozen 0
    have a1 := hBa.cell 1 rfl
    have f1 := hBa.frozen 1
    have r1 := hBr.cell 1 rfl
    have g1 := hBr.frozen 1
    have a2 := hBa.cell 2 rfl
    have f2 := hBa.frozen 2
    have r2 := hBr.cell 2 rfl
    have g2 := hBr.frozen 2
    have a3 := hBa.cell 3 rfl
    have f3 := hBa.frozen 3
    have r3 := hBr.cell 3 rfl
    have g3 := hBr.frozen 3
    have a4 := hBa.cell 4 rfl
    have f4 := hBa.frozen 4
    have r4 := hBr.cell 4 rfl
    have g4 := hBr.frozen 4
    have a5 := hBa.cell 5 rfl
    have f5 := hBa.frozen 5
    have r5 := hBr.cell 5 rfl
    have g5 := hBr.frozen 5
    have a6 := hBa.cell 6 rfl
    have f6 := hBa.frozen 6
    have r6 := hBr.cell 6 rfl
    have g6 := hBr.frozen 6
    have a7 := hBa.cell 7 rfl
    have f7 := hBa.frozen 7
    have r7 := hBr.cell 7 rfl
    have g7 := hBr.frozen 7
    have tW : Touch (fun k => w.heap.size ≤ k) w wc := (HY.out.1.trans hta).mono (fun _ _ h => h.elim)
    have HA := Lib.hid (And.intro hBa (And.intro hBr (And.intro tW (And.intro hkv (HY.out.1.trans hta)))))
    have hk7 : kv = 0 ∨ kv = 1 ∨ kv = 2 ∨ kv = 3 ∨ kv = 4 ∨ kv = 5 ∨ kv = 6 ∨ kv = 7 := by
      rw [hkv]
      unfold kOf
      have := Nat.mod_lt b0 (show 16 > 0 by decide)
      repeat' split
      all_goals omega
    clear hBa hta hBr hkv tW
    have CL : ∀ (W : World), Touch (fun k => w.heap.size ≤ k) w W → Below w.heap.size w W := fun W h => h.below (Nat.le_refl _) (fun k hk h => by omega)
    have HL := Lib.hid CL
    clear CL
    rcases hk7 with rfl | rfl | rfl | rfl | rfl | rfl | rfl | rfl
    · go_wp2
      have hF := ((((((((HA.out.2.1.set 0 (.int .i64 0)).set 1 (.int .i64 (1 + (b1 : Int) % 3))).set 2 (.int .i64 0)).set 3 (.int .i64 0)).set 4 (.int .i64 0)).set 5 (.int .i64 0)).set 6 (.int .i64 0)).set 7 (.slice none 0 0))
      simp only [List.setIfInBounds_toArray, List.set_cons_zero, List.set_cons_succ] at hF
      refine bodyPost_ret (act_results Try.results48 _ w.heap.size _ _ _ _ _ _ _ _ _ _ _ rfl hF) rfl ?_
      have hk := HA.out.2.2.2.1
      rw [HR.out]
      refine ⟨none, 0, ?_, ?_, HL.out _ ?_⟩
      · simp [actOf, ← hk, actVal]
      · simpa [actOf, ← hk, bys] using World.ownsRow_nil _ _ _ _
      · iterate 8 (refine Touch.setCell (S := fun k => w.heap.size ≤ k) ?_ (fun _ => Nat.le_refl w.heap.size) _)
        exact HA.out.2.2.1
    · go_wp2
      have hF := (((((((((HA.out.2.1.set_ne (a := ⟨ab, 2, none⟩) (Ne.symm hne) (.int .i64 b2)).set 0 (.int .i64 1)).set 1 (.int .i64 (1 + (b1 : Int) % 3))).set 2 (.int .i64 b2)).set 3 (.int .i64 0)).set 4 (.int .i64 0)).set 5 (.int .i64 0)).set 6 (.int .i64 0)).set 7 (.slice none 0 0))
      simp only [List.setIfInBounds_toArray, List.set_cons_zero, List.set_cons_succ] at hF
      refine bodyPost_ret (act_results Try.results48 _ w.heap.size _ _ _ _ _ _ _ _ _ _ _ rfl hF) rfl ?_
      have hk := HA.out.2.2.2.1
      rw [HR.out]
      refine ⟨none, 0, ?_, ?_, HL.out _ ?_⟩
      · simp [actOf, ← hk, actVal]
      · simpa [actOf, ← hk, bys] using World.ownsRow_nil _ _ _ _
      · iterate 8 (refine Touch.setCell (S := fun k => w.heap.size ≤ k) ?_ (fun _ => Nat.le_refl w.heap.size) _)
        exact (Touch.setCell (S := fun k => w.heap.size ≤ k) HA.out.2.2.1 (p := ⟨ab, 2, none⟩) (fun _ => Nat.le_trans (Nat.le_of_lt hYs) hab) (.int .i64 b2))
    · go_wp2
      have hF := (((((((((HA.out.2.1.set_ne (a := ⟨ab, 2, none⟩) (Ne.symm hne) (.int .i64 b2)).set 0 (.int .i64 2)).set 1 (.int .i64 (1 + (b1 : Int) % 3))).set 2 (.int .i64 b2)).set 3 (.int .i64 0)).set 4 (.int .i64 0)).set 5 (.int .i64 0)).set 6 (.int .i64 0)).set 7 (.slice none 0 0))
      simp only [List.setIfInBounds_toArray, List.set_cons_zero, List.set_cons_succ] at hF
      refine bodyPost_ret (act_results Try.results48 _ w.heap.size _ _ _ _ _ _ _ _ _ _ _ rfl hF) rfl ?_
      have hk := HA.out.2.2.2.1
      rw [HR.out]
      refine ⟨none, 0, ?_, ?_, HL.out _ ?_⟩
      · simp [actOf, ← hk, actVal]
      · simpa [actOf, ← hk, bys] using World.ownsRow_nil _ _ _ _
      · iterate 8 (refine Touch.setCell (S := fun k => w.heap.size ≤ k) ?_ (fun _ => Nat.le_refl w.heap.size) _)
        exact (Touch.setCell (S := fun k => w.heap.size ≤ k) HA.out.2.2.1 (p := ⟨ab, 2, none⟩) (fun _ => Nat.le_trans (Nat.le_of_lt hYs) hab) (.int .i64 b2))
    · go_wp2
      have hF := (((((((((HA.out.2.1.set_ne (a := ⟨ab, 2, none⟩) (Ne.symm hne) (.int .i64 b2)).set 0 (.int .i64 3)).set 1 (.int .i64 (1 + (b1 : Int) % 3))).set 2 (.int .i64 b2)).set 3 (.int .i64 0)).set 4 (.int .i64 0)).set 5 (.int .i64 0)).set 6 (.int .i64 0)).set 7 (.slice none 0 0))
      simp only [List.setIfInBounds_toArray, List.set_cons_zero, List.set_cons_succ] at hF
      refine bodyPost_ret (act_results Try.results48 _ w.heap.size _ _ _ _ _ _ _ _ _ _ _ rfl hF) rfl ?_
      have hk := HA.out.2.2.2.1
      rw [HR.out]
      refine ⟨none, 0, ?_, ?_, HL.out _ ?_⟩
      · simp [actOf, ← hk, actVal]
      · simpa [actOf, ← hk, bys] using World.ownsRow_nil _ _ _ _
      · iterate 8 (refine Touch.setCell (S := fun k => w.heap.size ≤ k) ?_ (fun _ => Nat.le_refl w.heap.size) _)
        exact (Touch.setCell (S := fun k => w.heap.size ≤ k) HA.out.2.2.1 (p := ⟨ab, 2, none⟩) (fun _ => Nat.le_trans (Nat.le_of_lt hYs) hab) (.int .i64 b2))
    · obtain ⟨X, hX⟩ : ∃ X : Int, X = ((b2 * 256 + b3 : Nat) : Int) := ⟨_, rfl⟩
      have ho : bits BinOp.or IntKind.i64 ((b2 : Int) * 256) (b3 : Int) = X := by rw [hX]; exact or_byte b2 b3 (by omega) h3
      obtain ⟨KV, hKV⟩ : ∃ KV : Int, KV = (((b2 * 256 + b3) * 1000 : Nat) : Int) := ⟨_, rfl⟩
      have hx : IntKind.i64.wrap (X * 1000) = KV := by rw [IntWalk.i64_in _ (by omega)]; omega
      have HX := Lib.hid hKV
      clear hX hKV
      go_wp2
      have hF := (((((((((HA.out.2.1.set_ne (a := ⟨ab, 2, none⟩) (Ne.symm hne) (.int .i64 KV)).set 0 (.int .i64 4)).set 1 (.int .i64 (1 + (b1 : Int) % 3))).set 2 (.int .i64 KV)).set 3 (.int .i64 0)).set 4 (.int .i64 0)).set 5 (.int .i64 0)).set 6 (.int .i64 0)).set 7 (.slice none 0 0))
      simp only [List.setIfInBounds_toArray, List.set_cons_zero, List.set_cons_succ] at hF
      refine bodyPost_ret (act_results Try.results48 _ w.heap.size _ _ _ _ _ _ _ _ _ _ _ rfl hF) rfl ?_
      have hk := HA.out.2.2.2.1
      rw [HR.out]
      refine ⟨none, 0, ?_, ?_, HL.out _ ?_⟩
      · rw [HX.out]; simp [actOf, ← hk, actVal]
      · simpa [actOf, ← hk, bys] using World.ownsRow_nil _ _ _ _
      · iterate 8 (refine Touch.setCell (S := fun k => w.heap.size ≤ k) ?_ (fun _ => Nat.le_refl w.heap.size) _)
        exact (Touch.setCell (S := fun k => w.heap.size ≤ k) HA.out.2.2.1 (p := ⟨ab, 2, none⟩) (fun _ => Nat.le_trans (Nat.le_of_lt hYs) hab) (.int .i64 KV))
    · go_wp2
      have hF := ((((((((HA.out.2.1.set 0 (.int .i64 5)).set 1 (.int .i64 (1 + (b1 : Int) % 3))).set 2 (.int .i64 0)).set 3 (.int .i64 0)).set 4 (.int .i64 0)).set 5 (.int .i64 0)).set 6 (.int .i64 0)).set 7 (.slice none 0 0))
      simp only [List.setIfInBounds_toArray, List.set_cons_zero, List.set_cons_succ] at hF
      refine bodyPost_ret (act_results Try.results48 _ w.heap.size _ _ _ _ _ _ _ _ _ _ _ rfl hF) rfl ?_
      have hk := HA.out.2.2.2.1
      rw [HR.out]
      refine ⟨none, 0, ?_, ?_, HL.out _ ?_⟩
      · simp [actOf, ← hk, actVal]
      · simpa [actOf, ← hk, bys] using World.ownsRow_nil _ _ _ _
      · iterate 8 (refine Touch.setCell (S := fun k => w.heap.size ≤ k) ?_ (fun _ => Nat.le_refl w.heap.size) _)
        exact HA.out.2.2.1
    · go_wp2_with fail
      clear a0 f0 r0 g0 a1 f1 r1 g1 a2 f2 r2 g2 a3 f3 r3 g3 a4 f4 r4 g4 a5 f5 r5 g5 a6 f6 r6 g6 a7 f7 r7 g7 e0 e1 e2 e3
      refine (order_any b2 b3 h2 h3 wc).mono ?_
      rintro e w1 ⟨rfl, hb1⟩
      obtain ⟨qq, hqq⟩ : ∃ qq, qq = ordOf b2 b3 := ⟨_, rfl⟩
      rw [← hqq]
      obtain ⟨n1, n2, n3, n4⟩ := qq
      obtain ⟨q1, e1⟩ : ∃ q1 : Int, q1 = (n1 : Int) := ⟨_, rfl⟩
      obtain ⟨q2, e2⟩ : ∃ q2 : Int, q2 = (n2 : Int) := ⟨_, rfl⟩
      obtain ⟨q3, e3⟩ : ∃ q3 : Int, q3 = (n3 : Int) := ⟨_, rfl⟩
      obtain ⟨q4, e4⟩ : ∃ q4 : Int, q4 = (n4 : Int) := ⟨_, rfl⟩
      simp only [ordVal]
      rw [← e1, ← e2, ← e3, ← e4]
      have HQ := Lib.hid (And.intro hqq (And.intro e1 (And.intro e2 (And.intro e3 e4))))
      have t1 : Touch (fun _ => False) wc w1 := Touch.of_below hb1
      have hBa2 := HA.out.1.touch t1 (fun h => h)
      have hBr2 := HA.out.2.1.touch t1 (fun h => h)
      have hal2 := hBa2.lt
      have hrl2 := hBr2.lt
      have a0 := hBa2.cell 0 rfl
      have f0 := hBa2.frozen 0
      have r0 := hBr2.cell 0 rfl
      have g0 := hBr2.frozen 0
      have a1 := hBa2.cell 1 rfl
      have f1 := hBa2.frozen 1
      have r1 := hBr2.cell 1 rfl
      have g1 := hBr2.frozen 1
      have a2 := hBa2.cell 2 rfl
      have f2 := hBa2.frozen 2
      have r2 := hBr2.cell 2 rfl
      have g2 := hBr2.frozen 2
      have a3 := hBa2.cell 3 rfl
      have f3 := hBa2.frozen 3
      have r3 := hBr2.cell 3 rfl
      have g3 := hBr2.frozen 3
      have a4 := hBa2.cell 4 rfl
      have f4 := hBa2.frozen 4
      have r4 := hBr2.cell 4 rfl
      have g4 := hBr2.frozen 4
      have a5 := hBa2.cell 5 rfl
      have f5 := hBa2.frozen 5
      have r5 := hBr2.cell 5 rfl
      have g5 := hBr2.frozen 5
      have a6 := hBa2.cell 6 rfl
      have f6 := hBa2.frozen 6
      have r6 := hBr2.cell 6 rfl
      have g6 := hBr2.frozen 6
      have a7 := hBa2.cell 7 rfl
      have f7 := hBa2.frozen 7
      have r7 := hBr2.cell 7 rfl
      have g7 := hBr2.frozen 7
      have HB2 := Lib.hid (And.intro hBa2 (And.intro hBr2 (HA.out.2.2.1.trans (t1.mono (fun _ _ h => h.elim)))))
      clear hBa2 hBr2 t1 hb1 hqq e1 e2 e3 e4
      go_wp2
      have hF := (((((((((((((HB2.out.2.1).set_ne (a := ⟨ab, 3, none⟩) (Ne.symm hne) (.int .i64 q1)).set_ne (a := ⟨ab, 4, none⟩) (Ne.symm hne) (.int .i64 q2)).set_ne (a := ⟨ab, 5, none⟩) (Ne.symm hne) (.int .i64 q3)).set_ne (a := ⟨ab, 6, none⟩) (Ne.symm hne) (.int .i64 q4)).set 0 (.int .i64 6)).set 1 (.int .i64 (1 + (b1 : Int) % 3))).set 2 (.int .i64 0)).set 3 (.int .i64 q1)).set 4 (.int .i64 q2)).set 5 (.int .i64 q3)).set 6 (.int .i64 q4)).set 7 (.slice none 0 0))
      simp only [List.setIfInBounds_toArray, List.set_cons_zero, List.set_cons_succ] at hF
      refine bodyPost_ret (act_results Try.results48 _ w.heap.size _ _ _ _ _ _ _ _ _ _ _ rfl hF) rfl ?_
      have hk := HA.out.2.2.2.1
      rw [HR.out]
      obtain ⟨k1, k2, k3, k4, k5⟩ := HQ.out
      refine ⟨none, 0, ?_, ?_, HL.out _ ?_⟩
      · rw [k2, k3, k4, k5]; simp [actOf, ← hk, actVal, ← k1]
      · simpa [actOf, ← hk, bys] using World.ownsRow_nil _ _ _ _
      · iterate 8 (refine Touch.setCell (S := fun k => w.heap.size ≤ k) ?_ (fun _ => Nat.le_refl w.heap.size) _)
        iterate 4 (refine Touch.setCell (S := fun k => w.heap.size ≤ k) ?_ (fun _ => Nat.le_trans (Nat.le_of_lt hYs) hab) _)
        exact HB2.out.2.2
    · have HCk : ∀ W, Touch (fun k => k = ab) wc W → W.cell? ⟨b, o + 2, none⟩ = some (.int .u8 b2) ∧ W.cell? ⟨b, o + 3, none⟩ = some (.int .u8 b3) := fun W hW => by
        have hb : W.heap[b]? = wc.heap[b]? := hW.block b (by omega) (by omega)
        exact ⟨by rw [World.cell?_of_block (w := wc) (a := ⟨b, o + 2, none⟩) hb]; exact e2, by rw [World.cell?_of_block (w := wc) (a := ⟨b, o + 3, none⟩) hb]; exact e3⟩
      have HK := Lib.hid HCk
      clear HCk
      go_wp2_with fail
      go_region_held3 (fun w' => w'.cell? ⟨b, o + 2, none⟩ = some (.int .u8 b2) ∧ w'.cell? ⟨b, o + 3, none⟩ = some (.int .u8 b3)) (((with_reducible refine HK.out _ ?_); repeat (first | (with_reducible exact Touch.refl _ _) | (with_reducible refine Touch.drew ?_) | (with_reducible refine Touch.alloc ?_ _) | (refine Touch.setCell (S := fun k => k = ab) ?_ (fun _ => rfl) _))))
        (fail)
      go_wp2
      have hF := (((((((((HA.out.2.1.set_ne (a := ⟨ab, 7, none⟩) (Ne.symm hne) (.slice (some ⟨wc.heap.size, 0, none⟩) 2 2)).set 0 (.int .i64 7)).set 1 (.int .i64 (1 + (b1 : Int) % 3))).set 2 (.int .i64 0)).set 3 (.int .i64 0)).set 4 (.int .i64 0)).set 5 (.int .i64 0)).set 6 (.int .i64 0)).set 7 (.slice (some ⟨wc.heap.size, 0, none⟩) 2 2))
      simp only [List.setIfInBounds_toArray, List.set_cons_zero, List.set_cons_succ] at hF
      refine bodyPost_ret (act_results Try.results48 _ w.heap.size _ _ _ _ _ _ _ _ _ _ _ rfl (hF.alloc _).drew) rfl ?_
      have hk := HA.out.2.2.2.1
      rw [HR.out]
      have hi : (actOf b0 b1 b2 b3).inj = [(b2 : Int), b3] := by simp [actOf, ← hk]
      refine ⟨some ⟨wc.heap.size, 0, none⟩, 2, ?_, ?_, HL.out _ ?_⟩
      · simp [actOf, ← hk, actVal]
      · rw [hi]
        exact own_blk (Blk.drew (Blk.new' (by simp))) (by omega) (by simp) (by decide) rfl rfl
      · refine Touch.drew (Touch.alloc ?_ _)
        iterate 8 (refine Touch.setCell (S := fun k => w.heap.size ≤ k) ?_ (fun _ => Nat.le_refl w.heap.size) _)
        exact (Touch.setCell (S := fun k => w.heap.size ≤ k) HA.out.2.2.1 (p := ⟨ab, 7, none⟩) (fun _ => Nat.le_trans (Nat.le_of_lt hYs) hab) (.slice (some ⟨wc.heap.size, 0, none⟩) 2 2))
end Go.Proofs.Ytgoppolkplmphaa
