/-
  THE WALKS of the document's digest (layer 2): constants, padded, words.
-/
import Derived.Test.YthlkmofemnepbaaRows
import Derived.Test.YthlkmofemnepbaaDigestSum
namespace Go.Proofs.Ythlkmofemnepbaa
open Go.RowKit

/-- An operation whose value and world are reckoned by the kernel (a great slice that is built). -/
theorem wpList_run {P : Program} {ops : Array Oper} {rest : List Oper} {o : Oper} {a : Act} {w : World} {Q : Exit → Act → World → Prop} (hg : o.guard = none) (v : Value) (w' : World)
    (h : (execOp a.eval o).run P w = .ok (.value v) w') (hK : wpList P ops Q rest (a.put o.dst v) w') : wpList P ops Q (o :: rest) a w := by
  refine wpList_plain hg fun K hK' => ?_
  unfold Oper.wp
  rw [h]
  exact hK' _ _ hK

theorem Try.info91 : (Try.prog.info? 91).map (fun i => (i.zero, i.size, i.bytes)) = some (some (.int .u32 0), 1, 4) := by kernel_rfl

set_option maxRecDepth 100000 in
theorem refConstants_any (w : World) : Calls Try.prog 90 #[] w (Made 91 (u32s shaK) w) := by
  go_enter Try.func90, Try.ntmps90
  go_wp2_with (refine wpList_run (o := ⟨some 1, _, _, _, _, _⟩) rfl (.slice (some ⟨w.heap.size, 0, none⟩) 64 64) (w.alloc (.cells shaKC 91)) (by kernel_rfl) ?_)
  go_ret
  refine ⟨_, rfl, ⟨rfl, .inr ⟨w.heap.size, 64, shaKC, rfl, Nat.le_refl _, heap_alloc_new _ _, Nat.le_refl _, by unfold maxLen; omega, rfl, ?_⟩⟩, (Below.refl _ _).alloc (Nat.le_refl _) _⟩
  rw [shaKC_eq]
  rfl

/-- A row of bytes of the call's own that grows. -/
structure RowSt (w wz : World) (s : Value) (n : Nat) (xs : List Nat) : Prop where
  row : wz.ownsRow w.heap.size 5 1 s n (bn xs)
  bel : Below w.heap.size w wz

theorem RowSt.form {w wz : World} {s : Value} {n : Nat} {xs : List Nat} (h : RowSt w wz s n xs) : ∃ a c, s = .slice a n c ∧ n ≤ c ∧ c ≤ maxLen := by
  obtain ⟨a, c, rfl, _, h1, h2, _⟩ := owns_form h.row
  exact ⟨a, c, rfl, h1, h2⟩

theorem RowSt.grow {w wz w2 : World} {s v : Value} {n : Nat} {xs : List Nat} (h : RowSt w wz s n xs) {o : Obj} {u : Value} (y : Nat) (hu : u = .int .u8 (y : Int))
    (ho : w2.ownsRow w.heap.size 5 1 v (n + 1) (bn xs ++ [u])) (hg : (wz.alloc o).grownBy w2 s.ownBlock) : RowSt w w2 v (n + 1) (xs ++ [y]) := by
  subst hu
  have hq : ∀ q, s.ownBlock = some q → w.heap.size ≤ q := fun q hq => by
    obtain ⟨x, cp, hv, _, _, _, hx⟩ := owns_form h.row
    rw [hv] at hq
    cases x with
    | none => cases hq
    | some y => cases hq; exact (hx y rfl).1
  have hs := h.bel.size
  have ht : Touch (fun k => w.heap.size ≤ k) wz w2 := ((Touch.refl _ _).alloc o).grown hg (fun k hk _ => hq k hk)
  refine ⟨by rw [bn_append]; exact ho, ?_⟩
  exact h.bel.trans (ht.below (by omega) (fun k hk h => by omega))

theorem RowSt.last {w wz : World} {v : Value} {n n' : Nat} {B l : List Nat} {y y' : Nat} (h : RowSt w wz v n (B ++ (l ++ [y]))) (e : y = y') (hn : n = n') : RowSt w wz v n' (B ++ (l ++ [y'])) := by
  subst e; subst hn; exact h

set_option maxHeartbeats 4000000 in
set_option maxRecDepth 100000 in
theorem padded_any (a : Option Addr) (cap : Nat) (b : List Nat) (w : World) (hs : SlAt w a (bn b)) (hc : a = none → cap = 0) (hn : b.length ≤ 1000000) :
    Calls Try.prog 84 #[.slice a b.length cap] w (Made 5 (bn (padded b)) w) := by
  obtain ⟨i0, hi, hz0, hz1, hz2⟩ := info_parts Try.info5
  have hsv : SlAt (w.alloc (.cells #[] 5)) a (bn b) := hs.touch ((Touch.refl (fun _ => False) _).alloc _) (fun _ _ _ h => h)
  go_enter Try.func84, Try.ntmps84
  go_wp2_with (first
    | (at_builtin; refine wpList_append_any rfl (.tmp 6) (.tmp 7) 26 rfl w.heap.size 5 i0 (.int .u8 0) 1 Try.underlying26 hi hz0 hz1 hz2 rfl _ 0 [] rfl (World.ownsRow_made w #[] 0 (Nat.le_refl _) (Nat.zero_le _) rfl) a b.length cap (bn b) rfl (bn_len _) hsv hc (bn_one _) (by unfold maxLen; omega) (by omega) (by simp) ?_; intro v1 w1 ho1 hg1 _; have H1 : Hid (RowSt w w1 v1 b.length b) := Lib.hid ⟨by simpa using ho1, ((Below.refl _ _).alloc (Nat.le_refl _) _).grown hg1 (by simp) (fun k hk => by cases hk; exact Nat.le_refl _)⟩; clear ho1 hg1)
    | (at_builtin; refine wpList_append_one rfl (.tmp 8) (.tmp 9) 26 rfl w.heap.size 5 i0 (.int .u8 0) 1 Try.underlying26 hi hz0 hz1 hz2 rfl _ _ _ rfl (H1.out.row.alloc _) _ _ rfl (by simp; rfl) rfl (by unfold maxLen; omega) (by omega) (by have := H1.out.bel.size; simp; omega) ?_; intro v2 w2 ho2 hg2; have H2 : Hid (RowSt w w2 v2 (b.length + 1) (b ++ [128])) := Lib.hid (H1.out.grow 128 rfl ho2 hg2); clear ho2 hg2))
  clear hs hsv hc
  obtain ⟨pz, hpz⟩ : ∃ pz, pz = padZeros b.length := ⟨_, rfl⟩
  have hpz64 : pz < 64 := by rw [hpz]; unfold padZeros; omega
  have hpm : ∀ z, z ≤ pz → ((b.length + 1 + z) % 64 = 56 ↔ z = pz) := fun z hz => by rw [hpz] at hz ⊢; unfold padZeros at hz ⊢; omega
  have HZ := Lib.hid (And.intro hpz hpm)
  clear hpz hpm
  go_loopw [3] (fun s wz => ∃ z : Nat, z ≤ pz ∧ RowSt w wz s (b.length + 1 + z) (b ++ 128 :: List.replicate z 0)) (fun s _ => 64 + b.length + 1 - lenOf s)
  case atStart => exact ⟨0, Nat.zero_le _, H2.out⟩
  case round =>
    obtain ⟨z, hz, hS⟩ := hrel
    obtain ⟨a3, c3, rfl, hc3, hm3⟩ := hS.form
    have HS := Lib.hid (And.intro hS hm3)
    clear hS hm3
    by_cases hq : z = pz
    · have ht : (((b.length : Int) + 1 + (z : Int)) % 64 != 56) = false := by
        have := (HZ.out.2 z hz).2 hq
        have e : ((b.length : Int) + 1 + (z : Int)) % 64 = 56 := by omega
        rw [e]; rfl
      subst hq
      go_wp2_with fail
      have H5 : Hid (RowSt w wr (.slice a3 (b.length + 1 + z) c3) (b.length + 1 + z) (b ++ 128 :: List.replicate z 0)) := Lib.hid HS.out.1
      obtain ⟨B0, hB0⟩ : ∃ B0, B0 = b ++ 128 :: List.replicate z 0 := ⟨_, rfl⟩
      rw [← hB0] at H5
      have HB0 := Lib.hid hB0
      clear hB0
      go_loopw [3, 5] (fun s c wz => ∃ j : Nat, j ≤ 8 ∧ c = .int .i64 j ∧ RowSt w wz s (b.length + 1 + z + j) (B0 ++ (lenBytes b.length).take j)) (fun _ c _ => (8 - intOf c).toNat)
      case atStart => exact ⟨0, Nat.zero_le _, rfl, by simpa using H5.out⟩
      case round =>
        obtain ⟨j, hj, rfl, hS⟩ := hrel
        obtain ⟨a6, c6, rfl, hc6, hm6⟩ := hS.form
        have H6 := Lib.hid (And.intro hS hm6)
        clear hS hm6
        by_cases hj8 : j = 8
        · subst hj8
          have hPd : B0 ++ (lenBytes b.length).take 8 = padded b := by
            rw [HB0.out, HZ.out.1, List.take_of_length_le (by simp [lenBytes])]
            simp [padded]
          have hlen : b.length + 1 + z + 8 = (padded b).length := by rw [padded_len, HZ.out.1]
          have HF := Lib.hid (And.intro hPd hlen)
          clear hPd hlen
          go_wp2_with fail
          go_ret
          have h := H6.out.1
          rw [HF.out.1] at h
          refine ⟨_, rfl, ?_, h.bel⟩
          rw [bn_len, ← HF.out.2]
          exact h.row
        · have hjl : j < 8 := by omega
          have htk := lenBytes_take b.length j hjl
          have HK := Lib.hid htk
          clear htk
          obtain rfl | rfl | rfl | rfl | rfl | rfl | rfl | rfl : j = 0 ∨ j = 1 ∨ j = 2 ∨ j = 3 ∨ j = 4 ∨ j = 5 ∨ j = 6 ∨ j = 7 := by omega
          all_goals
            go_wp2_with (at_builtin; refine wpList_append_one rfl (.tmp 26) (.tmp 33) 26 rfl w.heap.size 5 i0 (.int .u8 0) 1 Try.underlying26 hi hz0 hz1 hz2 rfl _ _ _ rfl (H6.out.1.row.alloc _) _ _ rfl (by simp; rfl) rfl (by unfold maxLen; omega) (by omega) (by have := H6.out.1.bel.size; simp; omega) ?_; intro v7 w7 ho7 hg7)
            have H7 := Lib.hid (H6.out.1.grow _ (by rfl) ho7 hg7)
            clear ho7 hg7
            go_roundw
            case rel =>
              refine ⟨_, ?_, rfl, ?_⟩
              rotate_left
              · have h := H7.out
                rw [List.append_assoc] at h
                rw [HK.out]
                refine h.last ?_ rfl
                simp only [Nat.reduceMul, Nat.reduceSub, Nat.reducePow, show Int.natAbs 256 = 256 from rfl, Nat.div_one]
                try omega
              · first | omega | decide
            case measure => simp [intOf]
    · have ht : (((b.length : Int) + 1 + (z : Int)) % 64 != 56) = true := by
        have h1 : ¬ (b.length + 1 + z) % 64 = 56 := fun e => hq ((HZ.out.2 z hz).1 e)
        have e : ¬ ((b.length : Int) + 1 + (z : Int)) % 64 = 56 := by omega
        simp [e]
      go_wp2_with (at_builtin; refine wpList_append_one rfl (.tmp 15) (.tmp 16) 26 rfl w.heap.size 5 i0 (.int .u8 0) 1 Try.underlying26 hi hz0 hz1 hz2 rfl _ _ _ rfl (HS.out.1.row.alloc _) _ _ rfl (by simp; rfl) rfl (by unfold maxLen; omega) (by omega) (by have := HS.out.1.bel.size; simp; omega) ?_; intro v4 w4 ho4 hg4)
      have H4 : Hid (RowSt w w4 v4 (b.length + 1 + z + 1) ((b ++ 128 :: List.replicate z 0) ++ [0])) := Lib.hid (HS.out.1.grow 0 rfl ho4 hg4)
      clear ho4 hg4
      go_roundw
      case rel =>
        refine ⟨z + 1, by omega, ?_⟩
        have h := H4.out
        rw [List.append_assoc, List.cons_append, ← List.replicate_succ'] at h
        exact h
      case measure =>
        obtain ⟨a5, c5, rfl, -, -⟩ := H4.out.form
        simp [lenOf]
        omega
end Go.Proofs.Ythlkmofemnepbaa
