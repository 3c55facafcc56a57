/-
  THE WALKS over the document's own Reader (layer 4): Take, Num; and its Put.
-/
import Derived.Test.YthlkmofemnepbaaRows
import Derived.Test.YthlkmofemnepbaaFieldRef
namespace Go.Proofs.Ythlkmofemnepbaa
open Go.RowKit

def TookRf (w : World) (rb base : Nat) (r : List Int × List Int × Bool) (e : Ending) (w' : World) : Prop :=
  ∃ v, e = .returned v ∧ w'.ownsRow w.heap.size 5 1 v r.1.length (bys r.1) ∧ RfIs w' rb base r.2.1 r.2.2 ∧ Touch (fun k => k = rb) w w'

def TakeYesRf (w : World) (rb base : Nat) (zs : List Int) (n : Nat) (e : Ending) (w' : World) : Prop :=
  ∃ v, e = .returned v ∧ w'.ownsRow w.heap.size 5 1 v n (bys (zs.take n)) ∧ RfIs w' rb base (zs.drop n) false ∧ Touch (fun k => k = rb) w w'

set_option maxHeartbeats 1000000 in
set_option maxRecDepth 100000 in
theorem take_yes_rf (rb base : Nat) (zs : List Int) (n : Nat) (w : World) (hr : RfIs w rb base zs false) (hn : n ≤ zs.length) (hz : zs.length ≤ 90000) :
    Calls Try.prog 53 #[.pointer (some ⟨rb, 0, none⟩), .int .i64 n] w (TakeYesRf w rb base zs n) := by
  obtain ⟨a, cap, hr⟩ := hr
  obtain ⟨i0, hi, hz0, hz1, hz2⟩ := info_parts Try.info5
  have c0 : w.cell? ⟨rb, 0, none⟩ = some (.slice a zs.length cap) := hr.rd.cell 0 rfl
  have c1 : w.cell? ⟨rb, 1, none⟩ = some (.bool false) := hr.rd.cell 1 rfl
  have b0 : (w.alloc (.cells #[] 5)).cell? ⟨rb, 0, none⟩ = some (.slice a zs.length cap) := (hr.rd.alloc _).cell 0 rfl
  have hle := hr.le
  have hsv : SlAt (w.alloc (.cells #[] 5)) a (bys (zs.take n)) := by
    have h := (hr.cells.touch ((Touch.refl (fun _ => False) w).alloc (.cells #[] 5)) (fun _ _ _ h => h)).take n
    rw [show (bys zs).take n = bys (zs.take n) by simp [bys]] at h
    exact h
  have HR := Lib.hid hr
  clear hr
  by_cases hcc : cap = n
  · obtain rfl : n = cap := hcc.symm
    clear hcc
    go_enter Try.func53, Try.ntmps53
    go_wp2_with (at_builtin; refine wpList_append_any rfl (.tmp 29) (.tmp 35) 26 rfl w.heap.size 5 i0 (.int .u8 0) 1 Try.underlying26 hi hz0 hz1 hz2 rfl _ 0 [] rfl (World.ownsRow_made w #[] 0 (Nat.le_refl _) (Nat.zero_le _) rfl) a n n (bys (zs.take n)) rfl (by simp; omega) hsv HR.out.nil (bys_one _) (by unfold maxLen; omega) (by omega) (by simp) ?_; intro v1 w1 ho1 hg1 _; have ho := ho1; obtain ⟨a1, c1, rfl, hn1, hl1, hm1, hb1⟩ := owns_form ho; have tg : Touch (fun _ => False) w w1 := ((Touch.refl _ _).alloc _).grown hg1 (fun k hk => by cases hk; exact fun h => absurd h (Nat.lt_irrefl _)); have hR1 := HR.out.rd.touch tg (fun h => h); have d0 : w1.cell? ⟨rb, 0, none⟩ = some (.slice a zs.length n) := hR1.cell 0 rfl; have g0 := hR1.frozen 0; have H1 := Lib.hid (And.intro ho1 (And.intro tg hR1)); clear ho ho1 hg1 hn1 hl1 hm1 hb1 tg hR1)
    go_ret
    obtain ⟨hown, t1, hR1⟩ := H1.out
    simp only [Nat.zero_add, List.nil_append] at hown
    have tw : Touch (fun k => k = rb) w1 (w1.setCell ⟨rb, 0, none⟩ (.slice a 0 0)) := Touch.setCell (S := fun k => k = rb) (Touch.refl _ _) (p := ⟨rb, 0, none⟩) (fun _ => rfl) _
    have hlt := HR.out.rd.lt
    have hd : (zs.drop n).length = 0 := by have := HR.out.le; simp; omega
    refine ⟨_, by first | rfl | (simp; done), ?_, ⟨a, 0, ?_, ?_, (fun _ => rfl), by omega, by have := HR.out.cap; omega, ?_, HR.out.low⟩, (t1.mono (fun _ _ h => h.elim)).trans tw⟩
    · refine owns_touch (S := fun k => k = rb) hown tw (fun k hk e => ?_)
      have := (hown.lt k hk).1
      omega
    · have h := hR1.set 0 (.slice a 0 0)
      simp at h
      rw [hd]
      exact h
    · have h := (HR.out.cells.touch t1 (fun _ _ _ h => h)).sliced (l := n) (cap := n) (by simpa using HR.out.le)
      rw [if_pos rfl, show (bys zs).drop n = bys (zs.drop n) by simp [bys]] at h
      exact h.touch (S := fun k => k = rb) tw (fun x hx _ => (HR.out.apart x hx).1)
    · intro x hx
      have hs := t1.size
      exact ⟨(HR.out.apart x hx).1, (HR.out.apart x hx).2.1, by have := (HR.out.apart x hx).2.2; simp; omega⟩

  · skip
    go_enter Try.func53, Try.ntmps53
    go_wp2_with (at_builtin; refine wpList_append_any rfl (.tmp 29) (.tmp 35) 26 rfl w.heap.size 5 i0 (.int .u8 0) 1 Try.underlying26 hi hz0 hz1 hz2 rfl _ 0 [] rfl (World.ownsRow_made w #[] 0 (Nat.le_refl _) (Nat.zero_le _) rfl) a n cap (bys (zs.take n)) rfl (by simp; omega) hsv HR.out.nil (bys_one _) (by unfold maxLen; omega) (by omega) (by simp) ?_; intro v1 w1 ho1 hg1 _; have ho := ho1; obtain ⟨a1, c1, rfl, hn1, hl1, hm1, hb1⟩ := owns_form ho; have tg : Touch (fun _ => False) w w1 := ((Touch.refl _ _).alloc _).grown hg1 (fun k hk => by cases hk; exact fun h => absurd h (Nat.lt_irrefl _)); have hR1 := HR.out.rd.touch tg (fun h => h); have d0 : w1.cell? ⟨rb, 0, none⟩ = some (.slice a zs.length cap) := hR1.cell 0 rfl; have g0 := hR1.frozen 0; have H1 := Lib.hid (And.intro ho1 (And.intro tg hR1)); clear ho ho1 hg1 hn1 hl1 hm1 hb1 tg hR1)
    go_ret
    obtain ⟨hown, t1, hR1⟩ := H1.out
    simp only [Nat.zero_add, List.nil_append] at hown
    have tw : Touch (fun k => k = rb) w1 (w1.setCell ⟨rb, 0, none⟩ (.slice (Option.map (fun x => x.add n) a) (zs.length - n) (cap - n))) := Touch.setCell (S := fun k => k = rb) (Touch.refl _ _) (p := ⟨rb, 0, none⟩) (fun _ => rfl) _
    have hlt := HR.out.rd.lt
    refine ⟨_, by first | rfl | (simp; done), ?_, ⟨(Option.map (fun x => x.add n) a), cap - n, ?_, ?_, (fun h => by have := HR.out.nil (by simpa using h); omega), by simp; omega, by have := HR.out.cap; omega, ?_, fun x hx => by obtain ⟨y, hy, hb⟩ := map_add_block hx; rw [hb]; exact HR.out.low y hy⟩, (t1.mono (fun _ _ h => h.elim)).trans tw⟩
    · refine owns_touch (S := fun k => k = rb) hown tw (fun k hk e => ?_)
      have := (hown.lt k hk).1
      omega
    · have h := hR1.set 0 (.slice (Option.map (fun x => x.add n) a) (zs.length - n) (cap - n))
      simp at h
      simpa using h
    · have h := (HR.out.cells.touch t1 (fun _ _ _ h => h)).sliced (l := n) (cap := cap) (by simpa using HR.out.le)
      rw [if_neg hcc, show (bys zs).drop n = bys (zs.drop n) by simp [bys]] at h
      exact h.touch (S := fun k => k = rb) tw (fun x hx _ => by obtain ⟨y, hy, hb⟩ := map_add_block hx; rw [hb]; exact (HR.out.apart y hy).1)
    · intro x hx
      have hs := t1.size
      obtain ⟨y, hy, hb⟩ := map_add_block hx
      rw [hb]
      exact ⟨(HR.out.apart y hy).1, (HR.out.apart y hy).2.1, by have := (HR.out.apart y hy).2.2; simp; omega⟩


set_option maxRecDepth 100000 in
theorem take_rf (rb base : Nat) (zs : List Int) (bad : Bool) (n : Int) (w : World) (hr : RfIs w rb base zs bad) (hz : zs.length ≤ 90000) :
    Calls Try.prog 53 #[.pointer (some ⟨rb, 0, none⟩), .int .i64 n] w (TookRf w rb base (rdTake zs bad n)) := by
  by_cases h : bad = true ∨ n < 0 ∨ (zs.length : Int) < n
  · rw [show rdTake zs bad n = ([], [], true) by unfold rdTake; rw [if_pos h]]
    refine (take_no_rf rb base zs bad n w hr (by cases bad <;> simp_all <;> omega)).mono ?_
    rintro e w1 ⟨rfl, h1, h2⟩
    exact ⟨_, rfl, by simpa [bys] using World.ownsRow_nil w1 _ _ _, h1, h2⟩
  · rw [show rdTake zs bad n = (zs.take n.toNat, zs.drop n.toNat, false) by unfold rdTake; rw [if_neg h]]
    obtain ⟨rfl, h0, h1⟩ : bad = false ∧ 0 ≤ n ∧ n ≤ zs.length := by cases bad <;> simp_all
    obtain ⟨m, rfl⟩ : ∃ m : Nat, n = m := ⟨n.toNat, by omega⟩
    refine (take_yes_rf rb base zs m w hr (by omega) hz).mono ?_
    rintro e w1 ⟨v, rfl, h1, h2, h3⟩
    refine ⟨v, rfl, ?_, h2, h3⟩
    rw [show (zs.take (m : Int).toNat).length = m by simp; omega]
    exact h1

set_option maxHeartbeats 1000000 in
set_option maxRecDepth 100000 in
theorem num_rf (rb base : Nat) (zs : List Int) (bad : Bool) (size : Int) (w : World) (hr : RfIs w rb base zs bad) (hz : zs.length ≤ 90000) (hb : ∀ z ∈ zs, 0 ≤ z ∧ z < 256) :
    Calls Try.prog 52 #[.pointer (some ⟨rb, 0, none⟩), .int .i64 size] w fun e w' => e = .returned (.int .i64 (numOf (rdTake zs bad (fitN size)).1)) ∧ RfIs w' rb base (rdTake zs bad (fitN size)).2.1 (rdTake zs bad (fitN size)).2.2 ∧ Touch (fun k => k = rb) w w' := by
  have h7 : 1 ≤ fitN size ∧ fitN size ≤ 7 := by unfold fitN; omega
  obtain ⟨r, hg⟩ : ∃ r, r = rdTake zs bad (fitN size) := ⟨_, rfl⟩
  rw [← hg]
  have HG := Lib.hid hg
  have HR := Lib.hid (And.intro hr hb)
  clear hr hb hg
  go_enter Try.func52, Try.ntmps52
  go_wp2_with fail
  refine (clamp_any size w).mono ?_
  rintro e w1 ⟨rfl, rfl⟩
  go_wp2_with fail
  refine (take_rf rb base zs bad (fitN size) w HR.out.1 hz).mono ?_
  rintro e w1 ⟨v, rfl, hown, hrd, ht⟩
  rw [← HG.out] at hown hrd
  have hlen : r.1.length ≤ 7 := by rw [HG.out]; unfold rdTake; split <;> simp; omega
  have hB : ∀ z ∈ r.1, 0 ≤ z ∧ z < 256 := by
    rw [HG.out]
    unfold rdTake; split
    · intro z hz; cases hz
    · intro z hz; exact HR.out.2 z (List.mem_of_mem_take hz)
  have ho := hown
  obtain ⟨a1, c1, rfl, hn1, hl1, hm1, hb1⟩ := owns_form ho
  have H1 := Lib.hid (And.intro hown (And.intro hrd (And.intro ht (And.intro hB hn1))))
  clear ho hown hrd ht hB hn1 hm1 hb1
  go_wp2_with fail
  go_loopw [6, 7] (fun n k wr => ∃ j : Nat, j ≤ r.1.length ∧ n = .int .i64 (numOf (r.1.take j)) ∧ k = .int .i64 j ∧ wr = w1) (fun _ k _ => (r.1.length - intOf k).toNat)
  case atStart => exact ⟨0, Nat.zero_le _, rfl, rfl, rfl⟩
  case round =>
    obtain ⟨j, hj, rfl, rfl, rfl⟩ := hrel
    by_cases hq : j = r.1.length
    · subst hq
      go_wp2_with fail
      go_ret
      refine ⟨?_, H1.out.2.1, H1.out.2.2.1⟩
      simp
    · have hjl : j < r.1.length := by omega
      have hjl2 : (j : Int) < r.1.length := by omega
      have hc : r.1[j]? = some (r.1[j]'hjl) := by simp
      generalize (r.1[j]'hjl) = c at hc
      have hc2 := H1.out.2.2.2.1 c (List.mem_of_getElem? hc)
      obtain ⟨b, o, rfl, hcell⟩ := (SlAt.of_owns H1.out.1).get (k := j) (u := .int .u8 c) (by simp [bys, hc])
      have hj6 : j ≤ 6 := by omega
      have hb := numOf_take r.1 H1.out.2.2.2.1 j
      have hp : (256 : Int) ^ j ≤ 256 ^ 6 := by
        rcases j with _ | _ | _ | _ | _ | _ | _ | j <;> first | decide | omega
      have e1 : r.1.take (j + 1) = r.1.take j ++ [c] := by rw [List.take_add_one, hc]; rfl
      obtain ⟨x, hx⟩ : ∃ x, numOf (r.1.take j) = x := ⟨_, rfl⟩
      have e2 : numOf (r.1.take (j + 1)) = x * 256 + c := by rw [e1, numOf_snoc, hx]
      rw [hx] at hb ⊢
      have hx2 : x < 281474976710656 := by omega
      have k1 : IntKind.i64.wrap (256 * x) = 256 * x := IntWalk.i64_in _ (by omega)
      have k2 : IntKind.i64.wrap (256 * x + c) = 256 * x + c := IntWalk.i64_in _ (by omega)
      have k3 : IntKind.i64.wrap c = c := IntWalk.i64_in _ (by omega)
      have HC := Lib.hid (And.intro hc (And.intro e1 (And.intro e2 hx)))
      clear hc e1 e2 hx hp hb
      go_wp2_with fail
      go_roundw
      case rel => exact ⟨j + 1, hjl, by rw [HC.out.2.2.1]; congr 1; first | omega | (rw [Int.mul_comm]), by first | rfl | (congr 1; omega), trivial⟩
      case measure => simp [intOf]; omega

set_option maxHeartbeats 1000000 in
set_option maxRecDepth 100000 in
theorem refput_any (a : Option Addr) (len cap : Nat) (zs : List Int) (n size : Int) (w : World) (hl : zs.length = len) (hz : SlAt w a (bys zs)) (hc : a = none → cap = 0) (hn : len ≤ 90000) :
    Calls Try.prog 45 #[.slice a len cap, .int .i64 n, .int .i64 size] w (Made 5 (bys (zs ++ putList n (fitN size) (fitN size))) w) := by
  obtain ⟨i0, hi, hz0, hz1, hz2⟩ := info_parts Try.info5
  obtain ⟨m, hm⟩ : ∃ m, m = fitN size := ⟨_, rfl⟩
  have h7 : 1 ≤ m ∧ m ≤ 7 := by rw [hm]; unfold fitN; omega
  rw [← hm]
  have HM := Lib.hid hm
  clear hm
  have hsv : SlAt (w.alloc (.cells #[] 5)) a (bys zs) := hz.touch ((Touch.refl (fun _ => False) _).alloc _) (fun _ _ _ h => h)
  subst hl
  go_enter Try.func45, Try.ntmps45
  go_wp2_with (at_builtin; refine wpList_append_any rfl (.tmp 9) (.tmp 10) 26 rfl w.heap.size 5 i0 (.int .u8 0) 1 Try.underlying26 hi hz0 hz1 hz2 rfl _ 0 [] rfl (World.ownsRow_made w #[] 0 (Nat.le_refl _) (Nat.zero_le _) rfl) a zs.length cap (bys zs) rfl (bys_length _) hsv hc (bys_one _) (by unfold maxLen; omega) (by omega) (by simp) ?_; intro v1 w1 ho1 hg1 _; have hb : Below w.heap.size w w1 := ((Below.refl _ _).alloc (Nat.le_refl _) _).grown hg1 (by simp) (fun k hk => by cases hk; exact Nat.le_refl _); have H1 := Lib.hid (And.intro ho1 hb); clear ho1 hg1 hb)
  refine (clamp_any size w1).mono ?_
  rintro e w2 ⟨rfl, rfl⟩
  rw [← HM.out]
  go_wp2_with fail
  go_loopw [7, 8] (fun o k wr => ∃ q j : Nat, q + j = m ∧ k = .int .i64 ((q : Int) - 1) ∧ wr.ownsRow w.heap.size 5 1 o (zs.length + j) (bys (zs ++ putList n m j)) ∧ Below w.heap.size w wr) (fun _ k _ => (intOf k + 1).toNat)
  case atStart => exact ⟨m, 0, rfl, by simp, by simpa [putList] using H1.out.1, H1.out.2⟩
  case round =>
    obtain ⟨q, j, hqj, rfl, hown, hb⟩ := hrel
    by_cases hq : q = 0
    · subst hq
      have hj : j = m := by omega
      subst hj
      have H2 := Lib.hid (And.intro hown hb)
      clear hown hb
      go_wp2_with fail
      go_ret
      refine ⟨_, rfl, ?_, H2.out.2⟩
      rw [bys_length, List.length_append, putList_len]
      exact H2.out.1
    · obtain ⟨k, rfl⟩ : ∃ k, q = k + 1 := ⟨q - 1, by omega⟩
      have H2 := Lib.hid (And.intro hown hb)
      clear hown hb
      go_wp2_with (at_builtin; refine wpList_append_one rfl (.tmp 19) (.tmp 25) 26 rfl w.heap.size 5 i0 (.int .u8 0) 1 Try.underlying26 hi hz0 hz1 hz2 rfl _ _ _ rfl (H2.out.1.alloc _) wr.heap.size _ rfl (by simp; rfl) rfl (by unfold maxLen; omega) (by omega) (by have := H2.out.2.size; simp; omega) ?_; intro v1 w1 ho1 hg1)
      go_roundw
      case rel =>
        refine ⟨k, j + 1, by omega, by first | go_num | (congr 1; omega), ?_, ?_⟩
        · rw [putList_succ, ← List.append_assoc, bys_append, show m - 1 - j = k by omega]
          exact ho1
        · exact (H2.out.2.alloc H2.out.2.size _).grown hg1 (by have := H2.out.2.size; simp; omega) (fun k hk => (H2.out.1.lt k hk).1)
      case measure => simp [intOf]
end Go.Proofs.Ythlkmofemnepbaa
