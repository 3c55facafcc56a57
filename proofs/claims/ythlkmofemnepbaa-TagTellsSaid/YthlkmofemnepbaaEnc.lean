/-
  THE WALK of wire.Encode (layer 5).
-/
import Derived.Test.YthlkmofemnepbaaRows
import Derived.Test.YthlkmofemnepbaaRight
namespace Go.Proofs.Ythlkmofemnepbaa
open Go.RowKit

theorem at_calm (i : Nat) (h1 : 1 ≤ i) (h2 : i < 12) (b : Nat) (w : World) :
    Calls Try.prog (atFn i) #[.pointer (some ⟨b, 0, none⟩)] w fun e w' => e = .returned (.pointer (some ⟨b, i, none⟩)) ∧ Touch (fun _ => False) w w' :=
  (at_any i h1 h2 b w).mono (by rintro e _ ⟨rfl, rfl⟩; exact ⟨rfl, Touch.refl _ _⟩)

/-- Bytes of a row of the call's own. -/
structure OwnBy (w : World) (base : Nat) (v : Value) (zs : List Int) : Prop where
  own : w.ownsRow base 5 1 v zs.length (bys zs)
  le : base ≤ w.heap.size

theorem fit_size (m : Nat) (h : m = 1 ∨ m = 4) : fitN (m : Int) = m := by
  rcases h with rfl | rfl <;> rfl

theorem layS_len (src : List Int) (L : List Slot) (h : ∀ s ∈ L, s.size = 1 ∨ s.size = 4) : (layS src L).length ≤ 4 * L.length := by
  induction L with
  | nil => exact Nat.zero_le _
  | cons s L ih =>
    rw [layS_cons, List.length_append, putList_len, List.length_cons]
    have h1 := h s (by simp)
    have h2 := ih (fun x hx => h x (by simp [hx]))
    omega

structure EncInv (w : World) (p : Pk) (n0 : Nat) (a : Option Addr) (j : Nat) (o : Value) (wr : World) : Prop where
  ht : Touch (fun _ => False) w wr
  h0 : Blk wr n0 25 (pkV p)
  hr : SlotsRow wr a (slotsN p.kind)
  own : ∃ base, n0 < base ∧ w.heap.size ≤ base ∧ OwnBy wr base o (p.kind % 256 :: layS p.n ((slotsN p.kind).take j))

set_option maxRecDepth 100000 in
set_option maxHeartbeats 4000000 in
theorem wireEnc_no (p : Pk) (hp : p.Ok) (hR : ¬ RightN p) (w : World) :
    Calls Try.prog 21 #[.agg (pkV p)] w fun e w' => e = .returned (.tuple #[.slice none 0 0, .int .i64 1]) ∧ Below w.heap.size w w' := by
  have hd : decide (RightN p) = false := decide_eq_false hR
  have HH := Lib.hid (And.intro hp hd)
  clear hp hd hR
  go_enter Try.func21, Try.ntmps21
  go_wp2_with ((with_reducible refine at_op (.load 25 (.tmp 1)) rfl ?_); refine wpList_load_blk rfl 25 (.tmp 1) rfl w.heap.size 25 (pkV p) _ rfl (Blk.new _ _ _) Try.underlying25 rfl (by rw [pkV_size HH.out.1]; first | done | kernel_rfl) ?_)
  (with_reducible refine (wireRight_any p HH.out.1 _).mono ?_)
  rintro e w1 ⟨rfl, hb1⟩
  rw [HH.out.2]
  have H1 := Lib.hid (((Touch.refl (fun _ => False) w).alloc _).trans (Touch.of_below hb1))
  clear hb1
  go_wp2_with fail
  go_ret2
  exact ⟨rfl, H1.out.below (Nat.le_refl _) (fun _ _ h => h)⟩

set_option maxRecDepth 100000 in
set_option maxHeartbeats 4000000 in
theorem wireEnc_yes (p : Pk) (hp : p.Ok) (hR : RightN p) (w : World) :
    Calls Try.prog 21 #[.agg (pkV p)] w fun e w' => (∃ v, e = .returned (.tuple #[v, .int .i64 0]) ∧ OwnBy w' w.heap.size v (encN p)) ∧ Below w.heap.size w w' := by
  have hd : decide (RightN p) = true := decide_eq_true hR
  obtain ⟨k, hk⟩ : ∃ k, k = p.kind := ⟨_, rfl⟩
  have hk2 : 1 ≤ k ∧ k ≤ 12 := by rw [hk]; exact right_kind p hR
  have HH := Lib.hid (And.intro hp (And.intro hd (And.intro hR (And.intro hk hk2))))
  clear hp hd hR hk hk2
  go_enter Try.func21, Try.ntmps21
  go_wp2_with ((with_reducible refine at_op (.load 25 (.tmp 1)) rfl ?_); refine wpList_load_blk rfl 25 (.tmp 1) rfl w.heap.size 25 (pkV p) _ rfl (Blk.new _ _ _) Try.underlying25 rfl (by rw [pkV_size HH.out.1]; first | done | kernel_rfl) ?_)
  (with_reducible refine (wireRight_any p HH.out.1 _).mono ?_)
  rintro e w1 ⟨rfl, hb1⟩
  rw [HH.out.2.1]
  obtain ⟨n0, hn0⟩ : ∃ n0, n0 = w.heap.size := ⟨_, rfl⟩
  rw [← hn0]
  have H1 : Hid (Touch (fun _ => False) w w1 ∧ Blk w1 n0 25 (pkV p) ∧ n0 = w.heap.size) :=
    Lib.hid ⟨((Touch.refl _ w).alloc _).trans (Touch.of_below hb1), by rw [hn0]; exact (Blk.new w (pkV p) 25).touch (Touch.of_below (S := fun _ => False) hb1) (fun h => h), hn0⟩
  clear hb1 hn0
  have c1 : ∀ o, (w1.alloc o).cell? ⟨n0, 0, none⟩ = some (.int .i64 k) := fun o => by
    rw [HH.out.2.2.2.1]
    exact (H1.out.2.1.alloc o).num HH.out.1 0 (by decide)
  have c2 : w1.cell? ⟨n0, 0, none⟩ = some (.int .i64 k) := by
    rw [HH.out.2.2.2.1]
    exact H1.out.2.1.num HH.out.1 0 (by decide)
  go_wp2_with fail
  (with_reducible refine (slots_any k _).mono ?_)
  rintro e w2 ⟨v, rfl, hb2, hsl⟩
  obtain ⟨a, rfl, hrow⟩ := hsl.row
  clear hsl c1 c2
  obtain ⟨L, hL⟩ : ∃ L, L = slotsN k := ⟨_, rfl⟩
  rw [← hL] at hrow ⊢
  have HL : Hid (L = slotsN p.kind) := Lib.hid (by rw [← HH.out.2.2.2.1]; exact hL)
  have HI0 : Hid (EncInv w p n0 a 0 (.slice (some ⟨w1.heap.size, 0, none⟩) 1 1) w2) := Lib.hid (by
    obtain ⟨q1, q2, q3⟩ := H1.out
    have hlt := q2.lt
    have hq := q1.size
    have t2 : Touch (fun _ => False) w1 w2 := ((Touch.refl (fun _ => False) w1).alloc _).trans (Touch.of_below hb2)
    have hz := hb2.size
    simp at hz
    refine ⟨q1.trans t2, q2.touch t2 (fun h => h), by rw [← HL.out]; exact hrow, w1.heap.size, hlt, hq, ⟨?_, by omega⟩⟩
    have ho := World.ownsRow_lit (base := w1.heap.size) (e := 5) (size := 1) w1 #[.int .u8 (k % 256)] 1 (Nat.le_refl _) (by decide) rfl
    rw [← HH.out.2.2.2.1]
    exact owns_touch ho (Touch.of_below (S := fun _ => False) hb2) (fun _ _ h => h))
  clear hb2 hrow hL
  go_wp2_with fail
  go_loopw [4, 18] (fun o i wr => ∃ j : Nat, j ≤ L.length ∧ i = .int .i64 j ∧ EncInv w p n0 a j o wr) (fun _ i _ => (L.length - intOf i).toNat)
  case atStart => exact ⟨0, Nat.zero_le _, rfl, HI0.out⟩
  case round =>
    obtain ⟨j, hj, rfl, hI⟩ := hrel
    obtain ⟨base, hb0, hbw, hO⟩ := hI.own
    obtain ⟨ao, co, rfl, ho1, ho2, ho3, ho4⟩ := owns_form hO.own
    have HI := Lib.hid hI
    obtain ⟨Z, hZ⟩ : ∃ Z, Z = p.kind % 256 :: layS p.n ((slotsN p.kind).take j) := ⟨_, rfl⟩
    rw [← hZ] at hO ho1 ho2 ⊢
    have h25 : Z.length ≤ 25 := by
      rw [hZ, List.length_cons]
      have h1 := layS_len p.n ((slotsN p.kind).take j) (fun s hs => (slots_ok _ s (List.mem_of_mem_take hs)).size)
      have h2 := slots_len p.kind
      have h3 : ((slotsN p.kind).take j).length ≤ (slotsN p.kind).length := by rw [List.length_take]; omega
      omega
    have HO : Hid ((ao = none → co = 0) ∧ Z.length ≤ 90000) := Lib.hid ⟨fun h => (ho1 h).2, by omega⟩
    have HOW := Lib.hid (And.intro hO (And.intro hb0 (And.intro hbw (And.intro hZ h25))))
    clear hI hO hb0 hbw hZ ho1 ho2 ho3 ho4 h25
    by_cases hq : j = L.length
    · subst hq
      clear hj
      obtain ⟨i0, hi8, hz0, hz1, hz2⟩ := info_parts Try.info5
      have hZf : Z = p.kind % 256 :: layS p.n (slotsN p.kind) := by rw [HOW.out.2.2.2.1, List.take_of_length_le (by rw [HL.out]; exact Nat.le_refl _)]
      have HZ := Lib.hid hZf
      clear hZf
      have c0 : wr.cell? ⟨n0, 0, none⟩ = some (.int .i64 k) := by
        rw [HH.out.2.2.2.1]
        exact HI.out.h0.num HH.out.1 0 (by decide)
      go_wp2_with fail
      (with_reducible refine (sealed_any k _).mono ?_)
      rintro e _ ⟨rfl, rfl⟩
      obtain ⟨q, hS⟩ : ∃ q, sealedN k = q := ⟨_, rfl⟩
      rw [hS]
      have HSd := Lib.hid hS
      clear hS
      cases q
      · go_wp2_with fail
        (with_reducible refine (tagged_any k _).mono ?_)
        rintro e _ ⟨rfl, rfl⟩
        obtain ⟨q, hT⟩ : ∃ q, taggedN k = q := ⟨_, rfl⟩
        rw [hT]
        have HT := Lib.hid hT
        clear hT
        cases q
        · go_wp2_with fail
          go_ret2
          refine ⟨⟨_, rfl, ?_⟩, HI.out.ht.below (Nat.le_refl _) (fun _ _ h => h)⟩
          have e : encN p = Z := by
            unfold encN encSec encTag
            rw [← HH.out.2.2.2.1, HSd.out, HT.out, HZ.out, ← HH.out.2.2.2.1]
            simp
          rw [e]
          exact ⟨owns_mono HOW.out.1.own HOW.out.2.2.1, HI.out.ht.size⟩
        · go_wp2_with (at_builtin; refine wpList_append_any rfl (.tmp 42) (.tmp 44) 26 rfl base 5 i0 (.int .u8 0) 1 Try.underlying26 hi8 hz0 hz1 hz2 rfl _ Z.length (bys Z) rfl HOW.out.1.own (some ⟨n0, 28, none⟩) 8 8 (bn p.tag) rfl (by rw [bn_len, HH.out.1.ht]) (fun j u hj => ⟨rfl, HI.out.h0.tag HH.out.1 j u hj⟩) (fun h => by cases h) (bn_one _) (by have := HOW.out.2.2.2.2; unfold maxLen; omega) (by have := HOW.out.2.2.2.2; omega) HOW.out.1.le ?_; intro v1 w5 ho5 hg5 hn5; have H5 := Lib.hid (And.intro ho5 hg5); clear ho5 hg5 hn5)
          go_ret2
          have tg : Touch (fun _ => False) w w5 := HI.out.ht.grown H5.out.2 (fun m hm hlt => by have := (HOW.out.1.own.lt m hm).1; have := HOW.out.2.2.1; omega)
          refine ⟨⟨_, rfl, ?_⟩, tg.below (Nat.le_refl _) (fun _ _ h => h)⟩
          have e : encN p = Z ++ natsD p.tag := by
            unfold encN encSec encTag
            rw [← HH.out.2.2.2.1, HSd.out, HT.out, HZ.out, ← HH.out.2.2.2.1]
            simp
          refine ⟨?_, tg.size⟩
          rw [e, bys_append, List.length_append, natsD_len, HH.out.1.ht]
          exact owns_mono H5.out.1 HOW.out.2.2.1
      · have hT : taggedN k = false := by
          have h := HSd.out
          simp [sealedN] at h
          simp [taggedN]
          omega
        have HT := Lib.hid hT
        clear hT
        go_wp2_with (at_builtin; refine wpList_append_any rfl (.tmp 35) (.tmp 37) 26 rfl base 5 i0 (.int .u8 0) 1 Try.underlying26 hi8 hz0 hz1 hz2 rfl _ Z.length (bys Z) rfl HOW.out.1.own (some ⟨n0, 12, none⟩) 16 16 (bn p.sec) rfl (by rw [bn_len, HH.out.1.hs]) (fun j u hj => ⟨rfl, HI.out.h0.sec HH.out.1 j u hj⟩) (fun h => by cases h) (bn_one _) (by have := HOW.out.2.2.2.2; unfold maxLen; omega) (by have := HOW.out.2.2.2.2; omega) HOW.out.1.le ?_; intro v1 w5 ho5 hg5 hn5; have tg5 : Touch (fun m => base ≤ m) wr w5 := (Touch.refl _ wr).grown hg5 (fun m hm _ => (HOW.out.1.own.lt m hm).1); have H5 := Lib.hid (And.intro ho5 (And.intro hg5 tg5)); clear ho5 hg5 hn5 tg5; have c5 : w5.cell? ⟨n0, 0, none⟩ = some (.int .i64 k) := (by rw [HH.out.2.2.2.1]; exact (HI.out.h0.touch H5.out.2.2 (by have := HOW.out.2.1; omega)).num HH.out.1 0 (by decide)))
        (with_reducible refine (tagged_any k _).mono ?_)
        rintro e _ ⟨rfl, rfl⟩
        rw [HT.out]
        go_wp2_with fail
        go_ret2
        have tg : Touch (fun _ => False) w w5 := HI.out.ht.grown H5.out.2.1 (fun m hm hlt => by have := (HOW.out.1.own.lt m hm).1; have := HOW.out.2.2.1; omega)
        refine ⟨⟨_, rfl, ?_⟩, tg.below (Nat.le_refl _) (fun _ _ h => h)⟩
        have e : encN p = Z ++ natsD p.sec := by
          unfold encN encSec encTag
          rw [← HH.out.2.2.2.1, HSd.out, HT.out, HZ.out, ← HH.out.2.2.2.1]
          simp
        refine ⟨?_, tg.size⟩
        rw [e, bys_append, List.length_append, natsD_len, HH.out.1.hs]
        exact owns_mono H5.out.1 HOW.out.2.2.1
    · have hjl : j < L.length := by omega
      have hj1 : (j : Int) < L.length := by omega
      have hj0 : (0 : Int) ≤ j := by omega
      have h6 : L.length ≤ 6 := by rw [HL.out]; exact slots_len _
      obtain ⟨⟨i, sz, lo, hi⟩, hs⟩ : ∃ s, (slotsN p.kind)[j]? = some s := ⟨_, List.getElem?_eq_getElem (by rw [← HL.out]; exact hjl)⟩
      have hso := slots_ok _ _ (List.mem_of_getElem? hs)
      have hi1 : 1 ≤ i := hso.i0
      have hi2 : i < 12 := hso.i1
      have HF := Lib.hid hso.size
      obtain ⟨sb, rfl, hrange⟩ := HI.out.hr.at hs
      obtain ⟨x, hx⟩ : ∃ x, x = p.n.getD i 0 := ⟨_, rfl⟩
      have HR := Lib.hid (And.intro hrange (And.intro hs hx))
      clear hrange hs hx hso hq
      have ea := at_enters i hi1 hi2
      go_wp2_with ((with_reducible refine at_op (.load 57 (.tmp 20)) rfl ?_); refine wpList_load_mid rfl 57 (.tmp 20) rfl sb _ rfl [.func (.func (atFn i)) #[] #[], .int .i64 sz, .int .i64 lo, .int .i64 hi] _ HR.out.1 Try.underlying57 rfl (by kernel_rfl) ?_)
      obtain ⟨ws, hws⟩ : ∃ ws, ws = wr.alloc (.cells #[.func (.func (atFn i)) #[] #[], .int .i64 sz, .int .i64 lo, .int .i64 hi] 57) := ⟨_, rfl⟩
      rw [← hws]
      have HS : Hid (Blk ws wr.heap.size 57 #[.func (.func (atFn i)) #[] #[], .int .i64 sz, .int .i64 lo, .int .i64 hi] ∧ Blk ws n0 25 (pkV p) ∧ Touch (fun _ => False) wr ws ∧ OwnBy ws base (.slice ao Z.length co) Z ∧ Z = p.kind % 256 :: layS p.n ((slotsN p.kind).take j)) := Lib.hid (by
        rw [hws]
        exact ⟨Blk.new _ _ _, HI.out.h0.alloc _, (Touch.refl _ _).alloc _, ⟨owns_touch HOW.out.1.own ((Touch.refl (fun _ => False) _).alloc _) (fun _ _ h => h), by have := HOW.out.1.le; simp; omega⟩, HOW.out.2.2.2.1⟩)
      clear hws
      refine wp_region_held_drew (S := fun w' : World => TG ws w') (by kernel_rfl) ((TG.refl ws).drew) (fun hHeld => ?_)
      refine anyH_world (R := fun w' : World => TG ws w') hHeld ?_
      clear hHeld
      intro W0q hHeld
      refine region_take 0 (v := ?vq0_1) rfl rfl (by kernel_rfl) (by kernel_rfl) (by kernel_rfl) (fun _ _ _ h => h) hHeld (Or.inl ⟨by rfl, ?yq0_1⟩) ?rq0_1
      case yq0_1 => (intro w hSw; (try dsimp only at hSw); go_simp; try with_reducible rfl)
      try simp only [Act.put, List.setIfInBounds_toArray, List.set_cons_zero, List.set_cons_succ]
      refine region_take 1 (v := ?vq1_2) rfl rfl (by kernel_rfl) (by kernel_rfl) (by kernel_rfl) (fun _ _ _ h => h) hHeld (Or.inl ⟨by rfl, ?yq1_2⟩) ?rq1_2
      case yq1_2 => (intro w hSw; (try dsimp only at hSw); go_simp; try with_reducible rfl)
      try simp only [Act.put, List.setIfInBounds_toArray, List.set_cons_zero, List.set_cons_succ]
      refine region_take 2 (v := ?vq2_3) rfl rfl (by kernel_rfl) (by kernel_rfl) (by kernel_rfl) (fun _ _ _ h => h) hHeld (Or.inl ⟨by rfl, ?yq2_3⟩) ?rq2_3
      case yq2_3 => (intro w hSw; have d := (HS.out.1.tg hSw).cell 0 rfl; go_simp; try with_reducible rfl)
      try simp only [Act.put, List.setIfInBounds_toArray, List.set_cons_zero, List.set_cons_succ]
      refine region_take 6 (v := ?vq6_4) rfl rfl (by kernel_rfl) (by kernel_rfl) (by kernel_rfl) (fun _ _ _ h => h) hHeld (Or.inl ⟨by rfl, ?yq6_4⟩) ?rq6_4
      case yq6_4 => (intro w hSw; (try dsimp only at hSw); go_simp; try with_reducible rfl)
      try simp only [Act.put, List.setIfInBounds_toArray, List.set_cons_zero, List.set_cons_succ]
      refine region_take 7 (v := ?vq7_5) rfl rfl (by kernel_rfl) (by kernel_rfl) (by kernel_rfl) (fun _ _ _ h => h) hHeld (Or.inl ⟨by rfl, ?yq7_5⟩) ?rq7_5
      case yq7_5 => (intro w hSw; have d := (HS.out.1.tg hSw).cell 1 rfl; go_simp; try with_reducible rfl)
      try simp only [Act.put, List.setIfInBounds_toArray, List.set_cons_zero, List.set_cons_succ]
      refine region_one 3 (by kernel_rfl) rfl (fun K hK => ?_)
      go_simp
      (with_reducible refine (at_calm i hi1 hi2 n0 _).mono ?_)
      rintro e uq_6 ⟨rfl, hb8⟩
      have ht := hb8
      refine hK.out _ _ (((hHeld).still ht)) (fun hHeld2 => ?_)
      clear hK K hHeld ht
      have hHeld := hHeld2
      clear hHeld2
      try simp only [Act.put, List.setIfInBounds_toArray, List.set_cons_zero, List.set_cons_succ]
      refine region_take 4 (v := ?vq4_7) rfl rfl (by kernel_rfl) (by kernel_rfl) (by kernel_rfl) (fun _ _ _ h => h) hHeld (Or.inl ⟨by rfl, ?yq4_7⟩) ?rq4_7
      case yq4_7 => (intro w hSw; (try dsimp only at hSw); go_simp; try with_reducible rfl)
      try simp only [Act.put, List.setIfInBounds_toArray, List.set_cons_zero, List.set_cons_succ]
      refine region_take 5 (v := ?vq5_8) rfl rfl (by kernel_rfl) (by kernel_rfl) (by kernel_rfl) (fun _ _ _ h => h) hHeld (Or.inl ⟨by rfl, ?yq5_8⟩) ?rq5_8
      case yq5_8 => (intro w hSw; have d := (HS.out.2.1.tg hSw).num HH.out.1 i hi2; rw [← HR.out.2.2] at d; go_simp; try with_reducible rfl)
      try simp only [Act.put, List.setIfInBounds_toArray, List.set_cons_zero, List.set_cons_succ]
      refine region_one 8 (by kernel_rfl) rfl (fun K hK => ?_)
      go_simp
      go_at_call 42
      (with_reducible refine (put_any ao Z.length co Z x sz _ rfl ((SlAt.of_owns HS.out.2.2.2.1.own).tg hHeld) HO.out.1 HO.out.2).mono ?_)
      rintro e uq_9 ⟨v, rfl, ho8, hb8⟩
      have HV := Lib.hid (And.intro ho8 (And.intro (hHeld).size hb8.size))
      clear ho8
      have ht := Touch.of_below (S := fun _ => False) hb8
      refine hK.out _ _ (((hHeld).still ht)) (fun hHeld2 => ?_)
      clear hK K hHeld ht
      have hHeld := hHeld2
      clear hHeld2
      try simp only [Act.put, List.setIfInBounds_toArray, List.set_cons_zero, List.set_cons_succ]
      refine region_take 9 (v := ?vq9_10) rfl rfl (by kernel_rfl) (by kernel_rfl) (by kernel_rfl) (fun _ _ _ h => h) hHeld (Or.inl ⟨by rfl, ?yq9_10⟩) ?rq9_10
      case yq9_10 => (intro w hSw; (try dsimp only at hSw); go_simp; try with_reducible rfl)
      try simp only [Act.put, List.setIfInBounds_toArray, List.set_cons_zero, List.set_cons_succ]
      refine wpAnyH_done (by kernel_rfl) ?_ _
      have HT := Lib.hid ((hHeld).still2)
      go_wp2_with fail
      go_roundw
      case rel =>
        obtain ⟨hv, hsz1, hsz2⟩ := HV.out
        obtain ⟨i1, i2, i3, i4⟩ := HI.out
        obtain ⟨base, q1, q2, q3⟩ := i4
        have tws : Touch (fun _ => False) wr uq_9 := HS.out.2.2.1.trans HT.out
        refine ⟨j + 1, hjl, by first | rfl | (congr 1; omega) | (congr 1; unfold wrap64; omega), ⟨i1.trans tws, i2.touch tws (fun h => h), i3.touch tws (fun _ _ h => h), ?_⟩⟩
        have hlt := i2.lt
        have hsz3 := HS.out.2.2.1.size
        have hsz4 := i1.size
        refine ⟨_, ?_, ?_, ⟨?_, hsz2⟩⟩
        · omega
        · omega
        · rw [List.take_add_one, HR.out.2.1]
          show World.ownsRow _ _ _ 1 v (p.kind % 256 :: layS p.n ((slotsN p.kind).take j ++ [⟨i, sz, lo, hi⟩])).length (bys (p.kind % 256 :: layS p.n ((slotsN p.kind).take j ++ [⟨i, sz, lo, hi⟩])))
          rw [layS_snoc, ← HR.out.2.2, ← List.cons_append, ← HS.out.2.2.2.2]
          rw [fit_size sz HF.out, bys_length] at hv
          exact hv
      case measure => simp [intOf]; (try unfold wrap64); omega
end Go.Proofs.Ythlkmofemnepbaa
