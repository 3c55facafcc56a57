/-
  nightjarlaw08.RingLast: for every room, all numbers, cut anywhere, the law returns true. No conditions: for every input that can be read.
-/
import Derived.Test.YthhjfoolijiacaaRows
import Derived.Test.YthhjfoolijiacaaRingSmall
import Derived.Test.YthhjfoolijiacaaRingPlain
import Derived.Test.YthhjfoolijiacaaOpen
namespace Go.Proofs.Ythhjfoolijiacaa
open Go.ChangeShapes Go.WideShapes Go.ChangeAt Go.RowKit

set_option maxHeartbeats 2000000 in
theorem ringLast_out (w : World) (room : Int) (a : Option Addr) (cap : Nat) (zs : List Int) (k : Int)
    (hc : room < 1 ∨ (1 ≤ room ∧ 64 < room) ∨ (1 ≤ room ∧ room ≤ 64 ∧ 500 < zs.length) ∨ (1 ≤ room ∧ room ≤ 64 ∧ zs.length ≤ 500 ∧ k < 0) ∨ (1 ≤ room ∧ room ≤ 64 ∧ zs.length ≤ 500 ∧ 0 ≤ k ∧ (zs.length : Int) < k)) :
    Calls Try.prog 4 #[.int .i64 room, .slice a zs.length cap, .int .i64 k] w fun e w' => e = .returned (.bool true) ∧ Below w.heap.size w w' := by
  rcases hc with c1 | ⟨c1, c2⟩ | ⟨c1, c2, c3⟩ | ⟨c1, c2, c3, c4⟩ | ⟨c1, c2, c3, c4, c5⟩
  all_goals
    go_enter Try.func4, Try.ntmps4
    go_wp2_with fail
    refine (small_any w).mono ?_
    rintro e w1 ⟨rfl, hb⟩
    go_wp2_with fail
    go_ret
    exact ⟨rfl, hb⟩

set_option maxHeartbeats 20000000 in
theorem ringLast_walk (w : World) (room : Int) (_w0 : (Lit.int .i64 room).wf = true) (a : Option Addr) (len cap : Nat) (zs : List Int) (hin : RowIn .i64 w a len cap zs) (k : Int) (_w1 : (Lit.int .i64 k).wf = true) :
    Calls Try.prog 4 #[.int .i64 room, .slice a len cap, .int .i64 k] w fun e w' => e = .returned (.bool true) ∧ Below w.heap.size w w' := by
  have hlen := hin.hlen
  subst hlen
  by_cases hc : 1 ≤ room ∧ room ≤ 64 ∧ zs.length ≤ 500 ∧ 0 ≤ k ∧ k ≤ (zs.length : Int)
  case neg => exact ringLast_out w room a cap zs k (by omega)
  obtain ⟨c1, c2, c3, c4, c5⟩ := hc
  have hlec := hin.le
  have hcm := hin.hcap
  unfold maxLen at hcm
  obtain ⟨j, rfl⟩ : ∃ j : Nat, k = (j : Int) := ⟨k.toNat, by omega⟩
  have HIN := Lib.hid hin; clear hin
  go_enter Try.func4, Try.ntmps4
  go_wp2_with fail
  refine (small_any w).mono ?_
  rintro e wa ⟨rfl, hb⟩
  have hsl := HIN.out.ints.touch (Touch.of_below (S := fun _ => False) hb) (fun _ _ _ h => h)
  have hold : ∀ x, a = some x → zs ≠ [] → x.block < wa.heap.size := fun x hx hne => Nat.lt_of_lt_of_le (HIN.out.old x hx hne) hb.size
  have HB := Lib.hid hb; clear hb
  go_wp2_with fail
  refine (new_any room wa).mono ?_
  rintro e wb ⟨rb, sb, rfl, hb1, hb2, hr, hbl⟩
  obtain ⟨r, hrr⟩ : ∃ r, r = (min (max room 1) 64).toNat := ⟨_, rfl⟩
  rw [← hrr] at hr
  go_wp2_with fail
  refine (new_any room wb).mono ?_
  rintro e wc ⟨rb2, sb2, rfl, hb3, hb4, hr2, hbl2⟩
  rw [← hrr] at hr2
  have hr1 := hr.touch (Touch.of_below (S := fun _ => False) hbl2) (fun h => h) (fun h => h)
  have hlt1 := ring_lt hr
  have hsl2 := (hsl.touch (Touch.of_below (S := fun _ => False) hbl) (fun _ _ _ h => h)).touch (Touch.of_below (S := fun _ => False) hbl2) (fun _ _ _ h => h)
  have hrI : (r : Int) = room := by omega
  subst hrI
  have HBL := Lib.hid (And.intro hrr (And.intro hbl hbl2)); clear hbl hbl2 hr hsl hrr
  have s1 := HBL.out.2.1.size
  have s2 := HBL.out.2.2.size
  go_wp2_with fail
  refine (push_ext rb sb r [] 0 a cap zs wc hr1 hsl2 (fun x hx hne => by have := hold x hx hne; omega) (by omega) (by simp)).mono ?_
  rintro e wd ⟨rfl, hr1d, ht1⟩
  have hlt2 := ring_lt hr2
  have hr2d := hr2.touch ht1 (fun h => by omega) (fun h => by omega)
  have hsld := hsl2.touch ht1 (fun x hx hne h => by have := hold x hx (by rintro rfl; exact hne rfl); omega)
  clear hr1 hr2 hsl2
  have hjz : j ≤ zs.length := by omega
  go_wp2_with fail
  refine (push_len rb2 sb2 r [] 0 a j cap (zs.take j) wd (by simp; omega) hr2d (by rw [← ints_take]; exact hsld.take j) (fun x hx hne => by have := hold x hx (by rintro rfl; simp at hne); omega) (by simp; omega) (by simp)).mono ?_
  rintro e we ⟨rfl, hr2e, ht2⟩
  have hr1e := hr1d.touch ht2 (fun h => by omega) (fun h => by omega)
  have hsle := hsld.touch ht2 (fun x hx hne h => by have := hold x hx (by rintro rfl; exact hne rfl); omega)
  have hR1 : r - 0 = r := rfl
  clear hr1d hr2d hsld
  have hlostb : (pushAll r ([], 0) (zs.take j)).2 ≤ 1000000000 := by
    obtain ⟨_, _, h⟩ := hr1e
    have := (pushAll_len r (zs.take j) ([], 0) (by simp) h.room1).2
    simp at this; omega
  have hpa := pushAll_append r ([], 0) (zs.take j) (zs.drop j)
  rw [List.take_append_drop] at hpa
  generalize hSb : pushAll r ([], 0) (zs.take j) = Sb at hr2e hlostb hpa
  have HSB := Lib.hid (And.intro hSb hpa)
  clear hSb hpa hR1
  have hroomr : 1 ≤ r ∧ r ≤ 64 := by obtain ⟨_, _, h⟩ := hr1e; exact ⟨h.room1, h.room64⟩
  obtain ⟨lo, hlo⟩ : ∃ lo, lo = zs.length - r := ⟨_, rfl⟩
  obtain ⟨LL, hLL⟩ : ∃ LL, LL = zs.drop (zs.length - r) := ⟨_, rfl⟩
  have hLen : LL.length = zs.length - lo := by rw [hLL, hlo]; simp
  have hpz : pushAll r ([], 0) zs = (LL, lo) := by
    rw [pushAll_last r zs ([], 0) (by simp) hroomr.1, hLL, hlo]; simp
  rw [hpz] at hr1e
  have hSB2 : ∀ T : List Int × Nat, pushAll r (Sb.1, Sb.2) (zs.drop j) = T → T = (LL, lo) := by
    intro T h; rw [← h, ← hpz, HSB.out.2]
  have TT := Lib.hid (ht1.mono (S' := fun k => (k = rb ∨ k = sb) ∨ (k = rb2 ∨ k = sb2)) (fun _ _ h => .inl h) |>.trans (ht2.mono (S' := fun k => (k = rb ∨ k = sb) ∨ (k = rb2 ∨ k = sb2)) (fun _ _ h => .inr h)))
  clear ht1 ht2 hpz
  have hmin : ((r : Int) ≤ (zs.length : Int) ∧ (lo : Int) = zs.length - r) ∨ ((zs.length : Int) < r ∧ (lo : Int) ≤ 0) := by omega
  have hLb : LL.length ≤ 500 := by omega
  have HL := Lib.hid (And.intro hlo (And.intro hLL hLen))
  clear hlo hLL hLen
  have after : ∀ (wf : World), RingIs wf rb2 sb2 r (pushAll r (Sb.1, Sb.2) (zs.drop j)).1 (pushAll r (Sb.1, Sb.2) (zs.drop j)).2 → Touch (fun k => k = rb2 ∨ k = sb2) we wf →
      RingIs wf rb sb r LL lo ∧ RingIs wf rb2 sb2 r LL lo ∧ SlAt wf a (ints zs) ∧ Touch (fun k => (k = rb ∨ k = sb) ∨ (k = rb2 ∨ k = sb2)) wc wf := by
    intro wf h1 h2
    have e := hSB2 _ rfl
    rw [e] at h1
    refine ⟨hr1e.touch h2 (fun h => by omega) (fun h => by omega), h1, hsle.touch h2 (fun x hx hne h => by have := hold x hx (by rintro rfl; exact hne rfl); omega), TT.out.trans (h2.mono (fun _ _ h => .inr h))⟩
  have fin : ∀ wz, Touch (fun k => (k = rb ∨ k = sb) ∨ (k = rb2 ∨ k = sb2)) wc wz → Ending.returned (Value.bool true) = Ending.returned (Value.bool true) ∧ Below w.heap.size w wz := by
    intro wz hz
    have H := HB.out
    obtain ⟨_, h2, h3⟩ := HBL.out
    have h4 := H.trans ((h2.trans (h3.mono s1)).mono H.size)
    exact ⟨rfl, h4.trans (hz.below (Nat.le_trans H.size (Nat.le_trans s1 s2)) (fun k hk => by have := H.size; omega))⟩
  clear TT
  have e1 : (j : Int) ≤ zs.length := by omega
  have e2 : (0 : Int) ≤ j := by omega
  have z0 : (0 : Int) ≤ zs.length := by omega
  have z1 : (zs.length : Int) ≤ cap := by omega
  by_cases hcj : cap = j
  · subst hcj
    rcases hmin with ⟨m1, m2⟩ | ⟨m1, m2⟩
    · have ew : IntKind.i64.wrap ((zs.length : Int) - r) = (lo : Int) := by rw [m2]; exact IntWalk.i64_in _ (by omega)
      have y0 : (0 : Int) ≤ lo := by omega
      have y1 : (lo : Int) ≤ zs.length := by omega
      have hcl : ¬ cap = lo := by omega
      have M2 := Lib.hid m2
      clear m2
      go_wp2_with fail
      (with_reducible refine (push_len rb2 sb2 r Sb.1 Sb.2 a 0 0 (zs.drop cap) we (by rw [List.length_drop]; omega) hr2e (by have h := hsle.sliced (l := cap) (cap := cap) (by simpa using hlec); rw [ints_drop, if_pos rfl] at h; exact h) (fun x hx hne => absurd (List.drop_eq_nil_of_le (by omega)) hne) (by simp; omega) hlostb).mono ?_)
      rintro e wf ⟨rfl, hr2f, htf⟩
      have hS0 : Two wc rb sb rb2 sb2 r LL lo a zs wf := after wf hr2f htf
      clear after hr2f htf hr1e hr2e hsle hSB2
      have HS := Lib.hid hS0
      clear hS0 hold
      have st0 : True := trivial
      go_wp2_with fail
      go_region_held3 (fun _ => True) (trivial)
        (first
          | (have _t := st0; go_at_call 14; refine (two_all1 (w := wf.drew) (HS.out.same ((Touch.refl _ _).drew))).mono ?_; rintro e w1 ⟨x1, k1, rfl, l1, t1, h1⟩; have H1 := Lib.hid (And.intro l1 (And.intro t1 h1)); clear l1 t1 h1 st0 _t; have st1 : True := trivial)
          | (have _t := st1; go_at_call 15; refine (two_same H1.out.2.2 x1 _ _ _ k1 _ LL rfl (by have := HL.out.2.2; have := HL.out.1; omega) H1.out.1 (by have h := H1.out.2.2.2.2.1.sliced (l := lo) (cap := cap) (by simpa using hlec); rw [ints_drop, if_neg hcl] at h; rw [show LL = zs.drop lo by rw [HL.out.2.1, HL.out.1]]; exact h) (by omega)).mono ?_; rintro e w2 ⟨rfl, t2, h2⟩; have H2 := Lib.hid h2; clear h2 t2 st1 _t H1; have st2 : True := trivial)
          | (have _t := st2; go_at_call 14; refine (two_all2 H2.out).mono ?_; rintro e w3 ⟨x3, k3, rfl, l3, t3, h3⟩; have H3 := Lib.hid (And.intro l3 (And.intro t3 h3)); clear l3 t3 h3 st2 _t; have st3 : True := trivial)
          | (have _t := st3; go_at_call 14; refine (two_all1 H3.out.2.2).mono ?_; rintro e w4 ⟨x4, k4, rfl, l4, t4, h4⟩; have H4 := Lib.hid (And.intro (SlAt.touch H3.out.1 t4 (fun _ _ _ h => h)) (And.intro l4 h4)); clear l4 t4 h4 st3 _t H3; have st4 : True := trivial)
          | (have _t := st4; go_at_call 15; refine (two_same H4.out.2.2 x3 x4 _ _ k3 k4 LL rfl rfl H4.out.1 H4.out.2.1 (by omega)).mono ?_; rintro e w5 ⟨rfl, t5, h5⟩; have H5 := Lib.hid h5; clear h5 t5 st4 _t H4; have st5 : True := trivial)
          | (have _t := st5; go_at_call 19; refine (lost_any rb sb r LL lo _ H5.out.1).mono ?_; rintro e w6 ⟨rfl, rfl⟩; clear st5 _t; have st6 : True := trivial)
          | (have _t := st6; go_at_call 19; refine (lost_any rb2 sb2 r LL lo _ H5.out.2.1).mono ?_; rintro e w6 ⟨rfl, rfl⟩; clear st6 _t; have st7 : True := trivial)
          | (have _t := st7; go_at_call 19; refine (lost_any rb sb r LL lo _ H5.out.1).mono ?_; rintro e w6 ⟨rfl, rfl⟩; clear st7 _t; have st8 : True := trivial)
          | (have _t := st8; go_at_call 17; refine (len_any rb sb r LL lo _ H5.out.1).mono ?_; rintro e w6 ⟨rfl, rfl⟩; clear st8 _t; have st9 : True := trivial))
      go_wp2
      go_ret
      refine ⟨?_, (fin _ H5.out.2.2.2).2⟩
      have hq1 := HL.out.1
      have hq2 := HL.out.2.2
      simp
      omega
    · by_cases hc0 : cap = 0
      · subst hc0
        obtain rfl : lo = 0 := by omega
        have ew : IntKind.i64.wrap 0 = 0 := rfl
        go_wp2_with fail
        (with_reducible refine (push_len rb2 sb2 r Sb.1 Sb.2 a 0 0 (zs.drop 0) we (by rw [List.length_drop]; omega) hr2e (by have h := hsle.sliced (l := 0) (cap := 0) (by simpa using hlec); rw [ints_drop, if_pos rfl] at h; exact h) (fun x hx hne => absurd (List.drop_eq_nil_of_le (by omega)) hne) (by simp; omega) hlostb).mono ?_)
        rintro e wf ⟨rfl, hr2f, htf⟩
        have hS0 : Two wc rb sb rb2 sb2 r LL 0 a zs wf := after wf hr2f htf
        clear after hr2f htf hr1e hr2e hsle hSB2
        have HS := Lib.hid hS0
        clear hS0 hold
        have st0 : True := trivial
        go_wp2_with fail
        go_region_held3 (fun _ => True) (trivial)
          (first
            | (have _t := st0; go_at_call 14; refine (two_all1 (w := wf.drew) (HS.out.same ((Touch.refl _ _).drew))).mono ?_; rintro e w1 ⟨x1, k1, rfl, l1, t1, h1⟩; have H1 := Lib.hid (And.intro l1 (And.intro t1 h1)); clear l1 t1 h1 st0 _t; have st1 : True := trivial)
            | (have _t := st1; go_at_call 15; refine (two_same H1.out.2.2 x1 _ _ _ k1 _ LL rfl (by have := HL.out.2.2; have := HL.out.1; omega) H1.out.1 (by have h := H1.out.2.2.2.2.1; rw [show LL = zs by (rw [HL.out.2.1, show zs.length - r = 0 by omega]; simp)]; first | exact h | (simpa [Addr.add] using h)) (by omega)).mono ?_; rintro e w2 ⟨rfl, t2, h2⟩; have H2 := Lib.hid h2; clear h2 t2 st1 _t H1; have st2 : True := trivial)
            | (have _t := st2; go_at_call 14; refine (two_all2 H2.out).mono ?_; rintro e w3 ⟨x3, k3, rfl, l3, t3, h3⟩; have H3 := Lib.hid (And.intro l3 (And.intro t3 h3)); clear l3 t3 h3 st2 _t; have st3 : True := trivial)
            | (have _t := st3; go_at_call 14; refine (two_all1 H3.out.2.2).mono ?_; rintro e w4 ⟨x4, k4, rfl, l4, t4, h4⟩; have H4 := Lib.hid (And.intro (SlAt.touch H3.out.1 t4 (fun _ _ _ h => h)) (And.intro l4 h4)); clear l4 t4 h4 st3 _t H3; have st4 : True := trivial)
            | (have _t := st4; go_at_call 15; refine (two_same H4.out.2.2 x3 x4 _ _ k3 k4 LL rfl rfl H4.out.1 H4.out.2.1 (by omega)).mono ?_; rintro e w5 ⟨rfl, t5, h5⟩; have H5 := Lib.hid h5; clear h5 t5 st4 _t H4; have st5 : True := trivial)
            | (have _t := st5; go_at_call 19; refine (lost_any rb sb r LL 0 _ H5.out.1).mono ?_; rintro e w6 ⟨rfl, rfl⟩; clear st5 _t; have st6 : True := trivial)
            | (have _t := st6; go_at_call 19; refine (lost_any rb2 sb2 r LL 0 _ H5.out.2.1).mono ?_; rintro e w6 ⟨rfl, rfl⟩; clear st6 _t; have st7 : True := trivial)
            | (have _t := st7; go_at_call 19; refine (lost_any rb sb r LL 0 _ H5.out.1).mono ?_; rintro e w6 ⟨rfl, rfl⟩; clear st7 _t; have st8 : True := trivial)
            | (have _t := st8; go_at_call 17; refine (len_any rb sb r LL 0 _ H5.out.1).mono ?_; rintro e w6 ⟨rfl, rfl⟩; clear st8 _t; have st9 : True := trivial))
        go_wp2
        go_ret
        refine ⟨?_, (fin _ H5.out.2.2.2).2⟩
        have hq1 := HL.out.1
        have hq2 := HL.out.2.2
        simp
        omega
      · obtain rfl : lo = 0 := by omega
        have ew : IntKind.i64.wrap 0 = 0 := rfl
        go_wp2_with fail
        (with_reducible refine (push_len rb2 sb2 r Sb.1 Sb.2 a 0 0 (zs.drop cap) we (by rw [List.length_drop]; omega) hr2e (by have h := hsle.sliced (l := cap) (cap := cap) (by simpa using hlec); rw [ints_drop, if_pos rfl] at h; exact h) (fun x hx hne => absurd (List.drop_eq_nil_of_le (by omega)) hne) (by simp; omega) hlostb).mono ?_)
        rintro e wf ⟨rfl, hr2f, htf⟩
        have hS0 : Two wc rb sb rb2 sb2 r LL 0 a zs wf := after wf hr2f htf
        clear after hr2f htf hr1e hr2e hsle hSB2
        have HS := Lib.hid hS0
        clear hS0 hold
        have st0 : True := trivial
        go_wp2_with fail
        go_region_held3 (fun _ => True) (trivial)
          (first
            | (have _t := st0; go_at_call 14; refine (two_all1 (w := wf.drew) (HS.out.same ((Touch.refl _ _).drew))).mono ?_; rintro e w1 ⟨x1, k1, rfl, l1, t1, h1⟩; have H1 := Lib.hid (And.intro l1 (And.intro t1 h1)); clear l1 t1 h1 st0 _t; have st1 : True := trivial)
            | (have _t := st1; go_at_call 15; refine (two_same H1.out.2.2 x1 _ _ _ k1 _ LL rfl (by have := HL.out.2.2; have := HL.out.1; omega) H1.out.1 (by have h := H1.out.2.2.2.2.1; rw [show LL = zs by (rw [HL.out.2.1, show zs.length - r = 0 by omega]; simp)]; first | exact h | (simpa [Addr.add] using h)) (by omega)).mono ?_; rintro e w2 ⟨rfl, t2, h2⟩; have H2 := Lib.hid h2; clear h2 t2 st1 _t H1; have st2 : True := trivial)
            | (have _t := st2; go_at_call 14; refine (two_all2 H2.out).mono ?_; rintro e w3 ⟨x3, k3, rfl, l3, t3, h3⟩; have H3 := Lib.hid (And.intro l3 (And.intro t3 h3)); clear l3 t3 h3 st2 _t; have st3 : True := trivial)
            | (have _t := st3; go_at_call 14; refine (two_all1 H3.out.2.2).mono ?_; rintro e w4 ⟨x4, k4, rfl, l4, t4, h4⟩; have H4 := Lib.hid (And.intro (SlAt.touch H3.out.1 t4 (fun _ _ _ h => h)) (And.intro l4 h4)); clear l4 t4 h4 st3 _t H3; have st4 : True := trivial)
            | (have _t := st4; go_at_call 15; refine (two_same H4.out.2.2 x3 x4 _ _ k3 k4 LL rfl rfl H4.out.1 H4.out.2.1 (by omega)).mono ?_; rintro e w5 ⟨rfl, t5, h5⟩; have H5 := Lib.hid h5; clear h5 t5 st4 _t H4; have st5 : True := trivial)
            | (have _t := st5; go_at_call 19; refine (lost_any rb sb r LL 0 _ H5.out.1).mono ?_; rintro e w6 ⟨rfl, rfl⟩; clear st5 _t; have st6 : True := trivial)
            | (have _t := st6; go_at_call 19; refine (lost_any rb2 sb2 r LL 0 _ H5.out.2.1).mono ?_; rintro e w6 ⟨rfl, rfl⟩; clear st6 _t; have st7 : True := trivial)
            | (have _t := st7; go_at_call 19; refine (lost_any rb sb r LL 0 _ H5.out.1).mono ?_; rintro e w6 ⟨rfl, rfl⟩; clear st7 _t; have st8 : True := trivial)
            | (have _t := st8; go_at_call 17; refine (len_any rb sb r LL 0 _ H5.out.1).mono ?_; rintro e w6 ⟨rfl, rfl⟩; clear st8 _t; have st9 : True := trivial))
        go_wp2
        go_ret
        refine ⟨?_, (fin _ H5.out.2.2.2).2⟩
        have hq1 := HL.out.1
        have hq2 := HL.out.2.2
        simp
        omega
  · rcases hmin with ⟨m1, m2⟩ | ⟨m1, m2⟩
    · have ew : IntKind.i64.wrap ((zs.length : Int) - r) = (lo : Int) := by rw [m2]; exact IntWalk.i64_in _ (by omega)
      have y0 : (0 : Int) ≤ lo := by omega
      have y1 : (lo : Int) ≤ zs.length := by omega
      have hcl : ¬ cap = lo := by omega
      have M2 := Lib.hid m2
      clear m2
      go_wp2_with fail
      refine (push_len rb2 sb2 r Sb.1 Sb.2 (Option.map (fun x => x.add j) a) (zs.length - j) (cap - j) (zs.drop j) we (by simp) hr2e (by have h := hsle.sliced (l := j) (cap := cap) (by simpa using hlec); rw [ints_drop, if_neg hcj] at h; exact h) (fun x hx hne => by
          cases a with
          | none => simp at hx
          | some y =>
            have := hold y rfl (by rintro rfl; simp at hne)
            simp at hx
            have hb : x.block = y.block := by rw [← hx]; unfold Addr.add; split <;> rfl
            omega) (by simp; omega) hlostb).mono ?_
      rintro e wf ⟨rfl, hr2f, htf⟩
      have hS0 : Two wc rb sb rb2 sb2 r LL lo a zs wf := after wf hr2f htf
      clear after hr2f htf hr1e hr2e hsle hSB2
      have HS := Lib.hid hS0
      clear hS0 hold
      have st0 : True := trivial
      go_wp2_with fail
      go_region_held3 (fun _ => True) (trivial)
        (first
          | (have _t := st0; go_at_call 14; refine (two_all1 (w := wf.drew) (HS.out.same ((Touch.refl _ _).drew))).mono ?_; rintro e w1 ⟨x1, k1, rfl, l1, t1, h1⟩; have H1 := Lib.hid (And.intro l1 (And.intro t1 h1)); clear l1 t1 h1 st0 _t; have st1 : True := trivial)
          | (have _t := st1; go_at_call 15; refine (two_same H1.out.2.2 x1 _ _ _ k1 _ LL rfl (by have := HL.out.2.2; have := HL.out.1; omega) H1.out.1 (by have h := H1.out.2.2.2.2.1.sliced (l := lo) (cap := cap) (by simpa using hlec); rw [ints_drop, if_neg hcl] at h; rw [show LL = zs.drop lo by rw [HL.out.2.1, HL.out.1]]; exact h) (by omega)).mono ?_; rintro e w2 ⟨rfl, t2, h2⟩; have H2 := Lib.hid h2; clear h2 t2 st1 _t H1; have st2 : True := trivial)
          | (have _t := st2; go_at_call 14; refine (two_all2 H2.out).mono ?_; rintro e w3 ⟨x3, k3, rfl, l3, t3, h3⟩; have H3 := Lib.hid (And.intro l3 (And.intro t3 h3)); clear l3 t3 h3 st2 _t; have st3 : True := trivial)
          | (have _t := st3; go_at_call 14; refine (two_all1 H3.out.2.2).mono ?_; rintro e w4 ⟨x4, k4, rfl, l4, t4, h4⟩; have H4 := Lib.hid (And.intro (SlAt.touch H3.out.1 t4 (fun _ _ _ h => h)) (And.intro l4 h4)); clear l4 t4 h4 st3 _t H3; have st4 : True := trivial)
          | (have _t := st4; go_at_call 15; refine (two_same H4.out.2.2 x3 x4 _ _ k3 k4 LL rfl rfl H4.out.1 H4.out.2.1 (by omega)).mono ?_; rintro e w5 ⟨rfl, t5, h5⟩; have H5 := Lib.hid h5; clear h5 t5 st4 _t H4; have st5 : True := trivial)
          | (have _t := st5; go_at_call 19; refine (lost_any rb sb r LL lo _ H5.out.1).mono ?_; rintro e w6 ⟨rfl, rfl⟩; clear st5 _t; have st6 : True := trivial)
          | (have _t := st6; go_at_call 19; refine (lost_any rb2 sb2 r LL lo _ H5.out.2.1).mono ?_; rintro e w6 ⟨rfl, rfl⟩; clear st6 _t; have st7 : True := trivial)
          | (have _t := st7; go_at_call 19; refine (lost_any rb sb r LL lo _ H5.out.1).mono ?_; rintro e w6 ⟨rfl, rfl⟩; clear st7 _t; have st8 : True := trivial)
          | (have _t := st8; go_at_call 17; refine (len_any rb sb r LL lo _ H5.out.1).mono ?_; rintro e w6 ⟨rfl, rfl⟩; clear st8 _t; have st9 : True := trivial))
      go_wp2
      go_ret
      refine ⟨?_, (fin _ H5.out.2.2.2).2⟩
      have hq1 := HL.out.1
      have hq2 := HL.out.2.2
      simp
      omega
    · have hc0 : ¬ cap = 0 := by omega
      obtain rfl : lo = 0 := by omega
      have ew : IntKind.i64.wrap 0 = 0 := rfl
      go_wp2_with fail
      refine (push_len rb2 sb2 r Sb.1 Sb.2 (Option.map (fun x => x.add j) a) (zs.length - j) (cap - j) (zs.drop j) we (by simp) hr2e (by have h := hsle.sliced (l := j) (cap := cap) (by simpa using hlec); rw [ints_drop, if_neg hcj] at h; exact h) (fun x hx hne => by
          cases a with
          | none => simp at hx
          | some y =>
            have := hold y rfl (by rintro rfl; simp at hne)
            simp at hx
            have hb : x.block = y.block := by rw [← hx]; unfold Addr.add; split <;> rfl
            omega) (by simp; omega) hlostb).mono ?_
      rintro e wf ⟨rfl, hr2f, htf⟩
      have hS0 : Two wc rb sb rb2 sb2 r LL 0 a zs wf := after wf hr2f htf
      clear after hr2f htf hr1e hr2e hsle hSB2
      have HS := Lib.hid hS0
      clear hS0 hold
      have st0 : True := trivial
      go_wp2_with fail
      go_region_held3 (fun _ => True) (trivial)
        (first
          | (have _t := st0; go_at_call 14; refine (two_all1 (w := wf.drew) (HS.out.same ((Touch.refl _ _).drew))).mono ?_; rintro e w1 ⟨x1, k1, rfl, l1, t1, h1⟩; have H1 := Lib.hid (And.intro l1 (And.intro t1 h1)); clear l1 t1 h1 st0 _t; have st1 : True := trivial)
          | (have _t := st1; go_at_call 15; refine (two_same H1.out.2.2 x1 _ _ _ k1 _ LL rfl (by have := HL.out.2.2; have := HL.out.1; omega) H1.out.1 (by have h := H1.out.2.2.2.2.1; rw [show LL = zs by (rw [HL.out.2.1, show zs.length - r = 0 by omega]; simp)]; first | exact h | (simpa [Addr.add] using h)) (by omega)).mono ?_; rintro e w2 ⟨rfl, t2, h2⟩; have H2 := Lib.hid h2; clear h2 t2 st1 _t H1; have st2 : True := trivial)
          | (have _t := st2; go_at_call 14; refine (two_all2 H2.out).mono ?_; rintro e w3 ⟨x3, k3, rfl, l3, t3, h3⟩; have H3 := Lib.hid (And.intro l3 (And.intro t3 h3)); clear l3 t3 h3 st2 _t; have st3 : True := trivial)
          | (have _t := st3; go_at_call 14; refine (two_all1 H3.out.2.2).mono ?_; rintro e w4 ⟨x4, k4, rfl, l4, t4, h4⟩; have H4 := Lib.hid (And.intro (SlAt.touch H3.out.1 t4 (fun _ _ _ h => h)) (And.intro l4 h4)); clear l4 t4 h4 st3 _t H3; have st4 : True := trivial)
          | (have _t := st4; go_at_call 15; refine (two_same H4.out.2.2 x3 x4 _ _ k3 k4 LL rfl rfl H4.out.1 H4.out.2.1 (by omega)).mono ?_; rintro e w5 ⟨rfl, t5, h5⟩; have H5 := Lib.hid h5; clear h5 t5 st4 _t H4; have st5 : True := trivial)
          | (have _t := st5; go_at_call 19; refine (lost_any rb sb r LL 0 _ H5.out.1).mono ?_; rintro e w6 ⟨rfl, rfl⟩; clear st5 _t; have st6 : True := trivial)
          | (have _t := st6; go_at_call 19; refine (lost_any rb2 sb2 r LL 0 _ H5.out.2.1).mono ?_; rintro e w6 ⟨rfl, rfl⟩; clear st6 _t; have st7 : True := trivial)
          | (have _t := st7; go_at_call 19; refine (lost_any rb sb r LL 0 _ H5.out.1).mono ?_; rintro e w6 ⟨rfl, rfl⟩; clear st7 _t; have st8 : True := trivial)
          | (have _t := st8; go_at_call 17; refine (len_any rb sb r LL 0 _ H5.out.1).mono ?_; rintro e w6 ⟨rfl, rfl⟩; clear st8 _t; have st9 : True := trivial))
      go_wp2
      go_ret
      refine ⟨?_, (fin _ H5.out.2.2.2).2⟩
      have hq1 := HL.out.1
      have hq2 := HL.out.2.2
      simp
      omega

/-! ### the row's step, and the row -/
theorem ringLast_own : ownKnob Try.prog.godebug = none := by kernel_rfl
theorem ringLast_laidOut : laidOutB Try.prog = true := by kernel_rfl

set_option linter.unusedVariables false in
set_option maxRecDepth 100000 in
theorem ringLast_lifted (os : Os) (started : os.Started) (H : Type) (enc : TypeId × Value → H) :
    ReturnsInHanded {} Try.checked os 4 .any (Rows.ringLastSpec.pre6 enc Try.prog Try.f4 Rows.ringLastRow.domain false) (Rows.ringLastSpec.post enc Try.prog Try.f4 false true false false) := by
  refine returnsInHanded_of_change (C := Try.checked) ringLast_own started (by kernel_rfl) Try.func4
    (ChangeSpec.witness6 (enc := enc) (C := Try.checked) false ⟨#[], #[.int .i64 0, .slice none 0 0, .int .i64 0], []⟩ 8 (by kernel_rfl) (by kernel_rfl) (by kernel_rfl) (by kernel_rfl)) ?_
  intro W base args ds gs before hval0 hW hcnd _
  have hval : ∀ (j : Nat) t v, Try.f4.params[j]? = some t → args[j]? = some v → Value.okWide Try.prog W .any base t v := hval0
  have hW' := hW
  obtain ⟨p, q, hA0, hV, rfl, hfz, hnd⟩ := hW
  have hA : DataW.TrodAll enc Try.prog W 0 (fun _ => true) true Try.f4.params.toList args.toList ds p := hA0
  rw [Try.params4] at hA hval
  obtain ⟨v0, vs0, d0, ds0, p0, q0, hargs, rfl, rfl, h0, r0⟩ := trodAll_cons hA
  obtain ⟨v1, vs1, d1, ds1, p1, q1, rfl, rfl, rfl, h1, r1⟩ := trodAll_cons r0
  obtain ⟨v2, vs2, d2, ds2, p2, q2, rfl, rfl, rfl, h2, r2⟩ := trodAll_cons r1
  obtain ⟨rfl, rfl, rfl⟩ := trodAll_nil r2
  obtain rfl : args = #[v0, v1, v2] := by cases args; simp_all
  obtain ⟨rfl, rfl⟩ := trodVars_none hV
  obtain ⟨a0, rfl, rfl, rfl, w0⟩ := open_int Try.underlying3 (hval 0 3 v0 rfl rfl) h0
  have k1 := h1
  have lt1 : ∀ x ∈ p1, x.block < W.heap.size := by obtain ⟨m, hm⟩ := k1; exact DataW.trod_lt m _ _ _ hm
  obtain ⟨a1, len1, cap1, rfl⟩ := okWide_slice Try.underlying28 (hval 1 28 v1 rfl rfl)
  obtain ⟨z1, w1⟩ := row_of (k := .i64) Try.underlying28 Try.underlying3 (by kernel_rfl) h1
  obtain ⟨a2, rfl, rfl, rfl, w2⟩ := open_int Try.underlying3 (hval 2 3 v2 rfl rfl) h2
  clear hA0 hval0
  refine (ringLast_walk W a0 w0 a1 len1 cap1 z1 w1 a2 w2).mono fun e W' ⟨he, bel⟩ => ?_
  subst he
  exact ⟨_, rfl, _, _, _, [], _, [], hW', trodAll_mk1 (shut_bool Try.underlying4 _), (trodAll_cons_mk (shut_int Try.underlying3 w0) (trodAll_cons_mk (Below.trod ringLast_laidOut (by kernel_rfl) (of_decide_eq_true (by kernel_rfl)) k1 bel lt1) (trodAll_cons_mk (shut_int Try.underlying3 w2) trodAll_mk0))), rfl, bel.frame _, fun h => by cases h⟩

theorem ringLast_over : Rows.ringLastRow.holds Try.pinned (OpenSpec.ofChange Rows.ringLastSpec) :=
  OpenClaim.holds_of_wide 4 Try.f4 rfl rfl rfl rfl rfl rfl rfl ⟨rfl, rfl, rfl, rfl, rfl⟩ rfl rfl rfl rfl rfl (by kernel_rfl) Try.func4 (by kernel_rfl)
    (of_decide_eq_true (by kernel_rfl)) (by unfold Func.isWrapper; first | (rw [if_pos (by decide +kernel)]; kernel_rfl) | (rw [if_neg (by decide +kernel)]; exact ⟨rfl, rfl⟩))
    (fun os started H enc _ => ringLast_lifted os started H enc)

/-- THE STATEMENT. -/
theorem ringLast_proved : Rows.RingLastSaid := ringLast_over
#print axioms ringLast_proved
end Go.Proofs.Ythhjfoolijiacaa
