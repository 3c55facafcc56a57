/-
  nightjarlaw06.CookieBack: for all secrets and numbers the law returns true. No conditions: for every input that can be read.
-/
import Derived.Test.YthlkmofemnepbaaRows
import Derived.Test.YthlkmofemnepbaaDigestLib
import Derived.Test.YthlkmofemnepbaaCSmall
namespace Go.Proofs.Ythlkmofemnepbaa
open Go.ChangeShapes Go.WideShapes Go.ChangeAt Go.RowKit

set_option maxRecDepth 100000 in
theorem check_to (a : Option Addr) (nk cap : Nat) (s : List Nat) (ad no ep now : Int) (c : List Nat) (r : Int) (w : World) (hk : s.length = nk) (hs : SlAt w a (bn s)) (hc : a = none → cap = 0) (hr : ∀ y ∈ s, y < 256) (hn : nk ≤ 100000)
    (hcl : c.length = 16) (hcr : ∀ y ∈ c, y < 256) (hm : now ≤ 9223372036854775807) (he : checkN s ad no ep now c = r) :
    Calls Try.prog 32 #[.slice a nk cap, .int .i64 ad, .int .i64 no, .int .i64 ep, .int .i64 now, .agg (bn c).toArray] w fun e w' => e = .returned (.int .i64 r) ∧ Below w.heap.size w w' := by
  subst he
  exact check_any a nk cap s ad no ep now c w hk hs hc hr hn hcl hcr hm

set_option maxRecDepth 100000 in
set_option maxHeartbeats 4000000 in
theorem cookieBack_in (w : World) (a0 : Option Addr) (c0 : Nat) (s : List Nat) (h0 : BytesIn w a0 s.length c0 s) (ad no ep now : Int) (k0 : ¬ 300 < s.length) (hm0 : now ≤ 9223372036854775807) :
    Calls Try.prog 11 #[.slice a0 s.length c0, .int .i64 ad, .int .i64 no, .int .i64 ep, .int .i64 now] w fun e w' => e = .returned (.bool true) ∧ Below w.heap.size w w' := by
  have HIN := Lib.hid (And.intro h0 hm0)
  clear h0 hm0
  obtain ⟨M, hM⟩ : ∃ M, M = mintN s ad no ep := ⟨_, rfl⟩
  have HML : Hid (M.length = 16 ∧ ∀ y ∈ M, y < 256) := Lib.hid ⟨by rw [hM]; exact mintN_len _ _ _ _, by rw [hM]; exact mintN_lt _ _ _ _⟩
  have HMS : Hid ((bn M).toArray.size = 16 ∧ (bn M).toArray.all (·.oneCell') = true) := Lib.hid ⟨by rw [bn_size]; exact HML.out.1, bn_all M⟩
  have HR : Hid (checkN s ad no ep now M = if ep < 0 ∨ now < ep ∨ 1 < now - ep then 4 else 0) := Lib.hid (by unfold checkN; rw [hM, if_pos rfl])
  have HM := Lib.hid hM
  clear hM
  have hcc : (¬ 0 ≤ ep) ∨ (0 ≤ ep ∧ (now == ep) = true) ∨ (0 ≤ ep ∧ (now == ep) = false ∧ ¬ ep < now) ∨ (0 ≤ ep ∧ (now == ep) = false ∧ ep < now ∧ IntKind.i64.wrap (now - ep) = now - ep ∧ (now - ep == 1) = true) ∨ (0 ≤ ep ∧ (now == ep) = false ∧ ep < now ∧ IntKind.i64.wrap (now - ep) = now - ep ∧ (now - ep == 1) = false) := by
    have hm := HIN.out.2
    by_cases q0 : 0 ≤ ep
    · by_cases q1 : now = ep
      · exact Or.inr (Or.inl ⟨q0, by simp; exact q1⟩)
      · have f1 : (now == ep) = false := by simp; exact q1
        by_cases q2 : ep < now
        · have kw : IntKind.i64.wrap (now - ep) = now - ep := by
            simp [IntKind.wrap, IntKind.bits, IntKind.signed]
            omega
          by_cases q3 : now - ep = 1
          · exact Or.inr (Or.inr (Or.inr (Or.inl ⟨q0, f1, q2, kw, by simp; exact q3⟩)))
          · exact Or.inr (Or.inr (Or.inr (Or.inr ⟨q0, f1, q2, kw, by simp; exact q3⟩)))
        · exact Or.inr (Or.inr (Or.inl ⟨q0, f1, q2⟩))
    · exact Or.inl q0
  rcases hcc with q0 | ⟨q0, q1⟩ | ⟨q0, q1, q2⟩ | ⟨q0, q1, q2, q3, q4⟩ | ⟨q0, q1, q2, q3, q4⟩
  · have HE : Hid (checkN s ad no ep now M = 4) := Lib.hid (by rw [HR.out, if_pos (by omega)])
    clear HR
    go_enter Try.func11, Try.ntmps11
    go_wp2_with fail
    (with_reducible refine (cookieSmall_any w).mono ?_)
    rintro e wa ⟨rfl, hba⟩
    have HA := Lib.hid (Touch.of_below (S := fun _ => False) hba)
    clear hba
    go_wp2_with fail
    (with_reducible refine (mint_any a0 s.length c0 s ad no ep _ rfl (HIN.out.1.cells.touch HA.out (fun _ _ _ h => h)) HIN.out.1.nil HIN.out.1.lt (by omega)).mono ?_)
    rintro e w1 ⟨rfl, hb1⟩
    rw [← HM.out]
    have H1 : Hid (Touch (fun _ => False) w w1) := Lib.hid (HA.out.trans (Touch.of_below hb1))
    clear hb1
    go_wp2_with (first | (refine wpList_store_blk rfl 22 (.tmp 12) (.tmp 23) rfl w1.heap.size 22 _ (bn M).toArray rfl rfl (Blk.new _ _ _) (by rw [HMS.out.1]; first | done | kernel_rfl) (by rw [HMS.out.1]; first | done | kernel_rfl) HMS.out.2 ?_; intro w3 hB3 ht3 hs3; have HB3 := Lib.hid (And.intro hB3 ht3); clear hB3 ht3 hs3) | (refine wpList_load_blk rfl 22 (.tmp 12) rfl w1.heap.size 22 (bn M).toArray _ rfl HB3.out.1 Try.underlying22 rfl (by rw [HMS.out.1]; first | done | kernel_rfl) ?_))
    have HK3 : Hid (Touch (fun _ => False) w w3) := Lib.hid (Touch.then (S := fun _ => False) (H1.out.alloc _) HB3.out.2 (fun i hi e => by have := H1.out.size; omega))
    (with_reducible refine (check_to a0 s.length c0 s ad no ep now M (4) _ rfl (HIN.out.1.cells.touch HK3.out (fun _ _ _ h => h)) HIN.out.1.nil HIN.out.1.lt (by omega) HML.out.1 HML.out.2 HIN.out.2 HE.out).mono ?_)
    rintro e w4 ⟨rfl, hb4⟩
    have H4 : Hid (Touch (fun _ => False) w w4) := Lib.hid (HK3.out.trans (Touch.of_below hb4))
    clear hb4
    go_wp2_with fail
    go_ret
    exact ⟨by first | rfl | simp, H4.out.below (Nat.le_refl _) (fun _ _ h => h)⟩
  · have HE : Hid (checkN s ad no ep now M = 0) := Lib.hid (by rw [HR.out, if_neg (by have := eq_of_beq q1; omega)])
    clear HR
    go_enter Try.func11, Try.ntmps11
    go_wp2_with fail
    (with_reducible refine (cookieSmall_any w).mono ?_)
    rintro e wa ⟨rfl, hba⟩
    have HA := Lib.hid (Touch.of_below (S := fun _ => False) hba)
    clear hba
    go_wp2_with fail
    (with_reducible refine (mint_any a0 s.length c0 s ad no ep _ rfl (HIN.out.1.cells.touch HA.out (fun _ _ _ h => h)) HIN.out.1.nil HIN.out.1.lt (by omega)).mono ?_)
    rintro e w1 ⟨rfl, hb1⟩
    rw [← HM.out]
    have H1 : Hid (Touch (fun _ => False) w w1) := Lib.hid (HA.out.trans (Touch.of_below hb1))
    clear hb1
    go_wp2_with (first | (refine wpList_store_blk rfl 22 (.tmp 12) (.tmp 23) rfl w1.heap.size 22 _ (bn M).toArray rfl rfl (Blk.new _ _ _) (by rw [HMS.out.1]; first | done | kernel_rfl) (by rw [HMS.out.1]; first | done | kernel_rfl) HMS.out.2 ?_; intro w3 hB3 ht3 hs3; have HB3 := Lib.hid (And.intro hB3 ht3); clear hB3 ht3 hs3) | (refine wpList_load_blk rfl 22 (.tmp 12) rfl w1.heap.size 22 (bn M).toArray _ rfl HB3.out.1 Try.underlying22 rfl (by rw [HMS.out.1]; first | done | kernel_rfl) ?_))
    have HK3 : Hid (Touch (fun _ => False) w w3) := Lib.hid (Touch.then (S := fun _ => False) (H1.out.alloc _) HB3.out.2 (fun i hi e => by have := H1.out.size; omega))
    (with_reducible refine (check_to a0 s.length c0 s ad no ep now M (0) _ rfl (HIN.out.1.cells.touch HK3.out (fun _ _ _ h => h)) HIN.out.1.nil HIN.out.1.lt (by omega) HML.out.1 HML.out.2 HIN.out.2 HE.out).mono ?_)
    rintro e w4 ⟨rfl, hb4⟩
    have H4 : Hid (Touch (fun _ => False) w w4) := Lib.hid (HK3.out.trans (Touch.of_below hb4))
    clear hb4
    go_wp2_with fail
    go_ret
    exact ⟨by first | rfl | simp, H4.out.below (Nat.le_refl _) (fun _ _ h => h)⟩
  · have HE : Hid (checkN s ad no ep now M = 4) := Lib.hid (by rw [HR.out, if_pos (by have := beq_eq_false_iff_ne.1 q1; omega)])
    clear HR
    go_enter Try.func11, Try.ntmps11
    go_wp2_with fail
    (with_reducible refine (cookieSmall_any w).mono ?_)
    rintro e wa ⟨rfl, hba⟩
    have HA := Lib.hid (Touch.of_below (S := fun _ => False) hba)
    clear hba
    go_wp2_with fail
    (with_reducible refine (mint_any a0 s.length c0 s ad no ep _ rfl (HIN.out.1.cells.touch HA.out (fun _ _ _ h => h)) HIN.out.1.nil HIN.out.1.lt (by omega)).mono ?_)
    rintro e w1 ⟨rfl, hb1⟩
    rw [← HM.out]
    have H1 : Hid (Touch (fun _ => False) w w1) := Lib.hid (HA.out.trans (Touch.of_below hb1))
    clear hb1
    go_wp2_with (first | (refine wpList_store_blk rfl 22 (.tmp 12) (.tmp 23) rfl w1.heap.size 22 _ (bn M).toArray rfl rfl (Blk.new _ _ _) (by rw [HMS.out.1]; first | done | kernel_rfl) (by rw [HMS.out.1]; first | done | kernel_rfl) HMS.out.2 ?_; intro w3 hB3 ht3 hs3; have HB3 := Lib.hid (And.intro hB3 ht3); clear hB3 ht3 hs3) | (refine wpList_load_blk rfl 22 (.tmp 12) rfl w1.heap.size 22 (bn M).toArray _ rfl HB3.out.1 Try.underlying22 rfl (by rw [HMS.out.1]; first | done | kernel_rfl) ?_))
    have HK3 : Hid (Touch (fun _ => False) w w3) := Lib.hid (Touch.then (S := fun _ => False) (H1.out.alloc _) HB3.out.2 (fun i hi e => by have := H1.out.size; omega))
    (with_reducible refine (check_to a0 s.length c0 s ad no ep now M (4) _ rfl (HIN.out.1.cells.touch HK3.out (fun _ _ _ h => h)) HIN.out.1.nil HIN.out.1.lt (by omega) HML.out.1 HML.out.2 HIN.out.2 HE.out).mono ?_)
    rintro e w4 ⟨rfl, hb4⟩
    have H4 : Hid (Touch (fun _ => False) w w4) := Lib.hid (HK3.out.trans (Touch.of_below hb4))
    clear hb4
    go_wp2_with fail
    go_ret
    exact ⟨by first | rfl | simp, H4.out.below (Nat.le_refl _) (fun _ _ h => h)⟩
  · have HE : Hid (checkN s ad no ep now M = 0) := Lib.hid (by rw [HR.out, if_neg (by have := eq_of_beq q4; omega)])
    clear HR
    go_enter Try.func11, Try.ntmps11
    go_wp2_with fail
    (with_reducible refine (cookieSmall_any w).mono ?_)
    rintro e wa ⟨rfl, hba⟩
    have HA := Lib.hid (Touch.of_below (S := fun _ => False) hba)
    clear hba
    go_wp2_with fail
    (with_reducible refine (mint_any a0 s.length c0 s ad no ep _ rfl (HIN.out.1.cells.touch HA.out (fun _ _ _ h => h)) HIN.out.1.nil HIN.out.1.lt (by omega)).mono ?_)
    rintro e w1 ⟨rfl, hb1⟩
    rw [← HM.out]
    have H1 : Hid (Touch (fun _ => False) w w1) := Lib.hid (HA.out.trans (Touch.of_below hb1))
    clear hb1
    go_wp2_with (first | (refine wpList_store_blk rfl 22 (.tmp 12) (.tmp 23) rfl w1.heap.size 22 _ (bn M).toArray rfl rfl (Blk.new _ _ _) (by rw [HMS.out.1]; first | done | kernel_rfl) (by rw [HMS.out.1]; first | done | kernel_rfl) HMS.out.2 ?_; intro w3 hB3 ht3 hs3; have HB3 := Lib.hid (And.intro hB3 ht3); clear hB3 ht3 hs3) | (refine wpList_load_blk rfl 22 (.tmp 12) rfl w1.heap.size 22 (bn M).toArray _ rfl HB3.out.1 Try.underlying22 rfl (by rw [HMS.out.1]; first | done | kernel_rfl) ?_))
    have HK3 : Hid (Touch (fun _ => False) w w3) := Lib.hid (Touch.then (S := fun _ => False) (H1.out.alloc _) HB3.out.2 (fun i hi e => by have := H1.out.size; omega))
    (with_reducible refine (check_to a0 s.length c0 s ad no ep now M (0) _ rfl (HIN.out.1.cells.touch HK3.out (fun _ _ _ h => h)) HIN.out.1.nil HIN.out.1.lt (by omega) HML.out.1 HML.out.2 HIN.out.2 HE.out).mono ?_)
    rintro e w4 ⟨rfl, hb4⟩
    have H4 : Hid (Touch (fun _ => False) w w4) := Lib.hid (HK3.out.trans (Touch.of_below hb4))
    clear hb4
    go_wp2_with fail
    go_ret
    exact ⟨by first | rfl | simp, H4.out.below (Nat.le_refl _) (fun _ _ h => h)⟩
  · have HE : Hid (checkN s ad no ep now M = 4) := Lib.hid (by rw [HR.out, if_pos (by have := beq_eq_false_iff_ne.1 q4; omega)])
    clear HR
    go_enter Try.func11, Try.ntmps11
    go_wp2_with fail
    (with_reducible refine (cookieSmall_any w).mono ?_)
    rintro e wa ⟨rfl, hba⟩
    have HA := Lib.hid (Touch.of_below (S := fun _ => False) hba)
    clear hba
    go_wp2_with fail
    (with_reducible refine (mint_any a0 s.length c0 s ad no ep _ rfl (HIN.out.1.cells.touch HA.out (fun _ _ _ h => h)) HIN.out.1.nil HIN.out.1.lt (by omega)).mono ?_)
    rintro e w1 ⟨rfl, hb1⟩
    rw [← HM.out]
    have H1 : Hid (Touch (fun _ => False) w w1) := Lib.hid (HA.out.trans (Touch.of_below hb1))
    clear hb1
    go_wp2_with (first | (refine wpList_store_blk rfl 22 (.tmp 12) (.tmp 23) rfl w1.heap.size 22 _ (bn M).toArray rfl rfl (Blk.new _ _ _) (by rw [HMS.out.1]; first | done | kernel_rfl) (by rw [HMS.out.1]; first | done | kernel_rfl) HMS.out.2 ?_; intro w3 hB3 ht3 hs3; have HB3 := Lib.hid (And.intro hB3 ht3); clear hB3 ht3 hs3) | (refine wpList_load_blk rfl 22 (.tmp 12) rfl w1.heap.size 22 (bn M).toArray _ rfl HB3.out.1 Try.underlying22 rfl (by rw [HMS.out.1]; first | done | kernel_rfl) ?_))
    have HK3 : Hid (Touch (fun _ => False) w w3) := Lib.hid (Touch.then (S := fun _ => False) (H1.out.alloc _) HB3.out.2 (fun i hi e => by have := H1.out.size; omega))
    (with_reducible refine (check_to a0 s.length c0 s ad no ep now M (4) _ rfl (HIN.out.1.cells.touch HK3.out (fun _ _ _ h => h)) HIN.out.1.nil HIN.out.1.lt (by omega) HML.out.1 HML.out.2 HIN.out.2 HE.out).mono ?_)
    rintro e w4 ⟨rfl, hb4⟩
    have H4 : Hid (Touch (fun _ => False) w w4) := Lib.hid (HK3.out.trans (Touch.of_below hb4))
    clear hb4
    go_wp2_with fail
    go_ret
    exact ⟨by first | rfl | simp, H4.out.below (Nat.le_refl _) (fun _ _ h => h)⟩

set_option maxRecDepth 100000 in
set_option maxHeartbeats 4000000 in
theorem cookieBack_walk (w : World) (a0 : Option Addr) (l0 c0 : Nat) (z0 : List Int) (h0 : RowIn .u8 w a0 l0 c0 z0) (ad : Int) (_w1 : (Lit.int .i64 ad).wf = true) (no : Int) (_w2 : (Lit.int .i64 no).wf = true) (ep : Int) (_w3 : (Lit.int .i64 ep).wf = true) (now : Int) (_w4 : (Lit.int .i64 now).wf = true) :
    Calls Try.prog 11 #[.slice a0 l0 c0, .int .i64 ad, .int .i64 no, .int .i64 ep, .int .i64 now] w fun e w' => e = .returned (.bool true) ∧ Below w.heap.size w w' := by
  have i0 := h0.bytes
  have hm := (bounds_i64 _w4).2
  obtain ⟨s, hs⟩ : ∃ b, b = nats z0 := ⟨_, rfl⟩
  rw [← hs] at i0
  clear hs h0 _w1 _w2 _w3 _w4
  have e0 := i0.hlen
  subst e0
  by_cases k0 : 300 < s.length
  · clear i0 hm
    go_enter Try.func11, Try.ntmps11
    go_wp2_with fail
    (with_reducible refine (cookieSmall_any w).mono ?_)
    rintro e w1 ⟨rfl, hb⟩
    have HB := Lib.hid hb
    clear hb
    go_wp2_with fail
    go_ret
    exact ⟨rfl, HB.out⟩
  · exact cookieBack_in w a0 c0 s i0 ad no ep now k0 hm

/-! ### the row's step, and the row -/
theorem cookieBack_own : ownKnob Try.prog.godebug = none := by kernel_rfl
theorem cookieBack_laidOut : laidOutB Try.prog = true := by kernel_rfl

set_option linter.unusedVariables false in
set_option maxRecDepth 100000 in
theorem cookieBack_lifted (os : Os) (started : os.Started) (H : Type) (enc : TypeId × Value → H) :
    ReturnsInHanded {} Try.checked os 11 .any (Rows.cookieBackSpec.pre6 enc Try.prog Try.f11 Rows.cookieBackRow.domain false) (Rows.cookieBackSpec.post enc Try.prog Try.f11 false true false false) := by
  refine returnsInHanded_of_change (C := Try.checked) cookieBack_own started (by kernel_rfl) Try.func11
    (ChangeSpec.witness6 (enc := enc) (C := Try.checked) false ⟨#[], #[.slice none 0 0, .int .i64 0, .int .i64 0, .int .i64 0, .int .i64 0], []⟩ 8 (by kernel_rfl) (by kernel_rfl) (by kernel_rfl) (by kernel_rfl)) ?_
  intro W base args ds gs before hval0 hW hcnd _
  have hval : ∀ (j : Nat) t v, Try.f11.params[j]? = some t → args[j]? = some v → Value.okWide Try.prog W .any base t v := hval0
  have hW' := hW
  obtain ⟨p, q, hA0, hV, rfl, hfz, hnd⟩ := hW
  have hA : DataW.TrodAll enc Try.prog W 0 (fun _ => true) true Try.f11.params.toList args.toList ds p := hA0
  rw [Try.params11] at hA hval
  obtain ⟨v0, vs0, d0, ds0, p0, q0, hargs, rfl, rfl, h0, r0⟩ := trodAll_cons hA
  obtain ⟨v1, vs1, d1, ds1, p1, q1, rfl, rfl, rfl, h1, r1⟩ := trodAll_cons r0
  obtain ⟨v2, vs2, d2, ds2, p2, q2, rfl, rfl, rfl, h2, r2⟩ := trodAll_cons r1
  obtain ⟨v3, vs3, d3, ds3, p3, q3, rfl, rfl, rfl, h3, r3⟩ := trodAll_cons r2
  obtain ⟨v4, vs4, d4, ds4, p4, q4, rfl, rfl, rfl, h4, r4⟩ := trodAll_cons r3
  obtain ⟨rfl, rfl, rfl⟩ := trodAll_nil r4
  obtain rfl : args = #[v0, v1, v2, v3, v4] := by cases args; simp_all
  obtain ⟨rfl, rfl⟩ := trodVars_none hV
  have k0 := h0
  have lt0 : ∀ x ∈ p0, x.block < W.heap.size := by obtain ⟨m, hm⟩ := k0; exact DataW.trod_lt m _ _ _ hm
  obtain ⟨a0, len0, cap0, rfl⟩ := okWide_slice Try.underlying26 (hval 0 26 v0 rfl rfl)
  obtain ⟨z0, w0⟩ := row_of (k := .u8) Try.underlying26 Try.underlying5 (by kernel_rfl) h0
  obtain ⟨a1, rfl, rfl, rfl, w1⟩ := open_int Try.underlying3 (hval 1 3 v1 rfl rfl) h1
  obtain ⟨a2, rfl, rfl, rfl, w2⟩ := open_int Try.underlying3 (hval 2 3 v2 rfl rfl) h2
  obtain ⟨a3, rfl, rfl, rfl, w3⟩ := open_int Try.underlying3 (hval 3 3 v3 rfl rfl) h3
  obtain ⟨a4, rfl, rfl, rfl, w4⟩ := open_int Try.underlying3 (hval 4 3 v4 rfl rfl) h4
  clear hA0 hval0
  refine (cookieBack_walk W a0 len0 cap0 z0 w0 a1 w1 a2 w2 a3 w3 a4 w4).mono fun e W' ⟨he, bel⟩ => ?_
  subst he
  exact ⟨_, rfl, _, _, _, [], _, [], hW', trodAll_mk1 (shut_bool Try.underlying4 _), (trodAll_cons_mk (Below.trod cookieBack_laidOut (by kernel_rfl) (of_decide_eq_true (by kernel_rfl)) k0 bel lt0) (trodAll_cons_mk (shut_int Try.underlying3 w1) (trodAll_cons_mk (shut_int Try.underlying3 w2) (trodAll_cons_mk (shut_int Try.underlying3 w3) (trodAll_cons_mk (shut_int Try.underlying3 w4) trodAll_mk0))))), rfl, bel.frame _, fun h => by cases h⟩

theorem cookieBack_over : Rows.cookieBackRow.holds Try.pinned (OpenSpec.ofChange Rows.cookieBackSpec) :=
  OpenClaim.holds_of_wide 11 Try.f11 rfl rfl rfl rfl rfl rfl rfl ⟨rfl, rfl, rfl, rfl, rfl⟩ rfl rfl rfl rfl rfl (by kernel_rfl) Try.func11 (by kernel_rfl)
    (of_decide_eq_true (by kernel_rfl)) (by unfold Func.isWrapper; first | (rw [if_pos (by decide +kernel)]; kernel_rfl) | (rw [if_neg (by decide +kernel)]; exact ⟨rfl, rfl⟩))
    (fun os started H enc _ => cookieBack_lifted os started H enc)

/-- THE STATEMENT. -/
theorem cookieBack_proved : Rows.CookieBackSaid := cookieBack_over
#print axioms cookieBack_proved
end Go.Proofs.Ythlkmofemnepbaa
