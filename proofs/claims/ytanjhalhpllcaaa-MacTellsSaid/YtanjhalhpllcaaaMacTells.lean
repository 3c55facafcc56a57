/-
  nightjarlaw03.MacTells: for all keys and bytes the law returns true. No conditions: for every input that can be read.
-/
import Derived.Test.YtanjhalhpllcaaaRows
import Derived.Test.YtanjhalhpllcaaaDigestLib
import Derived.Test.YtanjhalhpllcaaaMacLib
import Derived.Test.YtanjhalhpllcaaaMacRef
namespace Go.Proofs.Ytanjhalhpllcaaa
open Go.ChangeShapes Go.WideShapes Go.ChangeAt Go.RowKit

set_option maxRecDepth 100000 in
set_option maxHeartbeats 4000000 in
theorem macTells_in (w : World) (a0 : Option Addr) (c0 : Nat) (key : List Nat) (h0 : BytesIn w a0 key.length c0 key) (a1 : Option Addr) (c1 : Nat) (b : List Nat) (h1 : BytesIn w a1 b.length c1 b) (a2 : Option Addr) (c2 : Nat) (c : List Nat) (h2 : BytesIn w a2 c.length c2 c)
    (k0 : ¬ 300 < key.length) (k1 : ¬ 300 < b.length) (k2 : ¬ 300 < c.length) :
    Calls Try.prog 6 #[.slice a0 key.length c0, .slice a1 b.length c1, .slice a2 c.length c2] w fun e w' => e = .returned (.bool true) ∧ Below w.heap.size w w' := by
  have HIN := Lib.hid (And.intro h0 (And.intro h1 h2))
  clear h0 h1 h2
  go_enter Try.func6, Try.ntmps6
  go_wp2_with fail
  (with_reducible refine (macSmall_any w).mono ?_)
  rintro e wa ⟨rfl, hba⟩
  have H1 := Lib.hid (Touch.of_below (S := fun _ => False) hba)
  clear hba
  go_wp2_with fail
  (with_reducible refine (macOf_eq a0 key.length c0 key _ 1 1 [⟨a1, c1, b⟩] b _ rfl (by simp [flatP]) rfl ((HIN.out.1.cells.touch H1.out (fun _ _ _ h => h)).alloc _) HIN.out.1.nil HIN.out.1.lt (by omega) ?_ (fun h => by cases h) HIN.out.2.1.lt (by omega) (by decide)).mono ?_)
  · refine PartsIn.lay rfl [⟨a1, c1, b⟩] _ (fun p hp => ?_)
    rw [List.mem_singleton] at hp
    subst hp
    exact ⟨HIN.out.2.1.cells.touch H1.out (fun _ _ _ h => h), HIN.out.2.1.nil⟩
  rintro e w2 ⟨rfl, hb2⟩
  have H2 : Hid (Touch (fun _ => False) w w2) := Lib.hid ((H1.out.alloc _).trans (Touch.of_below hb2))
  clear hb2
  go_wp2_with fail
  (with_reducible refine (refMacOf_any a0 c0 key a1 c1 b w2 (HIN.out.1.cells.touch H2.out (fun _ _ _ h => h)) HIN.out.1.nil HIN.out.1.lt (by omega) (HIN.out.2.1.cells.touch H2.out (fun _ _ _ h => h)) HIN.out.2.1.nil HIN.out.2.1.lt (by omega)).mono ?_)
  rintro e w3 ⟨rfl, hb3⟩
  have H3 : Hid (Touch (fun _ => False) w w3) := Lib.hid (H2.out.trans (Touch.of_below hb3))
  clear hb3
  have e1 := fun w : World => run_eql_same w (hmac key b) (hmac_len _ _) (hmac_lt _ _)
  go_wp2_with fail
  (with_reducible refine (macEqual_any a1 c1 b a2 c2 c w3 (HIN.out.2.1.cells.touch H3.out (fun _ _ _ h => h)) (HIN.out.2.2.cells.touch H3.out (fun _ _ _ h => h)) HIN.out.2.1.lt HIN.out.2.2.lt (by omega) (by omega)).mono ?_)
  rintro e w4 ⟨rfl, ht4⟩
  have H4 : Hid (Touch (fun _ => False) w w4) := Lib.hid (H3.out.trans ht4)
  clear ht4
  go_wp2_with fail
  (with_reducible refine (refEqual_any a1 c1 b a2 c2 c w4 (HIN.out.2.1.cells.touch H4.out (fun _ _ _ h => h)) (HIN.out.2.2.cells.touch H4.out (fun _ _ _ h => h)) HIN.out.2.1.lt HIN.out.2.2.lt).mono ?_)
  rintro e w5 ⟨rfl, ht5⟩
  have H5 : Hid (Touch (fun _ => False) w w5) := Lib.hid (H4.out.trans ht5)
  clear ht5
  go_wp2_with fail
  go_ret
  exact ⟨by first | rfl | simp, H5.out.below (Nat.le_refl _) (fun _ _ h => h)⟩

theorem macTells_walk (w : World) (a0 : Option Addr) (l0 c0 : Nat) (z0 : List Int) (h0 : RowIn .u8 w a0 l0 c0 z0) (a1 : Option Addr) (l1 c1 : Nat) (z1 : List Int) (h1 : RowIn .u8 w a1 l1 c1 z1) (a2 : Option Addr) (l2 c2 : Nat) (z2 : List Int) (h2 : RowIn .u8 w a2 l2 c2 z2) :
    Calls Try.prog 6 #[.slice a0 l0 c0, .slice a1 l1 c1, .slice a2 l2 c2] w fun e w' => e = .returned (.bool true) ∧ Below w.heap.size w w' := by
  have i0 := h0.bytes
  have i1 := h1.bytes
  have i2 := h2.bytes
  obtain ⟨key, hk⟩ : ∃ b, b = nats z0 := ⟨_, rfl⟩
  obtain ⟨b, hb⟩ : ∃ b, b = nats z1 := ⟨_, rfl⟩
  obtain ⟨c, hc⟩ : ∃ b, b = nats z2 := ⟨_, rfl⟩
  rw [← hk] at i0
  rw [← hb] at i1
  rw [← hc] at i2
  clear hk hb hc h0 h1 h2
  have e0 := i0.hlen
  have e1 := i1.hlen
  have e2 := i2.hlen
  subst e0 e1 e2
  have hcc : 300 < key.length ∨ (¬ 300 < key.length ∧ 300 < b.length) ∨ (¬ 300 < key.length ∧ ¬ 300 < b.length ∧ 300 < c.length) ∨ (¬ 300 < key.length ∧ ¬ 300 < b.length ∧ ¬ 300 < c.length) := by omega
  rcases hcc with k0 | ⟨k0, k1⟩ | ⟨k0, k1, k2⟩ | ⟨k0, k1, k2⟩
  case inr.inr.inr => exact macTells_in w a0 c0 key i0 a1 c1 b i1 a2 c2 c i2 k0 k1 k2
  all_goals
    clear i0 i1 i2
    go_enter Try.func6, Try.ntmps6
    go_wp2_with fail
    (with_reducible refine (macSmall_any w).mono ?_)
    rintro e w1 ⟨rfl, hb⟩
    have HB := Lib.hid hb
    clear hb
    go_wp2_with fail
    go_ret
    exact ⟨rfl, HB.out⟩

/-! ### the row's step, and the row -/
theorem macTells_own : ownKnob Try.prog.godebug = none := by kernel_rfl
theorem macTells_laidOut : laidOutB Try.prog = true := by kernel_rfl

set_option linter.unusedVariables false in
set_option maxRecDepth 100000 in
theorem macTells_lifted (os : Os) (started : os.Started) (H : Type) (enc : TypeId × Value → H) :
    ReturnsInHanded {} Try.checked os 6 .any (Rows.macTellsSpec.pre6 enc Try.prog Try.f6 Rows.macTellsRow.domain false) (Rows.macTellsSpec.post enc Try.prog Try.f6 false true false false) := by
  refine returnsInHanded_of_change (C := Try.checked) macTells_own started (by kernel_rfl) Try.func6
    (ChangeSpec.witness6 (enc := enc) (C := Try.checked) false ⟨#[], #[.slice none 0 0, .slice none 0 0, .slice none 0 0], []⟩ 8 (by kernel_rfl) (by kernel_rfl) (by kernel_rfl) (by kernel_rfl)) ?_
  intro W base args ds gs before hval0 hW hcnd _
  have hval : ∀ (j : Nat) t v, Try.f6.params[j]? = some t → args[j]? = some v → Value.okWide Try.prog W .any base t v := hval0
  have hW' := hW
  obtain ⟨p, q, hA0, hV, rfl, hfz, hnd⟩ := hW
  have hA : DataW.TrodAll enc Try.prog W 0 (fun _ => true) true Try.f6.params.toList args.toList ds p := hA0
  rw [Try.params6] at hA hval
  obtain ⟨v0, vs0, d0, ds0, p0, q0, hargs, rfl, rfl, h0, r0⟩ := trodAll_cons hA
  obtain ⟨v1, vs1, d1, ds1, p1, q1, rfl, rfl, rfl, h1, r1⟩ := trodAll_cons r0
  obtain ⟨v2, vs2, d2, ds2, p2, q2, rfl, rfl, rfl, h2, r2⟩ := trodAll_cons r1
  obtain ⟨rfl, rfl, rfl⟩ := trodAll_nil r2
  obtain rfl : args = #[v0, v1, v2] := by cases args; simp_all
  obtain ⟨rfl, rfl⟩ := trodVars_none hV
  have k0 := h0
  have lt0 : ∀ x ∈ p0, x.block < W.heap.size := by obtain ⟨m, hm⟩ := k0; exact DataW.trod_lt m _ _ _ hm
  obtain ⟨a0, len0, cap0, rfl⟩ := okWide_slice Try.underlying22 (hval 0 22 v0 rfl rfl)
  obtain ⟨z0, w0⟩ := row_of (k := .u8) Try.underlying22 Try.underlying5 (by kernel_rfl) h0
  have k1 := h1
  have lt1 : ∀ x ∈ p1, x.block < W.heap.size := by obtain ⟨m, hm⟩ := k1; exact DataW.trod_lt m _ _ _ hm
  obtain ⟨a1, len1, cap1, rfl⟩ := okWide_slice Try.underlying22 (hval 1 22 v1 rfl rfl)
  obtain ⟨z1, w1⟩ := row_of (k := .u8) Try.underlying22 Try.underlying5 (by kernel_rfl) h1
  have k2 := h2
  have lt2 : ∀ x ∈ p2, x.block < W.heap.size := by obtain ⟨m, hm⟩ := k2; exact DataW.trod_lt m _ _ _ hm
  obtain ⟨a2, len2, cap2, rfl⟩ := okWide_slice Try.underlying22 (hval 2 22 v2 rfl rfl)
  obtain ⟨z2, w2⟩ := row_of (k := .u8) Try.underlying22 Try.underlying5 (by kernel_rfl) h2
  clear hA0 hval0
  refine (macTells_walk W a0 len0 cap0 z0 w0 a1 len1 cap1 z1 w1 a2 len2 cap2 z2 w2).mono fun e W' ⟨he, bel⟩ => ?_
  subst he
  exact ⟨_, rfl, _, _, _, [], _, [], hW', trodAll_mk1 (shut_bool Try.underlying4 _), (trodAll_cons_mk (Below.trod macTells_laidOut (by kernel_rfl) (of_decide_eq_true (by kernel_rfl)) k0 bel lt0) (trodAll_cons_mk (Below.trod macTells_laidOut (by kernel_rfl) (of_decide_eq_true (by kernel_rfl)) k1 bel lt1) (trodAll_cons_mk (Below.trod macTells_laidOut (by kernel_rfl) (of_decide_eq_true (by kernel_rfl)) k2 bel lt2) trodAll_mk0))), rfl, bel.frame _, fun h => by cases h⟩

theorem macTells_over : Rows.macTellsRow.holds Try.pinned (OpenSpec.ofChange Rows.macTellsSpec) :=
  OpenClaim.holds_of_wide 6 Try.f6 rfl rfl rfl rfl rfl rfl rfl ⟨rfl, rfl, rfl, rfl, rfl⟩ rfl rfl rfl rfl rfl (by kernel_rfl) Try.func6 (by kernel_rfl)
    (of_decide_eq_true (by kernel_rfl)) (by unfold Func.isWrapper; first | (rw [if_pos (by decide +kernel)]; kernel_rfl) | (rw [if_neg (by decide +kernel)]; exact ⟨rfl, rfl⟩))
    (fun os started H enc _ => macTells_lifted os started H enc)

/-- THE STATEMENT. -/
theorem macTells_proved : Rows.MacTellsSaid := macTells_over
#print axioms macTells_proved
end Go.Proofs.Ytanjhalhpllcaaa
