/-
  nightjarlaw02.DigestRows: for all parts the law returns true. No conditions: for every input that can be read.
-/
import Derived.Test.YtanjhalhpllcaaaRows
import Derived.Test.YtanjhalhpllcaaaDigestLib
import Derived.Test.YtanjhalhpllcaaaPartsArg
namespace Go.Proofs.Ytanjhalhpllcaaa
open Go.ChangeShapes Go.WideShapes Go.ChangeAt Go.RowKit

set_option maxRecDepth 100000 in
set_option maxHeartbeats 4000000 in
theorem digestRows_in (w : World) (a : Option Addr) (cap : Nat) (L : List Part) (hin : PartsArg w a L.length cap L) :
    Calls Try.prog 5 #[.slice a L.length cap] w fun e w' => e = .returned (.bool true) ∧ Below w.heap.size w w' := by
  obtain ⟨i0, hi, hz0, hz1, hz2⟩ := info_parts Try.info5
  have hlm : L.length ≤ 9223372036854775807 := by have := hin.le; have := hin.hcap; unfold maxLen at this; omega
  have HIN := Lib.hid hin
  clear hin
  go_enter Try.func5, Try.ntmps5
  go_wp2_with fail
  (with_reducible refine (digestSmall_any w).mono ?_)
  rintro e wa ⟨rfl, hba⟩
  have HA := Lib.hid (And.intro hba (HIN.out.parts.touch (Touch.of_below (S := fun _ => False) hba) (fun _ _ _ h => h) (fun _ _ _ _ _ h => h)))
  clear hba
  go_wp2_with fail
  go_loopw [4, 5] (fun s c wz => ∃ k : Nat, k ≤ L.length ∧ k ≤ 20 ∧ c = .int .i64 k ∧ (flatP (L.take k)).length ≤ 100 * k ∧ wz.ownsRow wa.heap.size 5 1 s (flatP (L.take k)).length (bn (flatP (L.take k))) ∧ Below wa.heap.size wa wz) (fun _ c _ => (20 - intOf c).toNat)
  case atStart => exact ⟨0, Nat.zero_le _, Nat.zero_le _, rfl, Nat.le_refl _, World.ownsRow_nil wa _ _ _, Below.refl _ _⟩
  case round =>
    obtain ⟨k, hk1, hk2, rfl, hle, ho, hb⟩ := hrel
    have HO := Lib.hid (And.intro ho hb)
    clear ho hb
    have hcase : (k < L.length ∧ k < 20) ∨ (¬ k < L.length) ∨ (k < L.length ∧ ¬ k < 20) := by omega
    rcases hcase with ⟨hq, hq2⟩ | hq | ⟨hq, hq2⟩
    · have hqI : (k : Int) < L.length := by omega
      have hq2I : (k : Int) < 20 := by omega
      have hat : (L.map Part.v)[k]? = some (L[k]'hq).v := by rw [List.getElem?_map, List.getElem?_eq_getElem hq]; rfl
      have hpw := HA.out.2.touch (Touch.of_below (S := fun _ => False) HO.out.2) (fun _ _ _ h => h) (fun _ _ _ _ _ h => h)
      obtain ⟨b, o, rfl, hc⟩ := hpw.cells.get hat
      have hpe := hpw.each _ (List.getElem_mem hq)
      have htk := flatP_take L hq
      obtain ⟨p, hpk⟩ : ∃ p, p = L[k]'hq := ⟨_, rfl⟩
      rw [← hpk] at hc hpe htk
      have hlen : (flatP (L.take k)).length + p.bs.length = (flatP (L.take (k + 1))).length := by rw [htk, List.length_append]
      have HN := Lib.hid (And.intro htk (And.intro hlen (And.intro hpe HO.out.2.size)))
      unfold Part.v at hc
      clear htk hpk hat hpw hpe hlen
      by_cases h100 : 100 < p.bs.length
      · have h100I : (100 : Int) < p.bs.length := by omega
        go_wp2_with fail
        go_ret
        exact ⟨rfl, HA.out.1.trans (HO.out.2.mono HA.out.1.size)⟩
      · have h100I : (p.bs.length : Int) ≤ 100 := by omega
        go_wp2_with (at_builtin; refine wpList_append_any rfl (.tmp 24) (.tmp 28) 22 rfl wa.heap.size 5 i0 (.int .u8 0) 1 Try.underlying22 hi hz0 hz1 hz2 rfl _ _ _ rfl HO.out.1 p.a p.bs.length p.cap (bn p.bs) rfl (bn_len _) HN.out.2.2.1.1 HN.out.2.2.1.2 (bn_one _) (by unfold maxLen; omega) (by omega) HN.out.2.2.2 ?_; intro v2 w2 ho2 hg2 hn2; have H2 := Lib.hid (And.intro ho2 hg2); clear ho2 hg2 hn2)
        go_roundw
        case rel =>
          refine ⟨k + 1, by omega, by omega, by first | rfl | (congr 1; omega), by have := HN.out.2.1; omega, ?_, ?_⟩
          · have h := H2.out.1
            rw [HN.out.2.1, ← bn_append, ← HN.out.1] at h
            exact h
          · exact HO.out.2.grown H2.out.2 (by have := HO.out.2.size; omega) (fun q hq => by
              obtain ⟨x, cp, hv, _, _, _, hx⟩ := owns_form HO.out.1
              have hq : u4.ownBlock = some q := hq
              rw [hv] at hq
              cases x with
              | none => cases hq
              | some y => cases hq; exact (hx y rfl).1)
        case measure => simp [intOf]; omega
    · have hke : k = L.length := by omega
      subst hke
      have hfl : flatP (L.take L.length) = flatP L := by rw [List.take_length]
      rw [hfl] at HO hle
      obtain ⟨a4, c4, rfl, hn4, -, -, -⟩ := owns_form HO.out.1
      have H4 := Lib.hid (And.intro (SlAt.of_owns HO.out.1) (fun h => (hn4 h).2))
      clear hn4 hfl
      have h20 : (L.length : Int) ≤ 20 := by omega
      go_wp2_with fail
      have hpw := HA.out.2.touch (Touch.of_below (S := fun _ => False) HO.out.2) (fun _ _ _ h => h) (fun _ _ _ _ _ h => h)
      (with_reducible refine (sum_eq a L.length cap L (flatP L) wr hpw rfl rfl (flatP_lt (fun p hp => (HIN.out.lt p hp).2.2)) (by omega) (by omega)).mono ?_)
      rintro e w2 ⟨rfl, hb2⟩
      have H2 := Lib.hid (And.intro hb2 (H4.out.1.touch (Touch.of_below (S := fun _ => False) hb2) (fun _ _ _ h => h)))
      clear hb2 hpw
      go_wp2_with fail
      (with_reducible refine (sum_eq _ 1 1 [⟨a4, c4, flatP L⟩] (flatP L) _ ?_ (by simp [flatP]) rfl (flatP_lt (fun p hp => (HIN.out.lt p hp).2.2)) (by omega) (by decide)).mono ?_)
      · refine PartsIn.lay rfl [⟨a4, c4, flatP L⟩] _ (fun p hp => ?_)
        rw [List.mem_singleton] at hp
        subst hp
        exact ⟨H2.out.2, H4.out.2⟩
      rintro e w3 ⟨rfl, hb3⟩
      have e1 := fun w : World => run_eql_sha w (flatP L)
      have H3 := Lib.hid hb3
      clear hb3
      go_wp2_with fail
      go_ret
      exact ⟨rfl, ((((Touch.of_below (S := fun _ => False) (HA.out.1.trans (HO.out.2.mono HA.out.1.size))).trans (Touch.of_below H2.out.1)).alloc _).trans (Touch.of_below H3.out)).below (Nat.le_refl _) (fun _ _ h => h)⟩
    · have h20 : (20 : Int) < L.length := by omega
      obtain rfl : k = 20 := by omega
      go_wp2_with fail
      go_ret
      exact ⟨rfl, HA.out.1.trans (HO.out.2.mono HA.out.1.size)⟩

theorem digestRows_walk (w : World) (a : Option Addr) (len cap : Nat) (A : Nat → Option Addr) (C : Nat → Nat) (Z : Nat → List Int) (hin : RowsIn .u8 w a len cap A C Z) :
    Calls Try.prog 5 #[.slice a len cap] w fun e w' => e = .returned (.bool true) ∧ Below w.heap.size w w' := by
  obtain ⟨L, hL⟩ := hin.parts
  have := hL.hlen
  subst this
  exact digestRows_in w a cap L hL

/-! ### the row's step, and the row -/
theorem digestRows_own : ownKnob Try.prog.godebug = none := by kernel_rfl
theorem digestRows_laidOut : laidOutB Try.prog = true := by kernel_rfl

set_option linter.unusedVariables false in
set_option maxRecDepth 100000 in
theorem digestRows_lifted (os : Os) (started : os.Started) (H : Type) (enc : TypeId × Value → H) :
    ReturnsInHanded {} Try.checked os 5 .any (Rows.digestRowsSpec.pre6 enc Try.prog Try.f5 Rows.digestRowsRow.domain false) (Rows.digestRowsSpec.post enc Try.prog Try.f5 false true false false) := by
  refine returnsInHanded_of_change (C := Try.checked) digestRows_own started (by kernel_rfl) Try.func5
    (ChangeSpec.witness6 (enc := enc) (C := Try.checked) false ⟨#[], #[.slice none 0 0], []⟩ 8 (by kernel_rfl) (by kernel_rfl) (by kernel_rfl) (by kernel_rfl)) ?_
  intro W base args ds gs before hval0 hW hcnd _
  have hval : ∀ (j : Nat) t v, Try.f5.params[j]? = some t → args[j]? = some v → Value.okWide Try.prog W .any base t v := hval0
  have hW' := hW
  obtain ⟨p, q, hA0, hV, rfl, hfz, hnd⟩ := hW
  have hA : DataW.TrodAll enc Try.prog W 0 (fun _ => true) true Try.f5.params.toList args.toList ds p := hA0
  rw [Try.params5] at hA hval
  obtain ⟨v0, vs0, d0, ds0, p0, q0, hargs, rfl, rfl, h0, r0⟩ := trodAll_cons hA
  obtain ⟨rfl, rfl, rfl⟩ := trodAll_nil r0
  obtain rfl : args = #[v0] := by cases args; simp_all
  obtain ⟨rfl, rfl⟩ := trodVars_none hV
  have k0 := h0
  have lt0 : ∀ x ∈ p0, x.block < W.heap.size := by obtain ⟨m, hm⟩ := k0; exact DataW.trod_lt m _ _ _ hm
  have o0 := hval 0 29 v0 rfl rfl
  obtain ⟨a0, len0, cap0, rfl⟩ := okWide_slice Try.underlying29 o0
  obtain ⟨A0, C0, Z0, w0⟩ := rows_of (k := .u8) Try.underlying29 Try.underlying22 Try.underlying5 (by kernel_rfl) (by kernel_rfl) h0
  clear hA0 hval0
  refine (digestRows_walk W a0 len0 cap0 A0 C0 Z0 w0).mono fun e W' ⟨he, bel⟩ => ?_
  subst he
  exact ⟨_, rfl, _, _, _, [], _, [], hW', trodAll_mk1 (shut_bool Try.underlying4 _), (trodAll_cons_mk (Below.trod digestRows_laidOut (by kernel_rfl) (of_decide_eq_true (by kernel_rfl)) k0 bel lt0) trodAll_mk0), rfl, bel.frame _, fun h => by cases h⟩

theorem digestRows_over : Rows.digestRowsRow.holds Try.pinned (OpenSpec.ofChange Rows.digestRowsSpec) :=
  OpenClaim.holds_of_wide 5 Try.f5 rfl rfl rfl rfl rfl rfl rfl ⟨rfl, rfl, rfl, rfl, rfl⟩ rfl rfl rfl rfl rfl (by kernel_rfl) Try.func5 (by kernel_rfl)
    (of_decide_eq_true (by kernel_rfl)) (by unfold Func.isWrapper; first | (rw [if_pos (by decide +kernel)]; kernel_rfl) | (rw [if_neg (by decide +kernel)]; exact ⟨rfl, rfl⟩))
    (fun os started H enc _ => digestRows_lifted os started H enc)

/-- THE STATEMENT. -/
theorem digestRows_proved : Rows.DigestRowsSaid := digestRows_over
#print axioms digestRows_proved
end Go.Proofs.Ytanjhalhpllcaaa
