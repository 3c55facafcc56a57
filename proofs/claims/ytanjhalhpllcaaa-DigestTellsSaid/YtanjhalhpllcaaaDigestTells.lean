/-
  nightjarlaw02.DigestTells: for all bytes the law returns true. No conditions: for every input that can be read.
-/
import Derived.Test.YtanjhalhpllcaaaRows
import Derived.Test.YtanjhalhpllcaaaDigestLib
import Derived.Test.YtanjhalhpllcaaaDigestRSum
namespace Go.Proofs.Ytanjhalhpllcaaa
open Go.ChangeShapes Go.WideShapes Go.ChangeAt Go.RowKit

set_option maxHeartbeats 2000000 in
theorem digestTells_walk (w : World) (a : Option Addr) (len cap : Nat) (zs : List Int) (hin0 : RowIn .u8 w a len cap zs) :
    Calls Try.prog 3 #[.slice a len cap] w fun e w' => e = .returned (.bool true) ∧ Below w.heap.size w w' := by
  have hin := hin0.bytes
  obtain ⟨b, hb⟩ : ∃ b, b = nats zs := ⟨_, rfl⟩
  rw [← hb] at hin
  clear hb hin0
  have hlen := hin.hlen
  subst hlen
  by_cases hn : 500 < b.length
  · go_enter Try.func3, Try.ntmps3
    go_wp2_with fail
    (with_reducible refine (digestSmall_any w).mono ?_)
    rintro e w1 ⟨rfl, hb⟩
    have HB := Lib.hid hb
    clear hb
    go_wp2_with fail
    go_ret
    exact ⟨rfl, HB.out⟩
  have HIN := Lib.hid hin
  clear hin
  go_enter Try.func3, Try.ntmps3
  go_wp2_with fail
  (with_reducible refine (digestSmall_any w).mono ?_)
  rintro e w1 ⟨rfl, hb1⟩
  have H1 := Lib.hid hb1
  clear hb1
  go_wp2_with fail
  have hs1 : SlAt w1 a (bn b) := HIN.out.cells.touch (Touch.of_below (S := fun _ => False) H1.out) (fun _ _ _ h => h)
  (with_reducible refine (sum_eq _ 1 1 [⟨a, cap, b⟩] b _ ?_ (by simp [flatP]) rfl HIN.out.lt (by omega) (by decide)).mono ?_)
  · refine PartsIn.lay rfl [⟨a, cap, b⟩] _ (fun p hp => ?_)
    rw [List.mem_singleton] at hp
    subst hp
    exact ⟨hs1, HIN.out.nil⟩
  rintro e w2 ⟨rfl, hb2⟩
  have H2 := Lib.hid (And.intro hb2 ((hs1.alloc _).touch (Touch.of_below (S := fun _ => False) hb2) (fun _ _ _ h => h)))
  clear hb2 hs1
  go_wp2_with fail
  (with_reducible refine (refSum_any a cap b _ H2.out.2 HIN.out.nil HIN.out.lt (by omega)).mono ?_)
  rintro e w3 ⟨rfl, ht3⟩
  have e1 := fun w : World => run_eql_sha w b
  have H3 := Lib.hid ht3
  clear ht3
  go_wp2_with fail
  go_ret
  refine ⟨rfl, ?_⟩
  exact ((((Touch.of_below (S := fun _ => False) H1.out).alloc _).trans (Touch.of_below H2.out.1)).trans H3.out).below (Nat.le_refl _) (fun _ _ h => h)

/-! ### the row's step, and the row -/
theorem digestTells_own : ownKnob Try.prog.godebug = none := by kernel_rfl
theorem digestTells_laidOut : laidOutB Try.prog = true := by kernel_rfl

set_option linter.unusedVariables false in
set_option maxRecDepth 100000 in
theorem digestTells_lifted (os : Os) (started : os.Started) (H : Type) (enc : TypeId × Value → H) :
    ReturnsInHanded {} Try.checked os 3 .any (Rows.digestTellsSpec.pre6 enc Try.prog Try.f3 Rows.digestTellsRow.domain false) (Rows.digestTellsSpec.post enc Try.prog Try.f3 false true false false) := by
  refine returnsInHanded_of_change (C := Try.checked) digestTells_own started (by kernel_rfl) Try.func3
    (ChangeSpec.witness6 (enc := enc) (C := Try.checked) false ⟨#[], #[.slice none 0 0], []⟩ 8 (by kernel_rfl) (by kernel_rfl) (by kernel_rfl) (by kernel_rfl)) ?_
  intro W base args ds gs before hval0 hW hcnd _
  have hval : ∀ (j : Nat) t v, Try.f3.params[j]? = some t → args[j]? = some v → Value.okWide Try.prog W .any base t v := hval0
  have hW' := hW
  obtain ⟨p, q, hA0, hV, rfl, hfz, hnd⟩ := hW
  have hA : DataW.TrodAll enc Try.prog W 0 (fun _ => true) true Try.f3.params.toList args.toList ds p := hA0
  rw [Try.params3] at hA hval
  obtain ⟨v0, vs0, d0, ds0, p0, q0, hargs, rfl, rfl, h0, r0⟩ := trodAll_cons hA
  obtain ⟨rfl, rfl, rfl⟩ := trodAll_nil r0
  obtain rfl : args = #[v0] := by cases args; simp_all
  obtain ⟨rfl, rfl⟩ := trodVars_none hV
  have k0 := h0
  have lt0 : ∀ x ∈ p0, x.block < W.heap.size := by obtain ⟨m, hm⟩ := k0; exact DataW.trod_lt m _ _ _ hm
  obtain ⟨a0, len0, cap0, rfl⟩ := okWide_slice Try.underlying22 (hval 0 22 v0 rfl rfl)
  obtain ⟨z0, w0⟩ := row_of (k := .u8) Try.underlying22 Try.underlying5 (by kernel_rfl) h0
  clear hA0 hval0
  refine (digestTells_walk W a0 len0 cap0 z0 w0).mono fun e W' ⟨he, bel⟩ => ?_
  subst he
  exact ⟨_, rfl, _, _, _, [], _, [], hW', trodAll_mk1 (shut_bool Try.underlying4 _), (trodAll_cons_mk (Below.trod digestTells_laidOut (by kernel_rfl) (of_decide_eq_true (by kernel_rfl)) k0 bel lt0) trodAll_mk0), rfl, bel.frame _, fun h => by cases h⟩

theorem digestTells_over : Rows.digestTellsRow.holds Try.pinned (OpenSpec.ofChange Rows.digestTellsSpec) :=
  OpenClaim.holds_of_wide 3 Try.f3 rfl rfl rfl rfl rfl rfl rfl ⟨rfl, rfl, rfl, rfl, rfl⟩ rfl rfl rfl rfl rfl (by kernel_rfl) Try.func3 (by kernel_rfl)
    (of_decide_eq_true (by kernel_rfl)) (by unfold Func.isWrapper; first | (rw [if_pos (by decide +kernel)]; kernel_rfl) | (rw [if_neg (by decide +kernel)]; exact ⟨rfl, rfl⟩))
    (fun os started H enc _ => digestTells_lifted os started H enc)

/-- THE STATEMENT. -/
theorem digestTells_proved : Rows.DigestTellsSaid := digestTells_over
#print axioms digestTells_proved
end Go.Proofs.Ytanjhalhpllcaaa
