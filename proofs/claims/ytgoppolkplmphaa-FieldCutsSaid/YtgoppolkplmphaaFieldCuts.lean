/-
  nightjarlaw04.FieldCuts: for all bytes and any two numbers the law returns true. No conditions: for every input that can be read.
-/
import Derived.Test.YtgoppolkplmphaaRows
import Derived.Test.YtgoppolkplmphaaFieldLib
import Derived.Test.YtgoppolkplmphaaOpen
namespace Go.Proofs.Ytgoppolkplmphaa
open Go.ChangeShapes Go.WideShapes Go.ChangeAt Go.RowKit

/-- A reader stands while another one's block turns. -/
theorem RdIs.other {w w' : World} {rb sb base : Nat} {zs : List Int} {bad : Bool} (h : RdIs w rb base zs bad) {v : Value} {b : Bool} {a : Option Addr} {n c : Nat} (hv : v = .slice a n c) (hs : Blk w sb 65 #[v, .bool b]) (hne : rb ≠ sb)
    (ht : Touch (fun k => k = sb) w w') : RdIs w' rb base zs bad := by
  obtain ⟨a, cap, h⟩ := h
  subst hv
  refine ⟨a, cap, h.rd.touch ht hne, h.cells.touch ht (fun x hx hne' e => ?_), h.nil, h.le, h.cap,
    fun x hx => ⟨(h.apart x hx).1, (h.apart x hx).2.1, Nat.lt_of_lt_of_le (h.apart x hx).2.2 ht.size⟩⟩
  subst hx
  cases zs with
  | nil => exact hne' rfl
  | cons z l =>
    have hc := (h.cells 0 (.int .u8 z) rfl).2
    obtain ⟨xb, xo, xs⟩ := x
    obtain rfl : xb = sb := e
    simp only [Nat.add_zero] at hc
    rw [hs.cell?] at hc
    match xo, hc with
    | 0, hc => simp at hc
    | 1, hc => simp at hc
    | n + 2, hc => simp at hc

theorem fieldCuts_out (w : World) (a : Option Addr) (cap : Nat) (zs : List Int) (i k : Int)
    (h : 300 < (zs.length : Int) ∨ (zs.length : Int) ≤ 300 ∧ i < 0 ∨ (zs.length : Int) ≤ 300 ∧ 0 ≤ i ∧ k < 0 ∨ (zs.length : Int) ≤ 300 ∧ 0 ≤ i ∧ 0 ≤ k ∧ (zs.length : Int) < i ∨ (zs.length : Int) ≤ 300 ∧ 0 ≤ i ∧ 0 ≤ k ∧ i ≤ (zs.length : Int) ∧ (zs.length : Int) - i < k) :
    Calls Try.prog 11 #[.slice a zs.length cap, .int .i64 i, .int .i64 k] w fun e w' => e = .returned (.bool true) ∧ Below w.heap.size w w' := by
  rcases h with h1 | ⟨h1, h2⟩ | ⟨h1, h2, h3⟩ | ⟨h1, h2, h3, h4⟩ | ⟨h1, h2, h3, h4, h5⟩
  all_goals
    go_enter Try.func11, Try.ntmps11
    go_wp2_with fail
    refine (fieldSmall_any w).mono ?_
    rintro e w1 ⟨rfl, hb⟩
    go_wp2_with fail
    go_ret
    exact ⟨rfl, hb⟩

set_option maxRecDepth 100000 in
set_option maxHeartbeats 2000000 in
theorem fieldCuts_in (w : World) (a : Option Addr) (cap : Nat) (zs : List Int) (hin : RowIn .u8 w a zs.length cap zs) (m p D L : Nat) (hD : zs.length = m + D) (hL : D = p + L) (h300 : zs.length ≤ 300) :
    Calls Try.prog 11 #[.slice a zs.length cap, .int .i64 m, .int .i64 p] w fun e w' => e = .returned (.bool true) ∧ Below w.heap.size w w' := by
  have hlec := hin.le
  have HIN := Lib.hid hin; clear hin
  have k1 : (zs.length : Int) ≤ 300 := by omega
  have k2 : (m : Int) ≤ zs.length := by omega
  have k3 : (p : Int) ≤ D := by omega
  have k4 : IntKind.i64.wrap ((zs.length : Int) - m) = (D : Int) := by rw [IntWalk.i64_in _ (by omega)]; omega
  have k5 : IntKind.i64.wrap ((D : Int) - p) = (L : Int) := by rw [IntWalk.i64_in _ (by omega)]; omega
  have k6 : IntKind.i64.wrap ((m : Int) + p) = (m : Int) + p := by rw [IntWalk.i64_in _ (by omega)]
  have HD := Lib.hid (And.intro hD hL); clear hD hL
  go_enter Try.func11, Try.ntmps11
  go_wp2_with fail
  refine (fieldSmall_any w).mono ?_
  rintro e wa ⟨rfl, hb⟩
  have hsl := HIN.out.bys.touch (Touch.of_below (S := fun _ => False) hb) (fun _ _ _ h => h)
  have HB := Lib.hid (And.intro hb hsl); clear hb
  go_wp2_with fail
  refine (open_rd a zs.length cap zs wa rfl hsl HIN.out.nil (by omega)).mono ?_
  rintro e wb ⟨rb, rfl, hrb, hr, hbb⟩
  have hslb := hsl.touch (Touch.of_below (S := fun _ => False) hbb) (fun _ _ _ h => h)
  have hrl : rb < wb.heap.size := by obtain ⟨_, _, h⟩ := hr; exact h.rd.lt
  have HBB := Lib.hid (And.intro hrb hbb)
  clear hsl hrb hbb
  go_wp2_with fail
  refine (open_rd a zs.length cap zs wb rfl hslb HIN.out.nil (by omega)).mono ?_
  rintro e wc ⟨sb, rfl, hsb, hs, hbc⟩
  have hr2 := hr.touch (Touch.of_below (S := fun _ => False) hbc) (fun h => h) (fun _ _ _ h => h)
  have hsc : sb < wc.heap.size := by obtain ⟨_, _, h⟩ := hs; exact h.rd.lt
  have HBC := Lib.hid hbc
  clear hbc hr hslb
  go_wp2_with fail
  refine (take_rd rb _ zs false m wc hr2 (by omega)).mono ?_
  rintro e wd ⟨v1, rfl, ho1, hr3, ht1⟩
  have hs3 := hs.touch ht1 (by omega) (fun k h1 h2 e => by omega)
  rw [show rdTake zs false m = (zs.take m, zs.drop m, false) by unfold rdTake; rw [if_neg (by simp; have := HD.out; omega)]; rfl] at ho1 hr3
  rw [show (zs.take m).length = m by simp; have := HD.out; omega] at ho1
  obtain ⟨x1, c1, rfl, _, _, _, _⟩ := owns_form ho1
  clear hs hr2
  go_wp2_with fail
  refine (take_rd rb _ (zs.drop m) false p wd hr3 (by simp; omega)).mono ?_
  rintro e we ⟨v2, rfl, ho2, hr4, ht2⟩
  have hs4 := hs3.touch ht2 (by omega) (fun k h1 h2 e => by omega)
  rw [show rdTake (zs.drop m) false p = ((zs.drop m).take p, zs.drop (m + p), false) by unfold rdTake; rw [if_neg (by simp; have := HD.out; omega), List.drop_drop]; rfl] at ho2 hr4
  rw [show ((zs.drop m).take p).length = p by simp; have := HD.out; omega] at ho2
  obtain ⟨x2, c2, rfl, _, _, _, _⟩ := owns_form ho2
  clear hs3 hr3
  have hs4' := hs4
  obtain ⟨as4, cs4, hs4h⟩ := hs4'
  have hrs : rb ≠ sb := by omega
  go_wp2_with fail
  (with_reducible refine (take_rd sb _ zs false ((m : Int) + p) we hs4 (by omega)).mono ?_)
  rintro e wf ⟨v3, rfl, ho3, hs5, ht3⟩
  rw [show rdTake zs false ((m : Int) + p) = (zs.take (m + p), zs.drop (m + p), false) by unfold rdTake; rw [if_neg (by simp; have := HD.out; omega), show ((m : Int) + p).toNat = m + p by omega]] at ho3 hs5
  rw [show (zs.take (m + p)).length = m + p by simp; have := HD.out; omega] at ho3
  obtain ⟨x3, c3, rfl, _, _, _, _⟩ := owns_form ho3
  have hr5 := hr4.other rfl hs4h.rd hrs ht3
  have d1 := ht1.size
  have d2 := ht2.size
  have q1 := str_of (owns_touch (owns_touch ho1 ht2 (fun k hk e => by have := (ho1.lt k hk).1; omega)) ht3 (fun k hk e => by have := (ho1.lt k hk).1; omega))
  have q2 := str_of (owns_touch ho2 ht3 (fun k hk e => by have := (ho2.lt k hk).1; omega))
  have q3 := str_of ho3
  have T : Touch (fun k => k = rb ∨ k = sb) wc wf := ((ht1.mono (fun _ _ h => .inl h)).trans (ht2.mono (fun _ _ h => .inl h))).trans (ht3.mono (fun _ _ h => .inr h))
  have HT := Lib.hid T
  clear hs4 hs4h hr4 ho1 ho2 ho3 ht1 ht2 ht3 d1 d2 T
  have hstr := (str_append (zs.take m) ((zs.drop m).take p)).symm
  rw [show zs.take m ++ (zs.drop m).take p = zs.take (m + p) by rw [List.take_add]] at hstr
  have z1 : ¬ 9223372036854775807 < (strOfNums (zs.take m)).size + (strOfNums ((zs.drop m).take p)).size := by rw [strOfNums_size, strOfNums_size]; simp; omega
  have hLL : (zs.drop (m + p)).length = L := by simp; have := HD.out; omega
  have HL := Lib.hid hLL
  clear hLL
  go_wp2_with fail
  refine (left_rd rb _ (zs.drop (m + p)) false wf hr5).mono ?_
  rintro e w7 ⟨rfl, rfl⟩
  rw [HL.out]
  go_wp2_with fail
  refine (left_rd sb _ (zs.drop (m + p)) false wf hs5).mono ?_
  rintro e w7 ⟨rfl, rfl⟩
  rw [HL.out]
  go_wp2_with fail
  refine (left_rd rb _ (zs.drop (m + p)) false wf hr5).mono ?_
  rintro e w7 ⟨rfl, rfl⟩
  rw [HL.out]
  go_wp2_with fail
  refine (done_rd rb _ (zs.drop (m + p)) false wf hr5).mono ?_
  rintro e w7 ⟨rfl, rfl⟩
  go_wp2_with fail
  refine (done_rd sb _ (zs.drop (m + p)) false wf hs5).mono ?_
  rintro e w7 ⟨rfl, rfl⟩
  go_wp2_with fail
  go_ret
  refine ⟨by simp, ?_⟩
  have b1 := HB.out.1
  have b2 := HBB.out
  have b3 := HBC.out
  exact ((b1.trans (b2.2.mono b1.size)).trans (b3.mono (Nat.le_trans b1.size b2.2.size))).trans (HT.out.below (Nat.le_trans (Nat.le_trans b1.size b2.2.size) b3.size) (fun k hk => by have := b1.size; omega))

theorem fieldCuts_walk (w : World) (a : Option Addr) (len cap : Nat) (zs : List Int) (hin : RowIn .u8 w a len cap zs) (i : Int) (_w1 : (Lit.int .i64 i).wf = true) (k : Int) (_w2 : (Lit.int .i64 k).wf = true) :
    Calls Try.prog 11 #[.slice a len cap, .int .i64 i, .int .i64 k] w fun e w' => e = .returned (.bool true) ∧ Below w.heap.size w w' := by
  have hlen := hin.hlen
  subst hlen
  by_cases h : 0 ≤ i ∧ 0 ≤ k ∧ i + k ≤ zs.length ∧ zs.length ≤ 300
  · obtain ⟨h1, h2, h3, h4⟩ := h
    obtain ⟨m, rfl⟩ : ∃ m : Nat, i = m := ⟨i.toNat, by omega⟩
    obtain ⟨p, rfl⟩ : ∃ p : Nat, k = p := ⟨k.toNat, by omega⟩
    exact fieldCuts_in w a cap zs hin m p (zs.length - m) (zs.length - m - p) (by omega) (by omega) h4
  · exact fieldCuts_out w a cap zs i k (by omega)

/-! ### the row's step, and the row -/
theorem fieldCuts_own : ownKnob Try.prog.godebug = none := by kernel_rfl
theorem fieldCuts_laidOut : laidOutB Try.prog = true := by kernel_rfl

set_option linter.unusedVariables false in
set_option maxRecDepth 100000 in
theorem fieldCuts_lifted (os : Os) (started : os.Started) (H : Type) (enc : TypeId × Value → H) :
    ReturnsInHanded {} Try.checked os 11 .any (Rows.fieldCutsSpec.pre6 enc Try.prog Try.f11 Rows.fieldCutsRow.domain false) (Rows.fieldCutsSpec.post enc Try.prog Try.f11 false true false false) := by
  refine returnsInHanded_of_change (C := Try.checked) fieldCuts_own started (by kernel_rfl) Try.func11
    (ChangeSpec.witness6 (enc := enc) (C := Try.checked) false ⟨#[], #[.slice none 0 0, .int .i64 0, .int .i64 0], []⟩ 8 (by kernel_rfl) (by kernel_rfl) (by kernel_rfl) (by kernel_rfl)) ?_
  intro W base args ds gs before hval0 hW hcnd _
  have hval : ∀ (j : Nat) t v, Try.f11.params[j]? = some t → args[j]? = some v → Value.okWide Try.prog W .any base t v := hval0
  have hW' := hW
  obtain ⟨p, q, hA0, hV, rfl, hfz, hnd⟩ := hW
  have hA : DataW.TrodAll enc Try.prog W 0 (fun _ => true) true Try.f11.params.toList args.toList ds p := hA0
  rw [Try.params11] at hA hval
  obtain ⟨v0, vs0, d0, ds0, p0, q0, hargs, rfl, rfl, h0, r0⟩ := trodAll_cons hA
  obtain ⟨v1, vs1, d1, ds1, p1, q1, rfl, rfl, rfl, h1, r1⟩ := trodAll_cons r0
  obtain ⟨v2, vs2, d2, ds2, p2, q2, rfl, rfl, rfl, h2, r2⟩ := trodAll_cons r1
  obtain ⟨rfl, rfl, rfl⟩ := trodAll_nil r2
  obtain rfl : args = #[v0, v1, v2] := by cases args; simp_all
  obtain ⟨rfl, rfl⟩ := trodVars_none hV
  have k0 := h0
  have lt0 : ∀ x ∈ p0, x.block < W.heap.size := by obtain ⟨m, hm⟩ := k0; exact DataW.trod_lt m _ _ _ hm
  obtain ⟨a0, len0, cap0, rfl⟩ := okWide_slice Try.underlying31 (hval 0 31 v0 rfl rfl)
  obtain ⟨z0, w0⟩ := row_of (k := .u8) Try.underlying31 Try.underlying5 (by kernel_rfl) h0
  obtain ⟨a1, rfl, rfl, rfl, w1⟩ := open_int Try.underlying3 (hval 1 3 v1 rfl rfl) h1
  obtain ⟨a2, rfl, rfl, rfl, w2⟩ := open_int Try.underlying3 (hval 2 3 v2 rfl rfl) h2
  clear hA0 hval0
  refine (fieldCuts_walk W a0 len0 cap0 z0 w0 a1 w1 a2 w2).mono fun e W' ⟨he, bel⟩ => ?_
  subst he
  exact ⟨_, rfl, _, _, _, [], _, [], hW', trodAll_mk1 (shut_bool Try.underlying4 _), (trodAll_cons_mk (Below.trod fieldCuts_laidOut (by kernel_rfl) (of_decide_eq_true (by kernel_rfl)) k0 bel lt0) (trodAll_cons_mk (shut_int Try.underlying3 w1) (trodAll_cons_mk (shut_int Try.underlying3 w2) trodAll_mk0))), rfl, bel.frame _, fun h => by cases h⟩

theorem fieldCuts_over : Rows.fieldCutsRow.holds Try.pinned (OpenSpec.ofChange Rows.fieldCutsSpec) :=
  OpenClaim.holds_of_wide 11 Try.f11 rfl rfl rfl rfl rfl rfl rfl ⟨rfl, rfl, rfl, rfl, rfl⟩ rfl rfl rfl rfl rfl (by kernel_rfl) Try.func11 (by kernel_rfl)
    (of_decide_eq_true (by kernel_rfl)) (by unfold Func.isWrapper; first | (rw [if_pos (by decide +kernel)]; kernel_rfl) | (rw [if_neg (by decide +kernel)]; exact ⟨rfl, rfl⟩))
    (fun os started H enc _ => fieldCuts_lifted os started H enc)

/-- THE STATEMENT. -/
theorem fieldCuts_proved : Rows.FieldCutsSaid := fieldCuts_over
#print axioms fieldCuts_proved
end Go.Proofs.Ytgoppolkplmphaa
