/-
  nightjarlaw05.WireOnce: for all inputs the law returns true. No conditions: for every input that can be read.
-/
import Derived.Test.YthlkmofemnepbaaRows
import Derived.Test.YthlkmofemnepbaaWSmall
import Derived.Test.YthlkmofemnepbaaWireLaw
import Derived.Test.YthlkmofemnepbaaPkArg
import Derived.Test.YthlkmofemnepbaaOpen
namespace Go.Proofs.Ythlkmofemnepbaa
open Go.ChangeShapes Go.WideShapes Go.ChangeAt Go.RowKit

set_option maxRecDepth 100000 in
set_option maxHeartbeats 8000000 in
theorem wireOnce_no (w : World) (a0 : Option Addr) (c0 n : Nat) (zs : List Int) (cb : Int) (hl : zs.length = n) (hin : RowIn .u8 w a0 n c0 zs) (hk : ¬ 200 < n) (hD : ¬ DecOk zs) :
    Calls Try.prog 5 #[.slice a0 n c0, .int .u8 cb] w fun e w' => e = .returned (.bool true) ∧ Below w.heap.size w w' := by
  have HZ : Hid (zs.length = n ∧ (∀ z ∈ zs, 0 ≤ z ∧ z < 256) ∧ n ≤ 90000) := Lib.hid ⟨hl, hin.range, by omega⟩
  have HS : Hid (SlAt w a0 (bys zs) ∧ (a0 = none → c0 = 0) ∧ n ≤ c0 ∧ c0 ≤ maxLen) := Lib.hid ⟨hin.bys, hin.nil, hin.le, hin.hcap⟩
  clear hin hl
  have HD := Lib.hid hD
  clear hD
  go_enter Try.func5, Try.ntmps5
  go_wp2_with fail
  (with_reducible refine (wireSmall_any _).mono ?_)
  rintro e wa ⟨rfl, hba⟩
  have HA : Hid (Touch (fun _ => False) w wa) := Lib.hid (Touch.of_below hba)
  clear hba
  go_wp2_with fail
  (with_reducible refine (dec_no a0 n c0 zs _ HZ.out.1 (HS.out.1.touch HA.out (fun _ _ _ h => h)) HS.out.2.1 HZ.out.2.2 HZ.out.2.1 HD.out).mono ?_)
  rintro e wb ⟨rfl, hbb⟩
  have HB : Hid (Touch (fun _ => False) w wb) := Lib.hid (HA.out.trans (Touch.of_below hbb))
  clear hbb
  go_wp2_with (first
    | ((with_reducible refine at_op (.store 25 (.tmp 6) (.tmp 23)) rfl ?_); refine wpList_store_blk rfl 25 (.tmp 6) (.tmp 23) rfl wb.heap.size 25 _ (pkV Pk.zero) rfl rfl (Blk.new _ _ _) (by rw [pkV_size zero_ok]; first | done | kernel_rfl) (by rw [pkV_size zero_ok]; first | done | kernel_rfl) (pkV_one _) ?_; intro we hB ht hs; have HE : Hid (Touch (fun _ => False) w we ∧ Blk we wb.heap.size 25 (pkV Pk.zero)) := Lib.hid (⟨HB.out.trans (touch_store ht), hB⟩); clear hB ht hs)
    | ((with_reducible refine at_op (.load 25 (.tmp 6)) rfl ?_); refine wpList_load_blk_g (by rfl) 25 (.tmp 6) rfl wb.heap.size 25 (pkV Pk.zero) _ rfl (HE.out.2) Try.underlying25 rfl (by rw [pkV_size zero_ok]; first | done | kernel_rfl) ?_)
    | ((with_reducible refine at_op (.binOp .eql 25 (.tmp 33) (.tmp 34) 25) rfl ?_); refine wpList_eql_g (by rfl) .eql 25 25 (.tmp 33) (.tmp 34) rfl (pkV Pk.zero) (pkV Pk.zero) rfl rfl (by kernel_rfl) _ (run_eql_pk _ Pk.zero Pk.zero zero_ok zero_ok true (by decide)) ?_))
  go_ret
  exact ⟨by first | rfl | simp, HE.out.1.below (Nat.le_refl _) (fun _ _ h => h)⟩

set_option maxRecDepth 100000 in
set_option maxHeartbeats 8000000 in
theorem wireOnce_yes (w : World) (a0 : Option Addr) (c0 n : Nat) (zs : List Int) (cb : Int) (hl : zs.length = n) (hin : RowIn .u8 w a0 n c0 zs) (hk : ¬ 200 < n) (hD : DecOk zs) (hcb : 0 ≤ cb ∧ cb < 256) :
    Calls Try.prog 5 #[.slice a0 n c0, .int .u8 cb] w fun e w' => e = .returned (.bool true) ∧ Below w.heap.size w w' := by
  have HZ : Hid (zs.length = n ∧ (∀ z ∈ zs, 0 ≤ z ∧ z < 256) ∧ n ≤ 90000) := Lib.hid ⟨hl, hin.range, by omega⟩
  have HS : Hid (SlAt w a0 (bys zs) ∧ (a0 = none → c0 = 0) ∧ n ≤ c0 ∧ c0 ≤ maxLen) := Lib.hid ⟨hin.bys, hin.nil, hin.le, hin.hcap⟩
  clear hin hl
  obtain ⟨i0, hi8, hz0, hz1, hz2⟩ := info_parts Try.info5
  obtain ⟨p, hp⟩ : ∃ p, decP zs = p := ⟨_, rfl⟩
  have HP : Hid (p.Ok ∧ RightN p ∧ encN p = zs ∧ decide (RightN p) = true) := Lib.hid (by
    rw [← hp]
    exact ⟨decP_ok zs HZ.out.2.1, hD.2.2, enc_dec zs HZ.out.2.1 hD, decide_eq_true hD.2.2⟩)
  have HD := Lib.hid (And.intro hD (And.intro hp hcb))
  clear hD hp hcb
  go_enter Try.func5, Try.ntmps5
  go_wp2_with fail
  (with_reducible refine (wireSmall_any _).mono ?_)
  rintro e wa ⟨rfl, hba⟩
  have HA : Hid (Touch (fun _ => False) w wa) := Lib.hid (Touch.of_below hba)
  clear hba
  go_wp2_with fail
  (with_reducible refine (dec_yes a0 n c0 zs p _ HZ.out.1 (HS.out.1.touch HA.out (fun _ _ _ h => h)) HS.out.2.1 HZ.out.2.2 HZ.out.2.1 HD.out.1 HD.out.2.1).mono ?_)
  rintro e wb ⟨rfl, hbb⟩
  have HB : Hid (Touch (fun _ => False) w wb) := Lib.hid (HA.out.trans (Touch.of_below hbb))
  clear hbb
  go_wp2_with (first
    | ((with_reducible refine at_op (.store 25 (.tmp 6) (.tmp 23)) rfl ?_); refine wpList_store_blk rfl 25 (.tmp 6) (.tmp 23) rfl wb.heap.size 25 _ (pkV p) rfl rfl (Blk.new _ _ _) (by rw [pkV_size HP.out.1]; first | done | kernel_rfl) (by rw [pkV_size HP.out.1]; first | done | kernel_rfl) (pkV_one _) ?_; intro we hB ht hs; have HE : Hid (Touch (fun _ => False) w we ∧ Blk we wb.heap.size 25 (pkV p)) := Lib.hid (⟨HB.out.trans (touch_store ht), hB⟩); clear hB ht hs)
    | ((with_reducible refine at_op (.load 25 (.tmp 6)) rfl ?_); refine wpList_load_blk rfl 25 (.tmp 6) rfl wb.heap.size 25 (pkV p) _ rfl (HE.out.2) Try.underlying25 rfl (by rw [pkV_size HP.out.1]; first | done | kernel_rfl) ?_))
  (with_reducible refine (enc_lit _ p rfl HP.out.1 HP.out.2.1 zs n HP.out.2.2.1 HZ.out.1 _).mono ?_)
  rintro e wf ⟨ax, cx, rfl, hox, hcx, hbf⟩
  have HF : Hid (Touch (fun _ => False) w wf ∧ Blk wf wb.heap.size 25 (pkV p)) := Lib.hid ⟨HE.out.1.trans (Touch.of_below hbf), HE.out.2.touch (Touch.of_below (S := fun _ => False) hbf) (fun h => h)⟩
  have HX := Lib.hid hox
  clear hbf hox hcx
  obtain ⟨n6, hn6⟩ : ∃ n6, n6 = wb.heap.size := ⟨_, rfl⟩
  rw [← hn6]
  have H6 : Hid (Blk wf n6 25 (pkV p)) := Lib.hid (by rw [hn6]; exact HF.out.2)
  clear hn6
  have hcap : n ≤ c0 := HS.out.2.2.1
  have hcapm : c0 ≤ maxLen := HS.out.2.2.2
  unfold maxLen at hcapm
  go_wp2_with fail
  go_loopw [10] (fun i wr => ∃ j : Nat, j ≤ n ∧ i = .int .i64 j ∧ Touch (fun _ => False) wf wr) (fun i _ => (n - intOf i).toNat)
  case atStart => exact ⟨0, Nat.zero_le _, rfl, Touch.refl _ _⟩
  case round =>
    obtain ⟨j, hj, rfl, hT⟩ := hrel
    have HT := Lib.hid hT
    clear hT
    by_cases hq : j = n
    · subst hq
      clear hj
      have hsl : ∀ o, SlAt (wr.alloc o) a0 (bys zs) := fun o => (HS.out.1.touch (HF.out.1.trans HT.out) (fun _ _ _ h => h)).alloc o
      have HSL := Lib.hid hsl
      clear hsl
      go_wp2_with (first
        | (at_builtin; refine wpList_append_any rfl (.tmp 58) (.tmp 59) 26 rfl wr.heap.size 5 i0 (.int .u8 0) 1 Try.underlying26 hi8 hz0 hz1 hz2 rfl _ 0 [] rfl (World.ownsRow_made wr #[] 0 (Nat.le_refl _) (Nat.zero_le _) rfl) a0 j c0 (bys zs) rfl (by rw [bys_length]; exact HZ.out.1) (HSL.out _) HS.out.2.1 (bys_one _) (by unfold maxLen; omega) (by omega) (by simp) ?_; intro v1 wg ho1 hg1 hnn1; have tg1 : Touch (fun _ => False) wr wg := ((Touch.refl _ _).alloc _).grown hg1 (fun k hk => by cases hk; exact fun h => absurd h (Nat.lt_irrefl _)); (try simp only [Nat.zero_add, List.nil_append] at ho1); have HG1 := Lib.hid (And.intro ho1 tg1); clear ho1 hg1 hnn1 tg1)
        | (at_builtin; refine wpList_append_any rfl (.tmp 60) (.tmp 62) 26 rfl wr.heap.size 5 i0 (.int .u8 0) 1 Try.underlying26 hi8 hz0 hz1 hz2 rfl v1 j (bys zs) rfl (owns_touch HG1.out.1 ((Touch.refl (fun _ => False) _).alloc _) (fun _ _ h => h)) (some ⟨wg.heap.size, 0, none⟩) 1 1 (bys [cb]) rfl rfl (SlAt.new_at rfl #[.int .u8 cb] _ _) (fun h => by cases h) (bys_one _) (by unfold maxLen; omega) (by omega) (by have := HG1.out.2.size; simp; omega) ?_; intro v2 wh ho2 hg2 hnn2; obtain ⟨a2, c2, rfl, hn2, _, _, _⟩ := owns_form ho2; have tg2 : Touch (fun _ => False) wr wh := (HG1.out.2.alloc _).grown hg2 (fun k hk hlt => by have := (HG1.out.1.lt k hk).1; omega); have HG2 := Lib.hid (And.intro ho2 (And.intro tg2 hn2)); clear ho2 hg2 hnn2 hn2 tg2))
      have D1 : (zs ++ [cb]).length = j + 1 := by rw [List.length_append, HZ.out.1]; rfl
      have D2 : SlAt wh a2 (bys (zs ++ [cb])) := by have h := SlAt.of_owns HG2.out.1; rw [← bys_append] at h; exact h
      have D3 : ∀ z ∈ zs ++ [cb], 0 ≤ z ∧ z < 256 := fun z hz => by
        rcases List.mem_append.1 hz with hz | hz
        · exact HZ.out.2.1 z hz
        · rw [List.mem_singleton] at hz
          rw [hz]
          exact HD.out.2.2
      have D4 := dec_more zs HZ.out.2.1 HD.out.1 cb HD.out.2.2
      have D5 : j + 1 ≤ 90000 := by omega
      (with_reducible refine (dec_no a2 (j + 1) c2 (zs ++ [cb]) _ D1 D2 (fun h => (HG2.out.2.2 h).2) D5 D3 D4).mono ?_)
      clear D1 D2 D3 D4 D5
      rintro e wi ⟨rfl, hbi⟩
      have HI : Hid (Touch (fun _ => False) wf wi) := Lib.hid ((HT.out.trans HG2.out.2.1).trans (Touch.of_below hbi))
      clear hbi
      go_wp2_with (first
        | ((with_reducible refine at_op (.store 25 (.tmp 13) (.tmp 65)) rfl ?_); refine wpList_store_blk rfl 25 (.tmp 13) (.tmp 65) rfl wi.heap.size 25 _ (pkV Pk.zero) rfl rfl (Blk.new _ _ _) (by rw [pkV_size zero_ok]; first | done | kernel_rfl) (by rw [pkV_size zero_ok]; first | done | kernel_rfl) (pkV_one _) ?_; intro wj hB ht hs; have HJ : Hid (Touch (fun _ => False) wf wj) := Lib.hid (HI.out.trans (touch_store ht)); clear hB ht hs)
        | ((with_reducible refine at_op (.load 25 (.tmp 6)) rfl ?_); refine wpList_load_blk_g (by rfl) 25 (.tmp 6) rfl n6 25 (pkV p) _ rfl (H6.out.touch HJ.out (fun h => h)) Try.underlying25 rfl (by rw [pkV_size HP.out.1]; first | done | kernel_rfl) ?_))
      (with_reducible refine (wireRight_any p HP.out.1 _).mono ?_)
      rintro e wk ⟨rfl, hbk⟩
      rw [HP.out.2.2.2]
      have HK : Hid (Touch (fun _ => False) wf wk) := Lib.hid (HJ.out.trans (Touch.of_below hbk))
      clear hbk
      have q1 := str_at HX.out HK.out HZ.out.1
      have q2 := run_str (P := Try.prog) wk 26 9 5 Try.underlying26 Try.underlying5 Try.underlying9 a0 j c0 zs HZ.out.1 (HS.out.1.touch (HF.out.1.trans HK.out) (fun _ _ _ h => h))
      go_wp2_with fail
      go_ret
      exact ⟨by first | rfl | simp, (HF.out.1.trans HK.out).below (Nat.le_refl _) (fun _ _ h => h)⟩
    · have hjl : j < n := by omega
      have hj1 : (j : Int) < n := by omega
      have hj0 : (0 : Int) ≤ j := by omega
      have hj2 : (j : Int) ≤ c0 := by omega
      have hj3 : j ≤ c0 := by omega
      have HTK : Hid ((zs.take j).length = j ∧ SlAt wr a0 (bys (zs.take j)) ∧ (∀ z ∈ zs.take j, 0 ≤ z ∧ z < 256) ∧ ¬ DecOk (zs.take j) ∧ j ≤ 90000) := Lib.hid (by
        refine ⟨by rw [List.length_take, HZ.out.1]; omega, ?_, fun z hz => HZ.out.2.1 z (List.mem_of_mem_take hz), dec_take zs HZ.out.2.1 HD.out.1 j (by rw [HZ.out.1]; exact hjl), by omega⟩
        have h := (HS.out.1.touch (HF.out.1.trans HT.out) (fun _ _ _ h => h)).take j
        rw [show (bys zs).take j = bys (zs.take j) by simp [bys]] at h
        exact h)
      clear hq
      go_wp2_with fail
      (with_reducible refine (dec_no a0 j c0 (zs.take j) _ HTK.out.1 HTK.out.2.1 HS.out.2.1 HTK.out.2.2.2.2 HTK.out.2.2.1 HTK.out.2.2.2.1).mono ?_)
      rintro e wg ⟨rfl, hbg⟩
      have HG : Hid (Touch (fun _ => False) wf wg) := Lib.hid (HT.out.trans (Touch.of_below hbg))
      clear hbg
      go_wp2_with ((with_reducible refine at_op (.store 25 (.tmp 11) (.tmp 53)) rfl ?_); refine wpList_store_blk rfl 25 (.tmp 11) (.tmp 53) rfl wg.heap.size 25 _ (pkV Pk.zero) rfl rfl (Blk.new _ _ _) (by rw [pkV_size zero_ok]; first | done | kernel_rfl) (by rw [pkV_size zero_ok]; first | done | kernel_rfl) (pkV_one _) ?_; intro wh hB ht hs; have HHH : Hid (Touch (fun _ => False) wf wh) := Lib.hid (HG.out.trans (touch_store ht)); clear hB ht hs)
      go_roundw
      case rel => exact ⟨j + 1, hjl, by first | rfl | (congr 1; omega) | (congr 1; unfold wrap64; omega), HHH.out⟩
      case measure => simp [intOf]; (try unfold wrap64); omega

set_option maxRecDepth 100000 in
set_option maxHeartbeats 8000000 in
theorem wireOnce_walk (w : World) (a0 : Option Addr) (l0 c0 : Nat) (z0 : List Int) (h0 : RowIn .u8 w a0 l0 c0 z0) (cb : Int) (wb : (Lit.int .u8 cb).wf = true) :
    Calls Try.prog 5 #[.slice a0 l0 c0, .int .u8 cb] w fun e w' => e = .returned (.bool true) ∧ Below w.heap.size w w' := by
  have hl := h0.hlen
  have hcb := bounds_u8 wb
  by_cases hk : 200 < l0
  · clear hl wb hcb h0
    go_enter Try.func5, Try.ntmps5
    go_wp2_with fail
    (with_reducible refine (wireSmall_any _).mono ?_)
    rintro e wa ⟨rfl, hba⟩
    have HA : Hid (Touch (fun _ => False) w wa) := Lib.hid (Touch.of_below hba)
    clear hba
    go_wp2_with fail
    go_ret
    exact ⟨by first | rfl | simp, HA.out.below (Nat.le_refl _) (fun _ _ h => h)⟩
  · by_cases hD : DecOk z0
    · exact wireOnce_yes w a0 c0 l0 z0 cb hl h0 hk hD ⟨hcb.1, by omega⟩
    · exact wireOnce_no w a0 c0 l0 z0 cb hl h0 hk hD

/-! ### the row's step, and the row -/
theorem wireOnce_own : ownKnob Try.prog.godebug = none := by kernel_rfl
theorem wireOnce_laidOut : laidOutB Try.prog = true := by kernel_rfl

set_option linter.unusedVariables false in
set_option maxRecDepth 100000 in
theorem wireOnce_lifted (os : Os) (started : os.Started) (H : Type) (enc : TypeId × Value → H) :
    ReturnsInHanded {} Try.checked os 5 .any (Rows.wireOnceSpec.pre6 enc Try.prog Try.f5 Rows.wireOnceRow.domain false) (Rows.wireOnceSpec.post enc Try.prog Try.f5 false true false false) := by
  refine returnsInHanded_of_change (C := Try.checked) wireOnce_own started (by kernel_rfl) Try.func5
    (ChangeSpec.witness6 (enc := enc) (C := Try.checked) false ⟨#[], #[.slice none 0 0, .int .u8 0], []⟩ 8 (by kernel_rfl) (by kernel_rfl) (by kernel_rfl) (by kernel_rfl)) ?_
  intro W base args ds gs before hval0 hW hcnd _
  have hval : ∀ (j : Nat) t v, Try.f5.params[j]? = some t → args[j]? = some v → Value.okWide Try.prog W .any base t v := hval0
  have hW' := hW
  obtain ⟨p, q, hA0, hV, rfl, hfz, hnd⟩ := hW
  have hA : DataW.TrodAll enc Try.prog W 0 (fun _ => true) true Try.f5.params.toList args.toList ds p := hA0
  rw [Try.params5] at hA hval
  obtain ⟨v0, vs0, d0, ds0, p0, q0, hargs, rfl, rfl, h0, r0⟩ := trodAll_cons hA
  obtain ⟨v1, vs1, d1, ds1, p1, q1, rfl, rfl, rfl, h1, r1⟩ := trodAll_cons r0
  obtain ⟨rfl, rfl, rfl⟩ := trodAll_nil r1
  obtain rfl : args = #[v0, v1] := by cases args; simp_all
  obtain ⟨rfl, rfl⟩ := trodVars_none hV
  have k0 := h0
  have lt0 : ∀ x ∈ p0, x.block < W.heap.size := by obtain ⟨m, hm⟩ := k0; exact DataW.trod_lt m _ _ _ hm
  obtain ⟨a0, len0, cap0, rfl⟩ := okWide_slice Try.underlying26 (hval 0 26 v0 rfl rfl)
  obtain ⟨z0, w0⟩ := row_of (k := .u8) Try.underlying26 Try.underlying5 (by kernel_rfl) h0
  obtain ⟨a1, rfl, rfl, rfl, w1⟩ := open_int Try.underlying5 (hval 1 5 v1 rfl rfl) h1
  clear hA0 hval0
  refine (wireOnce_walk W a0 len0 cap0 z0 w0 a1 w1).mono fun e W' ⟨he, bel⟩ => ?_
  subst he
  exact ⟨_, rfl, _, _, _, [], _, [], hW', trodAll_mk1 (shut_bool Try.underlying4 _), (trodAll_cons_mk (Below.trod wireOnce_laidOut (by kernel_rfl) (of_decide_eq_true (by kernel_rfl)) k0 bel lt0) (trodAll_cons_mk (shut_int Try.underlying5 w1) trodAll_mk0)), rfl, bel.frame _, fun h => by cases h⟩

theorem wireOnce_over : Rows.wireOnceRow.holds Try.pinned (OpenSpec.ofChange Rows.wireOnceSpec) :=
  OpenClaim.holds_of_wide 5 Try.f5 rfl rfl rfl rfl rfl rfl rfl ⟨rfl, rfl, rfl, rfl, rfl⟩ rfl rfl rfl rfl rfl (by kernel_rfl) Try.func5 (by kernel_rfl)
    (of_decide_eq_true (by kernel_rfl)) (by unfold Func.isWrapper; first | (rw [if_pos (by decide +kernel)]; kernel_rfl) | (rw [if_neg (by decide +kernel)]; exact ⟨rfl, rfl⟩))
    (fun os started H enc _ => wireOnce_lifted os started H enc)

/-- THE STATEMENT. -/
theorem wireOnce_proved : Rows.WireOnceSaid := wireOnce_over
#print axioms wireOnce_proved
end Go.Proofs.Ythlkmofemnepbaa
