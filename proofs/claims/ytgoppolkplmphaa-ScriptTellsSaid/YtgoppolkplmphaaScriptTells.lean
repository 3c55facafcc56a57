/-
  nightjarlaw26.ScriptTells: for all bytes, every number and all acts the law returns true. No conditions: for every input that can be read.
-/
import Derived.Test.YtgoppolkplmphaaRows
import Derived.Test.YtgoppolkplmphaaScriptSmall
import Derived.Test.YtgoppolkplmphaaScriptRef2
import Derived.Test.YtgoppolkplmphaaScriptOpen
import Derived.Test.YtgoppolkplmphaaOpen
namespace Go.Proofs.Ytgoppolkplmphaa
open Go.ChangeShapes Go.WideShapes Go.ChangeAt Go.RowKit

theorem own_newS {w : World} {base : Nat} {T : TypeId} {v : Value} {n : Nat} {xs : List Value} (h : w.ownsRow base T 1 v n xs) (hne : v = .slice none 0 0 → False) :
    ∃ g cg cur, v = .slice (some ⟨g, 0, none⟩) n cg ∧ base ≤ g ∧ Blk w g T cur ∧ cur.size = cg ∧ n ≤ cg ∧ cg ≤ maxLen := by
  rcases h.2 with ⟨e1, _⟩ | ⟨g, cg, cur, e1, e2, e3, e4, e5, e6, _⟩
  · exact (hne e1).elim
  · exact ⟨g, cg, cur, e1, e2, e3, by simpa using e6, e4, e5⟩

theorem rowCells_neS {R : ActRow} (h : R ≠ []) : rowCells R ≠ [] := by
  cases R with
  | nil => exact absurd rfl h
  | cons q l => simp [rowCells, actCells]

theorem RowAt.old {w W : World} {a : Option Addr} {R : ActRow} (h : RowAt w a R) (ht : Touch (fun k => w.heap.size ≤ k) w W) : RowAt W a R :=
  h.touch ht (fun x hx hne e => by
      subst hx
      have := h.cells.lt (rowCells_neS hne)
      omega) (fun q hq x hx hne e => by
      have h0 := h.bytes q hq
      rw [hx] at h0
      have := h0.lt (by simpa [bys] using hne)
      omega)

theorem scriptTells_out (w : World) (a : Option Addr) (n cap : Nat) (d : Int) (b : Option Addr) (m cb : Nat) (h : 1000 < (n : Int) ∨ (n : Int) ≤ 1000 ∧ 200 < (m : Int)) :
    Calls Try.prog 12 #[.slice a n cap, .int .i64 d, .slice b m cb] w fun e w' => e = .returned (.bool true) ∧ Below w.heap.size w w' := by
  rcases h with h1 | ⟨h1, h2⟩
  all_goals
    go_enter Try.func12, Try.ntmps12
    go_wp2_with fail
    refine (scriptSmall_any w).mono ?_
    rintro e w1 ⟨rfl, hb⟩
    go_wp2_with fail
    go_ret
    exact ⟨rfl, hb⟩

set_option maxRecDepth 100000 in
set_option maxHeartbeats 4000000 in
theorem scriptTells_in (w : World) (a : Option Addr) (cap : Nat) (zs : List Nat) (hin : RowIn .u8 w a zs.length cap (nats zs)) (d : Int) (b : Option Addr) (m cb : Nat) (R : ActRow) (hRm : R.length = m) (hmc : m ≤ cb) (hmm : cb ≤ maxLen) (hrow : RowAt w b R) (h1 : (zs.length : Int) ≤ 1000) (h2 : (m : Int) ≤ 200) :
    Calls Try.prog 12 #[.slice a zs.length cap, .int .i64 d, .slice b m cb] w fun e w' => e = .returned (.bool true) ∧ Below w.heap.size w w' := by
  obtain ⟨i0, hi, hz0, hz1, hz2⟩ := info_parts Try.infoB5
  have hlec := hin.le
  have hcm := hin.hcap
  have hr : ∀ y ∈ zs, y < 256 := fun y hy => by have := hin.range (y : Int) (List.mem_map.2 ⟨y, hy, rfl⟩); omega
  have HIN := Lib.hid (And.intro hin (And.intro hr (And.intro hRm hrow)))
  clear hin hr hRm hrow
  go_enter Try.func12, Try.ntmps12
  go_wp2_with fail
  refine (scriptSmall_any w).mono ?_
  rintro e wa ⟨rfl, hb⟩
  have hsa : SlAt wa a (bys (nats zs)) := HIN.out.1.bys.touch (Touch.of_below (S := fun _ => False) hb) (fun _ _ _ h => h)
  have hsv : SlAt (wa.alloc (.cells #[] 5)) a (bys (nats zs)) := hsa.touch ((Touch.refl (fun _ => False) _).alloc _) (fun _ _ _ h => h)
  have hold : ∀ x, a = some x → nats zs ≠ [] → x.block < wa.heap.size := fun x hx hne => Nat.lt_of_lt_of_le (HIN.out.1.old x hx hne) hb.size
  have HB := Lib.hid (And.intro hb (And.intro hsa hold))
  clear hb hsa hold
  go_wp2_with (at_builtin; refine wpList_append_any rfl (.tmp 21) (.tmp 22) 31 rfl wa.heap.size 5 i0 (.int .u8 0) 1 Try.underlying31 hi hz0 hz1 hz2 rfl _ 0 [] rfl (World.ownsRow_made wa #[] 0 (Nat.le_refl _) (Nat.zero_le _) rfl) a zs.length cap (bys (nats zs)) rfl (by simp [bys, nats]) hsv HIN.out.1.nil (bys_one _) (by unfold maxLen; omega) (by omega) (by simp) ?_; intro v1 wb ho1 hg1 hnn; have tg : Touch (fun _ => False) wa wb := ((Touch.refl _ _).alloc _).grown hg1 (fun k hk => by cases hk; exact fun h => absurd h (Nat.lt_irrefl _)); (try simp only [Nat.zero_add, List.nil_append] at ho1); obtain ⟨g, cg, cur, rfl, hgb, hBg, hcz, hgn, hgm⟩ := own_newS ho1 (fun e => by have h := (hnn.1 e).1; cases h); have H1 := Lib.hid (And.intro ho1 (And.intro tg (And.intro hBg hcz))); clear ho1 hg1 hnn tg hBg hcz)
  refine (acts_any (some ⟨g, 0, none⟩) zs.length cg zs wb rfl (SlAt.of_owns H1.out.1) HIN.out.2.1 (fun h => by cases h) hgn hgm (by omega)).mono ?_
  rintro e wc ⟨v1, R1, rfl, hown, hR1, hbc⟩
  obtain ⟨a1, c1, rfl, hl1, hm1, _⟩ := acts_form hown
  obtain ⟨n1, hn1⟩ : ∃ n1, R1.length = n1 := ⟨_, rfl⟩
  rw [hn1] at hown hl1 ⊢
  have hBc := H1.out.2.2.1.touch (Touch.of_below (S := fun _ => False) hbc) (fun h => h)
  have hgl : g < wb.heap.size := H1.out.2.2.1.lt
  have H2 := Lib.hid (And.intro hown (And.intro hR1 (And.intro hn1 (And.intro hbc hBc))))
  clear hown hR1 hn1 hbc hBc hsv
  go_wp2_with fail
  go_loopw [10] (fun i wz => ∃ (j : Nat) (cur : Array Value), j ≤ zs.length ∧ i = .int .i64 j ∧ cur.size = cg ∧ Blk wz g 5 cur ∧ Touch (fun k => k = g) wc wz) (fun i _ => (zs.length - intOf i).toNat)
  case atStart => exact ⟨0, cur, Nat.zero_le _, rfl, H1.out.2.2.2, H2.out.2.2.2.2, Touch.refl _ _⟩
  case round =>
    obtain ⟨j, cur', hj, rfl, hcz, hBz, htz⟩ := hrel
    by_cases hq : j = zs.length
    · subst hq
      have T0 : Touch (fun k => w.heap.size ≤ k) w wr := ((Touch.of_below (S := fun k => w.heap.size ≤ k) HB.out.1).trans ((H1.out.2.1.mono (fun _ _ h => h.elim)).trans ((Touch.of_below H2.out.2.2.2.1).trans (htz.mono (fun k _ e => by subst e; exact Nat.le_trans HB.out.1.size hgb)))))
      have Ta : SlAt wr a (bys (nats zs)) := HB.out.2.1.touch ((H1.out.2.1.mono (fun _ _ h => h.elim)).trans ((Touch.of_below H2.out.2.2.2.1).trans htz)) (fun x hx hne e => by
        have := HB.out.2.2 x hx (by intro h; rw [h] at hne; exact hne rfl)
        omega)
      have hrow1 : RowAt wr a1 R1 := (RowAt.of_owns H2.out.1).touch htz (fun x hx _ e => by
          have := (H2.out.1.row.lt x.block (by rw [hx]; rfl)).1
          omega) (fun q hq x hx hne e => by
          have := ((H2.out.1.bytes q hq).lt x.block (by rw [hx]; rfl)).1
          omega)
      have H3 := Lib.hid (And.intro T0 hrow1)
      clear T0 hrow1 hBz htz hcz
      go_wp2_with fail
      refine (acts_rf a zs.length cap zs wr rfl Ta HIN.out.2.1 hlec hcm (by omega)).mono ?_
      rintro e w4 ⟨v4, R4, rfl, hown4, hR4, hb4⟩
      obtain ⟨a4, c4, rfl, hl4, hm4, _⟩ := acts_form hown4
      have hn4 : R4.length = n1 := by
        have h := congrArg List.length (hR4.trans H2.out.2.1.symm)
        simp only [List.length_map] at h
        rw [h, H2.out.2.2.1]
      rw [hn4] at hown4 hl4 ⊢
      have t4 : Touch (fun _ => False) wr w4 := Touch.of_below hb4
      have H4 := Lib.hid (And.intro (RowAt.of_owns hown4) (And.intro hR4 (And.intro hn4 t4)))
      clear hown4 hR4 hn4 hb4 t4 Ta
      go_wp2_with fail
      refine (same_eq_acts a1 a4 n1 c1 c4 R1 R4 w4 (H3.out.2.same H4.out.2.2.2) H4.out.1 H2.out.2.2.1 (H2.out.2.1.trans H4.out.2.1.symm) hl1 hl4 hm1 hm4).mono ?_
      rintro e w5 ⟨rfl, hb5⟩
      have H5 := Lib.hid hb5
      clear hb5
      go_wp2_with fail
      refine (act_named d w5).mono ?_
      rintro e w6 ⟨rfl, hb6⟩
      have H6 := Lib.hid hb6
      clear hb6
      obtain ⟨nm, hnm⟩ : ∃ nm, actNamed d = nm := ⟨_, rfl⟩
      rw [hnm]
      go_wp2_with fail
      refine (refact_named d w6).mono ?_
      rintro e w7 ⟨rfl, hb7⟩
      have H7 := Lib.hid hb7
      clear hb7
      rw [hnm]
      have T47 : Touch (fun _ => False) wr w7 := ((H4.out.2.2.2.trans (Touch.of_below H5.out)).trans (Touch.of_below H6.out)).trans (Touch.of_below H7.out)
      have T7 : Touch (fun k => w.heap.size ≤ k) w w7 := H3.out.1.trans (T47.mono (fun _ _ h => h.elim))
      have H8 := Lib.hid T7
      clear T47 T7
      go_wp2_with fail
      refine (count_any b m cb R d w7 (HIN.out.2.2.2.old H8.out) HIN.out.2.2.1 hmc hmm).mono ?_
      rintro e w8 ⟨rfl, hb8⟩
      have H9 := Lib.hid (H8.out.trans (Touch.of_below hb8))
      clear hb8
      go_wp2_with fail
      refine (count_rf b m cb R d w8 (HIN.out.2.2.2.old H9.out) HIN.out.2.2.1 hmc hmm).mono ?_
      rintro e w9 ⟨rfl, rfl⟩
      go_wp2_with fail
      go_ret
      exact ⟨by simp, H9.out.below (Nat.le_refl _) (fun k hk h => by omega)⟩
    · have hjl : j < zs.length := by omega
      have hjc : j < cur'.size := by omega
      have hu : cur'[j]? = some (cur'[j]'hjc) := by simp
      generalize (cur'[j]'hjc) = u at hu
      have hc := hBz.cell j hu
      have hf := hBz.frozen j
      have hj1 : (j : Int) < zs.length := by omega
      have hcg : (zs.length : Int) ≤ cg := by omega
      have HB5 := Lib.hid (And.intro hBz (And.intro htz hcz))
      clear hBz htz hu
      go_wp2_with fail
      go_roundw
      case rel =>
        refine ⟨j + 1, _, hjl, by first | rfl | (congr 1; omega), ?_, HB5.out.1.set j (.int .u8 77), Touch.setCell (S := fun k => k = g) HB5.out.2.1 (p := ⟨g, j, none⟩) (fun _ => rfl) _⟩
        simp
        exact HB5.out.2.2
      case measure => simp [intOf]; omega

theorem scriptTells_walk (w : World) (a : Option Addr) (len cap : Nat) (xs : List Int) (hin : RowIn .u8 w a len cap xs) (d : Int) (_w1 : (Lit.int .i64 d).wf = true) (b : Option Addr) (m cb : Nat) (R : ActRow) (hR : R.length = m ∧ m ≤ cb ∧ cb ≤ maxLen ∧ RowAt w b R) :
    Calls Try.prog 12 #[.slice a len cap, .int .i64 d, .slice b m cb] w fun e w' => e = .returned (.bool true) ∧ Below w.heap.size w w' := by
  obtain ⟨zs, rfl⟩ : ∃ zs : List Nat, xs = nats zs := ⟨xs.map Int.toNat, by
    have hr := hin.range
    simp only [nats, List.map_map]
    refine (List.map_id' xs).symm.trans (List.map_congr_left fun z hz => ?_)
    have := hr z hz
    simp
    omega⟩
  have hlen : zs.length = len := by have := hin.hlen; simpa [nats] using this
  subst hlen
  by_cases h : (zs.length : Int) ≤ 1000 ∧ (m : Int) ≤ 200
  · exact scriptTells_in w a cap zs hin d b m cb R hR.1 hR.2.1 hR.2.2.1 hR.2.2.2 h.1 h.2
  · exact scriptTells_out w a zs.length cap d b m cb (by omega)

/-! ### the row's step, and the row -/
theorem scriptTells_own : ownKnob Try.prog.godebug = none := by kernel_rfl
theorem scriptTells_laidOut : laidOutB Try.prog = true := by kernel_rfl

set_option linter.unusedVariables false in
set_option maxRecDepth 100000 in
theorem scriptTells_lifted (os : Os) (started : os.Started) (H : Type) (enc : TypeId × Value → H) :
    ReturnsInHanded {} Try.checked os 12 .any (Rows.scriptTellsSpec.pre6 enc Try.prog Try.f12 Rows.scriptTellsRow.domain false) (Rows.scriptTellsSpec.post enc Try.prog Try.f12 false true false false) := by
  refine returnsInHanded_of_change (C := Try.checked) scriptTells_own started (by kernel_rfl) Try.func12
    (ChangeSpec.witness6 (enc := enc) (C := Try.checked) false ⟨#[], #[.slice none 0 0, .int .i64 0, .slice none 0 0], []⟩ 8 (by kernel_rfl) (by kernel_rfl) (by kernel_rfl) (by kernel_rfl)) ?_
  intro W base args ds gs before hval0 hW hcnd _
  have hval : ∀ (j : Nat) t v, Try.f12.params[j]? = some t → args[j]? = some v → Value.okWide Try.prog W .any base t v := hval0
  have hW' := hW
  obtain ⟨p, q, hA0, hV, rfl, hfz, hnd⟩ := hW
  have hA : DataW.TrodAll enc Try.prog W 0 (fun _ => true) true Try.f12.params.toList args.toList ds p := hA0
  rw [Try.params12] at hA hval
  obtain ⟨v0, vs0, d0, ds0, p0, q0, hargs, rfl, rfl, h0, r0⟩ := trodAll_cons hA
  obtain ⟨v1, vs1, d1, ds1, p1, q1, rfl, rfl, rfl, h1, r1⟩ := trodAll_cons r0
  obtain ⟨v2, vs2, d2, ds2, p2, q2, rfl, rfl, rfl, h2, r2⟩ := trodAll_cons r1
  obtain ⟨rfl, rfl, rfl⟩ := trodAll_nil r2
  obtain rfl : args = #[v0, v1, v2] := by cases args; simp_all
  obtain ⟨rfl, rfl⟩ := trodVars_none hV
  have k0 := h0
  have lt0 : ∀ x ∈ p0, x.block < W.heap.size := by obtain ⟨m, hm⟩ := k0; exact DataW.trod_lt m _ _ _ hm
  obtain ⟨a0, len0, cap0, rfl⟩ := okWide_slice Try.underlying31 (hval 0 31 v0 rfl rfl)
  obtain ⟨z0, w0⟩ := row_of (k := .u8) Try.underlying31 Try.underlying5 (by kernel_rfl) h0
  obtain ⟨a1, rfl, rfl, rfl, w1⟩ := open_int Try.underlying3 (hval 1 3 v1 rfl rfl) h1
  have k2 := h2
  have lt2 : ∀ x ∈ p2, x.block < W.heap.size := by obtain ⟨m, hm⟩ := k2; exact DataW.trod_lt m _ _ _ hm
  have o2 := hval 2 47 v2 rfl rfl
  obtain ⟨a2, len2, cap2, rfl⟩ := okWide_slice Try.underlying47 o2
  obtain ⟨z2, w2⟩ := acts_of h2
  clear hA0 hval0
  refine (scriptTells_walk W a0 len0 cap0 z0 w0 a1 w1 a2 len2 cap2 z2 w2).mono fun e W' ⟨he, bel⟩ => ?_
  subst he
  exact ⟨_, rfl, _, _, _, [], _, [], hW', trodAll_mk1 (shut_bool Try.underlying4 _), (trodAll_cons_mk (Below.trod scriptTells_laidOut (by kernel_rfl) (of_decide_eq_true (by kernel_rfl)) k0 bel lt0) (trodAll_cons_mk (shut_int Try.underlying3 w1) (trodAll_cons_mk (Below.trod scriptTells_laidOut (by kernel_rfl) (of_decide_eq_true (by kernel_rfl)) k2 bel lt2) trodAll_mk0))), rfl, bel.frame _, fun h => by cases h⟩

theorem scriptTells_over : Rows.scriptTellsRow.holds Try.pinned (OpenSpec.ofChange Rows.scriptTellsSpec) :=
  OpenClaim.holds_of_wide 12 Try.f12 rfl rfl rfl rfl rfl rfl rfl ⟨rfl, rfl, rfl, rfl, rfl⟩ rfl rfl rfl rfl rfl (by kernel_rfl) Try.func12 (by kernel_rfl)
    (of_decide_eq_true (by kernel_rfl)) (by unfold Func.isWrapper; first | (rw [if_pos (by decide +kernel)]; kernel_rfl) | (rw [if_neg (by decide +kernel)]; exact ⟨rfl, rfl⟩))
    (fun os started H enc _ => scriptTells_lifted os started H enc)

/-- THE STATEMENT. -/
theorem scriptTells_proved : Rows.ScriptTellsSaid := scriptTells_over
#print axioms scriptTells_proved
end Go.Proofs.Ytgoppolkplmphaa
