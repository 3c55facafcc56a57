/-
  nightjarlaw03.MacEqual: for all bytes, places and turns the law returns true. No conditions: for every input that can be read.
-/
import Derived.Test.YtanjhalhpllcaaaRows
import Derived.Test.YtanjhalhpllcaaaMacLib
import Derived.Test.YtanjhalhpllcaaaAppendKeep
namespace Go.Proofs.Ytanjhalhpllcaaa
open Go.ChangeShapes Go.WideShapes Go.ChangeAt Go.RowKit

set_option maxRecDepth 100000 in
set_option maxHeartbeats 8000000 in
theorem macEqual_in (w : World) (a0 : Option Addr) (c0 : Nat) (x : List Nat) (h0 : BytesIn w a0 x.length c0 x) (a1 : Option Addr) (c1 : Nat) (y : List Nat) (h1 : BytesIn w a1 y.length c1 y) (i : Int) (c : Nat) (hc : c < 256) (k0 : ¬ 300 < x.length) (k1 : ¬ 300 < y.length) :
    Calls Try.prog 8 #[.slice a0 x.length c0, .slice a1 y.length c1, .int .i64 i, .int .u8 c] w fun e w' => e = .returned (.bool true) ∧ Below w.heap.size w w' := by
  obtain ⟨i0, hi, hz0, hz1, hz2⟩ := info_parts Try.info5
  have HIN := Lib.hid (And.intro h0 h1)
  clear h0 h1
  go_enter Try.func8, Try.ntmps8
  go_wp2_with fail
  (with_reducible refine (macSmall_any w).mono ?_)
  rintro e wa ⟨rfl, hba⟩
  have H1 := Lib.hid (And.intro hba ((HIN.out.1.cells.touch (Touch.of_below (S := fun _ => False) hba) (fun _ _ _ h => h)).alloc (.cells #[] 5)))
  clear hba
  go_wp2_with (at_builtin; refine wpList_append_any rfl (.tmp 21) (.tmp 22) 22 rfl wa.heap.size 5 i0 (.int .u8 0) 1 Try.underlying22 hi hz0 hz1 hz2 rfl _ 0 [] rfl (World.ownsRow_made wa #[] 0 (Nat.le_refl _) (Nat.zero_le _) rfl) a0 x.length c0 (bn x) rfl (bn_len _) H1.out.2 HIN.out.1.nil (bn_one _) (by unfold maxLen; omega) (by omega) (by simp) ?_; intro v2 w2 ho2 hg2 _; have hb2 : Below wa.heap.size wa w2 := ((Below.refl _ _).alloc (Nat.le_refl _) _).grown hg2 (by simp) (fun k hk => by cases hk; exact Nat.le_refl _); (try simp only [Nat.zero_add, List.nil_append] at ho2); obtain ⟨aX, cX, rfl, hnX, hlX, hmX, _⟩ := owns_form ho2; have H2 := Lib.hid (And.intro ho2 (And.intro hb2 (fun h => (hnX h).2))); clear ho2 hg2 hb2 hnX)
  have T2 : Touch (fun _ => False) w w2 := (Touch.of_below H1.out.1).trans (Touch.of_below H2.out.2.1)
  have HT2 := Lib.hid T2
  clear T2
  (with_reducible refine (macEqual_any a0 c0 x a1 c1 y w2 (HIN.out.1.cells.touch HT2.out (fun _ _ _ h => h)) (HIN.out.2.cells.touch HT2.out (fun _ _ _ h => h)) HIN.out.1.lt HIN.out.2.lt (by omega) (by omega)).mono ?_)
  rintro e w3 ⟨rfl, ht3⟩
  have H3 := Lib.hid ht3
  clear ht3
  go_wp2_with fail
  have HT3 : Hid (Touch (fun _ => False) w w3) := Lib.hid (HT2.out.trans H3.out)
  (with_reducible refine (macEqual_eq (decide (x = y)) a1 y.length c1 y a0 x.length c0 x w3 (by rw [Bool.eq_iff_iff]; simp [eq_comm]) rfl rfl (HIN.out.2.cells.touch HT3.out (fun _ _ _ h => h)) (HIN.out.1.cells.touch HT3.out (fun _ _ _ h => h)) HIN.out.2.lt HIN.out.1.lt (by omega) (by omega)).mono ?_)
  rintro e w4 ⟨rfl, ht4⟩
  have H4 : Hid (Touch (fun _ => False) w w4 ∧ Touch (fun _ => False) w2 w4) := Lib.hid ⟨HT3.out.trans ht4, H3.out.trans ht4⟩
  clear ht4
  go_wp2_with fail
  (with_reducible refine (macEqual_eq true a0 x.length c0 x aX x.length cX x w4 (by simp) rfl rfl (HIN.out.1.cells.touch H4.out.1 (fun _ _ _ h => h)) ((SlAt.of_owns H2.out.1).touch H4.out.2 (fun _ _ _ h => h)) HIN.out.1.lt HIN.out.1.lt (by omega) (by omega)).mono ?_)
  rintro e w5 ⟨rfl, ht5⟩
  have hrow5 := owns_touch H2.out.1 (H4.out.2.trans ht5) (fun _ _ h => h)
  have H5 : Hid (w5.ownsRow wa.heap.size 5 1 (.slice aX x.length cX) x.length (bn x) ∧ Touch (fun _ => False) w w5 ∧ wa.heap.size ≤ w5.heap.size) := Lib.hid ⟨hrow5, H4.out.1.trans ht5, Nat.le_trans H2.out.2.1.size (H4.out.2.trans ht5).size⟩
  clear ht5 hrow5
  go_wp2_with (refine wpList_append_keep (by rfl) (.tmp 39) (.tmp 41) 22 rfl wa.heap.size 5 i0 (.int .u8 0) 1 Try.underlying22 hi hz0 hz1 hz2 rfl _ _ _ rfl (H5.out.1.alloc _) _ _ rfl (by simp; rfl) rfl (by unfold maxLen; omega) (by omega) (by have := H5.out.2.2; simp; omega) ?_; intro v6 w6 ho6 hk6 hg6; obtain ⟨a6, c6, rfl, hn6, _, _, _⟩ := owns_form ho6; have H6 := Lib.hid (And.intro ho6 (And.intro hk6 hg6)); clear ho6 hk6 hg6 hn6)
  have T6 : Touch (fun _ => False) w w6 := Touch.then (S := fun _ => False) (H5.out.2.1.alloc _) ((Touch.refl (fun k => wa.heap.size ≤ k) _).grown H6.out.2.2 (fun k hk _ => (H5.out.1.lt k hk).1)) (fun i hi h => by have := H1.out.1.size; omega)
  have hrs : ∀ z ∈ x ++ [c], z < 256 := fun z hz => by
    rcases List.mem_append.1 hz with h | h
    · exact HIN.out.1.lt z h
    · rw [List.mem_singleton] at h; omega
  have hne6 : decide (x = x ++ [c]) = false := by
    rw [decide_eq_false_iff_not]
    intro e
    have := congrArg List.length e
    simp at this
  have hsl6 : SlAt w6 a6 (bn (x ++ [c])) := by
    have h := SlAt.of_owns H6.out.1
    rw [bn_append]
    exact h
  (with_reducible refine (macEqual_eq false a0 x.length c0 x a6 (x.length + 1) c6 (x ++ [c]) w6 hne6 rfl (by simp) (HIN.out.1.cells.touch T6 (fun _ _ _ h => h)) hsl6 HIN.out.1.lt hrs (by omega) (by omega)).mono ?_)
  rintro e w7 ⟨rfl, ht7⟩
  have H7 : Hid (w7.ownsRow wa.heap.size 5 1 (.slice aX x.length cX) x.length (bn x) ∧ Touch (fun _ => False) w w7) := Lib.hid ⟨owns_touch H6.out.2.1 ht7 (fun _ _ h => h), T6.trans ht7⟩
  clear ht7 T6 hrs hne6 hsl6
  have hcase : i < 0 ∨ (0 ≤ i ∧ (x.length : Int) ≤ i) ∨ (0 ≤ i ∧ i < (x.length : Int) ∧ c = 0) ∨ (0 ≤ i ∧ i < (x.length : Int) ∧ ¬ c = 0) := by omega
  rcases hcase with g1 | ⟨g1, g2⟩ | ⟨g1, g2, g3⟩ | ⟨g1, g2, g3⟩
  case inr.inr.inr =>
    obtain ⟨I, rfl⟩ : ∃ I : Nat, i = (I : Int) := ⟨i.toNat, by omega⟩
    have hI : I < x.length := by omega
    have g3b : ((c : Int) != 0) = true := by simp; omega
    obtain ⟨u, hu⟩ : ∃ u, x[I]? = some u := ⟨_, List.getElem?_eq_getElem hI⟩
    have hur := HIN.out.1.lt u (List.mem_of_getElem? hu)
    obtain ⟨z, hz⟩ : ∃ z, z = u ^^^ c := ⟨_, rfl⟩
    have e1 : bits .xor .u8 (u : Int) (c : Int) = (z : Int) := by rw [hz]; exact xor_u8 u c hur hc
    have hzr : z < 256 := by rw [hz]; exact xor_byte hur hc
    have hne : decide (x = x.set I z) = false := by
      rw [decide_eq_false_iff_not]
      intro e
      have h2 : x[I]? = (x.set I z)[I]? := by rw [← e]
      rw [List.getElem?_set_self hI, hu] at h2
      have h3 : u = z := Option.some.inj h2
      rw [hz] at h3
      have h4 : u ^^^ (u ^^^ c) = 0 := (xor_zero_iff _ _).2 h3
      rw [← Nat.xor_assoc, Nat.xor_self, Nat.zero_xor] at h4
      exact g3 h4
    have hrow := H7.out.1
    rcases hrow.2 with ⟨h1, h2⟩ | ⟨g, cap, cur, h1, hbg, hgg, hnc, hcm, hcs, htake⟩
    · omega
    · simp only [Value.slice.injEq] at h1
      obtain ⟨rfl, -, rfl⟩ := h1
      rw [Nat.mul_one] at htake hcs
      have hB7 : Blk w7 g 5 cur := hgg
      have hcur : cur[I]? = some (.int .u8 (u : Int)) := by
        have h := congrArg (fun l => l[I]?) htake
        simp only [List.getElem?_take_of_lt hI] at h
        rw [bn_at hu] at h
        simpa using h
      have cI := hB7.cell I hcur
      have fI := hB7.frozen I
      have hB8 := hB7.set I (.int .u8 (z : Int))
      have hcX : (x.length : Int) ≤ cX := by omega
      have hset : ∀ W, Touch (fun _ => False) (w7.setCell ⟨g, I, none⟩ (.int .u8 (z : Int))) W → SlAt W (some ⟨g, 0, none⟩) (bn (x.set I z)) := fun W hW => by
        have hb := hB8.touch hW (fun h => h)
        have h := (SlAt.of_blk (cs := (cur.setIfInBounds I (.int .u8 (z : Int))).toList) (by rw [Array.toArray_toList]; exact hb)).take x.length
        have e : ((cur.setIfInBounds I (.int .u8 (z : Int))).toList).take x.length = bn (x.set I z) := by
          rw [Array.toList_setIfInBounds, List.take_set, htake]
          simp [bn, bys, natsD, List.map_set]
        rw [e] at h
        exact h
      have T8 : Touch (fun _ => False) w (w7.setCell ⟨g, I, none⟩ (.int .u8 (z : Int))) := Touch.setCell H7.out.2 (p := ⟨g, I, none⟩) (fun h => by have := H1.out.1.size; simp at h; omega) _
      have hsr : ∀ q ∈ x.set I z, q < 256 := fun q hq => by
        rcases List.mem_or_eq_of_mem_set hq with h | h
        · exact HIN.out.1.lt q h
        · rw [h]; exact hzr
      have hne2 : decide (x.set I z = x) = false := by
        rw [decide_eq_false_iff_not] at hne ⊢
        exact fun e => hne e.symm
      have H8 := Lib.hid (And.intro hset (And.intro T8 (And.intro hne (And.intro hsr hne2))))
      clear hrow hgg hnc hcm hcs htake hB7 hB8 hcur hset T8 hsr hne hne2 hz hu
      go_wp2_with fail
      (with_reducible refine (macEqual_eq false a0 x.length c0 x _ x.length _ (x.set I z) _ H8.out.2.2.1 rfl (by simp) (HIN.out.1.cells.touch H8.out.2.1 (fun _ _ _ h => h)) (H8.out.1 _ (Touch.refl _ _)) HIN.out.1.lt H8.out.2.2.2.1 (by omega) (by omega)).mono ?_)
      rintro e w9 ⟨rfl, ht9⟩
      have H9 := Lib.hid ht9
      clear ht9
      go_wp2_with fail
      (with_reducible refine (macEqual_eq false _ x.length _ (x.set I z) a0 x.length c0 x w9 H8.out.2.2.2.2 (by simp) rfl (H8.out.1 _ H9.out) (HIN.out.1.cells.touch (H8.out.2.1.trans H9.out) (fun _ _ _ h => h)) H8.out.2.2.2.1 HIN.out.1.lt (by omega) (by omega)).mono ?_)
      rintro e w10 ⟨rfl, ht10⟩
      have H10 := Lib.hid ht10
      clear ht10
      go_wp2_with fail
      go_ret
      exact ⟨rfl, ((H8.out.2.1.trans H9.out).trans H10.out).below (Nat.le_refl _) (fun _ _ h => h)⟩
  case inr.inr.inl =>
    subst g3
    go_wp2_with fail
    go_ret
    exact ⟨rfl, H7.out.2.below (Nat.le_refl _) (fun _ _ h => h)⟩
  all_goals
    go_wp2_with fail
    go_ret
    exact ⟨rfl, H7.out.2.below (Nat.le_refl _) (fun _ _ h => h)⟩

theorem macEqual_walk (w : World) (a0 : Option Addr) (l0 c0 : Nat) (z0 : List Int) (h0 : RowIn .u8 w a0 l0 c0 z0) (a1 : Option Addr) (l1 c1 : Nat) (z1 : List Int) (h1 : RowIn .u8 w a1 l1 c1 z1) (i : Int) (_w2 : (Lit.int .i64 i).wf = true) (c : Int) (w3 : (Lit.int .u8 c).wf = true) :
    Calls Try.prog 8 #[.slice a0 l0 c0, .slice a1 l1 c1, .int .i64 i, .int .u8 c] w fun e w' => e = .returned (.bool true) ∧ Below w.heap.size w w' := by
  have i0 := h0.bytes
  have i1 := h1.bytes
  obtain ⟨x, hk⟩ : ∃ b, b = nats z0 := ⟨_, rfl⟩
  obtain ⟨y, hb⟩ : ∃ b, b = nats z1 := ⟨_, rfl⟩
  rw [← hk] at i0
  rw [← hb] at i1
  clear hk hb h0 h1
  have e0 := i0.hlen
  have e1 := i1.hlen
  subst e0 e1
  have hw3 : 0 ≤ c ∧ c < 256 := by
    simp [Lit.wf, IntKind.min, IntKind.max, IntKind.bits, IntKind.signed] at w3
    omega
  obtain ⟨cn, rfl⟩ : ∃ n : Nat, c = (n : Int) := ⟨c.toNat, by omega⟩
  have hcc : 300 < x.length ∨ (¬ 300 < x.length ∧ 300 < y.length) ∨ (¬ 300 < x.length ∧ ¬ 300 < y.length) := by omega
  rcases hcc with k0 | ⟨k0, k1⟩ | ⟨k0, k1⟩
  case inr.inr => exact macEqual_in w a0 c0 x i0 a1 c1 y i1 i cn (by omega) k0 k1
  all_goals
    clear i0 i1
    go_enter Try.func8, Try.ntmps8
    go_wp2_with fail
    (with_reducible refine (macSmall_any w).mono ?_)
    rintro e w1 ⟨rfl, hb⟩
    have HB := Lib.hid hb
    clear hb
    go_wp2_with fail
    go_ret
    exact ⟨rfl, HB.out⟩

/-! ### the row's step, and the row -/
theorem macEqual_own : ownKnob Try.prog.godebug = none := by kernel_rfl
theorem macEqual_laidOut : laidOutB Try.prog = true := by kernel_rfl

set_option linter.unusedVariables false in
set_option maxRecDepth 100000 in
theorem macEqual_lifted (os : Os) (started : os.Started) (H : Type) (enc : TypeId × Value → H) :
    ReturnsInHanded {} Try.checked os 8 .any (Rows.macEqualSpec.pre6 enc Try.prog Try.f8 Rows.macEqualRow.domain false) (Rows.macEqualSpec.post enc Try.prog Try.f8 false true false false) := by
  refine returnsInHanded_of_change (C := Try.checked) macEqual_own started (by kernel_rfl) Try.func8
    (ChangeSpec.witness6 (enc := enc) (C := Try.checked) false ⟨#[], #[.slice none 0 0, .slice none 0 0, .int .i64 0, .int .u8 0], []⟩ 8 (by kernel_rfl) (by kernel_rfl) (by kernel_rfl) (by kernel_rfl)) ?_
  intro W base args ds gs before hval0 hW hcnd _
  have hval : ∀ (j : Nat) t v, Try.f8.params[j]? = some t → args[j]? = some v → Value.okWide Try.prog W .any base t v := hval0
  have hW' := hW
  obtain ⟨p, q, hA0, hV, rfl, hfz, hnd⟩ := hW
  have hA : DataW.TrodAll enc Try.prog W 0 (fun _ => true) true Try.f8.params.toList args.toList ds p := hA0
  rw [Try.params8] at hA hval
  obtain ⟨v0, vs0, d0, ds0, p0, q0, hargs, rfl, rfl, h0, r0⟩ := trodAll_cons hA
  obtain ⟨v1, vs1, d1, ds1, p1, q1, rfl, rfl, rfl, h1, r1⟩ := trodAll_cons r0
  obtain ⟨v2, vs2, d2, ds2, p2, q2, rfl, rfl, rfl, h2, r2⟩ := trodAll_cons r1
  obtain ⟨v3, vs3, d3, ds3, p3, q3, rfl, rfl, rfl, h3, r3⟩ := trodAll_cons r2
  obtain ⟨rfl, rfl, rfl⟩ := trodAll_nil r3
  obtain rfl : args = #[v0, v1, v2, v3] := by cases args; simp_all
  obtain ⟨rfl, rfl⟩ := trodVars_none hV
  have k0 := h0
  have lt0 : ∀ x ∈ p0, x.block < W.heap.size := by obtain ⟨m, hm⟩ := k0; exact DataW.trod_lt m _ _ _ hm
  obtain ⟨a0, len0, cap0, rfl⟩ := okWide_slice Try.underlying22 (hval 0 22 v0 rfl rfl)
  obtain ⟨z0, w0⟩ := row_of (k := .u8) Try.underlying22 Try.underlying5 (by kernel_rfl) h0
  have k1 := h1
  have lt1 : ∀ x ∈ p1, x.block < W.heap.size := by obtain ⟨m, hm⟩ := k1; exact DataW.trod_lt m _ _ _ hm
  obtain ⟨a1, len1, cap1, rfl⟩ := okWide_slice Try.underlying22 (hval 1 22 v1 rfl rfl)
  obtain ⟨z1, w1⟩ := row_of (k := .u8) Try.underlying22 Try.underlying5 (by kernel_rfl) h1
  obtain ⟨a2, rfl, rfl, rfl, w2⟩ := open_int Try.underlying3 (hval 2 3 v2 rfl rfl) h2
  obtain ⟨a3, rfl, rfl, rfl, w3⟩ := open_int Try.underlying5 (hval 3 5 v3 rfl rfl) h3
  clear hA0 hval0
  refine (macEqual_walk W a0 len0 cap0 z0 w0 a1 len1 cap1 z1 w1 a2 w2 a3 w3).mono fun e W' ⟨he, bel⟩ => ?_
  subst he
  exact ⟨_, rfl, _, _, _, [], _, [], hW', trodAll_mk1 (shut_bool Try.underlying4 _), (trodAll_cons_mk (Below.trod macEqual_laidOut (by kernel_rfl) (of_decide_eq_true (by kernel_rfl)) k0 bel lt0) (trodAll_cons_mk (Below.trod macEqual_laidOut (by kernel_rfl) (of_decide_eq_true (by kernel_rfl)) k1 bel lt1) (trodAll_cons_mk (shut_int Try.underlying3 w2) (trodAll_cons_mk (shut_int Try.underlying5 w3) trodAll_mk0)))), rfl, bel.frame _, fun h => by cases h⟩

theorem macEqual_over : Rows.macEqualRow.holds Try.pinned (OpenSpec.ofChange Rows.macEqualSpec) :=
  OpenClaim.holds_of_wide 8 Try.f8 rfl rfl rfl rfl rfl rfl rfl ⟨rfl, rfl, rfl, rfl, rfl⟩ rfl rfl rfl rfl rfl (by kernel_rfl) Try.func8 (by kernel_rfl)
    (of_decide_eq_true (by kernel_rfl)) (by unfold Func.isWrapper; first | (rw [if_pos (by decide +kernel)]; kernel_rfl) | (rw [if_neg (by decide +kernel)]; exact ⟨rfl, rfl⟩))
    (fun os started H enc _ => macEqual_lifted os started H enc)

/-- THE STATEMENT. -/
theorem macEqual_proved : Rows.MacEqualSaid := macEqual_over
#print axioms macEqual_proved
end Go.Proofs.Ytanjhalhpllcaaa
