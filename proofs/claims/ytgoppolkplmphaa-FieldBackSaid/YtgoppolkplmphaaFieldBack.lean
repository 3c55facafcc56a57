/-
  nightjarlaw04.FieldBack: for all rows of acts the law returns true. No conditions: for every input that can be read.
-/
import Derived.Test.YtgoppolkplmphaaRows
import Derived.Test.YtgoppolkplmphaaFieldLib
import Derived.Test.YtgoppolkplmphaaOpen
import Derived.Test.YtgoppolkplmphaaActs
namespace Go.Proofs.Ytgoppolkplmphaa
open Go.ChangeShapes Go.WideShapes Go.ChangeAt Go.RowKit

/-- The bytes of numbers, each in its size. -/
def lay (A : List (Int × Int)) : List Int := A.flatMap fun p => putList p.2 p.1.toNat p.1.toNat
theorem lay_snoc (A : List (Int × Int)) (p : Int × Int) : lay (A ++ [p]) = lay A ++ putList p.2 p.1.toNat p.1.toNat := by simp [lay]
theorem lay_cons (A : List (Int × Int)) (p : Int × Int) : lay (p :: A) = putList p.2 p.1.toNat p.1.toNat ++ lay A := by simp [lay]
theorem lay_range (A : List (Int × Int)) : ∀ z ∈ lay A, 0 ≤ z ∧ z < 256 := by
  intro z hz
  unfold lay at hz
  rw [List.mem_flatMap] at hz
  obtain ⟨p, _, h⟩ := hz
  exact putList_range _ _ _ z h

/-- A number that fits its size. -/
def Fits (p : Int × Int) : Prop := 1 ≤ p.1 ∧ p.1 ≤ 7 ∧ 0 ≤ p.2 ∧ p.2 < 2 ^ (8 * p.1.toNat)

theorem lay_len (A : List (Int × Int)) (h : ∀ p ∈ A, Fits p) : (lay A).length ≤ 7 * A.length := by
  induction A with
  | nil => simp [lay]
  | cons p A ih =>
    rw [lay_cons, List.length_append, putList_len]
    have := ih (fun q hq => h q (List.mem_cons_of_mem _ hq))
    have := h p (List.mem_cons_self ..)
    unfold Fits at this
    simp
    omega

theorem numOf_putList (n : Int) (m j : Nat) (h0 : 0 ≤ n) (h1 : n < 2 ^ (8 * m)) (hj : j ≤ m) : numOf (putList n m j) = n / 2 ^ (8 * (m - j)) := by
  induction j with
  | zero => rw [show putList n m 0 = [] from rfl, Nat.sub_zero, Int.ediv_eq_zero_of_lt h0 h1]; rfl
  | succ j ih =>
    rw [putList_succ, numOf_snoc, ih (by omega)]
    unfold putByte
    obtain ⟨d, rfl⟩ : ∃ d, m = j + 1 + d := ⟨m - j - 1, by omega⟩
    rw [show j + 1 + d - j = d + 1 by omega, show j + 1 + d - 1 - j = d by omega, show j + 1 + d - (j + 1) = d by omega]
    have e : (2 : Int) ^ (8 * (d + 1)) = 2 ^ (8 * d) * 256 := by rw [show 8 * (d + 1) = 8 * d + 8 by omega, Int.pow_add]; rfl
    rw [e, ← Int.ediv_ediv_of_nonneg (Int.le_of_lt (Int.pow_pos (by decide)))]
    generalize n / 2 ^ (8 * d) = x
    omega

theorem numOf_put (n : Int) (m : Nat) (h0 : 0 ≤ n) (h1 : n < 2 ^ (8 * m)) : numOf (putList n m m) = n := by
  rw [numOf_putList n m m h0 h1 (Nat.le_refl _)]
  simp

theorem shl8 {P : Program} (k : Int) (h1 : 1 ≤ k) (h7 : k ≤ 7) (w : World) : (Op.shift BinOp.shl IntKind.i64 1 IntKind.i64 (IntKind.i64.wrap (8 * k))).run P w = .ok (.int .i64 (2 ^ (8 * k.toNat))) w := by
  obtain rfl | rfl | rfl | rfl | rfl | rfl | rfl : k = 1 ∨ k = 2 ∨ k = 3 ∨ k = 4 ∨ k = 5 ∨ k = 6 ∨ k = 7 := by omega
  all_goals rfl

set_option maxRecDepth 100000 in
set_option maxHeartbeats 1000000 in
theorem fieldBack_walk (w : World) (a : Option Addr) (len cap : Nat) (A : List (Int × Int)) (hin : PairsIn w a len cap A) :
    Calls Try.prog 8 #[.slice a len cap] w fun e w' => e = .returned (.bool true) ∧ Below w.heap.size w w' := by
  have hlen := hin.hlen
  subst hlen
  by_cases hn : 100 < A.length
  · go_enter Try.func8, Try.ntmps8
    go_wp2_with fail
    refine (fieldSmall_any w).mono ?_
    rintro e w1 ⟨rfl, hb⟩
    go_wp2_with fail
    go_ret
    exact ⟨rfl, hb⟩
  have HIN := Lib.hid hin; clear hin
  go_enter Try.func8, Try.ntmps8
  go_wp2_with fail
  refine (fieldSmall_any w).mono ?_
  rintro e wa ⟨rfl, hb⟩
  have hina := HIN.out.touch (Touch.of_below (S := fun _ => False) hb) (fun _ _ h => h)
  have HB := Lib.hid (And.intro hb hina)
  clear hb hina
  go_wp2_with fail
  go_loopw [4, 5] (fun bv i wr => ∃ j : Nat, j ≤ A.length ∧ i = .int .i64 j ∧ (∀ p ∈ A.take j, Fits p) ∧ wr.ownsRow wa.heap.size 5 1 bv (lay (A.take j)).length (bys (lay (A.take j))) ∧ Below wa.heap.size wa wr) (fun _ i _ => (A.length - intOf i).toNat)
  case atStart => exact ⟨0, Nat.zero_le _, rfl, (fun p hp => by simp at hp), by simpa [lay, bys] using World.ownsRow_nil wa _ _ _, Below.refl _ _⟩
  case round =>
    obtain ⟨j, hj, rfl, hfit, hown, hbr⟩ := hrel
    have fin : ∀ wz, Below wa.heap.size wr wz → Below w.heap.size w wz := fun wz h => HB.out.1.trans ((hbr.trans h).mono HB.out.1.size)
    obtain ⟨ab, cb, rfl, hbn, _, _, _⟩ := owns_form hown
    by_cases hq : j = A.length
    · subst hq
      rw [List.take_length] at hown hfit ⊢
      have hll : (lay A).length ≤ 700 := by have := lay_len A hfit; omega
      have hsl := SlAt.of_owns hown
      have hcn : ab = none → cb = 0 := fun h => (hbn h).2
      have H1 := Lib.hid (And.intro hfit (And.intro hbr fin))
      clear hown hbn hfit hbr fin
      go_wp2_with fail
      refine (open_rd ab _ cb (lay A) wr rfl hsl hcn (by omega)).mono ?_
      rintro e wb ⟨rb, rfl, hrb, hr, hbb⟩
      have hsz := H1.out.2.1.size
      have hrl : rb < wb.heap.size := by obtain ⟨_, _, h⟩ := hr; exact h.rd.lt
      have fin2 : ∀ wz, Touch (fun k => k = rb) wb wz → Below w.heap.size w wz := fun wz h => H1.out.2.2 _ ((hbb.trans (h.below hbb.size (fun k hk => by omega))).mono hsz)
      have pin : ∀ wz, Touch (fun k => k = rb) wb wz → PairsIn wz a A.length cap A := fun wz h => HB.out.2.touch ((Touch.of_below (H1.out.2.1.trans (hbb.mono hsz))).trans h) (fun k hk e => by omega)
      obtain ⟨bs, hr⟩ : ∃ bs, RdIs wb rb bs (lay A) false := ⟨_, hr⟩
      have HBB := Lib.hid (And.intro fin2 (And.intro pin hll))
      have HR := Lib.hid hr
      clear hsl hcn hbb hr hll fin2 pin hrb hsz hrl
      go_wp2_with fail
      go_loopw [9] (fun i wz => ∃ j : Nat, j ≤ A.length ∧ i = .int .i64 j ∧ RdIs wz rb bs (lay (A.drop j)) false ∧ Touch (fun k => k = rb) wb wz) (fun i _ => (A.length - intOf i).toNat)
      case atStart => exact ⟨0, Nat.zero_le _, rfl, HR.out, Touch.refl _ _⟩
      case round =>
        obtain ⟨j, hj, rfl, hrz, htz⟩ := hrel
        by_cases hq : j = A.length
        · subst hq
          rw [List.drop_length] at hrz
          go_wp2_with fail
          refine (done_rd rb _ (lay []) false _ hrz).mono ?_
          rintro e w7 ⟨rfl, rfl⟩
          go_wp2_with fail
          refine (left_rd rb _ (lay []) false _ hrz).mono ?_
          rintro e w7 ⟨rfl, rfl⟩
          go_wp2_with fail
          go_ret
          exact ⟨rfl, HBB.out.1 _ htz⟩
        · have hjl : j < A.length := by omega
          have hp : A[j]? = some (A[j]'hjl) := by simp
          have hpm := List.getElem_mem hjl
          have hdr : A.drop j = (A[j]'hjl) :: A.drop (j + 1) := List.drop_eq_getElem_cons hjl
          generalize (A[j]'hjl) = p at hp hpm hdr
          obtain ⟨Do, N⟩ := p
          obtain ⟨hF1, hF2, hF3, hF4⟩ := H1.out.1 _ hpm
          simp only at hF1 hF2 hF3 hF4
          obtain ⟨bb, oo, rfl, hbl, hc0, hc1⟩ := (HBB.out.2.1 _ htz).cells j _ hp
          simp only at hc0 hc1
          have C : ∀ W, Touch (fun k => k = rb) wb W → W.cell? ⟨bb, oo + j * 2, none⟩ = some (.int .i64 Do) ∧ W.cell? ⟨bb, oo + j * 2 + 1, none⟩ = some (.int .i64 N) := fun W hW => by
            obtain ⟨b2, o2, e2, _, q0, q1⟩ := (HBB.out.2.1 _ hW).cells j _ hp
            cases e2
            exact ⟨q0, q1⟩
          have hfm : (fitN Do : Int) = Do := by unfold fitN; omega
          have hfm2 : Do.toNat = fitN Do := by unfold fitN; omega
          have hlen : (lay (A.drop j)).length ≤ 700 := by
            have h := lay_len (A.drop j) (fun p hp => H1.out.1 p (List.mem_of_mem_drop hp))
            simp at h
            omega
          have hcat : lay (A.drop j) = putList N (fitN Do) (fitN Do) ++ lay (A.drop (j + 1)) := by rw [hdr, lay_cons, ← hfm2]
          have hpl : (putList N (fitN Do) (fitN Do)).length = fitN Do := putList_len _ _ _
          have htake : rdTake (lay (A.drop j)) false (fitN Do) = (putList N (fitN Do) (fitN Do), lay (A.drop (j + 1)), false) := by
            unfold rdTake
            rw [if_neg (by rw [hcat]; simp [putList_len]; omega), hcat, Int.toNat_natCast]
            rw [List.take_left' hpl, List.drop_left' hpl]
          have dn : ∀ W, RdIs W rb bs (lay (A.drop j)) false → Calls Try.prog 33 #[.pointer (some ⟨rb, 0, none⟩)] W fun e w' => e = .returned (.bool false) ∧ W = w' := fun W hW => by
            refine (done_rd rb bs _ false W hW).mono ?_
            rintro e w' ⟨rfl, rfl⟩
            refine ⟨?_, rfl⟩
            have : (lay (A.drop j)).isEmpty = false := by
              cases h : lay (A.drop j) with
              | nil => rw [h] at hcat; have := congrArg List.length hcat; simp [putList_len] at this; omega
              | cons _ _ => rfl
            rw [this]
            rfl
          have nm : ∀ W, RdIs W rb bs (lay (A.drop j)) false → Calls Try.prog 27 #[.pointer (some ⟨rb, 0, none⟩), .int .i64 Do] W fun e w' => e = .returned (.int .i64 N) ∧ RdIs w' rb bs (lay (A.drop (j + 1))) false ∧ Touch (fun k => k = rb) W w' := fun W hW => by
            refine (num_rd rb bs _ false Do W hW (by omega) (lay_range _)).mono ?_
            rintro e w' ⟨rfl, h1, h2⟩
            rw [htake] at h1 ⊢
            exact ⟨by simp only; rw [numOf_put N _ hF3 (by rw [← hfm2]; exact hF4)], h1, h2⟩
          have HC := Lib.hid (And.intro C (And.intro dn nm))
          have HZ := Lib.hid (And.intro hrz htz)
          have hcap : (A.length : Int) ≤ cap := by have := HIN.out.le; omega
          have hj1 : (j : Int) < A.length := by omega
          have hj0 : (0 : Int) ≤ j := by omega
          clear C dn nm htake hpl hcat hlen hfm hfm2 hF1 hF2 hF3 hF4 hdr hp hpm hrz htz hbl
          have st0 : True := trivial
          go_wp2_with fail
          go_region_held3 (fun w' => w'.cell? ⟨bb, oo + j * 2, none⟩ = some (.int .i64 Do) ∧ w'.cell? ⟨bb, oo + j * 2 + 1, none⟩ = some (.int .i64 N)) (first | exact ⟨hc0, hc1⟩ | exact k2)
            (first
              | (have _t := st0; go_at_call 33; refine (HC.out.2.1 _ (HZ.out.1.touch ((Touch.refl (fun _ => False) _).drew) (fun h => h) (fun _ _ _ h => h))).mono ?_; rintro e w1 ⟨rfl, rfl⟩; clear st0 _t; have st1 : True := trivial)
              | (have _t := st1; go_at_call 27; refine (HC.out.2.2 _ (HZ.out.1.touch ((Touch.refl (fun _ => False) _).drew) (fun h => h) (fun _ _ _ h => h))).mono ?_; rintro e w2 ⟨rfl, hr2, ht2⟩; have k2 := HC.out.1 w2 (HZ.out.2.drew.trans ht2); have H2 := Lib.hid (And.intro hr2 ht2); clear st1 _t hr2 ht2; have st2 : True := trivial))
          go_wp2_with fail
          go_roundw
          case rel => exact ⟨j + 1, hjl, rfl, H2.out.1, HZ.out.2.drew.trans H2.out.2⟩
          case measure => simp [intOf]; omega
    · have hjl : j < A.length := by omega
      have hp : A[j]? = some (A[j]'hjl) := by simp
      have hpm := List.getElem_mem hjl
      generalize (A[j]'hjl) = p at hp hpm
      obtain ⟨Do, N⟩ := p
      have hwf := HIN.out.wf _ hpm
      obtain ⟨bb, oo, rfl, hbb, hc0, hc1⟩ := (HB.out.2.touch (Touch.of_below (S := fun _ => False) hbr) (fun _ _ h => h)).cells j _ hp
      have H1 := Lib.hid (And.intro hp (And.intro hpm (And.intro hfit (And.intro hown (And.intro hbr (And.intro hwf (And.intro hbn fin)))))))
      clear hp hpm hfit hown hbr hwf hbn fin
      have hcap : (A.length : Int) ≤ cap := by have := HIN.out.le; omega
      have hj1 : (j : Int) < A.length := by omega
      by_cases hF : Fits (Do, N)
      · have g1 : decide (Do < 1) = false := by simp; unfold Fits at hF; omega
        have g2 : decide (7 < Do) = false := by simp; unfold Fits at hF; simp at hF; omega
        have g3 : decide (N < 0) = false := by simp; unfold Fits at hF; simp at hF; omega
        have g4 : decide (2 ^ (8 * Do.toNat) ≤ N) = false := by simp; unfold Fits at hF; simp at hF; omega
        have sh := fun (w : World) => shl8 (P := Try.prog) Do (by unfold Fits at hF; simp at hF; omega) (by unfold Fits at hF; simp at hF; omega) w
        have HF := Lib.hid hF
        clear hF
        go_wp2_with fail
        go_quiet (fail)
        go_wp2_with fail
        clear g1 g2 g3 g4 sh
        obtain ⟨m, rfl⟩ : ∃ m : Nat, Do = m := ⟨Do.toNat, by have := HF.out; unfold Fits at this; simp at this; omega⟩
        have hm7 : 1 ≤ m ∧ m ≤ 7 := by have := HF.out; unfold Fits at this; simp at this; omega
        have hfm : fitN (m : Int) = m := by unfold fitN; omega
        have hlj : (lay (A.take j)).length ≤ 700 := by
          have h := lay_len (A.take j) H1.out.2.2.1
          have h2 : (A.take j).length = j := by simp; omega
          omega
        have hown := H1.out.2.2.2.1
        have hslq : SlAt (wr.drewN nq) ab (bys (lay (A.take j))) := (SlAt.of_owns hown).touch ((Touch.refl (fun _ => False) _).drewN nq) (fun _ _ _ h => h)
        clear hown
        refine (put_any ab _ cb (lay (A.take j)) N m _ rfl hslq (fun h => (H1.out.2.2.2.2.2.2.1 h).2) (by omega)).mono ?_
        clear hslq
        rintro e wp ⟨v, rfl, hown, hbp⟩
        rw [hfm] at hown
        have htk : A.take (j + 1) = A.take j ++ [((m : Int), N)] := by rw [List.take_add_one, H1.out.1]; rfl
        have hlay : lay (A.take (j + 1)) = lay (A.take j) ++ putList N m m := by rw [htk, lay_snoc]; rfl
        rw [← hlay] at hown
        rw [bys_length] at hown
        obtain ⟨n1, hn1⟩ : ∃ n1, (lay (A.take (j + 1))).length = n1 := ⟨_, rfl⟩
        have hnn : n1 = (lay (A.take j)).length + m := by rw [← hn1, hlay, List.length_append, putList_len]
        rw [hn1] at hown
        have ho := hown
        obtain ⟨ab2, cb2, rfl, _, _, _, _⟩ := owns_form ho
        have kw : IntKind.i64.wrap (((lay (A.take j)).length : Int) + m) = (n1 : Int) := by rw [IntWalk.i64_in _ (by omega)]; omega
        have H2 := Lib.hid (And.intro hown (And.intro hbp (And.intro hn1 htk)))
        clear ho hown hbp hn1 hnn hlay htk hlj hfm hm7
        go_wp2_with fail
        go_roundw
        case rel =>
          obtain ⟨h1, h2, h3, h4⟩ := H2.out
          have hbr := H1.out.2.2.2.2.1
          refine ⟨j + 1, hjl, rfl, ?_, ?_, hbr.trans ((Touch.below (S := fun _ => False) (((Touch.refl _ _).drewN nq).trans (Touch.of_below h2)) (Nat.le_refl _) (fun _ _ h => h)).mono hbr.size)⟩
          · rw [h4]
            intro p hp
            rcases List.mem_append.1 hp with hp | hp
            · exact H1.out.2.2.1 p hp
            · simp at hp
              subst hp
              exact HF.out
          · rw [h3]
            exact owns_mono h1 hbr.size
        case measure => simp [intOf]; omega
      · have ho : Do < 1 ∨ (1 ≤ Do ∧ 7 < Do) ∨ (1 ≤ Do ∧ Do ≤ 7 ∧ N < 0) ∨ (1 ≤ Do ∧ Do ≤ 7 ∧ 0 ≤ N ∧ 2 ^ (8 * Do.toNat) ≤ N) := by unfold Fits at hF; simp at hF; omega
        clear hF
        rcases ho with h1 | ⟨h1, h2⟩ | ⟨h1, h2, h3⟩ | ⟨h1, h2, h3, h4⟩
        · go_wp2_with fail
          go_quiet (fail)
          go_wp2_with fail
          go_ret
          exact ⟨rfl, H1.out.2.2.2.2.2.2.2 _ ⟨rfl, rfl, rfl, Nat.le_refl _, fun _ _ => rfl⟩⟩
        · have g1 : decide (Do < 1) = false := by simp; omega
          go_wp2_with fail
          go_quiet (fail)
          go_wp2_with fail
          go_ret
          exact ⟨rfl, H1.out.2.2.2.2.2.2.2 _ ⟨rfl, rfl, rfl, Nat.le_refl _, fun _ _ => rfl⟩⟩
        · have g1 : decide (Do < 1) = false := by simp; omega
          have g2 : decide (7 < Do) = false := by simp; omega
          go_wp2_with fail
          go_quiet (fail)
          go_wp2_with fail
          go_ret
          exact ⟨rfl, H1.out.2.2.2.2.2.2.2 _ ⟨rfl, rfl, rfl, Nat.le_refl _, fun _ _ => rfl⟩⟩
        · have sh := fun (w : World) => shl8 (P := Try.prog) Do h1 h2 w
          have g1 : decide (Do < 1) = false := by simp; omega
          have g2 : decide (7 < Do) = false := by simp; omega
          have g3 : decide (N < 0) = false := by simp; omega
          clear h1 h2 h3
          go_wp2_with fail
          go_quiet (fail)
          go_wp2_with fail
          go_ret
          exact ⟨rfl, H1.out.2.2.2.2.2.2.2 _ ⟨rfl, rfl, rfl, Nat.le_refl _, fun _ _ => rfl⟩⟩

/-! ### the row's step, and the row -/
theorem fieldBack_own : ownKnob Try.prog.godebug = none := by kernel_rfl
theorem fieldBack_laidOut : laidOutB Try.prog = true := by kernel_rfl

set_option linter.unusedVariables false in
set_option maxRecDepth 100000 in
theorem fieldBack_lifted (os : Os) (started : os.Started) (H : Type) (enc : TypeId × Value → H) :
    ReturnsInHanded {} Try.checked os 8 .any (Rows.fieldBackSpec.pre6 enc Try.prog Try.f8 Rows.fieldBackRow.domain false) (Rows.fieldBackSpec.post enc Try.prog Try.f8 false true false false) := by
  refine returnsInHanded_of_change (C := Try.checked) fieldBack_own started (by kernel_rfl) Try.func8
    (ChangeSpec.witness6 (enc := enc) (C := Try.checked) false ⟨#[], #[.slice none 0 0], []⟩ 8 (by kernel_rfl) (by kernel_rfl) (by kernel_rfl) (by kernel_rfl)) ?_
  intro W base args ds gs before hval0 hW hcnd _
  have hval : ∀ (j : Nat) t v, Try.f8.params[j]? = some t → args[j]? = some v → Value.okWide Try.prog W .any base t v := hval0
  have hW' := hW
  obtain ⟨p, q, hA0, hV, rfl, hfz, hnd⟩ := hW
  have hA : DataW.TrodAll enc Try.prog W 0 (fun _ => true) true Try.f8.params.toList args.toList ds p := hA0
  rw [Try.params8] at hA hval
  obtain ⟨v0, vs0, d0, ds0, p0, q0, hargs, rfl, rfl, h0, r0⟩ := trodAll_cons hA
  obtain ⟨rfl, rfl, rfl⟩ := trodAll_nil r0
  obtain rfl : args = #[v0] := by cases args; simp_all
  obtain ⟨rfl, rfl⟩ := trodVars_none hV
  have k0 := h0
  have lt0 : ∀ x ∈ p0, x.block < W.heap.size := by obtain ⟨m, hm⟩ := k0; exact DataW.trod_lt m _ _ _ hm
  have o0 := hval 0 32 v0 rfl rfl
  obtain ⟨a0, len0, cap0, rfl⟩ := okWide_slice Try.underlying32 o0
  obtain ⟨z0, w0⟩ := pairs_of Try.underlying32 Try.underlying39 (by kernel_rfl) rfl rfl (by kernel_rfl) (by kernel_rfl) Try.underlying3 Try.underlying3 h0
  clear hA0 hval0
  refine (fieldBack_walk W a0 len0 cap0 z0 w0).mono fun e W' ⟨he, bel⟩ => ?_
  subst he
  exact ⟨_, rfl, _, _, _, [], _, [], hW', trodAll_mk1 (shut_bool Try.underlying4 _), (trodAll_cons_mk (Below.trod fieldBack_laidOut (by kernel_rfl) (of_decide_eq_true (by kernel_rfl)) k0 bel lt0) trodAll_mk0), rfl, bel.frame _, fun h => by cases h⟩

theorem fieldBack_over : Rows.fieldBackRow.holds Try.pinned (OpenSpec.ofChange Rows.fieldBackSpec) :=
  OpenClaim.holds_of_wide 8 Try.f8 rfl rfl rfl rfl rfl rfl rfl ⟨rfl, rfl, rfl, rfl, rfl⟩ rfl rfl rfl rfl rfl (by kernel_rfl) Try.func8 (by kernel_rfl)
    (of_decide_eq_true (by kernel_rfl)) (by unfold Func.isWrapper; first | (rw [if_pos (by decide +kernel)]; kernel_rfl) | (rw [if_neg (by decide +kernel)]; exact ⟨rfl, rfl⟩))
    (fun os started H enc _ => fieldBack_lifted os started H enc)

/-- THE STATEMENT. -/
theorem fieldBack_proved : Rows.FieldBackSaid := fieldBack_over
#print axioms fieldBack_proved
end Go.Proofs.Ytgoppolkplmphaa
