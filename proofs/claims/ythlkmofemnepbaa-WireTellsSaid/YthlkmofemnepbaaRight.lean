/-
  THE WALK of wire.Right (layer 5).
-/
import Derived.Test.YthlkmofemnepbaaRows
import Derived.Test.YthlkmofemnepbaaWire
import Derived.Test.YthlkmofemnepbaaPk
import Derived.WalkSpells
namespace Go.Proofs.Ythlkmofemnepbaa
open Go.RowKit

/-- Where the numbers of a kind lie. -/
def SlotsRow (w : World) (a : Option Addr) (L : List Slot) : Prop :=
  (L = [] ∧ a = none) ∨ ∃ b, a = some ⟨b, 0, none⟩ ∧ L ≠ [] ∧ Blk w b 57 (slotsV L).toArray

theorem SlotsOf.row {base : Nat} {k : Int} {v : Value} {w' : World} (h : SlotsOf base k v w') : ∃ a, v = .slice a (slotsN k).length (slotsN k).length ∧ SlotsRow w' a (slotsN k) := by
  rcases h with ⟨h1, rfl⟩ | ⟨b, _, rfl, h2, h3⟩
  · exact ⟨none, by rw [h1]; rfl, Or.inl ⟨h1, rfl⟩⟩
  · exact ⟨_, rfl, Or.inr ⟨b, rfl, h2, h3⟩⟩

theorem slotsV_at (L : List Slot) (j : Nat) (s : Slot) (h : L[j]? = some s) : ∃ A B, slotsV L = A ++ (slotV s ++ B) ∧ A.length = j * 4 := by
  induction L generalizing j with
  | nil => simp at h
  | cons x L ih =>
    cases j with
    | zero =>
      simp at h
      subst h
      exact ⟨[], slotsV L, rfl, rfl⟩
    | succ j =>
      simp at h
      obtain ⟨A, B, e, hl⟩ := ih j h
      refine ⟨slotV x ++ A, B, ?_, ?_⟩
      · show slotV x ++ slotsV L = _
        rw [e, List.append_assoc]
      · rw [List.length_append, hl]
        show 4 + j * 4 = _
        omega

theorem SlotsRow.at {w : World} {a : Option Addr} {L : List Slot} (h : SlotsRow w a L) {j : Nat} {s : Slot} (hj : L[j]? = some s) : ∃ b, a = some ⟨b, 0, none⟩ ∧ w.rangeAt b (j * 4) (slotV s) := by
  rcases h with ⟨rfl, _⟩ | ⟨b, rfl, _, hB⟩
  · simp at hj
  · obtain ⟨A, B, e, hl⟩ := slotsV_at L j s hj
    rw [e] at hB
    have := hB.range
    rw [hl] at this
    exact ⟨b, rfl, this⟩

theorem SlotsRow.touch {w w' : World} {a : Option Addr} {L : List Slot} (h : SlotsRow w a L) {S : Nat → Prop} (ht : Touch S w w') (hS : ∀ x, a = some x → ¬ S x.block) : SlotsRow w' a L := by
  rcases h with h | ⟨b, rfl, h2, hB⟩
  · exact Or.inl h
  · exact Or.inr ⟨b, rfl, h2, hB.touch ht (hS _ rfl)⟩

theorem SlotsRow.lt {w : World} {a : Option Addr} {L : List Slot} (h : SlotsRow w a L) : ∀ x, a = some x → x.block < w.heap.size := by
  rintro x rfl
  rcases h with ⟨_, h⟩ | ⟨b, h, _, hB⟩
  · cases h
  · cases h
    exact hB.lt

/-- A call of such a function comes to it. -/
theorem at_enters (i : Nat) (h1 : 1 ≤ i) (h2 : i < 12) (args : Array Value) (w : World) : (callFunc (atFn i) args).run Try.prog w = .ok (.enter (atFn i) args) w := by
  have gen : ∀ (f : FuncId) (fn : Func) (c : Code), Try.prog.funcs[f]? = some fn → (fn.name == "runtime.NumGoroutine") = false → fn.body = some c → (callFunc f args).run Try.prog w = .ok (.enter f args) w := by
    intro f fn c hf hname hb
    have h1 : fn.name ≠ "runtime.NumGoroutine" := by simpa using hname
    simp [callFunc, hf, h1, hb, mark]
  obtain rfl | rfl | rfl | rfl | rfl | rfl | rfl | rfl | rfl | rfl | rfl : i = 1 ∨ i = 2 ∨ i = 3 ∨ i = 4 ∨ i = 5 ∨ i = 6 ∨ i = 7 ∨ i = 8 ∨ i = 9 ∨ i = 10 ∨ i = 11 := by omega
  case inl => exact gen _ _ _ Try.func62 (by kernel_rfl) rfl
  case inr.inl => exact gen _ _ _ Try.func63 (by kernel_rfl) rfl
  case inr.inr.inl => exact gen _ _ _ Try.func67 (by kernel_rfl) rfl
  case inr.inr.inr.inl => exact gen _ _ _ Try.func66 (by kernel_rfl) rfl
  case inr.inr.inr.inr.inl => exact gen _ _ _ Try.func68 (by kernel_rfl) rfl
  case inr.inr.inr.inr.inr.inl => exact gen _ _ _ Try.func70 (by kernel_rfl) rfl
  case inr.inr.inr.inr.inr.inr.inl => exact gen _ _ _ Try.func69 (by kernel_rfl) rfl
  case inr.inr.inr.inr.inr.inr.inr.inl => exact gen _ _ _ Try.func71 (by kernel_rfl) rfl
  case inr.inr.inr.inr.inr.inr.inr.inr.inl => exact gen _ _ _ Try.func72 (by kernel_rfl) rfl
  case inr.inr.inr.inr.inr.inr.inr.inr.inr.inl => exact gen _ _ _ Try.func64 (by kernel_rfl) rfl
  case inr.inr.inr.inr.inr.inr.inr.inr.inr.inr => exact gen _ _ _ Try.func65 (by kernel_rfl) rfl

/-- The bare packet behind j numbers. -/
def bareJ (p : Pk) (j : Nat) : Pk := ⟨setS p.n ((slotsN p.kind).take j) (p.kind :: List.replicate 11 0), List.replicate 16 0, List.replicate 8 0⟩
theorem bareJ_ok (p : Pk) (j : Nat) : (bareJ p j).Ok := pk_zero_ok _ (by rw [setS_len]; rfl)
theorem bareJ_succ (p : Pk) (j : Nat) (s : Slot) (h : (slotsN p.kind)[j]? = some s) : bareJ p (j + 1) = { bareJ p j with n := (bareJ p j).n.set s.i (p.n.getD s.i 0) } := by
  unfold bareJ
  rw [List.take_add_one, h]
  show (⟨setS p.n ((slotsN p.kind).take j ++ [s]) _, _, _⟩ : Pk) = _
  rw [setS_snoc]

structure RightInv (w : World) (p : Pk) (n0 n1 : Nat) (a : Option Addr) (j : Nat) (wr : World) : Prop where
  ht : Touch (fun _ => False) w wr
  h0 : Blk wr n0 25 (pkV p)
  h1 : Blk wr n1 25 (pkV (bareJ p j))
  hr : SlotsRow wr a (slotsN p.kind)
  ap : ∀ x, a = some x → x.block < n1
  lt : n0 < n1 ∧ w.heap.size ≤ n1
  ok : ∀ s ∈ (slotsN p.kind).take j, s.low ≤ p.n.getD s.i 0 ∧ p.n.getD s.i 0 ≤ s.high

set_option maxRecDepth 100000 in
set_option maxHeartbeats 4000000 in
theorem wireRight_any (p : Pk) (hp : p.Ok) (w : World) :
    Calls Try.prog 25 #[.agg (pkV p)] w fun e w' => e = .returned (.bool (decide (RightN p))) ∧ Below w.heap.size w w' := by
  obtain ⟨V, hV⟩ : ∃ V, V = pkV p := ⟨_, rfl⟩
  rw [← hV]
  obtain ⟨k, hk⟩ : ∃ k, k = p.kind := ⟨_, rfl⟩
  have e0 : V[0]? = some (.int .i64 k) := by rw [hV, hk]; exact pkV_num hp 0 (by decide)
  have HH := Lib.hid (And.intro hp (And.intro hV hk))
  clear hp hV hk
  go_enter Try.func25, Try.ntmps25
  go_wp2_with fail
  (with_reducible refine (slots_any k _).mono ?_)
  rintro e w1 ⟨v, rfl, hb1, hsl⟩
  obtain ⟨a, rfl, hrow⟩ := hsl.row
  clear hsl e0
  obtain ⟨n0, hn0⟩ : ∃ n0, n0 = w.heap.size := ⟨_, rfl⟩
  rw [← hn0]
  obtain ⟨L, hL⟩ : ∃ L, L = slotsN k := ⟨_, rfl⟩
  rw [← hL] at hrow ⊢
  have H1 : Hid (Touch (fun _ => False) w w1 ∧ Blk w1 n0 25 V ∧ SlotsRow w1 a L ∧ n0 = w.heap.size ∧ L = slotsN k) :=
    Lib.hid ⟨((Touch.refl _ w).alloc _).trans (Touch.of_below hb1), by rw [hn0]; exact (Blk.new w V 25).touch (Touch.of_below (S := fun _ => False) hb1) (fun h => h), hrow, hn0, hL⟩
  clear hb1 hrow hn0 hL
  have c1 : w1.cell? ⟨n0, 0, none⟩ = some (.int .i64 k) := by
    have h := H1.out.2.1
    rw [HH.out.2.1] at h
    rw [HH.out.2.2]
    exact h.num HH.out.1 0 (by decide)
  go_wp2_with (refine wpList_store_blk rfl 25 (.tmp 4) (.tmp 14) rfl w1.heap.size 25 _ _ rfl rfl (Blk.new _ _ _) (by kernel_rfl) (by kernel_rfl) (by kernel_rfl) ?_; intro w3 hB3 ht3 hs3)
  obtain ⟨n1, hn1⟩ : ∃ n1, n1 = w1.heap.size := ⟨_, rfl⟩
  rw [← hn1]
  have HL : Hid (L = slotsN p.kind) := Lib.hid (by rw [← HH.out.2.2]; exact H1.out.2.2.2.2)
  have HI0 : Hid (RightInv w p n0 n1 a 0 w3) := Lib.hid (by
    obtain ⟨q1, q2, q3, q4, q5⟩ := H1.out
    have hlt := q2.lt
    refine ⟨Touch.then (S := fun _ => False) (q1.alloc _) ht3 (fun i hi e => by have := q1.size; omega), ?_, ?_, ?_, ?_, ⟨by omega, by have := q1.size; omega⟩, fun s hs => by simp at hs⟩
    · rw [← HH.out.2.1]
      exact (q2.alloc _).touch ht3 (fun e => by omega)
    · rw [hn1]
      have e : bareJ p 0 = ⟨k :: List.replicate 11 0, List.replicate 16 0, List.replicate 8 0⟩ := by
        unfold bareJ
        rw [← HH.out.2.2]
        rfl
      rw [e]
      exact hB3
    · rw [← HL.out]
      exact (q3.touch ((Touch.refl (fun _ => False) _).alloc _) (fun _ _ h => h)).touch ht3 (fun x hx e => by have := q3.lt x hx; omega)
    · intro x hx
      rw [hn1]
      exact q3.lt x hx)
  clear hB3 ht3 hs3 hn1 c1
  go_loopw [17] (fun i wr => ∃ j : Nat, j ≤ L.length ∧ i = .int .i64 j ∧ RightInv w p n0 n1 a j wr) (fun i _ => (L.length - intOf i).toNat)
  case atStart => exact ⟨0, Nat.zero_le _, rfl, HI0.out⟩
  case round =>
    obtain ⟨j, hj, rfl, hI⟩ := hrel
    have HI := Lib.hid hI
    clear hI
    by_cases hq : j = L.length
    · subst hq
      clear hj
      obtain ⟨BJ, hBJ⟩ : ∃ BJ : Pk, BJ = ⟨bareNs p, bareSec p, bareTag p⟩ := ⟨_, rfl⟩
      have hJ : ∀ (s : List Nat) (g : List Nat), s = bareSec p → g = bareTag p → (⟨(bareJ p L.length).n, s, g⟩ : Pk) = BJ := by
        rintro s g rfl rfl
        rw [hBJ]
        refine Pk.ext ?_ rfl rfl
        show setS p.n ((slotsN p.kind).take L.length) _ = setS p.n (slotsN p.kind) _
        rw [List.take_of_length_le (by rw [HL.out]; exact Nat.le_refl _)]
      have hBO : BJ.Ok := by
        have hp := HH.out.1
        rw [hBJ]
        refine ⟨by show (setS _ _ _).length = 12; rw [setS_len]; rfl, ?_, ?_, ?_, ?_⟩
        · show (bareSec p).length = 16
          unfold bareSec
          split
          · exact hp.hs
          · rfl
        · show (bareTag p).length = 8
          unfold bareTag
          split
          · exact hp.ht
          · rfl
        · show ∀ y ∈ bareSec p, y < 256
          unfold bareSec
          split
          · exact hp.rs
          · exact (bareJ_ok p 0).rs
        · show ∀ y ∈ bareTag p, y < 256
          unfold bareTag
          split
          · exact hp.rt
          · exact (bareJ_ok p 0).rt
      have hIn : InR p := fun s hs => HI.out.ok s (by rw [List.take_of_length_le (by rw [HL.out]; exact Nat.le_refl _)]; exact hs)
      obtain ⟨r, hr⟩ : ∃ r, decide (Bare p) = r := ⟨_, rfl⟩
      have e1 : ∀ w, (binOp .eql 25 (.agg (pkV BJ)) (.agg V)).run Try.prog w = .ok (.bool r) w := fun w => by
        rw [HH.out.2.1]
        exact run_eql_pk w BJ p hBO HH.out.1 r (by rw [hBJ]; exact hr)
      have HE := Lib.hid e1
      clear e1
      have HB := Lib.hid (And.intro hJ (And.intro hBO (And.intro hIn hr)))
      clear hJ hBO hIn hr hBJ
      obtain ⟨x3, hx3⟩ : ∃ x, x = p.n.getD 3 0 := ⟨_, rfl⟩
      obtain ⟨x5, hx5⟩ : ∃ x, x = p.n.getD 5 0 := ⟨_, rfl⟩
      obtain ⟨x6, hx6⟩ : ∃ x, x = p.n.getD 6 0 := ⟨_, rfl⟩
      obtain ⟨x7, hx7⟩ : ∃ x, x = p.n.getD 7 0 := ⟨_, rfl⟩
      have HX : Hid (k = p.n.getD 0 0 ∧ x3 = p.n.getD 3 0 ∧ x5 = p.n.getD 5 0 ∧ x6 = p.n.getD 6 0 ∧ x7 = p.n.getD 7 0) := Lib.hid ⟨HH.out.2.2, hx3, hx5, hx6, hx7⟩
      clear hx3 hx5 hx6 hx7
      have cellN : ∀ (W : World) (_ : Blk W n0 25 V) (i : Nat) (_ : i < 12) (x : Int) (_ : x = p.n.getD i 0), W.cell? ⟨n0, i, none⟩ = some (.int .i64 x) := by
        intro W hB i hi x hx
        rw [hx]
        rw [HH.out.2.1] at hB
        exact hB.num HH.out.1 i hi
      have CN := Lib.hid cellN
      clear cellN
      have hA : taggedN k = false → (a = none ∧ (k == 8) = false ∧ decide (RightN p) = false) ∨ (∃ sb, a = some ⟨sb, 0, none⟩ ∧ (k == 8) = false ∧ r = false ∧ decide (RightN p) = false) ∨ (∃ sb, a = some ⟨sb, 0, none⟩ ∧ (k == 8) = false ∧ r = true ∧ decide (RightN p) = true) := by
        intro hT
        have t8 : (k == 8) = false := beq_eq_false_iff_ne.2 (fun e => by rw [e] at hT; exact absurd hT (by decide))
        have hk8 : ¬ Void p := fun hv => by
          have := beq_eq_false_iff_ne.1 t8
          exact this (by rw [HH.out.2.2]; exact hv.1)
        rcases HI.out.hr with ⟨hn, rfl⟩ | ⟨sb, rfl, hne, _⟩
        · exact Or.inl ⟨rfl, t8, decide_eq_false (fun hR => hR.2.1 hn)⟩
        · cases hrr : r with
          | false => exact Or.inr (Or.inl ⟨sb, rfl, t8, rfl, decide_eq_false (fun hR => by have := decide_eq_true hR.2.2.1; rw [HB.out.2.2.2, hrr] at this; cases this)⟩)
          | true => exact Or.inr (Or.inr ⟨sb, rfl, t8, rfl, decide_eq_true ⟨HB.out.2.2.1, hne, of_decide_eq_true (by rw [HB.out.2.2.2, hrr]), hk8⟩⟩)
      have hB : taggedN k = true → (∃ sb, a = some ⟨sb, 0, none⟩ ∧ (k == 8) = false ∧ r = false ∧ decide (RightN p) = false) ∨ (∃ sb, a = some ⟨sb, 0, none⟩ ∧ (k == 8) = false ∧ r = true ∧ decide (RightN p) = true) ∨
          (∃ sb, a = some ⟨sb, 0, none⟩ ∧ ((k == 8) = true ∧ (x3 == 0) = false) ∧ r = false ∧ decide (RightN p) = false) ∨ (∃ sb, a = some ⟨sb, 0, none⟩ ∧ ((k == 8) = true ∧ (x3 == 0) = false) ∧ r = true ∧ decide (RightN p) = true) ∨
          (∃ sb, a = some ⟨sb, 0, none⟩ ∧ ((k == 8) = true ∧ (x3 == 0) = true) ∧ r = false ∧ decide (RightN p) = false) ∨
          (∃ sb, a = some ⟨sb, 0, none⟩ ∧ ((k == 8) = true ∧ (x3 == 0) = true ∧ IntKind.i64.wrap (x7 + x5) = x7 + x5 ∧ IntKind.i64.wrap (x7 + x5 + x6) = x7 + x5 + x6 ∧ 0 < x7 + x5 + x6) ∧ r = true ∧ decide (RightN p) = false) ∨
          (∃ sb, a = some ⟨sb, 0, none⟩ ∧ ((k == 8) = true ∧ (x3 == 0) = true ∧ IntKind.i64.wrap (x7 + x5) = x7 + x5 ∧ IntKind.i64.wrap (x7 + x5 + x6) = x7 + x5 + x6 ∧ ¬ 0 < x7 + x5 + x6) ∧ r = true ∧ decide (RightN p) = true) := by
        intro hT
        obtain ⟨hx0, hx3, hx5, hx6, hx7⟩ := HX.out
        rcases HI.out.hr with ⟨hn, rfl⟩ | ⟨sb, rfl, hne, _⟩
        · exfalso
          rw [← HH.out.2.2] at hn
          have h5 : 5 ≤ k ∧ k ≤ 11 := by simpa [taggedN] using hT
          obtain rfl | rfl | rfl | rfl | rfl | rfl | rfl : k = 5 ∨ k = 6 ∨ k = 7 ∨ k = 8 ∨ k = 9 ∨ k = 10 ∨ k = 11 := by omega
          all_goals exact absurd hn (by decide)
        · have hno : r = false → decide (RightN p) = false := fun hrr => decide_eq_false (fun hR => by have := decide_eq_true hR.2.2.1; rw [HB.out.2.2.2, hrr] at this; cases this)
          have hyes : r = true → ¬ Void p → decide (RightN p) = true := fun hrr hv => decide_eq_true ⟨HB.out.2.2.1, hne, of_decide_eq_true (by rw [HB.out.2.2.2, hrr]), hv⟩
          by_cases h8 : k = 8
          · have t8 : (k == 8) = true := by rw [h8]; rfl
            by_cases h3 : x3 = 0
            · have t3 : (x3 == 0) = true := by rw [h3]; rfl
              cases hrr : r with
              | false => exact Or.inr (Or.inr (Or.inr (Or.inr (Or.inl ⟨sb, rfl, ⟨t8, t3⟩, rfl, hno hrr⟩))))
              | true =>
                have hI := HB.out.2.2.1
                unfold InR at hI
                rw [← HH.out.2.2, h8] at hI
                have b7 := hI ⟨7, 4, 0, 1073741824⟩ (by simp [slotsN])
                have b5 := hI ⟨5, 1, 0, 3⟩ (by simp [slotsN])
                have b6 := hI ⟨6, 1, 0, 4⟩ (by simp [slotsN])
                simp only at b5 b6 b7
                rw [← hx7] at b7
                rw [← hx5] at b5
                rw [← hx6] at b6
                have w1 : IntKind.i64.wrap (x7 + x5) = x7 + x5 := by simp [IntKind.wrap, IntKind.bits, IntKind.signed]; omega
                have w2 : IntKind.i64.wrap (x7 + x5 + x6) = x7 + x5 + x6 := by simp [IntKind.wrap, IntKind.bits, IntKind.signed]; omega
                by_cases hs : 0 < x7 + x5 + x6
                · exact Or.inr (Or.inr (Or.inr (Or.inr (Or.inr (Or.inl ⟨sb, rfl, ⟨t8, t3, w1, w2, hs⟩, rfl, decide_eq_false (fun hR => hR.2.2.2 ⟨by rw [← HH.out.2.2]; exact h8, by rw [← hx3]; exact h3, by rw [← hx7, ← hx5, ← hx6]; exact hs⟩)⟩)))))
                · exact Or.inr (Or.inr (Or.inr (Or.inr (Or.inr (Or.inr ⟨sb, rfl, ⟨t8, t3, w1, w2, hs⟩, rfl, hyes hrr (fun hv => hs (by rw [hx7, hx5, hx6]; exact hv.2.2))⟩)))))
            · have t3 : (x3 == 0) = false := beq_eq_false_iff_ne.2 h3
              cases hrr : r with
              | false => exact Or.inr (Or.inr (Or.inl ⟨sb, rfl, ⟨t8, t3⟩, rfl, hno hrr⟩))
              | true => exact Or.inr (Or.inr (Or.inr (Or.inl ⟨sb, rfl, ⟨t8, t3⟩, rfl, hyes hrr (fun hv => h3 (by rw [hx3]; exact hv.2.1))⟩)))
          · have t8 : (k == 8) = false := beq_eq_false_iff_ne.2 h8
            have hv : ¬ Void p := fun hv => h8 (by rw [HH.out.2.2]; exact hv.1)
            cases hrr : r with
            | false => exact Or.inl ⟨sb, rfl, t8, rfl, hno hrr⟩
            | true => exact Or.inr (Or.inl ⟨sb, rfl, t8, rfl, hyes hrr hv⟩)
      have en : ∀ (a : Option Addr) (l c : Nat) (w : World), (binOp .neq 53 (.slice a l c) (.slice none 0 0)).run Try.prog w = .ok (.bool (!a.isNone)) w := fun a l c w => run_neq_slice_nil_any w 53 57 a l c 0 0 Try.underlying53
      have HA := Lib.hid hA
      have HBB := Lib.hid hB
      clear hA hB
      have c0 : wr.cell? ⟨n0, 0, none⟩ = some (.int .i64 k) := CN.out _ (by rw [HH.out.2.1]; exact HI.out.h0) 0 (by decide) _ HX.out.1
      go_wp2_with fail
      (with_reducible refine (sealed_any k _).mono ?_)
      rintro e _ ⟨rfl, rfl⟩
      obtain ⟨q, hS⟩ : ∃ q, sealedN k = q := ⟨_, rfl⟩
      rw [hS]
      have HS := Lib.hid hS
      clear hS
      have lt01 := HI.out.lt
      have LT := Lib.hid lt01
      clear lt01
      cases q
      · go_wp2_with fail
        (with_reducible refine (tagged_any k _).mono ?_)
        rintro e _ ⟨rfl, rfl⟩
        obtain ⟨q, hT⟩ : ∃ q, taggedN k = q := ⟨_, rfl⟩
        rw [hT]
        clear c0
        cases q
        · have hcc := HA.out hT
          have HW : Hid (Touch (fun _ => False) w wr ∧ Blk wr n0 25 V ∧ Blk wr n1 25 (pkV BJ)) := Lib.hid ⟨HI.out.ht, by rw [HH.out.2.1]; exact HI.out.h0, by rw [← HB.out.1 (List.replicate 16 0) (List.replicate 8 0) (by unfold bareSec; rw [← HH.out.2.2, HS.out]; rfl) (by unfold bareTag; rw [← HH.out.2.2, hT]; rfl)]; exact HI.out.h1⟩
          have d0 : wr.cell? ⟨n0, 0, none⟩ = some (.int .i64 k) := CN.out _ HW.out.2.1 0 (by decide) _ HX.out.1; have d3 : wr.cell? ⟨n0, 3, none⟩ = some (.int .i64 x3) := CN.out _ HW.out.2.1 3 (by decide) _ HX.out.2.1; have d5 : wr.cell? ⟨n0, 5, none⟩ = some (.int .i64 x5) := CN.out _ HW.out.2.1 5 (by decide) _ HX.out.2.2.1; have d6 : wr.cell? ⟨n0, 6, none⟩ = some (.int .i64 x6) := CN.out _ HW.out.2.1 6 (by decide) _ HX.out.2.2.2.1; have d7 : wr.cell? ⟨n0, 7, none⟩ = some (.int .i64 x7) := CN.out _ HW.out.2.1 7 (by decide) _ HX.out.2.2.2.2
          clear hT HA HBB
          rcases hcc with ⟨rfl, t8, hd⟩ | ⟨sb, rfl, t8, rfl, hd⟩ | ⟨sb, rfl, t8, rfl, hd⟩
          · have HD := Lib.hid hd
            clear hd
            go_wp2_with fail
            go_ret
            refine ⟨?_, HW.out.1.below (Nat.le_refl _) (fun _ _ h => h)⟩
            rw [HD.out]
            first | rfl | (show Ending.returned (Value.bool (!decide (0 < x7 + x5 + x6))) = _; rw [decide_eq_false (by omega)]; rfl)
          all_goals
            have HD := Lib.hid hd
            clear hd
            go_wp2_with (first | ((with_reducible refine at_op (.load 25 (.tmp 4)) rfl ?_); refine wpList_load_blk_g (by rfl) 25 (.tmp 4) rfl n1 25 (pkV BJ) _ rfl HW.out.2.2 Try.underlying25 rfl (by rw [pkV_size HB.out.2.1]; first | done | kernel_rfl) ?_) | ((with_reducible refine at_op (.load 25 (.tmp 1)) rfl ?_); refine wpList_load_blk_g (by rfl) 25 (.tmp 1) rfl n0 25 V _ rfl HW.out.2.1 Try.underlying25 rfl (by rw [HH.out.2.1, pkV_size HH.out.1]; first | done | kernel_rfl) ?_) | ((with_reducible refine at_op (.binOp .eql 25 (.tmp 65) (.tmp 66) 25) rfl ?_); refine wpList_eql_g (by rfl) .eql 25 25 (.tmp 65) (.tmp 66) rfl (pkV BJ) V rfl rfl (by kernel_rfl) _ (HE.out _) ?_))
            go_ret
            refine ⟨?_, HW.out.1.below (Nat.le_refl _) (fun _ _ h => h)⟩
            rw [HD.out]
            first | rfl | (show Ending.returned (Value.bool (!decide (0 < x7 + x5 + x6))) = _; rw [decide_eq_false (by omega)]; rfl)
        · have hcc := HBB.out hT
          have HT := Lib.hid hT
          clear hT HA HBB
          rcases hcc with ⟨sb, rfl, t8, rfl, hd⟩ | ⟨sb, rfl, t8, rfl, hd⟩ | ⟨sb, rfl, ⟨t8, t3⟩, rfl, hd⟩ | ⟨sb, rfl, ⟨t8, t3⟩, rfl, hd⟩ | ⟨sb, rfl, ⟨t8, t3⟩, rfl, hd⟩ | ⟨sb, rfl, ⟨t8, t3, u1, u2, u3⟩, rfl, hd⟩ | ⟨sb, rfl, ⟨t8, t3, u1, u2, u3⟩, rfl, hd⟩
          all_goals
            have HD := Lib.hid hd
            clear hd
            go_wp2_with (first
              | ((with_reducible refine at_op (.load 23 (.tmp 51)) rfl ?_); refine wpList_load_mid rfl 23 (.tmp 51) rfl n0 28 rfl (bn p.tag) _ (HI.out.h0.tag HH.out.1) Try.underlying23 rfl (by rw [bn_len, HH.out.1.ht]; first | done | kernel_rfl) ?_)
              | ((with_reducible refine at_op (.store 23 (.tmp 53) (.tmp 52)) rfl ?_); refine wpList_store_tag rfl 23 (.tmp 53) (.tmp 52) rfl n1 25 (bareJ p L.length) p.tag rfl rfl HI.out.h1 (bareJ_ok _ _) HH.out.1.ht (by kernel_rfl) ?_; intro w5 hB5 ht5 hs5; have HW : Hid (Touch (fun _ => False) w w5 ∧ Blk w5 n0 25 V ∧ Blk w5 n1 25 (pkV BJ)) := Lib.hid ⟨Touch.then (S := fun _ => False) HI.out.ht ht5 (fun m hm e => by have := LT.out.2; omega), by rw [HH.out.2.1]; exact HI.out.h0.touch ht5 (fun e => by have := LT.out.1; omega), by rw [← HB.out.1 (List.replicate 16 0) p.tag (by unfold bareSec; rw [← HH.out.2.2, HS.out]; rfl) (by unfold bareTag; rw [← HH.out.2.2, HT.out]; rfl)]; exact hB5⟩; clear hB5 ht5 hs5; have d0 : w5.cell? ⟨n0, 0, none⟩ = some (.int .i64 k) := CN.out _ HW.out.2.1 0 (by decide) _ HX.out.1; have d3 : w5.cell? ⟨n0, 3, none⟩ = some (.int .i64 x3) := CN.out _ HW.out.2.1 3 (by decide) _ HX.out.2.1; have d5 : w5.cell? ⟨n0, 5, none⟩ = some (.int .i64 x5) := CN.out _ HW.out.2.1 5 (by decide) _ HX.out.2.2.1; have d6 : w5.cell? ⟨n0, 6, none⟩ = some (.int .i64 x6) := CN.out _ HW.out.2.1 6 (by decide) _ HX.out.2.2.2.1; have d7 : w5.cell? ⟨n0, 7, none⟩ = some (.int .i64 x7) := CN.out _ HW.out.2.1 7 (by decide) _ HX.out.2.2.2.2)
              | ((with_reducible refine at_op (.load 25 (.tmp 4)) rfl ?_); refine wpList_load_blk_g (by rfl) 25 (.tmp 4) rfl n1 25 (pkV BJ) _ rfl HW.out.2.2 Try.underlying25 rfl (by rw [pkV_size HB.out.2.1]; first | done | kernel_rfl) ?_) | ((with_reducible refine at_op (.load 25 (.tmp 1)) rfl ?_); refine wpList_load_blk_g (by rfl) 25 (.tmp 1) rfl n0 25 V _ rfl HW.out.2.1 Try.underlying25 rfl (by rw [HH.out.2.1, pkV_size HH.out.1]; first | done | kernel_rfl) ?_) | ((with_reducible refine at_op (.binOp .eql 25 (.tmp 65) (.tmp 66) 25) rfl ?_); refine wpList_eql_g (by rfl) .eql 25 25 (.tmp 65) (.tmp 66) rfl (pkV BJ) V rfl rfl (by kernel_rfl) _ (HE.out _) ?_))
            go_ret
            refine ⟨?_, HW.out.1.below (Nat.le_refl _) (fun _ _ h => h)⟩
            rw [HD.out]
            first | rfl | (show Ending.returned (Value.bool (!decide (0 < x7 + x5 + x6))) = _; rw [decide_eq_false (by omega)]; rfl)
      · have hT : taggedN k = false := by
          have h := HS.out
          simp [sealedN] at h
          simp [taggedN]
          omega
        go_wp2_with (first
          | ((with_reducible refine at_op (.load 22 (.tmp 45)) rfl ?_); refine wpList_load_mid rfl 22 (.tmp 45) rfl n0 12 rfl (bn p.sec) _ (HI.out.h0.sec HH.out.1) Try.underlying22 rfl (by rw [bn_len, HH.out.1.hs]; first | done | kernel_rfl) ?_)
          | ((with_reducible refine at_op (.store 22 (.tmp 47) (.tmp 46)) rfl ?_); refine wpList_store_sec rfl 22 (.tmp 47) (.tmp 46) rfl n1 25 (bareJ p L.length) p.sec rfl rfl HI.out.h1 (bareJ_ok _ _) HH.out.1.hs (by kernel_rfl) ?_; intro w5 hB5 ht5 hs5; have HW : Hid (Touch (fun _ => False) w w5 ∧ Blk w5 n0 25 V ∧ Blk w5 n1 25 (pkV BJ)) := Lib.hid ⟨Touch.then (S := fun _ => False) HI.out.ht ht5 (fun m hm e => by have := LT.out.2; omega), by rw [HH.out.2.1]; exact HI.out.h0.touch ht5 (fun e => by have := LT.out.1; omega), by rw [← HB.out.1 p.sec (List.replicate 8 0) (by unfold bareSec; rw [← HH.out.2.2, HS.out]; rfl) (by unfold bareTag; rw [← HH.out.2.2, hT]; rfl)]; exact hB5⟩; clear hB5 ht5 hs5; have d0 : w5.cell? ⟨n0, 0, none⟩ = some (.int .i64 k) := CN.out _ HW.out.2.1 0 (by decide) _ HX.out.1; have d3 : w5.cell? ⟨n0, 3, none⟩ = some (.int .i64 x3) := CN.out _ HW.out.2.1 3 (by decide) _ HX.out.2.1; have d5 : w5.cell? ⟨n0, 5, none⟩ = some (.int .i64 x5) := CN.out _ HW.out.2.1 5 (by decide) _ HX.out.2.2.1; have d6 : w5.cell? ⟨n0, 6, none⟩ = some (.int .i64 x6) := CN.out _ HW.out.2.1 6 (by decide) _ HX.out.2.2.2.1; have d7 : w5.cell? ⟨n0, 7, none⟩ = some (.int .i64 x7) := CN.out _ HW.out.2.1 7 (by decide) _ HX.out.2.2.2.2))
        (with_reducible refine (tagged_any k _).mono ?_)
        rintro e _ ⟨rfl, rfl⟩
        rw [hT]
        have hcc := HA.out hT
        clear hT HA HBB
        rcases hcc with ⟨rfl, t8, hd⟩ | ⟨sb, rfl, t8, rfl, hd⟩ | ⟨sb, rfl, t8, rfl, hd⟩
        · have HD := Lib.hid hd
          clear hd
          go_wp2_with fail
          go_ret
          refine ⟨?_, HW.out.1.below (Nat.le_refl _) (fun _ _ h => h)⟩
          rw [HD.out]
          rfl
        all_goals
          have HD := Lib.hid hd
          clear hd
          go_wp2_with (first | ((with_reducible refine at_op (.load 25 (.tmp 4)) rfl ?_); refine wpList_load_blk_g (by rfl) 25 (.tmp 4) rfl n1 25 (pkV BJ) _ rfl HW.out.2.2 Try.underlying25 rfl (by rw [pkV_size HB.out.2.1]; first | done | kernel_rfl) ?_) | ((with_reducible refine at_op (.load 25 (.tmp 1)) rfl ?_); refine wpList_load_blk_g (by rfl) 25 (.tmp 1) rfl n0 25 V _ rfl HW.out.2.1 Try.underlying25 rfl (by rw [HH.out.2.1, pkV_size HH.out.1]; first | done | kernel_rfl) ?_) | ((with_reducible refine at_op (.binOp .eql 25 (.tmp 65) (.tmp 66) 25) rfl ?_); refine wpList_eql_g (by rfl) .eql 25 25 (.tmp 65) (.tmp 66) rfl (pkV BJ) V rfl rfl (by kernel_rfl) _ (HE.out _) ?_))
          go_ret
          refine ⟨?_, HW.out.1.below (Nat.le_refl _) (fun _ _ h => h)⟩
          rw [HD.out]
          rfl
    · have hjl : j < L.length := by omega
      have hj1 : (j : Int) < L.length := by omega
      have hj0 : (0 : Int) ≤ j := by omega
      have h6 : L.length ≤ 6 := by rw [HL.out]; exact slots_len _
      obtain ⟨⟨i, sz, lo, hi⟩, hs⟩ : ∃ s, (slotsN p.kind)[j]? = some s := ⟨_, List.getElem?_eq_getElem (by rw [← HL.out]; exact hjl)⟩
      have hso := slots_ok _ _ (List.mem_of_getElem? hs)
      have hi1 : 1 ≤ i := hso.i0
      have hi2 : i < 12 := hso.i1
      obtain ⟨sb, rfl, hrange⟩ := HI.out.hr.at hs
      obtain ⟨x, hx⟩ : ∃ x, x = p.n.getD i 0 := ⟨_, rfl⟩
      have cx : ∀ o, (wr.alloc o).cell? ⟨n0, i, none⟩ = some (.int .i64 x) := fun o => by
        rw [hx]
        exact (HI.out.h0.alloc o).num HH.out.1 i hi2
      have cy := fun o => (HI.out.h1.alloc o).num (bareJ_ok p j) i hi2
      have fy := fun o => (HI.out.h1.alloc o).frozen i
      have HR := Lib.hid (And.intro hrange (And.intro hs hx))
      clear hrange hs hx hso hq
      have ea := at_enters i hi1 hi2
      by_cases q1 : x < lo
      · go_wp2_with (first | (refine wpList_load_mid rfl 57 (.tmp 19) rfl sb _ rfl [.func (.func (atFn i)) #[] #[], .int .i64 sz, .int .i64 lo, .int .i64 hi] _ HR.out.1 Try.underlying57 rfl (by kernel_rfl) ?_) | ((with_reducible refine (at_any i hi1 hi2 _ _).mono ?_); rintro e _ ⟨rfl, rfl⟩))
        go_ret
        refine ⟨?_, HI.out.ht.alloc _ |>.below (Nat.le_refl _) (fun _ _ h => h)⟩
        have hd : decide (RightN p) = false := decide_eq_false (fun hR => by
          have h := hR.1 _ (List.mem_of_getElem? HR.out.2.1)
          rw [← HR.out.2.2] at h
          simp only at h
          omega)
        rw [hd]
        rfl
      by_cases q2 : hi < x
      · go_wp2_with (first | (refine wpList_load_mid rfl 57 (.tmp 19) rfl sb _ rfl [.func (.func (atFn i)) #[] #[], .int .i64 sz, .int .i64 lo, .int .i64 hi] _ HR.out.1 Try.underlying57 rfl (by kernel_rfl) ?_) | ((with_reducible refine (at_any i hi1 hi2 _ _).mono ?_); rintro e _ ⟨rfl, rfl⟩))
        go_ret
        refine ⟨?_, HI.out.ht.alloc _ |>.below (Nat.le_refl _) (fun _ _ h => h)⟩
        have hd : decide (RightN p) = false := decide_eq_false (fun hR => by
          have h := hR.1 _ (List.mem_of_getElem? HR.out.2.1)
          rw [← HR.out.2.2] at h
          simp only at h
          omega)
        rw [hd]
        rfl
      · go_wp2_with (first | (refine wpList_load_mid rfl 57 (.tmp 19) rfl sb _ rfl [.func (.func (atFn i)) #[] #[], .int .i64 sz, .int .i64 lo, .int .i64 hi] _ HR.out.1 Try.underlying57 rfl (by kernel_rfl) ?_) | ((with_reducible refine (at_any i hi1 hi2 _ _).mono ?_); rintro e _ ⟨rfl, rfl⟩))
        go_roundw
        case rel =>
          refine ⟨j + 1, hjl, by first | rfl | (congr 1; omega) | (congr 1; unfold wrap64; omega), ?_⟩
          obtain ⟨i1, i2, i3, i4, i5, i6, i7⟩ := HI.out
          have t1 : Touch (fun k => k = n1) wr (wr.alloc (.cells #[.func (.func (atFn i)) #[] #[], .int .i64 sz, .int .i64 lo, .int .i64 hi] 57)) := (Touch.refl _ wr).alloc _
          have t2 := Touch.setCell t1 (p := ⟨n1, i, none⟩) (fun _ => rfl) (.int .i64 x)
          refine ⟨Touch.then i1 t2 (fun m hm e => by omega), i2.touch t2 (by omega), ?_, i4.touch t2 (fun y hy e => by have := i5 y hy; omega), i5, i6, ?_⟩
          · rw [bareJ_succ p j _ HR.out.2.1, ← HR.out.2.2]
            exact (i3.alloc _).setN (bareJ_ok p j) i hi2 x
          · intro s hs
            rw [List.take_add_one, HR.out.2.1] at hs
            rcases List.mem_append.1 hs with hs | hs
            · exact i7 s hs
            · simp at hs
              subst hs
              rw [← HR.out.2.2]
              exact ⟨by show lo ≤ x; omega, by show x ≤ hi; omega⟩
        case measure => simp [intOf]; (try unfold wrap64); omega
end Go.Proofs.Ythlkmofemnepbaa
