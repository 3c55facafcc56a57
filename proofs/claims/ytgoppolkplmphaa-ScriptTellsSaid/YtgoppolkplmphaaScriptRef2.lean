/-
  THE WALKS of the document's own Acts and Count (layer 26).
-/
import Derived.Test.YtgoppolkplmphaaRows
import Derived.Test.YtgoppolkplmphaaScriptRef
import Derived.Test.YtgoppolkplmphaaScriptSame
namespace Go.Proofs.Ytgoppolkplmphaa
open Go.RowKit

theorem actsOf_lenR (n : Nat) : ∀ ys : List Nat, ys.length ≤ n → (actsOf ys).length = ys.length / 4 := by
  induction n using Nat.strongRecOn with
  | _ n ih =>
    intro ys h
    match ys, h with
    | [], _ => rfl
    | [a], _ => rw [actsOf_small _ (by simp)]; simp
    | [a, b], _ => rw [actsOf_small _ (by simp)]; simp
    | [a, b, c], _ => rw [actsOf_small _ (by simp)]; simp
    | y0 :: y1 :: y2 :: y3 :: r, h =>
      simp only [List.length_cons] at h
      have h2 := ih (n - 4) (by omega) r (by omega)
      simp only [actsOf, List.length_cons, h2]
      omega

/-- One more act is laid. -/
theorem acts_grow {w w1 w2 w3 : World} {x2 v3 : Value} {R : ActRow} {v : ActV} {s : Option Addr} {c : Nat} {C : Obj}
    (hown : ActsOwn w1 w.heap.size x2 R) (hb : Below w.heap.size w w1) (how : w2.ownsRow w1.heap.size 5 1 (.slice s v.inj.length c) v.inj.length (bys v.inj)) (hbw : Below w1.heap.size w1 w2)
    (ho3 : w3.ownsRow w.heap.size 55 8 v3 (R.length + 1) (rowCells R ++ actCells (v, s, c))) (hg3 : (w2.alloc C).grownBy w3 x2.ownBlock) :
    ActsOwn w3 w.heap.size v3 (R ++ [(v, s, c)]) ∧ Below w.heap.size w w3 := by
  have t12 : Touch (fun _ => False) w1 w2 := Touch.of_below hbw
  have t23 : Touch (fun k => x2.ownBlock = some k) w2 w3 := ((Touch.refl _ _).alloc C).grown hg3 (fun k hk _ => hk)
  have hrow2 := owns_touch hown.row t12 (fun _ _ h => h)
  refine ⟨⟨?_, ?_⟩, ?_⟩
  · rw [rowCells_snoc]
    simpa using ho3
  · intro q hq
    rcases List.mem_append.1 hq with hq | hq
    · have h2 := owns_touch (hown.bytes q hq) t12 (fun _ _ h => h)
      exact owns_touch h2 t23 (fun k hk e => owns_apart hrow2 h2 (by decide) k e hk)
    · simp at hq
      subst hq
      exact owns_mono (owns_touch how t23 (fun k hk e => owns_apart hrow2 how (by decide) k e hk)) hb.size
  · have tB := ((Touch.of_below (S := fun k => w.heap.size ≤ k) hb).trans (t12.mono (fun _ _ h => h.elim))).trans (t23.mono (fun k _ e => (hown.row.lt k e).1))
    exact tB.below (Nat.le_refl _) (fun k hk h => by omega)

set_option maxRecDepth 100000 in
set_option maxHeartbeats 4000000 in
theorem acts_rf (a : Option Addr) (len cap : Nat) (zs : List Nat) (w : World) (hl : zs.length = len) (hz : SlAt w a (bys (nats zs))) (hr : ∀ y ∈ zs, y < 256) (hle : len ≤ cap) (_hm : cap ≤ maxLen) (hn : len ≤ 90000) :
    Calls Try.prog 38 #[.slice a len cap] w (ActsRet (actsOf zs) w) := by
  subst hl
  obtain ⟨i0, hi, hz0, hz1, hz2⟩ := info_parts Try.info55
  obtain ⟨L, hL⟩ : ∃ L, L = actsOf zs := ⟨_, rfl⟩
  rw [← hL]
  have HH := Lib.hid (And.intro hz (And.intro hr hL))
  clear hz hr hL
  go_enter Try.func38, Try.ntmps38
  go_wp2_with fail
  go_loopw [3, 4] (fun v i wz => ∃ (j : Nat) (R : ActRow), 4 * j ≤ zs.length ∧ i = .int .i64 (4 * (j : Int)) ∧ R.length = j ∧ ActsOwn wz w.heap.size v R ∧ R.map (·.1) ++ actsOf (zs.drop (4 * j)) = L ∧ Below w.heap.size w wz) (fun _ i _ => (zs.length - intOf i).toNat)
  case atStart => exact ⟨0, [], Nat.zero_le _, rfl, rfl, ⟨by simpa [rowCells] using World.ownsRow_nil w _ _ _, fun q hq => by cases hq⟩, by simp [HH.out.2.2], Below.refl _ _⟩
  case round =>
    obtain ⟨j, R, hj, rfl, hRj, hown, hRL, hb⟩ := hrel
    have kw1 : IntKind.i64.wrap (4 * (j : Int) + 4) = 4 * (j : Int) + 4 := IntWalk.i64_in _ (by omega)
    by_cases hq : zs.length < 4 * j + 4
    · have hx : (zs.length : Int) < 4 * (j : Int) + 4 := by omega
      have H1 := Lib.hid (And.intro hown (And.intro hRL hb))
      clear hown hRL hb
      go_wp2_with fail
      go_ret
      refine ⟨_, R, rfl, H1.out.1, ?_, H1.out.2.2⟩
      have h := H1.out.2.1
      rw [actsOf_small (zs.drop (4 * j)) (by simp; omega)] at h
      simpa using h
    · have hx : 4 * (j : Int) + 4 ≤ zs.length := by omega
      obtain ⟨y0, y1, y2, y3, rest, hd⟩ : ∃ y0 y1 y2 y3 rest, zs.drop (4 * j) = y0 :: y1 :: y2 :: y3 :: rest := by
        have hl : (zs.drop (4 * j)).length = zs.length - 4 * j := by simp
        match zs.drop (4 * j), hl with
        | y0 :: y1 :: y2 :: y3 :: rest, _ => exact ⟨_, _, _, _, _, rfl⟩
        | [], h => simp at h; omega
        | [_], h => simp at h; omega
        | [_, _], h => simp at h; omega
        | [_, _, _], h => simp at h; omega
      have g : ∀ y, y ∈ [y0, y1, y2, y3] → y < 256 := fun y hy => HH.out.2.1 y (List.mem_of_mem_drop (i := 4 * j) (by rw [hd]; simp at hy ⊢; rcases hy with rfl | rfl | rfl | rfl <;> simp))
      have g0 := g y0 (by simp)
      have g1 := g y1 (by simp)
      have g2 := g y2 (by simp)
      have g3 := g y3 (by simp)
      have hd4 : zs.drop (4 * (j + 1)) = rest := by
        rw [show 4 * (j + 1) = 4 * j + 4 by omega, ← List.drop_drop, hd]
        rfl
      obtain ⟨v, hv⟩ : ∃ v, v = actOf y0 y1 y2 y3 := ⟨_, rfl⟩
      have hnext : ∀ (s : Option Addr) (c : Nat), (R ++ [(v, s, c)] : ActRow).map (·.1) ++ actsOf (zs.drop (4 * (j + 1))) = L := fun s c => by
        rw [← hRL, hd, hd4, hv]
        simp [actsOf]
      have hsr := HH.out.1.touch (Touch.of_below (S := fun _ => False) hb) (fun _ _ _ h => h)
      obtain ⟨b, o, ha, _⟩ := hsr.get (k := 4 * j) (u := .int .u8 y0) (by
        have h := congrArg (fun l => l[0]?) hd
        simp at h
        simp [bys, nats, h])
      subst ha
      have hs4 : SlAt wr (some ⟨b, o + 4 * j, none⟩) (bys [(y0 : Int), y1, y2, y3]) := by
        have h := (hsr.drop (4 * j)).take 4
        have e : ((bys (nats zs)).drop (4 * j)).take 4 = bys [(y0 : Int), y1, y2, y3] := by
          have e2 : (bys (nats zs)).drop (4 * j) = bys (nats (zs.drop (4 * j))) := by simp [bys, nats]
          rw [e2, hd]
          simp [bys, nats]
        rw [e] at h
        exact h
      have kb1 : (0 : Int) ≤ 4 * (j : Int) := by omega
      have kb2 : (4 * (j : Int)) ≤ 4 * (j : Int) + 4 := by omega
      have kb3 : (4 * (j : Int) + 4) ≤ cap := by omega
      have kn1 : (4 * (j : Int)).toNat = 4 * j := by omega
      have kn2 : (4 * (j : Int) + 4).toNat = 4 * j + 4 := by omega
      have kn3 : 4 * j + 4 - 4 * j = 4 := by omega
      have kc : ¬ cap = 4 * j := by omega
      have H1 := Lib.hid (And.intro hown (And.intro hb (And.intro hv (And.intro hs4 hnext))))
      clear hown hRL hb hv hs4 hnext hd hd4 hsr g
      go_wp2_with fail
      refine (one_rf b (o + 4 * j) (cap - 4 * j) y0 y1 y2 y3 g0 g1 g2 g3 wr H1.out.2.2.2.1 (by omega)).mono ?_
      rintro e w2 ⟨s, c, rfl, how, hbw⟩
      rw [← H1.out.2.2.1] at how ⊢
      unfold actVal
      have t12 : Touch (fun _ => False) wr w2 := Touch.of_below hbw
      have hrow2 := owns_touch H1.out.1.row t12 (fun _ _ h => h)
      have hsz2 : w.heap.size ≤ w2.heap.size := Nat.le_trans H1.out.2.1.size t12.size
      have H2 := Lib.hid (And.intro how (And.intro hbw hrow2))
      clear how hbw hrow2 t12
      go_wp2_with (at_builtin; refine wpList_append_own _ rfl (.tmp 12) (.tmp 19) 47 rfl w.heap.size 55 i0 (.agg #[.int .i64 0, .int .i64 0, .int .i64 0, .int .i64 0, .int .i64 0, .int .i64 0, .int .i64 0, .slice none 0 0]) 8 80 Try.underlying47 hi hz0 hz1 hz2 (by rfl) (by decide) u3 R.length (rowCells R) rfl (H2.out.2.2.alloc _) ⟨w2.heap.size, 0, none⟩ 1 1 (actCells (v, s, c)) rfl rfl (new_cells w2 (v, s, c)) (act_one (v, s, c)) (by unfold maxLen; omega) (by omega) (by simp; omega) ?_; intro v3 w3 ho3 hg3 _; have H4 := Lib.hid (And.intro ho3 hg3); clear ho3 hg3)
      go_roundw
      case rel =>
        obtain ⟨q1, q2⟩ := acts_grow H1.out.1 H1.out.2.1 H2.out.1 H2.out.2.1 H4.out.1 H4.out.2
        exact ⟨j + 1, R ++ [(v, s, c)], by omega, by first | rfl | (congr 1; omega) | (congr 1; push_cast; omega), by simp [hRj], q1, H1.out.2.2.2.2 s c, q2⟩
      case measure => simp [intOf]; omega

set_option maxRecDepth 100000 in
set_option maxHeartbeats 2000000 in
theorem count_rf (a : Option Addr) (n k : Nat) (R : ActRow) (d : Int) (w : World) (h : RowAt w a R) (hn : R.length = n) (hk : n ≤ k) (hm : k ≤ maxLen) :
    Calls Try.prog 42 #[.slice a n k, .int .i64 d] w fun e w' => e = .returned (.int .i64 (countV (R.map (·.1)) d)) ∧ w = w' := by
  unfold maxLen at hm
  have HH := Lib.hid (And.intro h hn)
  clear h hn
  go_enter Try.func42, Try.ntmps42
  go_wp2_with fail
  go_loopw [5, 6] (fun m i wz => ∃ j : Nat, j ≤ n ∧ i = .int .i64 j ∧ m = .int .i64 (countV ((R.map (·.1)).take j) d) ∧ w = wz) (fun _ i _ => (n - intOf i).toNat)
  case atStart => exact ⟨0, Nat.zero_le _, rfl, rfl, rfl⟩
  case round =>
    obtain ⟨j, hj, rfl, rfl, rfl⟩ := hrel
    by_cases hq : j = n
    · subst hq
      go_wp2_with fail
      go_ret
      refine ⟨?_, rfl⟩
      rw [List.take_of_length_le (by simp [HH.out.2])]
      rfl
    · have hjl : j < n := by omega
      have hj1 : (j : Int) < n := by omega
      have hj0 : (0 : Int) ≤ j := by omega
      have hkk1 : (n : Int) ≤ k := by omega
      obtain ⟨p1, e1⟩ : ∃ p1, R[j]? = some p1 := ⟨_, List.getElem?_eq_getElem (by have := HH.out.2; omega)⟩
      obtain ⟨b1, o1, rfl, d0, d1, d2, d3, d4, d5, d6, d7⟩ := HH.out.1.at e1
      have hs : countV ((R.map (·.1)).take (j + 1)) d = countV ((R.map (·.1)).take j) d + (if p1.1.dn = d then 1 else 0) := by
        rw [List.take_add_one, show (R.map (·.1))[j]? = some p1.1 by simp [e1]]
        exact countV_snoc _ _ _
      obtain ⟨cj, hcj⟩ : ∃ cj, countV ((R.map (·.1)).take j) d = cj := ⟨_, rfl⟩
      have hcn : cj ≤ j := by
        rw [← hcj]
        unfold countV
        refine Nat.le_trans (List.length_filter_le _ _) ?_
        simp
        try omega
      rw [hcj] at hs ⊢
      have HS := Lib.hid hs
      clear hs hcj e1 d1 d2 d3 d4 d5 d6 d7
      have hc : (p1.1.dn = d ∧ (p1.1.dn == d) = true) ∨ (p1.1.dn ≠ d ∧ (p1.1.dn == d) = false) := by by_cases h : p1.1.dn = d <;> simp [h]
      rcases hc with ⟨hc, hd⟩ | ⟨hc, hd⟩
      all_goals
        have HQ := Lib.hid hc
        clear hc
        go_wp2_with fail
        go_roundw
        case rel =>
          refine ⟨j + 1, hjl, by first | rfl | (congr 1; omega), ?_, trivial⟩
          rw [HS.out]
          have := HQ.out
          simp [this]
          try (unfold wrap64; omega)
        case measure => simp [intOf]; omega
end Go.Proofs.Ytgoppolkplmphaa
