/-
  nightjarlaw26.ScriptOnes: for all bytes the law returns true. No conditions: for every input that can be read.
-/
import Derived.Test.YtgoppolkplmphaaRows
import Derived.Test.YtgoppolkplmphaaScriptSmall
import Derived.Test.YtgoppolkplmphaaOpen
import Derived.Test.YtgoppolkplmphaaRegion
namespace Go.Proofs.Ytgoppolkplmphaa
open Go.ChangeShapes Go.WideShapes Go.ChangeAt Go.RowKit

theorem actsOf_len (n : Nat) : ∀ ys : List Nat, ys.length ≤ n → (actsOf ys).length = ys.length / 4 := by
  induction n using Nat.strongRecOn with
  | _ n ih =>
    intro ys h
    match ys, h with
    | [], _ => rfl
    | [a], _ => rw [actsOf_small _ (by simp)]; simp
    | [a, b], _ => rw [actsOf_small _ (by simp)]; simp
    | [a, b, c], _ => rw [actsOf_small _ (by simp)]; simp
    | y0 :: y1 :: y2 :: y3 :: r, h =>
      simp only [List.length_cons] at h
      have h2 := ih (n - 4) (by omega) r (by omega)
      simp only [actsOf, List.length_cons, h2]
      omega

theorem actsOf_get (j : Nat) : ∀ (zs : List Nat) (y0 y1 y2 y3 : Nat) (r : List Nat), zs.drop (4 * j) = y0 :: y1 :: y2 :: y3 :: r → (actsOf zs)[j]? = some (actOf y0 y1 y2 y3) := by
  induction j with
  | zero => intro zs y0 y1 y2 y3 r h; simp at h; subst h; rfl
  | succ j ih =>
    intro zs y0 y1 y2 y3 r h
    match zs, h with
    | a :: b :: c :: d :: zs, h =>
      rw [show 4 * (j + 1) = 4 * j + 1 + 1 + 1 + 1 by omega] at h
      simp only [List.drop_succ_cons] at h
      simp only [actsOf, List.getElem?_cons_succ]
      exact ih zs y0 y1 y2 y3 r h
    | [], h => simp at h
    | [_], h => simp [show 4 * (j + 1) = 4 * j + 3 + 1 by omega] at h
    | [_, _], h => simp [show 4 * (j + 1) = 4 * j + 2 + 1 + 1 by omega] at h
    | [_, _, _], h => simp [show 4 * (j + 1) = 4 * j + 1 + 1 + 1 + 1 by omega] at h

theorem SlAt.set {w : World} {g : Nat} {T : TypeId} {cur : Array Value} {xs : List Value} (hB : Blk w g T cur) (h : SlAt w (some ⟨g, 0, none⟩) xs) (i : Nat) (v : Value) : SlAt (w.setCell ⟨g, i, none⟩ v) (some ⟨g, 0, none⟩) (xs.set i v) := by
  intro j u hj
  refine ⟨rfl, ?_⟩
  simp only [Nat.zero_add]
  have hlt : j < xs.length := by
    have := (List.getElem?_eq_some_iff.1 hj).1
    simpa using this
  have h2 := (h j _ (List.getElem?_eq_getElem hlt)).2
  simp only [Nat.zero_add] at h2
  rw [hB.cell?] at h2
  have hc : j < cur.size := (Array.getElem?_eq_some_iff.1 h2).1
  refine (hB.set i v).cell j ?_
  by_cases e : i = j
  · subst e
    rw [List.getElem?_set_self hlt] at hj
    rw [Array.getElem?_setIfInBounds_self_of_lt hc]
    exact hj
  · rw [List.getElem?_set_ne e] at hj
    rw [Array.getElem?_setIfInBounds_ne e, h2, ← hj, List.getElem?_eq_getElem hlt]

/-- One act that was handed back. -/
theorem act_single {w : World} {base : Nat} {val : Value} {R : ActRow} {v : ActV} (h : ActsOwn w base val R) (hR : R.map (·.1) = [v]) :
    ∃ g c s k, val = .slice (some ⟨g, 0, none⟩) 1 c ∧ base ≤ g ∧ (∀ W, Touch (fun k => k < base) w W → (W.cell? ⟨g, 0, none⟩ = some (.int .i64 v.dn) ∧ W.cell? ⟨g, 1, none⟩ = some (.int .i64 v.who) ∧ W.cell? ⟨g, 2, none⟩ = some (.int .i64 v.k) ∧ W.cell? ⟨g, 3, none⟩ = some (.int .i64 v.kd) ∧ W.cell? ⟨g, 4, none⟩ = some (.int .i64 v.st) ∧ W.cell? ⟨g, 5, none⟩ = some (.int .i64 v.op) ∧ W.cell? ⟨g, 6, none⟩ = some (.int .i64 v.us) ∧ W.cell? ⟨g, 7, none⟩ = some (.slice s v.inj.length k)) ∧ SlAt W s (bys v.inj)) := by
  match R, hR with
  | [q], hR =>
    obtain ⟨v', s, k⟩ := q
    simp at hR
    subst hR
    obtain ⟨a, c, rfl, h1, h2, h3, h4⟩ := owns_form h.row
    cases a with
    | none => exact absurd (h1 rfl).1 (by simp)
    | some x =>
      obtain ⟨g, o, sp⟩ := x
      obtain ⟨hb, ho, hs⟩ := h4 _ rfl
      simp at ho hs
      subst ho hs
      refine ⟨g, c, s, k, rfl, hb, fun W hW => ?_⟩
      have hg := (h.row.lt g rfl)
      have r := (RowAt.of_owns h).touch hW (fun x hx _ e => by cases hx; exact absurd e (Nat.not_lt.2 hg.1)) (fun q hq x hx hne e => by
        have := ((h.bytes q hq).lt x.block (by rw [hx]; rfl)).1
        omega)
      obtain ⟨b, o, e, d0, d1, d2, d3, d4, d5, d6, d7⟩ := r.at (i := 0) (q := (v', s, k)) rfl
      cases e
      exact ⟨⟨by simpa using d0, by simpa using d1, by simpa using d2, by simpa using d3, by simpa using d4, by simpa using d5, by simpa using d6, by simpa using d7⟩, r.bytes (v', s, k) (by simp)⟩

theorem rowCells_ne {R : ActRow} (h : R ≠ []) : rowCells R ≠ [] := by
  cases R with
  | nil => exact absurd rfl h
  | cons q l => simp [rowCells, actCells]

theorem actOf_turn (y0 y1 y2 y3 : Nat) : actOf ((y0 + 16) % 256) y1 y2 y3 = actOf y0 y1 y2 y3 := by
  have e : (y0 + 16) % 256 % 16 = y0 % 16 := by omega
  simp [actOf, e]
theorem actOf_less (y0 y1 y2 y3 : Nat) : actOf y0 (y1 % 3) y2 y3 = actOf y0 y1 y2 y3 := by
  have e : y1 % 3 % 3 = y1 % 3 := by omega
  simp [actOf, e]

set_option maxRecDepth 100000 in
set_option maxHeartbeats 4000000 in
theorem scriptOnes_walk (w : World) (a : Option Addr) (len cap : Nat) (xs : List Int) (hin : RowIn .u8 w a len cap xs) :
    Calls Try.prog 14 #[.slice a len cap] w fun e w' => e = .returned (.bool true) ∧ Below w.heap.size w w' := by
  obtain ⟨zs, rfl⟩ : ∃ zs : List Nat, xs = nats zs := ⟨xs.map Int.toNat, by
    have hr := hin.range
    simp only [nats, List.map_map]
    refine (List.map_id' xs).symm.trans (List.map_congr_left fun z hz => ?_)
    have := hr z hz
    simp
    omega⟩
  have hlen : zs.length = len := by have := hin.hlen; simpa [nats] using this
  subst hlen
  by_cases hn : 400 < zs.length
  · go_enter Try.func14, Try.ntmps14
    go_wp2_with fail
    refine (scriptSmall_any w).mono ?_
    rintro e w1 ⟨rfl, hb⟩
    go_wp2_with fail
    go_ret
    exact ⟨rfl, hb⟩
  have hr : ∀ y ∈ zs, y < 256 := fun y hy => by have := hin.range (y : Int) (List.mem_map.2 ⟨y, hy, rfl⟩); omega
  obtain ⟨i0, hi, hz0, hz1, hz2⟩ := info_parts Try.infoB5
  have hlec := hin.le
  have hcm := hin.hcap
  have HIN := Lib.hid (And.intro hin hr)
  clear hin hr
  go_enter Try.func14, Try.ntmps14
  go_wp2_with fail
  refine (scriptSmall_any w).mono ?_
  rintro e wa ⟨rfl, hb⟩
  have hsa : SlAt wa a (bys (nats zs)) := HIN.out.1.bys.touch (Touch.of_below (S := fun _ => False) hb) (fun _ _ _ h => h)
  have HB := Lib.hid (And.intro hb hsa)
  clear hb hsa
  go_wp2_with fail
  refine (acts_any a zs.length cap zs wa rfl HB.out.2 HIN.out.2 HIN.out.1.nil hlec hcm (by omega)).mono ?_
  rintro e wb ⟨vb, R, rfl, hown, hR, hbb⟩
  obtain ⟨aA, cA, rfl, hlA, hmA, hnA⟩ := acts_form hown
  have hRl : R.length = zs.length / 4 := by have h := congrArg List.length hR; rw [List.length_map, actsOf_len zs.length zs (Nat.le_refl _)] at h; exact h
  obtain ⟨n, hn4⟩ : ∃ n, R.length = n := ⟨_, rfl⟩
  rw [hn4] at hown hlA hRl ⊢
  have kq : (zs.length : Int).tdiv 4 = (n : Int) := by rw [Int.tdiv_eq_ediv_of_nonneg (by omega)]; omega
  have kq2 : (zs.length : Int) / 4 = (n : Int) := by omega
  have HR := Lib.hid (And.intro (RowAt.of_owns hown) (And.intro hR (And.intro hn4 (And.intro hbb hRl))))
  clear hown hR hbb hRl hnA
  go_wp2_with fail
  go_loopw [5] (fun i wz => ∃ j : Nat, j ≤ n ∧ i = .int .i64 j ∧ Below wb.heap.size wb wz) (fun i _ => (n - intOf i).toNat)
  case atStart => exact ⟨0, Nat.zero_le _, rfl, Below.refl _ _⟩
  case round =>
    obtain ⟨j, hj, rfl, hbr⟩ := hrel
    by_cases hq : j = n
    · subst hq
      go_wp2_with fail
      go_ret
      have b1 := HB.out.1
      have b2 := HR.out.2.2.2.1
      exact ⟨rfl, (b1.trans (b2.mono b1.size)).trans (hbr.mono (Nat.le_trans b1.size b2.size))⟩
    · have hjl : j < n := by omega
      have hj1 : (j : Int) < n := by omega
      have hj0 : (0 : Int) ≤ j := by omega
      have hkA : (n : Int) ≤ cA := by omega
      have h4j : 4 * j + 4 ≤ zs.length := by have := HR.out.2.2.2.2; omega
      obtain ⟨y0, y1, y2, y3, rest, hd⟩ : ∃ y0 y1 y2 y3 rest, zs.drop (4 * j) = y0 :: y1 :: y2 :: y3 :: rest := by
        have hl : (zs.drop (4 * j)).length = zs.length - 4 * j := by simp
        match zs.drop (4 * j), hl with
        | y0 :: y1 :: y2 :: y3 :: rest, _ => exact ⟨_, _, _, _, _, rfl⟩
        | [], h => simp at h; omega
        | [_], h => simp at h; omega
        | [_, _], h => simp at h; omega
        | [_, _, _], h => simp at h; omega
      have g : ∀ y, y ∈ [y0, y1, y2, y3] → y < 256 := fun y hy => HIN.out.2 y (List.mem_of_mem_drop (i := 4 * j) (by rw [hd]; simp at hy ⊢; rcases hy with rfl | rfl | rfl | rfl <;> simp))
      have g0 := g y0 (by simp)
      have g1 := g y1 (by simp)
      have g2 := g y2 (by simp)
      have g3 := g y3 (by simp)
      have hget := actsOf_get j zs y0 y1 y2 y3 rest hd
      obtain ⟨v, hv⟩ : ∃ v, v = actOf y0 y1 y2 y3 := ⟨_, rfl⟩
      obtain ⟨q, hq1⟩ : ∃ q, R[j]? = some q := ⟨_, List.getElem?_eq_getElem (by have := HR.out.2.2.1; omega)⟩
      obtain ⟨v', sa, ca⟩ := q
      obtain rfl : v' = v := by
        have h := congrArg (fun l => l[j]?) HR.out.2.1
        simp [hq1, hget] at h
        rw [h, hv]
      obtain ⟨ga, oa, haA, _⟩ := HR.out.1.at hq1
      subst haA
      have hsr := HB.out.2.touch (Touch.of_below (S := fun _ => False) (HR.out.2.2.2.1.trans (hbr.mono HR.out.2.2.2.1.size))) (fun _ _ _ h => h)
      obtain ⟨b, o, ha, _⟩ := hsr.get (k := 4 * j) (u := .int .u8 y0) (by
        have h := congrArg (fun l => l[0]?) hd
        simp at h
        simp [bys, nats, h])
      subst ha
      have hs4 : SlAt wr (some ⟨b, o + 4 * j, none⟩) (bys [(y0 : Int), y1, y2, y3]) := by
        have h := (hsr.drop (4 * j)).take 4
        have e : ((bys (nats zs)).drop (4 * j)).take 4 = bys [(y0 : Int), y1, y2, y3] := by
          have e2 : (bys (nats zs)).drop (4 * j) = bys (nats (zs.drop (4 * j))) := by simp [bys, nats]
          rw [e2, hd]
          simp [bys, nats]
        rw [e] at h
        exact h
      have hsv : SlAt (wr.alloc (.cells #[] 5)) (some ⟨b, o + 4 * j, none⟩) (bys [(y0 : Int), y1, y2, y3]) := hs4.touch ((Touch.refl (fun _ => False) _).alloc _) (fun _ _ _ h => h)
      have kw1 : IntKind.i64.wrap (4 * (j : Int)) = 4 * (j : Int) := IntWalk.i64_in _ (by omega)
      have kw2 : IntKind.i64.wrap (4 * (j : Int) + 4) = 4 * (j : Int) + 4 := IntWalk.i64_in _ (by omega)
      have kb1 : (0 : Int) ≤ 4 * (j : Int) := by omega
      have kb2 : (4 * (j : Int)) ≤ 4 * (j : Int) + 4 := by omega
      have kb3 : (4 * (j : Int) + 4) ≤ cap := by omega
      have kn1 : (4 * (j : Int)).toNat = 4 * j := by omega
      have kn2 : (4 * (j : Int) + 4).toNat = 4 * j + 4 := by omega
      have kn3 : 4 * j + 4 - 4 * j = 4 := by omega
      have kc : ¬ cap = 4 * j := by omega
      have H1 := Lib.hid (And.intro hv (And.intro hq1 hbr))
      clear hget hq1 hd hsr hs4 g hv hbr
      go_wp2_with (at_builtin; refine wpList_append_any rfl (.tmp 29) (.tmp 36) 31 rfl wr.heap.size 5 i0 (.int .u8 0) 1 Try.underlying31 hi hz0 hz1 hz2 rfl _ 0 [] rfl (World.ownsRow_made wr #[] 0 (Nat.le_refl _) (Nat.zero_le _) rfl) (some ⟨b, o + 4 * j, none⟩) 4 (cap - 4 * j) (bys [(y0 : Int), y1, y2, y3]) rfl rfl hsv (fun h => by cases h) (bys_one _) (by unfold maxLen; omega) (by omega) (by simp) ?_; intro v1 wA ho1 hg1 hnn; have tg : Touch (fun _ => False) wr wA := ((Touch.refl _ _).alloc _).grown hg1 (fun k hk => by cases hk; exact fun h => absurd h (Nat.lt_irrefl _)); obtain ⟨gc, cc, rfl, hgb, hgl, _⟩ := owns_some ho1 (by decide); have HA := Lib.hid (And.intro ho1 tg); clear ho1 hg1 hnn tg)
      obtain ⟨cur, hBc, hcz⟩ : ∃ cur, Blk wA gc 5 cur ∧ 4 ≤ cur.size := by
        rcases HA.out.1.2 with ⟨e, _⟩ | ⟨g', c', cur, e, _, hh, hn', _, hcz, _⟩
        · cases e
        · cases e
          exact ⟨cur, hh, by omega⟩
      have hsc : SlAt wA (some ⟨gc, 0, none⟩) (bys (nats [y0, y1, y2, y3])) := SlAt.of_owns HA.out.1
      have hr4 : ∀ y ∈ [y0, y1, y2, y3], y < 256 := by intro y hy; simp at hy; rcases hy with rfl | rfl | rfl | rfl <;> assumption
      have hgA : gc < wA.heap.size := hBc.lt
      have hzA := HA.out.2.size
      refine (acts_any (some ⟨gc, 0, none⟩) 4 cc [y0, y1, y2, y3] wA rfl hsc hr4 (fun h => by cases h) hgl (by assumption) (by decide)).mono ?_
      rintro e w1 ⟨x1, R1, rfl, hown1, hR1, hb1⟩
      rw [show actsOf [y0, y1, y2, y3] = [actOf y0 y1 y2 y3] from rfl, ← H1.out.1] at hR1
      obtain ⟨g1, k1, s1, c1, rfl, hg1, G1⟩ := act_single hown1 hR1
      have t1 : Touch (fun _ => False) wA w1 := Touch.of_below hb1
      have hBc1 := hBc.touch t1 (fun h => h)
      have hsc1 := hsc.touch t1 (fun _ _ _ h => h)
      obtain ⟨u0, hu0⟩ : ∃ u0, u0 = ((y0 + 16) % 256 : Nat) := ⟨_, rfl⟩
      have kw3 : IntKind.u8.wrap ((y0 : Int) + 16) = (u0 : Int) := by rw [hu0]; simp [IntKind.wrap, IntKind.bits, IntKind.signed]
      have d0 : w1.cell? ⟨gc, 0, none⟩ = some (.int .u8 y0) := by have := (hsc1 0 _ rfl).2; simpa using this
      have f0 := hBc1.frozen 0
      have P1 := Lib.hid (And.intro hBc1 (And.intro hsc1 (And.intro t1 hu0)))
      clear hBc hsc hBc1 hsc1 t1 hu0 hown1 hR1 hb1 hsv
      go_wp2_with fail
      have hsc2 : SlAt (w1.setCell ⟨gc, 0, none⟩ (.int .u8 u0)) (some ⟨gc, 0, none⟩) (bys (nats [u0, y1, y2, y3])) := P1.out.2.1.set P1.out.1 0 (.int .u8 u0)
      have hu : u0 < 256 := by have := P1.out.2.2.2; omega
      refine (acts_any (some ⟨gc, 0, none⟩) 4 cc [u0, y1, y2, y3] _ rfl hsc2 (by intro y hy; simp at hy; rcases hy with rfl | rfl | rfl | rfl <;> assumption) (fun h => by cases h) hgl (by assumption) (by decide)).mono ?_
      rintro e w2 ⟨x2, R2, rfl, hown2, hR2, hb2⟩
      rw [show actsOf [u0, y1, y2, y3] = [actOf u0 y1 y2 y3] from rfl, P1.out.2.2.2, actOf_turn, ← H1.out.1] at hR2
      obtain ⟨g2, k2, s2, c2, rfl, hg2, G2⟩ := act_single hown2 hR2
      have hB2 : Blk w2 gc 5 (cur.setIfInBounds 0 (.int .u8 u0)) := (P1.out.1.set 0 (.int .u8 u0)).touch (Touch.of_below (S := fun _ => False) hb2) (fun h => h)
      have hsc2' := hsc2.touch (Touch.of_below (S := fun _ => False) hb2) (fun _ _ _ h => h)
      have e1 : w2.cell? ⟨gc, 1, none⟩ = some (.int .u8 y1) := by have := (hsc2' 1 _ rfl).2; simpa using this
      have f1 := hB2.frozen 1
      obtain ⟨m1, hm1⟩ : ∃ m1, m1 = y1 % 3 := ⟨_, rfl⟩
      have kw4 : IntKind.i64.wrap (y1 : Int) = y1 := IntWalk.i64_in _ (by omega)
      have kw5 : (y1 : Int).tmod 3 = (m1 : Int) := by rw [Int.tmod_eq_emod_of_nonneg (by omega)]; omega
      have kw7 : (y1 : Int) % 3 = (m1 : Int) := by omega
      have kw6 : IntKind.u8.wrap (m1 : Int) = m1 := by simp [IntKind.wrap, IntKind.bits, IntKind.signed]; omega
      have P2 := Lib.hid (And.intro hB2 (And.intro hsc2' (And.intro hb2 hm1)))
      clear hB2 hsc2 hsc2' hb2 hm1 hown2 hR2
      go_wp2_with fail
      have hsc3 : SlAt (w2.setCell ⟨gc, 1, none⟩ (.int .u8 m1)) (some ⟨gc, 0, none⟩) (bys (nats [u0, m1, y2, y3])) := P2.out.2.1.set P2.out.1 1 (.int .u8 m1)
      have hmm : m1 < 256 := by have := P2.out.2.2.2; omega
      refine (acts_any (some ⟨gc, 0, none⟩) 4 cc [u0, m1, y2, y3] _ rfl hsc3 (by intro y hy; simp at hy; rcases hy with rfl | rfl | rfl | rfl <;> assumption) (fun h => by cases h) hgl (by assumption) (by decide)).mono ?_
      rintro e w3 ⟨x3, R3, rfl, hown3, hR3, hb3⟩
      rw [show actsOf [u0, m1, y2, y3] = [actOf u0 m1 y2 y3] from rfl, P1.out.2.2.2, P2.out.2.2.2, actOf_turn, actOf_less, ← H1.out.1] at hR3
      obtain ⟨g3, k3, s3, c3, rfl, hg3, G3⟩ := act_single hown3 hR3
      have zA1 := P1.out.2.2.1.size
      have z12 := P2.out.2.2.1.size
      have T13 : ∀ S : Nat → Prop, S gc → Touch S w1 w3 := fun S hS => (Touch.setCell (S := S) (Touch.refl _ _) (p := ⟨gc, 0, none⟩) (fun _ => hS) (.int .u8 u0)).trans ((Touch.of_below P2.out.2.2.1).trans ((Touch.setCell (S := S) (Touch.refl _ _) (p := ⟨gc, 1, none⟩) (fun _ => hS) (.int .u8 m1)).trans (Touch.of_below hb3)))
      have T23 : ∀ S : Nat → Prop, S gc → Touch S w2 w3 := fun S hS => (Touch.setCell (S := S) (Touch.refl _ _) (p := ⟨gc, 1, none⟩) (fun _ => hS) (.int .u8 m1)).trans (Touch.of_below hb3)
      have Tb3 : Touch (fun k => wb.heap.size ≤ k) wb w3 := ((Touch.of_below (S := fun k => wb.heap.size ≤ k) H1.out.2.2).trans ((HA.out.2.mono (fun _ _ h => h.elim)).trans (P1.out.2.2.1.mono (fun _ _ h => h.elim)))).trans (T13 _ (Nat.le_trans H1.out.2.2.size hgb))
      have CA : ∀ W, Touch (fun _ => False) w3 W → (W.cell? ⟨ga, oa + j * 8, none⟩ = some (.int .i64 v'.dn) ∧ W.cell? ⟨ga, oa + j * 8 + 1, none⟩ = some (.int .i64 v'.who) ∧ W.cell? ⟨ga, oa + j * 8 + 2, none⟩ = some (.int .i64 v'.k) ∧ W.cell? ⟨ga, oa + j * 8 + 3, none⟩ = some (.int .i64 v'.kd) ∧ W.cell? ⟨ga, oa + j * 8 + 4, none⟩ = some (.int .i64 v'.st) ∧ W.cell? ⟨ga, oa + j * 8 + 5, none⟩ = some (.int .i64 v'.op) ∧ W.cell? ⟨ga, oa + j * 8 + 6, none⟩ = some (.int .i64 v'.us) ∧ W.cell? ⟨ga, oa + j * 8 + 7, none⟩ = some (.slice sa v'.inj.length ca)) ∧ SlAt W sa (bys v'.inj) := fun W hW => by
        have r := HR.out.1.touch (Tb3.trans (hW.mono (fun _ _ h => h.elim))) (fun x hx hne e => by
            cases hx
            have := HR.out.1.cells.lt (x := ⟨ga, oa, none⟩) (rowCells_ne hne)
            simp at this e
            omega) (fun q hq x hx hne e => by
            have h0 := HR.out.1.bytes q hq
            rw [hx] at h0
            have := h0.lt (by simpa [bys] using hne)
            omega)
        obtain ⟨b', o', e, d0, d1, d2, d3, d4, d5, d6, d7⟩ := r.at H1.out.2.1
        cases e
        exact ⟨⟨d0, d1, d2, d3, d4, d5, d6, d7⟩, r.bytes _ (List.mem_of_getElem? H1.out.2.1)⟩
      have C1 := fun W (hW : Touch (fun _ => False) w3 W) => G1 W ((T13 (fun k => k < wA.heap.size) hgA).trans (hW.mono (fun _ _ h => h.elim)))
      have C2 := fun W (hW : Touch (fun _ => False) w3 W) => G2 W ((T23 (fun k => k < (w1.setCell ⟨gc, 0, none⟩ (.int .u8 u0)).heap.size) (by simp; omega)).trans (hW.mono (fun _ _ h => h.elim)))
      have C3 := fun W (hW : Touch (fun _ => False) w3 W) => G3 W (hW.mono (fun _ _ h => h.elim))
      have HC := Lib.hid (And.intro (fun W (hW : Touch (fun _ => False) w3 W) => (show ((W.cell? ⟨g1, 0, none⟩ = some (.int .i64 v'.dn) ∧ W.cell? ⟨g1, 1, none⟩ = some (.int .i64 v'.who) ∧ W.cell? ⟨g1, 2, none⟩ = some (.int .i64 v'.k) ∧ W.cell? ⟨g1, 3, none⟩ = some (.int .i64 v'.kd) ∧ W.cell? ⟨g1, 4, none⟩ = some (.int .i64 v'.st) ∧ W.cell? ⟨g1, 5, none⟩ = some (.int .i64 v'.op) ∧ W.cell? ⟨g1, 6, none⟩ = some (.int .i64 v'.us) ∧ W.cell? ⟨g1, 7, none⟩ = some (.slice s1 v'.inj.length c1)) ∧ (W.cell? ⟨g2, 0, none⟩ = some (.int .i64 v'.dn) ∧ W.cell? ⟨g2, 1, none⟩ = some (.int .i64 v'.who) ∧ W.cell? ⟨g2, 2, none⟩ = some (.int .i64 v'.k) ∧ W.cell? ⟨g2, 3, none⟩ = some (.int .i64 v'.kd) ∧ W.cell? ⟨g2, 4, none⟩ = some (.int .i64 v'.st) ∧ W.cell? ⟨g2, 5, none⟩ = some (.int .i64 v'.op) ∧ W.cell? ⟨g2, 6, none⟩ = some (.int .i64 v'.us) ∧ W.cell? ⟨g2, 7, none⟩ = some (.slice s2 v'.inj.length c2))) ∧ (W.cell? ⟨g3, 0, none⟩ = some (.int .i64 v'.dn) ∧ W.cell? ⟨g3, 1, none⟩ = some (.int .i64 v'.who) ∧ W.cell? ⟨g3, 2, none⟩ = some (.int .i64 v'.k) ∧ W.cell? ⟨g3, 3, none⟩ = some (.int .i64 v'.kd) ∧ W.cell? ⟨g3, 4, none⟩ = some (.int .i64 v'.st) ∧ W.cell? ⟨g3, 5, none⟩ = some (.int .i64 v'.op) ∧ W.cell? ⟨g3, 6, none⟩ = some (.int .i64 v'.us) ∧ W.cell? ⟨g3, 7, none⟩ = some (.slice s3 v'.inj.length c3)) ∧ (W.cell? ⟨ga, oa + j * 8, none⟩ = some (.int .i64 v'.dn) ∧ W.cell? ⟨ga, oa + j * 8 + 1, none⟩ = some (.int .i64 v'.who) ∧ W.cell? ⟨ga, oa + j * 8 + 2, none⟩ = some (.int .i64 v'.k) ∧ W.cell? ⟨ga, oa + j * 8 + 3, none⟩ = some (.int .i64 v'.kd) ∧ W.cell? ⟨ga, oa + j * 8 + 4, none⟩ = some (.int .i64 v'.st) ∧ W.cell? ⟨ga, oa + j * 8 + 5, none⟩ = some (.int .i64 v'.op) ∧ W.cell? ⟨ga, oa + j * 8 + 6, none⟩ = some (.int .i64 v'.us) ∧ W.cell? ⟨ga, oa + j * 8 + 7, none⟩ = some (.slice sa v'.inj.length ca)) from ⟨⟨(C1 W hW).1, (C2 W hW).1⟩, (C3 W hW).1, (CA W hW).1⟩)) (And.intro (fun W (hW : Touch (fun _ => False) w3 W) => (C1 W hW).2) (And.intro (fun W (hW : Touch (fun _ => False) w3 W) => (C2 W hW).2) (And.intro (fun W (hW : Touch (fun _ => False) w3 W) => (C3 W hW).2) (fun W (hW : Touch (fun _ => False) w3 W) => (CA W hW).2)))))
      have HT := Lib.hid Tb3
      clear C1 C2 C3 CA T13 T23 Tb3 G1 G2 G3 hown3 hR3 hb3 hsc3 d0 e1 f0 f1
      go_wp2_with fail
      refine wp_region_held_drew (S := fun w' : World => ((w'.cell? ⟨g1, 0, none⟩ = some (.int .i64 v'.dn) ∧ w'.cell? ⟨g1, 1, none⟩ = some (.int .i64 v'.who) ∧ w'.cell? ⟨g1, 2, none⟩ = some (.int .i64 v'.k) ∧ w'.cell? ⟨g1, 3, none⟩ = some (.int .i64 v'.kd) ∧ w'.cell? ⟨g1, 4, none⟩ = some (.int .i64 v'.st) ∧ w'.cell? ⟨g1, 5, none⟩ = some (.int .i64 v'.op) ∧ w'.cell? ⟨g1, 6, none⟩ = some (.int .i64 v'.us) ∧ w'.cell? ⟨g1, 7, none⟩ = some (.slice s1 v'.inj.length c1)) ∧ (w'.cell? ⟨g2, 0, none⟩ = some (.int .i64 v'.dn) ∧ w'.cell? ⟨g2, 1, none⟩ = some (.int .i64 v'.who) ∧ w'.cell? ⟨g2, 2, none⟩ = some (.int .i64 v'.k) ∧ w'.cell? ⟨g2, 3, none⟩ = some (.int .i64 v'.kd) ∧ w'.cell? ⟨g2, 4, none⟩ = some (.int .i64 v'.st) ∧ w'.cell? ⟨g2, 5, none⟩ = some (.int .i64 v'.op) ∧ w'.cell? ⟨g2, 6, none⟩ = some (.int .i64 v'.us) ∧ w'.cell? ⟨g2, 7, none⟩ = some (.slice s2 v'.inj.length c2))) ∧ (w'.cell? ⟨g3, 0, none⟩ = some (.int .i64 v'.dn) ∧ w'.cell? ⟨g3, 1, none⟩ = some (.int .i64 v'.who) ∧ w'.cell? ⟨g3, 2, none⟩ = some (.int .i64 v'.k) ∧ w'.cell? ⟨g3, 3, none⟩ = some (.int .i64 v'.kd) ∧ w'.cell? ⟨g3, 4, none⟩ = some (.int .i64 v'.st) ∧ w'.cell? ⟨g3, 5, none⟩ = some (.int .i64 v'.op) ∧ w'.cell? ⟨g3, 6, none⟩ = some (.int .i64 v'.us) ∧ w'.cell? ⟨g3, 7, none⟩ = some (.slice s3 v'.inj.length c3)) ∧ (w'.cell? ⟨ga, oa + j * 8, none⟩ = some (.int .i64 v'.dn) ∧ w'.cell? ⟨ga, oa + j * 8 + 1, none⟩ = some (.int .i64 v'.who) ∧ w'.cell? ⟨ga, oa + j * 8 + 2, none⟩ = some (.int .i64 v'.k) ∧ w'.cell? ⟨ga, oa + j * 8 + 3, none⟩ = some (.int .i64 v'.kd) ∧ w'.cell? ⟨ga, oa + j * 8 + 4, none⟩ = some (.int .i64 v'.st) ∧ w'.cell? ⟨ga, oa + j * 8 + 5, none⟩ = some (.int .i64 v'.op) ∧ w'.cell? ⟨ga, oa + j * 8 + 6, none⟩ = some (.int .i64 v'.us) ∧ w'.cell? ⟨ga, oa + j * 8 + 7, none⟩ = some (.slice sa v'.inj.length ca))) (by kernel_rfl) (HC.out.1 _ ((Touch.refl _ _).drew)) (fun hHeld => ?_)
      refine region_take 0 (v := ?va0) rfl rfl (by kernel_rfl) (by kernel_rfl) (by kernel_rfl) (fun _ _ _ h => h) hHeld (Or.inl ⟨by rfl, ?ya0⟩) ?ra0
      case ya0 => (intro w hSw; (try dsimp only at hSw); go_simp; try with_reducible rfl)
      try simp only [Act.put, List.setIfInBounds_toArray, List.set_cons_zero, List.set_cons_succ]
      refine region_take 1 (v := ?va1) rfl rfl (by kernel_rfl) (by kernel_rfl) (by kernel_rfl) (fun _ _ _ h => h) hHeld (Or.inl ⟨by rfl, ?ya1⟩) ?ra1
      case ya1 => (intro w hSw; (try dsimp only at hSw); go_simp; try with_reducible rfl)
      try simp only [Act.put, List.setIfInBounds_toArray, List.set_cons_zero, List.set_cons_succ]
      refine region_take 2 (v := ?va2) rfl rfl (by kernel_rfl) (by kernel_rfl) (by kernel_rfl) (fun _ _ _ h => h) hHeld (Or.inl ⟨by rfl, ?ya2⟩) ?ra2
      case ya2 => (intro w hSw; (try dsimp only at hSw); go_simp; try with_reducible rfl)
      try simp only [Act.put, List.setIfInBounds_toArray, List.set_cons_zero, List.set_cons_succ]
      refine region_take 3 (v := ?va3) rfl rfl (by kernel_rfl) (by kernel_rfl) (by kernel_rfl) (fun _ _ _ h => h) hHeld (Or.inl ⟨by rfl, ?ya3⟩) ?ra3
      case ya3 => (intro w hSw; (try dsimp only at hSw); go_simp; try with_reducible rfl)
      try simp only [Act.put, List.setIfInBounds_toArray, List.set_cons_zero, List.set_cons_succ]
      refine region_take 4 (v := ?va4) rfl rfl (by kernel_rfl) (by kernel_rfl) (by kernel_rfl) (fun _ _ _ h => h) hHeld (Or.inl ⟨by rfl, ?ya4⟩) ?ra4
      case ya4 => (intro w hSw; (try dsimp only at hSw); go_simp; try with_reducible rfl)
      try simp only [Act.put, List.setIfInBounds_toArray, List.set_cons_zero, List.set_cons_succ]
      refine region_take 5 (v := ?va5) rfl rfl (by kernel_rfl) (by kernel_rfl) (by kernel_rfl) (fun _ _ _ h => h) hHeld (Or.inl ⟨by rfl, ?ya5⟩) ?ra5
      case ya5 => (intro w hSw; (try dsimp only at hSw); go_simp; try with_reducible rfl)
      try simp only [Act.put, List.setIfInBounds_toArray, List.set_cons_zero, List.set_cons_succ]
      refine region_take 6 (v := ?va6) rfl rfl (by kernel_rfl) (by kernel_rfl) (by kernel_rfl) (fun _ _ _ h => h) hHeld (Or.inl ⟨by rfl, ?ya6⟩) ?ra6
      case ya6 => (intro w hSw; (try dsimp only at hSw); go_simp; try with_reducible rfl)
      try simp only [Act.put, List.setIfInBounds_toArray, List.set_cons_zero, List.set_cons_succ]
      refine region_take 7 (v := ?va7) rfl rfl (by kernel_rfl) (by kernel_rfl) (by kernel_rfl) (fun _ _ _ h => h) hHeld (Or.inl ⟨by rfl, ?ya7⟩) ?ra7
      case ya7 => (intro w hSw; (try dsimp only at hSw); go_simp; try with_reducible rfl)
      try simp only [Act.put, List.setIfInBounds_toArray, List.set_cons_zero, List.set_cons_succ]
      refine region_take 8 (v := ?va8) rfl rfl (by kernel_rfl) (by kernel_rfl) (by kernel_rfl) (fun _ _ _ h => h) hHeld (Or.inl ⟨by rfl, ?ya8⟩) ?ra8
      case ya8 => (intro w hSw; (try dsimp only at hSw); go_simp; try with_reducible rfl)
      try simp only [Act.put, List.setIfInBounds_toArray, List.set_cons_zero, List.set_cons_succ]
      refine region_take 9 (v := ?va9) rfl rfl (by kernel_rfl) (by kernel_rfl) (by kernel_rfl) (fun _ _ _ h => h) hHeld (Or.inl ⟨by rfl, ?ya9⟩) ?ra9
      case ya9 => (intro w hSw; (try dsimp only at hSw); go_simp; try with_reducible rfl)
      try simp only [Act.put, List.setIfInBounds_toArray, List.set_cons_zero, List.set_cons_succ]
      refine region_take 10 (v := ?va10) rfl rfl (by kernel_rfl) (by kernel_rfl) (by kernel_rfl) (fun _ _ _ h => h) hHeld (Or.inl ⟨by rfl, ?ya10⟩) ?ra10
      case ya10 => (intro w hSw; (try dsimp only at hSw); go_simp; try with_reducible rfl)
      try simp only [Act.put, List.setIfInBounds_toArray, List.set_cons_zero, List.set_cons_succ]
      refine region_take 11 (v := ?va11) rfl rfl (by kernel_rfl) (by kernel_rfl) (by kernel_rfl) (fun _ _ _ h => h) hHeld (Or.inl ⟨by rfl, ?ya11⟩) ?ra11
      case ya11 => (intro w hSw; (try dsimp only at hSw); go_simp; try with_reducible rfl)
      try simp only [Act.put, List.setIfInBounds_toArray, List.set_cons_zero, List.set_cons_succ]
      refine region_take 12 (v := ?va12) rfl rfl (by kernel_rfl) (by kernel_rfl) (by kernel_rfl) (fun _ _ _ h => h) hHeld (Or.inl ⟨by rfl, ?ya12⟩) ?ra12
      case ya12 => (intro w hSw; (try dsimp only at hSw); go_simp; try with_reducible rfl)
      try simp only [Act.put, List.setIfInBounds_toArray, List.set_cons_zero, List.set_cons_succ]
      refine region_take 13 (v := ?va13) rfl rfl (by kernel_rfl) (by kernel_rfl) (by kernel_rfl) (fun _ _ _ h => h) hHeld (Or.inl ⟨by rfl, ?ya13⟩) ?ra13
      case ya13 => (intro w hSw; (try dsimp only at hSw); go_simp; try with_reducible rfl)
      try simp only [Act.put, List.setIfInBounds_toArray, List.set_cons_zero, List.set_cons_succ]
      refine region_take 14 (v := ?va14) rfl rfl (by kernel_rfl) (by kernel_rfl) (by kernel_rfl) (fun _ _ _ h => h) hHeld (Or.inl ⟨by rfl, ?ya14⟩) ?ra14
      case ya14 => (intro w hSw; (try dsimp only at hSw); go_simp; try with_reducible rfl)
      try simp only [Act.put, List.setIfInBounds_toArray, List.set_cons_zero, List.set_cons_succ]
      refine region_take 15 (v := ?va15) rfl rfl (by kernel_rfl) (by kernel_rfl) (by kernel_rfl) (fun _ _ _ h => h) hHeld (Or.inl ⟨by rfl, ?ya15⟩) ?ra15
      case ya15 => (intro w hSw; (try dsimp only at hSw); go_simp; try with_reducible rfl)
      try simp only [Act.put, List.setIfInBounds_toArray, List.set_cons_zero, List.set_cons_succ]
      refine region_take 16 (v := ?va16) rfl rfl (by kernel_rfl) (by kernel_rfl) (by kernel_rfl) (fun _ _ _ h => h) hHeld (Or.inl ⟨by rfl, ?ya16⟩) ?ra16
      case ya16 => (intro w hSw; (try dsimp only at hSw); go_simp; try with_reducible rfl)
      try simp only [Act.put, List.setIfInBounds_toArray, List.set_cons_zero, List.set_cons_succ]
      refine region_take 17 (v := ?va17) rfl rfl (by kernel_rfl) (by kernel_rfl) (by kernel_rfl) (fun _ _ _ h => h) hHeld (Or.inl ⟨by rfl, ?ya17⟩) ?ra17
      case ya17 => (intro w hSw; (try dsimp only at hSw); go_simp; try with_reducible rfl)
      try simp only [Act.put, List.setIfInBounds_toArray, List.set_cons_zero, List.set_cons_succ]
      refine region_take 18 (v := ?va18) rfl rfl (by kernel_rfl) (by kernel_rfl) (by kernel_rfl) (fun _ _ _ h => h) hHeld (Or.inl ⟨by rfl, ?ya18⟩) ?ra18
      case ya18 => (intro w hSw; (try dsimp only at hSw); go_simp; try with_reducible rfl)
      try simp only [Act.put, List.setIfInBounds_toArray, List.set_cons_zero, List.set_cons_succ]
      refine region_take 19 (v := ?va19) rfl rfl (by kernel_rfl) (by kernel_rfl) (by kernel_rfl) (fun _ _ _ h => h) hHeld (Or.inl ⟨by rfl, ?ya19⟩) ?ra19
      case ya19 => (intro w hSw; (try dsimp only at hSw); go_simp; try with_reducible rfl)
      try simp only [Act.put, List.setIfInBounds_toArray, List.set_cons_zero, List.set_cons_succ]
      refine region_take 20 (v := ?va20) rfl rfl (by kernel_rfl) (by kernel_rfl) (by kernel_rfl) (fun _ _ _ h => h) hHeld (Or.inl ⟨by rfl, ?ya20⟩) ?ra20
      case ya20 => (intro w hSw; (try dsimp only at hSw); go_simp; try with_reducible rfl)
      try simp only [Act.put, List.setIfInBounds_toArray, List.set_cons_zero, List.set_cons_succ]
      refine region_one 21 (by kernel_rfl) rfl (fun K hK => ?_)
      go_simp
      go_at_call 43
      (with_reducible refine (one_eq v' s1 sa c1 ca _ (HC.out.2.1 _ ((Touch.refl _ _).drew)) (HC.out.2.2.2.2 _ ((Touch.refl _ _).drew))).mono ?_)
      rintro e u1 ⟨rfl, hb1⟩
      have t1 := Lib.hid (((Touch.refl (fun _ => False) w3).drew).trans (Touch.of_below hb1))
      clear hb1
      refine hK.out _ _ (HC.out.1 _ t1.out) (fun _ => ?_)
      clear hK K hHeld
      have hHeld := HC.out.1 _ t1.out
      try simp only [Act.put, List.setIfInBounds_toArray, List.set_cons_zero, List.set_cons_succ]
      refine region_take 22 (v := ?va22) rfl rfl (by kernel_rfl) (by kernel_rfl) (by kernel_rfl) (fun _ _ _ h => h) hHeld (Or.inl ⟨by rfl, ?ya22⟩) ?ra22
      case ya22 => (intro w hSw; (try dsimp only at hSw); go_simp; try with_reducible rfl)
      try simp only [Act.put, List.setIfInBounds_toArray, List.set_cons_zero, List.set_cons_succ]
      refine region_take 23 (v := ?va23) rfl rfl (by kernel_rfl) (by kernel_rfl) (by kernel_rfl) (fun _ _ _ h => h) hHeld (Or.inl ⟨by rfl, ?ya23⟩) ?ra23
      case ya23 => (intro w hSw; (try dsimp only at hSw); go_simp; try with_reducible rfl)
      try simp only [Act.put, List.setIfInBounds_toArray, List.set_cons_zero, List.set_cons_succ]
      refine region_take 24 (v := ?va24) rfl rfl (by kernel_rfl) (by kernel_rfl) (by kernel_rfl) (fun _ _ _ h => h) hHeld (Or.inl ⟨by rfl, ?ya24⟩) ?ra24
      case ya24 => (intro w hSw; (try dsimp only at hSw); go_simp; try with_reducible rfl)
      try simp only [Act.put, List.setIfInBounds_toArray, List.set_cons_zero, List.set_cons_succ]
      refine region_take 25 (v := ?va25) rfl rfl (by kernel_rfl) (by kernel_rfl) (by kernel_rfl) (fun _ _ _ h => h) hHeld (Or.inl ⟨by rfl, ?ya25⟩) ?ra25
      case ya25 => (intro w hSw; (try dsimp only at hSw); go_simp; try with_reducible rfl)
      try simp only [Act.put, List.setIfInBounds_toArray, List.set_cons_zero, List.set_cons_succ]
      refine region_take 26 (v := ?va26) rfl rfl (by kernel_rfl) (by kernel_rfl) (by kernel_rfl) (fun _ _ _ h => h) hHeld (Or.inl ⟨by rfl, ?ya26⟩) ?ra26
      case ya26 => (intro w hSw; (try dsimp only at hSw); go_simp; try with_reducible rfl)
      try simp only [Act.put, List.setIfInBounds_toArray, List.set_cons_zero, List.set_cons_succ]
      refine region_take 27 (v := ?va27) rfl rfl (by kernel_rfl) (by kernel_rfl) (by kernel_rfl) (fun _ _ _ h => h) hHeld (Or.inl ⟨by rfl, ?ya27⟩) ?ra27
      case ya27 => (intro w hSw; (try dsimp only at hSw); go_simp; try with_reducible rfl)
      try simp only [Act.put, List.setIfInBounds_toArray, List.set_cons_zero, List.set_cons_succ]
      refine region_take 28 (v := ?va28) rfl rfl (by kernel_rfl) (by kernel_rfl) (by kernel_rfl) (fun _ _ _ h => h) hHeld (Or.inl ⟨by rfl, ?ya28⟩) ?ra28
      case ya28 => (intro w hSw; (try dsimp only at hSw); go_simp; try with_reducible rfl)
      try simp only [Act.put, List.setIfInBounds_toArray, List.set_cons_zero, List.set_cons_succ]
      refine region_take 29 (v := ?va29) rfl rfl (by kernel_rfl) (by kernel_rfl) (by kernel_rfl) (fun _ _ _ h => h) hHeld (Or.inl ⟨by rfl, ?ya29⟩) ?ra29
      case ya29 => (intro w hSw; (try dsimp only at hSw); go_simp; try with_reducible rfl)
      try simp only [Act.put, List.setIfInBounds_toArray, List.set_cons_zero, List.set_cons_succ]
      refine region_take 30 (v := ?va30) rfl rfl (by kernel_rfl) (by kernel_rfl) (by kernel_rfl) (fun _ _ _ h => h) hHeld (Or.inl ⟨by rfl, ?ya30⟩) ?ra30
      case ya30 => (intro w hSw; (try dsimp only at hSw); go_simp; try with_reducible rfl)
      try simp only [Act.put, List.setIfInBounds_toArray, List.set_cons_zero, List.set_cons_succ]
      refine region_take 31 (v := ?va31) rfl rfl (by kernel_rfl) (by kernel_rfl) (by kernel_rfl) (fun _ _ _ h => h) hHeld (Or.inl ⟨by rfl, ?ya31⟩) ?ra31
      case ya31 => (intro w hSw; (try dsimp only at hSw); go_simp; try with_reducible rfl)
      try simp only [Act.put, List.setIfInBounds_toArray, List.set_cons_zero, List.set_cons_succ]
      refine region_one 32 (by kernel_rfl) rfl (fun K hK => ?_)
      go_simp
      go_at_call 43
      (with_reducible refine (one_eq v' s2 sa c2 ca _ (HC.out.2.2.1 _ t1.out) (HC.out.2.2.2.2 _ t1.out)).mono ?_)
      rintro e u2 ⟨rfl, hb2⟩
      have t2 := Lib.hid (t1.out.trans (Touch.of_below hb2))
      clear hb2
      refine hK.out _ _ (HC.out.1 _ t2.out) (fun _ => ?_)
      clear hK K hHeld
      have hHeld := HC.out.1 _ t2.out
      try simp only [Act.put, List.setIfInBounds_toArray, List.set_cons_zero, List.set_cons_succ]
      refine region_take 33 (v := ?va33) rfl rfl (by kernel_rfl) (by kernel_rfl) (by kernel_rfl) (fun _ _ _ h => h) hHeld (Or.inl ⟨by rfl, ?ya33⟩) ?ra33
      case ya33 => (intro w hSw; (try dsimp only at hSw); go_simp; try with_reducible rfl)
      try simp only [Act.put, List.setIfInBounds_toArray, List.set_cons_zero, List.set_cons_succ]
      refine region_take 34 (v := ?va34) rfl rfl (by kernel_rfl) (by kernel_rfl) (by kernel_rfl) (fun _ _ _ h => h) hHeld (Or.inl ⟨by rfl, ?ya34⟩) ?ra34
      case ya34 => (intro w hSw; (try dsimp only at hSw); go_simp; try with_reducible rfl)
      try simp only [Act.put, List.setIfInBounds_toArray, List.set_cons_zero, List.set_cons_succ]
      refine region_take 35 (v := ?va35) rfl rfl (by kernel_rfl) (by kernel_rfl) (by kernel_rfl) (fun _ _ _ h => h) hHeld (Or.inl ⟨by rfl, ?ya35⟩) ?ra35
      case ya35 => (intro w hSw; (try dsimp only at hSw); go_simp; try with_reducible rfl)
      try simp only [Act.put, List.setIfInBounds_toArray, List.set_cons_zero, List.set_cons_succ]
      refine region_take 36 (v := ?va36) rfl rfl (by kernel_rfl) (by kernel_rfl) (by kernel_rfl) (fun _ _ _ h => h) hHeld (Or.inl ⟨by rfl, ?ya36⟩) ?ra36
      case ya36 => (intro w hSw; (try dsimp only at hSw); go_simp; try with_reducible rfl)
      try simp only [Act.put, List.setIfInBounds_toArray, List.set_cons_zero, List.set_cons_succ]
      refine region_take 37 (v := ?va37) rfl rfl (by kernel_rfl) (by kernel_rfl) (by kernel_rfl) (fun _ _ _ h => h) hHeld (Or.inl ⟨by rfl, ?ya37⟩) ?ra37
      case ya37 => (intro w hSw; (try dsimp only at hSw); go_simp; try with_reducible rfl)
      try simp only [Act.put, List.setIfInBounds_toArray, List.set_cons_zero, List.set_cons_succ]
      refine region_take 38 (v := ?va38) rfl rfl (by kernel_rfl) (by kernel_rfl) (by kernel_rfl) (fun _ _ _ h => h) hHeld (Or.inl ⟨by rfl, ?ya38⟩) ?ra38
      case ya38 => (intro w hSw; (try dsimp only at hSw); go_simp; try with_reducible rfl)
      try simp only [Act.put, List.setIfInBounds_toArray, List.set_cons_zero, List.set_cons_succ]
      refine region_take 39 (v := ?va39) rfl rfl (by kernel_rfl) (by kernel_rfl) (by kernel_rfl) (fun _ _ _ h => h) hHeld (Or.inl ⟨by rfl, ?ya39⟩) ?ra39
      case ya39 => (intro w hSw; (try dsimp only at hSw); go_simp; try with_reducible rfl)
      try simp only [Act.put, List.setIfInBounds_toArray, List.set_cons_zero, List.set_cons_succ]
      refine region_take 40 (v := ?va40) rfl rfl (by kernel_rfl) (by kernel_rfl) (by kernel_rfl) (fun _ _ _ h => h) hHeld (Or.inl ⟨by rfl, ?ya40⟩) ?ra40
      case ya40 => (intro w hSw; (try dsimp only at hSw); go_simp; try with_reducible rfl)
      try simp only [Act.put, List.setIfInBounds_toArray, List.set_cons_zero, List.set_cons_succ]
      refine region_take 41 (v := ?va41) rfl rfl (by kernel_rfl) (by kernel_rfl) (by kernel_rfl) (fun _ _ _ h => h) hHeld (Or.inl ⟨by rfl, ?ya41⟩) ?ra41
      case ya41 => (intro w hSw; (try dsimp only at hSw); go_simp; try with_reducible rfl)
      try simp only [Act.put, List.setIfInBounds_toArray, List.set_cons_zero, List.set_cons_succ]
      refine region_take 42 (v := ?va42) rfl rfl (by kernel_rfl) (by kernel_rfl) (by kernel_rfl) (fun _ _ _ h => h) hHeld (Or.inl ⟨by rfl, ?ya42⟩) ?ra42
      case ya42 => (intro w hSw; (try dsimp only at hSw); go_simp; try with_reducible rfl)
      try simp only [Act.put, List.setIfInBounds_toArray, List.set_cons_zero, List.set_cons_succ]
      refine region_one 43 (by kernel_rfl) rfl (fun K hK => ?_)
      go_simp
      go_at_call 43
      (with_reducible refine (one_eq v' s3 sa c3 ca _ (HC.out.2.2.2.1 _ t2.out) (HC.out.2.2.2.2 _ t2.out)).mono ?_)
      rintro e u3 ⟨rfl, hb3⟩
      have t3 := Lib.hid (t2.out.trans (Touch.of_below hb3))
      clear hb3
      refine hK.out _ _ (HC.out.1 _ t3.out) (fun _ => ?_)
      clear hK K hHeld
      have hHeld := HC.out.1 _ t3.out
      try simp only [Act.put, List.setIfInBounds_toArray, List.set_cons_zero, List.set_cons_succ]
      refine region_take 44 (v := ?va44) rfl rfl (by kernel_rfl) (by kernel_rfl) (by kernel_rfl) (fun _ _ _ h => h) hHeld (Or.inl ⟨by rfl, ?ya44⟩) ?ra44
      case ya44 => (intro w hSw; (try dsimp only at hSw); go_simp; try with_reducible rfl)
      try simp only [Act.put, List.setIfInBounds_toArray, List.set_cons_zero, List.set_cons_succ]
      refine region_take 45 (v := ?va45) rfl rfl (by kernel_rfl) (by kernel_rfl) (by kernel_rfl) (fun _ _ _ h => h) hHeld (Or.inl ⟨by rfl, ?ya45⟩) ?ra45
      case ya45 => (intro w hSw; (try dsimp only at hSw); go_simp; try with_reducible rfl)
      try simp only [Act.put, List.setIfInBounds_toArray, List.set_cons_zero, List.set_cons_succ]
      refine wpAnyH_done (by kernel_rfl) ?_ _
      go_wp2_with fail
      go_roundw
      case rel => exact ⟨j + 1, hjl, by first | rfl | (congr 1; omega), (HT.out.trans (t3.out.mono (fun _ _ h => h.elim))).below (Nat.le_refl _) (fun k hk h => by omega)⟩
      case measure => simp [intOf]; omega

/-! ### the row's step, and the row -/
theorem scriptOnes_own : ownKnob Try.prog.godebug = none := by kernel_rfl
theorem scriptOnes_laidOut : laidOutB Try.prog = true := by kernel_rfl

set_option linter.unusedVariables false in
set_option maxRecDepth 100000 in
theorem scriptOnes_lifted (os : Os) (started : os.Started) (H : Type) (enc : TypeId × Value → H) :
    ReturnsInHanded {} Try.checked os 14 .any (Rows.scriptOnesSpec.pre6 enc Try.prog Try.f14 Rows.scriptOnesRow.domain false) (Rows.scriptOnesSpec.post enc Try.prog Try.f14 false true false false) := by
  refine returnsInHanded_of_change (C := Try.checked) scriptOnes_own started (by kernel_rfl) Try.func14
    (ChangeSpec.witness6 (enc := enc) (C := Try.checked) false ⟨#[], #[.slice none 0 0], []⟩ 8 (by kernel_rfl) (by kernel_rfl) (by kernel_rfl) (by kernel_rfl)) ?_
  intro W base args ds gs before hval0 hW hcnd _
  have hval : ∀ (j : Nat) t v, Try.f14.params[j]? = some t → args[j]? = some v → Value.okWide Try.prog W .any base t v := hval0
  have hW' := hW
  obtain ⟨p, q, hA0, hV, rfl, hfz, hnd⟩ := hW
  have hA : DataW.TrodAll enc Try.prog W 0 (fun _ => true) true Try.f14.params.toList args.toList ds p := hA0
  rw [Try.params14] at hA hval
  obtain ⟨v0, vs0, d0, ds0, p0, q0, hargs, rfl, rfl, h0, r0⟩ := trodAll_cons hA
  obtain ⟨rfl, rfl, rfl⟩ := trodAll_nil r0
  obtain rfl : args = #[v0] := by cases args; simp_all
  obtain ⟨rfl, rfl⟩ := trodVars_none hV
  have k0 := h0
  have lt0 : ∀ x ∈ p0, x.block < W.heap.size := by obtain ⟨m, hm⟩ := k0; exact DataW.trod_lt m _ _ _ hm
  obtain ⟨a0, len0, cap0, rfl⟩ := okWide_slice Try.underlying31 (hval 0 31 v0 rfl rfl)
  obtain ⟨z0, w0⟩ := row_of (k := .u8) Try.underlying31 Try.underlying5 (by kernel_rfl) h0
  clear hA0 hval0
  refine (scriptOnes_walk W a0 len0 cap0 z0 w0).mono fun e W' ⟨he, bel⟩ => ?_
  subst he
  exact ⟨_, rfl, _, _, _, [], _, [], hW', trodAll_mk1 (shut_bool Try.underlying4 _), (trodAll_cons_mk (Below.trod scriptOnes_laidOut (by kernel_rfl) (of_decide_eq_true (by kernel_rfl)) k0 bel lt0) trodAll_mk0), rfl, bel.frame _, fun h => by cases h⟩

theorem scriptOnes_over : Rows.scriptOnesRow.holds Try.pinned (OpenSpec.ofChange Rows.scriptOnesSpec) :=
  OpenClaim.holds_of_wide 14 Try.f14 rfl rfl rfl rfl rfl rfl rfl ⟨rfl, rfl, rfl, rfl, rfl⟩ rfl rfl rfl rfl rfl (by kernel_rfl) Try.func14 (by kernel_rfl)
    (of_decide_eq_true (by kernel_rfl)) (by unfold Func.isWrapper; first | (rw [if_pos (by decide +kernel)]; kernel_rfl) | (rw [if_neg (by decide +kernel)]; exact ⟨rfl, rfl⟩))
    (fun os started H enc _ => scriptOnes_lifted os started H enc)

/-- THE STATEMENT. -/
theorem scriptOnes_proved : Rows.ScriptOnesSaid := scriptOnes_over
#print axioms scriptOnes_proved
end Go.Proofs.Ytgoppolkplmphaa
