/-
  THE WALK of script.Acts (layer 26).
-/
import Derived.Test.YtgoppolkplmphaaRows
import Derived.Test.YtgoppolkplmphaaScriptOne
import Derived.ScopeJumps
import Derived.WalkMore
namespace Go.Proofs.Ytgoppolkplmphaa
open Go.RowKit

/-- The acts of bytes. -/
def actsOf : List Nat → List ActV
  | y0 :: y1 :: y2 :: y3 :: r => actOf y0 y1 y2 y3 :: actsOf r
  | _ => []

/-- Acts as they lie: each with its bytes' slice. -/
abbrev ActRow := List (ActV × Option Addr × Nat)
def actCells (q : ActV × Option Addr × Nat) : List Value := [.int .i64 q.1.dn, .int .i64 q.1.who, .int .i64 q.1.k, .int .i64 q.1.kd, .int .i64 q.1.st, .int .i64 q.1.op, .int .i64 q.1.us, .slice q.2.1 q.1.inj.length q.2.2]
def rowCells (R : ActRow) : List Value := R.flatMap actCells

/-- A row of acts that the call owns. -/
structure ActsOwn (w : World) (base : Nat) (v : Value) (R : ActRow) : Prop where
  row : w.ownsRow base 55 8 v R.length (rowCells R)
  bytes : ∀ q ∈ R, w.ownsRow base 5 1 (.slice q.2.1 q.1.inj.length q.2.2) q.1.inj.length (bys q.1.inj)

theorem owns_apart {w : World} {b1 b2 : Nat} {e1 e2 : TypeId} {s1 s2 : Nat} {v1 v2 : Value} {n1 n2 : Nat} {x1 x2 : List Value} (h1 : w.ownsRow b1 e1 s1 v1 n1 x1) (h2 : w.ownsRow b2 e2 s2 v2 n2 x2) (hne : e1 ≠ e2) :
    ∀ k, v1.ownBlock = some k → v2.ownBlock = some k → False := by
  intro k k1 k2
  rcases h1.2 with ⟨rfl, _⟩ | ⟨g1, c1, u1, rfl, _, hh1, _⟩
  · cases k1
  · rcases h2.2 with ⟨rfl, _⟩ | ⟨g2, c2, u2, rfl, _, hh2, _⟩
    · cases k2
    · cases k1
      cases k2
      rw [hh1] at hh2
      injection hh2 with hh2
      injection hh2 with _ h3
      exact hne h3

theorem ActsOwn.touch {w w' : World} {base : Nat} {v : Value} {R : ActRow} (h : ActsOwn w base v R) {S : Nat → Prop} (ht : Touch S w w') (hS : ∀ k, base ≤ k → k < w.heap.size → ¬ S k) : ActsOwn w' base v R :=
  ⟨owns_touch h.row ht (fun k hk => hS k (h.row.lt k hk).1 (h.row.lt k hk).2), fun q hq => owns_touch (h.bytes q hq) ht (fun k hk => hS k ((h.bytes q hq).lt k hk).1 ((h.bytes q hq).lt k hk).2)⟩

theorem Try.info55 : (Try.prog.info? 55).map (fun i => (i.zero, i.size, i.bytes)) = some (some (.agg #[.int .i64 0, .int .i64 0, .int .i64 0, .int .i64 0, .int .i64 0, .int .i64 0, .int .i64 0, .slice none 0 0]), 8, 80) := by kernel_rfl

/-- What is handed back: the acts, in memory of the call's own. -/
def ActsRet (L : List ActV) (w : World) (e : Ending) (w' : World) : Prop :=
  ∃ v R, e = .returned v ∧ ActsOwn w' w.heap.size v R ∧ R.map (·.1) = L ∧ Below w.heap.size w w'

def nats (ys : List Nat) : List Int := ys.map fun (y : Nat) => (y : Int)

def lenOf : Value → Nat | .slice _ n _ => n | _ => 0

theorem actsOf_small (ys : List Nat) (h : ys.length < 4) : actsOf ys = [] := by
  match ys, h with
  | [], _ => rfl
  | [_], _ => rfl
  | [_, _], _ => rfl
  | [_, _, _], _ => rfl
  | _ :: _ :: _ :: _ :: _, h => simp at h; omega

/-- What holds at the label: out is owned; ys are left. -/
structure ActsAt (w w1 : World) (L : List ActV) (x0 x2 : Value) (ys : List Nat) : Prop where
  left : ∃ a c, x0 = .slice a ys.length c ∧ SlAt w1 a (bys (nats ys)) ∧ (a = none → c = 0) ∧ ys.length ≤ c ∧ c ≤ maxLen ∧ (∀ x, a = some x → ys ≠ [] → x.block < w.heap.size)
  range : ∀ y ∈ ys, y < 256
  out : ∃ R : ActRow, ActsOwn w1 w.heap.size x2 R ∧ R.map (·.1) ++ actsOf ys = L ∧ R.length + ys.length ≤ 90000
  below : Below w.heap.size w w1


theorem act_one (q : ActV × Option Addr × Nat) : ∀ u ∈ actCells q, u.oneCell' = true := by
  intro u hu
  simp [actCells] at hu
  rcases hu with rfl | rfl | rfl | rfl | rfl | rfl | rfl | rfl <;> rfl

theorem new_cells (w : World) (q : ActV × Option Addr × Nat) : ∀ j u, (actCells q)[j]? = some u →
    (w.alloc (.cells #[.int .i64 q.1.dn, .int .i64 q.1.who, .int .i64 q.1.k, .int .i64 q.1.kd, .int .i64 q.1.st, .int .i64 q.1.op, .int .i64 q.1.us, .slice q.2.1 q.1.inj.length q.2.2] 55)).cell? ((⟨w.heap.size, 0, none⟩ : Addr).add j) = some u := by
  intro j u hj
  rw [Addr.add_lit, Nat.zero_add]
  refine (Blk.new w _ _).cell j ?_
  simpa [actCells] using hj

theorem rowCells_snoc (R : ActRow) (q : ActV × Option Addr × Nat) : rowCells (R ++ [q]) = rowCells R ++ actCells q := by simp [rowCells]

/-- One more act is laid: what holds at the label the next time. -/
theorem acts_next {w w1 w2 w3 : World} {L : List ActV} {x2 v3 : Value} {R : ActRow} {v : ActV} {s : Option Addr} {c : Nat} {ys : List Nat} {a0 : Option Addr} {c0 : Nat} {C : Obj}
    (hown : ActsOwn w1 w.heap.size x2 R) (hb : Below w.heap.size w w1) (how : w2.ownsRow w1.heap.size 5 1 (.slice s v.inj.length c) v.inj.length (bys v.inj)) (hbw : Below w1.heap.size w1 w2)
    (hnext : (R ++ [(v, s, c)]).map (·.1) ++ actsOf ys = L) (ho3 : w3.ownsRow w.heap.size 55 8 v3 (R.length + 1) (rowCells R ++ actCells (v, s, c))) (hg3 : (w2.alloc C).grownBy w3 x2.ownBlock)
    (k1 : SlAt w3 a0 (bys (nats ys))) (k2 : a0 = none → c0 = 0) (k3 : ys.length ≤ c0) (k4 : c0 ≤ maxLen) (k5 : ∀ x, a0 = some x → ys ≠ [] → x.block < w.heap.size)
    (hr : ∀ y ∈ ys, y < 256) (hn : (R ++ [(v, s, c)]).length + ys.length ≤ 90000) : ActsAt w w3 L (.slice a0 ys.length c0) v3 ys := by
  have t12 : Touch (fun _ => False) w1 w2 := Touch.of_below hbw
  have t23 : Touch (fun k => x2.ownBlock = some k) w2 w3 := ((Touch.refl _ _).alloc C).grown hg3 (fun k hk _ => hk)
  have hrow2 := owns_touch hown.row t12 (fun _ _ h => h)
  refine ⟨⟨a0, c0, rfl, k1, k2, k3, k4, k5⟩, hr, ⟨R ++ [(v, s, c)], ⟨?_, ?_⟩, hnext, hn⟩, ?_⟩
  · rw [rowCells_snoc]
    simpa using ho3
  · intro q hq
    rcases List.mem_append.1 hq with hq | hq
    · have h2 := owns_touch (hown.bytes q hq) t12 (fun _ _ h => h)
      exact owns_touch h2 t23 (fun k hk e => owns_apart hrow2 h2 (by decide) k e hk)
    · simp at hq
      subst hq
      exact owns_mono (owns_touch how t23 (fun k hk e => owns_apart hrow2 how (by decide) k e hk)) hb.size
  · have tB := ((Touch.of_below (S := fun k => w.heap.size ≤ k) hb).trans (t12.mono (fun _ _ h => h.elim))).trans (t23.mono (fun k _ e => (hown.row.lt k e).1))
    exact tB.below (Nat.le_refl _) (fun k hk h => by omega)

set_option maxRecDepth 100000 in
set_option maxHeartbeats 4000000 in
theorem acts_any (a : Option Addr) (len cap : Nat) (zs : List Nat) (w : World) (hl : zs.length = len) (hz : SlAt w a (bys (nats zs))) (hr : ∀ y ∈ zs, y < 256) (hc : a = none → cap = 0) (hle : len ≤ cap) (hm : cap ≤ maxLen) (hn : len ≤ 90000) :
    Calls Try.prog 36 #[.slice a len cap] w (ActsRet (actsOf zs) w) := by
  subst hl
  obtain ⟨i0, hi, hz0, hz1, hz2⟩ := info_parts Try.info55
  obtain ⟨L, hL⟩ : ∃ L, L = actsOf zs := ⟨_, rfl⟩
  rw [← hL]
  have H0 : ActsAt w w L (.slice a zs.length cap) (.slice none 0 0) zs := by
    refine ⟨⟨a, cap, rfl, hz, hc, hle, hm, fun x hx hne => ?_⟩, hr, ⟨[], ⟨by simpa [rowCells] using World.ownsRow_nil w _ _ _, fun q hq => by cases hq⟩, by simp [hL], by simpa using hn⟩, Below.refl _ _⟩
    subst hx
    exact hz.lt (by intro h; apply hne; simpa [bys, nats] using h)
  have HH := Lib.hid H0
  clear H0 hL hz hr hc hle hm hn
  go_enter Try.func36, Try.ntmps36
  go_wp2_with fail
  refine wp_scope_jumps 0 (fun a' w' => ∃ (x0 x2 : Value) (ys : List Nat) (u3 u4 u5 u6 u7 u8 u9 u10 u11 u12 u13 u14 : Value), a' = { tmps := #[x0, undef, x2, u3, u4, u5, u6, u7, u8, u9, u10, u11, u12, u13, u14], defers := [] } ∧ ActsAt w w' L x0 x2 ys) (fun a' _ => lenOf (a'.tmps.getD 0 undef)) rfl ?_ ?_
  · obtain ⟨⟨_, _, e, hs, hcn, hle, hm, hold⟩, hr, ⟨R, hown, hRL, hRn⟩, hb⟩ := HH.out
    cases e
    go_wp2_with fail
    go_step3
    by_cases h4 : zs.length < 4
    · have hx : (zs.length : Int) < 4 := by omega
      have H1 := Lib.hid (And.intro hown (And.intro hRL (And.intro hb h4)))
      clear hown hRL hb h4 hs hr hold HH
      go_wp2_with fail
      simp only [Exit.jump]
      go_ret
      refine ⟨(Value.slice none 0 0), R, rfl, H1.out.1, ?_, H1.out.2.2.1⟩
      have := H1.out.2.1
      rw [actsOf_small zs H1.out.2.2.2] at this
      simpa using this
    · obtain ⟨y0, y1, y2, y3, ysr, hys⟩ : ∃ y0 y1 y2 y3 rest, zs = y0 :: y1 :: y2 :: y3 :: rest := by
        match zs, h4 with
        | y0 :: y1 :: y2 :: y3 :: rest, _ => exact ⟨_, _, _, _, _, rfl⟩
        | [], h => simp at h
        | [_], h => simp at h
        | [_, _], h => simp at h
        | [_, _, _], h => simp at h
      have hge : (4 : Int) ≤ zs.length := by omega
      have hle' : ((zs.length : Nat) : Int) ≤ cap := by omega
      have h4c : (4 : Int) ≤ cap := by omega
      have g0 := hr y0 (by rw [hys]; simp)
      have g1 := hr y1 (by rw [hys]; simp)
      have g2 := hr y2 (by rw [hys]; simp)
      have g3 := hr y3 (by rw [hys]; simp)
      have hss := hs
      rw [hys] at hss
      obtain ⟨b, o, ha1, _⟩ := hss.get (k := 0) (u := .int .u8 y0) (by simp [bys, nats])
      subst ha1
      have h44 : SlAt w (some ⟨b, o, none⟩) (bys [(y0 : Int), y1, y2, y3]) := by
        have h := hss.take 4
        simpa [bys, nats] using h
      have hrest : SlAt w (some ⟨b, o + 4, none⟩) (bys (nats ysr)) := by
        have h := hss.drop 4
        simpa [bys, nats] using h
      have hrl : ysr.length + 4 = zs.length := by rw [hys]; simp
      have hbl : b < w.heap.size := h44.lt (by simp [bys])
      have H1 := Lib.hid (And.intro hown (And.intro hRL (And.intro hb (And.intro hr (And.intro h44 (And.intro hrest (And.intro hys (And.intro hrl (And.intro hRn hold)))))))))
      clear hown hRL hb hr hs hss h44 hrest hys hrl h4 hold hcn HH
      go_wp2_with fail
      refine (one_any b o cap y0 y1 y2 y3 g0 g1 g2 g3 w H1.out.2.2.2.2.1 (by omega)).mono ?_
      rintro e w2 ⟨s, c, rfl, how, hbw⟩
      obtain ⟨v, hv⟩ : ∃ v, v = actOf y0 y1 y2 y3 := ⟨_, rfl⟩
      rw [← hv] at how ⊢
      unfold actVal
      have H2 := Lib.hid (And.intro how (And.intro hbw hv))
      clear how hbw hv
      have t12 : Touch (fun _ => False) w w2 := Touch.of_below H2.out.2.1
      have hrow2 := owns_touch H1.out.1.row t12 (fun _ _ h => h)
      have hnext : (R ++ [(v, s, c)]).map (·.1) ++ actsOf ysr = L := by
        rw [← H1.out.2.1, H1.out.2.2.2.2.2.2.1, H2.out.2.2]
        simp [actsOf]
      have hsz2 : w.heap.size ≤ w2.heap.size := Nat.le_trans H1.out.2.2.1.size t12.size
      have H3 := Lib.hid (And.intro t12 (And.intro hrow2 hnext))
      clear t12 hrow2 hnext
      have c4 : cap = 4 ∨ ¬ cap = 4 := by omega
      rcases c4 with c4 | c4
      all_goals
        go_wp2_with (at_builtin; refine wpList_append_own _ rfl (.tmp 6) (.tmp 10) 47 rfl w.heap.size 55 i0 (.agg #[.int .i64 0, .int .i64 0, .int .i64 0, .int .i64 0, .int .i64 0, .int .i64 0, .int .i64 0, .slice none 0 0]) 8 80 Try.underlying47 hi hz0 hz1 hz2 (by rfl) (by decide) (Value.slice none 0 0) R.length (rowCells R) rfl (H3.out.2.1.alloc _) ⟨w2.heap.size, 0, none⟩ 1 1 (actCells (v, s, c)) rfl rfl (new_cells w2 (v, s, c)) (act_one (v, s, c)) (by unfold maxLen; omega) (by omega) (by simp; omega) ?_; intro v3 w3 ho3 hg3 _; have H4 := Lib.hid (And.intro ho3 hg3); clear ho3 hg3)
        go_step3
        have hfin : ∀ a0 c0, SlAt w3 a0 (bys (nats ysr)) → (a0 = none → c0 = 0) → ysr.length ≤ c0 → c0 ≤ maxLen → (∀ x, a0 = some x → ysr ≠ [] → x.block < w.heap.size) → ActsAt w w3 L (.slice a0 ysr.length c0) v3 ysr := fun a0 c0 k1 k2 k3 k4 k5 =>
          acts_next H1.out.1 H1.out.2.2.1 H2.out.1 H2.out.2.1 H3.out.2.2 H4.out.1 H4.out.2 k1 k2 k3 k4 k5 (fun y hy => H1.out.2.2.2.1 y (by rw [H1.out.2.2.2.2.2.2.1]; simp [hy])) (by have := H1.out.2.2.2.2.2.2.2.1; have := H1.out.2.2.2.2.2.2.2.2.1; simp; omega)
        have hrl := H1.out.2.2.2.2.2.2.2.1
        have hrs : SlAt w3 (some ⟨b, o + 4, none⟩) (bys (nats ysr)) := by
          refine SlAt.touch (H1.out.2.2.2.2.2.1.touch H3.out.1 (fun _ _ _ h => h)) (((Touch.refl _ w2).alloc _).grown (S := fun k => (Value.slice none 0 0).ownBlock = some k) H4.out.2 (fun k hk _ => hk)) (fun x hx hne e => ?_)
          cases hx
          have := (H1.out.1.row.lt b e).1
          have hne2 : ysr ≠ [] := by rintro rfl; exact hne rfl
          have := H1.out.2.2.2.2.2.2.2.2.2 ⟨b, o, none⟩ rfl (by intro h; rw [h] at hrl; simp at hrl)
          simp at this
          omega
        first
          | (have hl0 : ysr.length = 0 := by omega
             obtain rfl : ysr = [] := List.eq_nil_of_length_eq_zero hl0
             rw [show zs.length - 4 = ([] : List Nat).length by simp at hrl ⊢; omega]
             have hJ := hfin (some ⟨b, o, none⟩) 0 (SlAt.nil _ _) (fun h => by cases h) (by simp) (by omega) (fun _ _ h => absurd rfl h)
             exact ⟨rfl, _, v3, [], _, _, _, _, _, _, _, _, _, _, _, _, rfl, hJ⟩)
          | (have hJ := hfin (some ⟨b, o + 4, none⟩) (cap - 4) hrs (fun h => by cases h) (by omega) (by omega) (fun x hx hne => by cases hx; exact H1.out.2.2.2.2.2.2.2.2.2 ⟨b, o, none⟩ rfl (by intro h; rw [h] at hrl; simp at hrl))
             rw [show zs.length - 4 = ysr.length by omega]
             exact ⟨rfl, _, v3, ysr, _, _, _, _, _, _, _, _, _, _, _, _, rfl, hJ⟩)

  · rintro a' w' ⟨x0, x2, ys, u3, u4, u5, u6, u7, u8, u9, u10, u11, u12, u13, u14, rfl, hJ⟩
    obtain ⟨⟨a1, c1, rfl, hs, hcn, hle, hm, hold⟩, hr, ⟨R, hown, hRL, hRn⟩, hb⟩ := hJ
    by_cases h4 : ys.length < 4
    · have hx : (ys.length : Int) < 4 := by omega
      have H1 := Lib.hid (And.intro hown (And.intro hRL (And.intro hb h4)))
      clear hown hRL hb h4 hs hr hold HH
      go_wp2_with fail
      simp only [Exit.jump]
      go_ret
      refine ⟨x2, R, rfl, H1.out.1, ?_, H1.out.2.2.1⟩
      have := H1.out.2.1
      rw [actsOf_small ys H1.out.2.2.2] at this
      simpa using this
    · obtain ⟨y0, y1, y2, y3, ysr, hys⟩ : ∃ y0 y1 y2 y3 rest, ys = y0 :: y1 :: y2 :: y3 :: rest := by
        match ys, h4 with
        | y0 :: y1 :: y2 :: y3 :: rest, _ => exact ⟨_, _, _, _, _, rfl⟩
        | [], h => simp at h
        | [_], h => simp at h
        | [_, _], h => simp at h
        | [_, _, _], h => simp at h
      have hge : (4 : Int) ≤ ys.length := by omega
      have hle' : ((ys.length : Nat) : Int) ≤ c1 := by omega
      have h4c : (4 : Int) ≤ c1 := by omega
      have g0 := hr y0 (by rw [hys]; simp)
      have g1 := hr y1 (by rw [hys]; simp)
      have g2 := hr y2 (by rw [hys]; simp)
      have g3 := hr y3 (by rw [hys]; simp)
      have hss := hs
      rw [hys] at hss
      obtain ⟨b, o, ha1, _⟩ := hss.get (k := 0) (u := .int .u8 y0) (by simp [bys, nats])
      subst ha1
      have h44 : SlAt w' (some ⟨b, o, none⟩) (bys [(y0 : Int), y1, y2, y3]) := by
        have h := hss.take 4
        simpa [bys, nats] using h
      have hrest : SlAt w' (some ⟨b, o + 4, none⟩) (bys (nats ysr)) := by
        have h := hss.drop 4
        simpa [bys, nats] using h
      have hrl : ysr.length + 4 = ys.length := by rw [hys]; simp
      have hbl : b < w'.heap.size := h44.lt (by simp [bys])
      have H1 := Lib.hid (And.intro hown (And.intro hRL (And.intro hb (And.intro hr (And.intro h44 (And.intro hrest (And.intro hys (And.intro hrl (And.intro hRn hold)))))))))
      clear hown hRL hb hr hs hss h44 hrest hys hrl h4 hold hcn HH
      go_wp2_with fail
      refine (one_any b o c1 y0 y1 y2 y3 g0 g1 g2 g3 w' H1.out.2.2.2.2.1 (by omega)).mono ?_
      rintro e w2 ⟨s, c, rfl, how, hbw⟩
      obtain ⟨v, hv⟩ : ∃ v, v = actOf y0 y1 y2 y3 := ⟨_, rfl⟩
      rw [← hv] at how ⊢
      unfold actVal
      have H2 := Lib.hid (And.intro how (And.intro hbw hv))
      clear how hbw hv
      have t12 : Touch (fun _ => False) w' w2 := Touch.of_below H2.out.2.1
      have hrow2 := owns_touch H1.out.1.row t12 (fun _ _ h => h)
      have hnext : (R ++ [(v, s, c)]).map (·.1) ++ actsOf ysr = L := by
        rw [← H1.out.2.1, H1.out.2.2.2.2.2.2.1, H2.out.2.2]
        simp [actsOf]
      have hsz2 : w.heap.size ≤ w2.heap.size := Nat.le_trans H1.out.2.2.1.size t12.size
      have H3 := Lib.hid (And.intro t12 (And.intro hrow2 hnext))
      clear t12 hrow2 hnext
      have c4 : c1 = 4 ∨ ¬ c1 = 4 := by omega
      rcases c4 with c4 | c4
      all_goals
        go_wp2_with (at_builtin; refine wpList_append_own _ rfl (.tmp 6) (.tmp 10) 47 rfl w.heap.size 55 i0 (.agg #[.int .i64 0, .int .i64 0, .int .i64 0, .int .i64 0, .int .i64 0, .int .i64 0, .int .i64 0, .slice none 0 0]) 8 80 Try.underlying47 hi hz0 hz1 hz2 (by rfl) (by decide) x2 R.length (rowCells R) rfl (H3.out.2.1.alloc _) ⟨w2.heap.size, 0, none⟩ 1 1 (actCells (v, s, c)) rfl rfl (new_cells w2 (v, s, c)) (act_one (v, s, c)) (by unfold maxLen; omega) (by omega) (by simp; omega) ?_; intro v3 w3 ho3 hg3 _; have H4 := Lib.hid (And.intro ho3 hg3); clear ho3 hg3)
        go_step3
        have hfin : ∀ a0 c0, SlAt w3 a0 (bys (nats ysr)) → (a0 = none → c0 = 0) → ysr.length ≤ c0 → c0 ≤ maxLen → (∀ x, a0 = some x → ysr ≠ [] → x.block < w.heap.size) → ActsAt w w3 L (.slice a0 ysr.length c0) v3 ysr := fun a0 c0 k1 k2 k3 k4 k5 =>
          acts_next H1.out.1 H1.out.2.2.1 H2.out.1 H2.out.2.1 H3.out.2.2 H4.out.1 H4.out.2 k1 k2 k3 k4 k5 (fun y hy => H1.out.2.2.2.1 y (by rw [H1.out.2.2.2.2.2.2.1]; simp [hy])) (by have := H1.out.2.2.2.2.2.2.2.1; have := H1.out.2.2.2.2.2.2.2.2.1; simp; omega)
        have hrl := H1.out.2.2.2.2.2.2.2.1
        have hrs : SlAt w3 (some ⟨b, o + 4, none⟩) (bys (nats ysr)) := by
          refine SlAt.touch (H1.out.2.2.2.2.2.1.touch H3.out.1 (fun _ _ _ h => h)) (((Touch.refl _ w2).alloc _).grown (S := fun k => x2.ownBlock = some k) H4.out.2 (fun k hk _ => hk)) (fun x hx hne e => ?_)
          cases hx
          have := (H1.out.1.row.lt b e).1
          have hne2 : ysr ≠ [] := by rintro rfl; exact hne rfl
          have := H1.out.2.2.2.2.2.2.2.2.2 ⟨b, o, none⟩ rfl (by intro h; rw [h] at hrl; simp at hrl)
          simp at this
          omega
        first
          | (have hl0 : ysr.length = 0 := by omega
             obtain rfl : ysr = [] := List.eq_nil_of_length_eq_zero hl0
             rw [show ys.length - 4 = ([] : List Nat).length by simp at hrl ⊢; omega]
             have hJ := hfin (some ⟨b, o, none⟩) 0 (SlAt.nil _ _) (fun h => by cases h) (by simp) (by omega) (fun _ _ h => absurd rfl h)
             exact ⟨rfl, ⟨_, v3, [], _, _, _, _, _, _, _, _, _, _, _, _, rfl, hJ⟩, by simp [lenOf]; omega⟩)
          | (have hJ := hfin (some ⟨b, o + 4, none⟩) (c1 - 4) hrs (fun h => by cases h) (by omega) (by omega) (fun x hx hne => by cases hx; exact H1.out.2.2.2.2.2.2.2.2.2 ⟨b, o, none⟩ rfl (by intro h; rw [h] at hrl; simp at hrl))
             rw [show ys.length - 4 = ysr.length by omega]
             exact ⟨rfl, ⟨_, v3, ysr, _, _, _, _, _, _, _, _, _, _, _, _, rfl, hJ⟩, by simp [lenOf]; omega⟩)

end Go.Proofs.Ytgoppolkplmphaa
