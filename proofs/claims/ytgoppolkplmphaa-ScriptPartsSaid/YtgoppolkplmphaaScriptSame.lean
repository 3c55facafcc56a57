/-
  THE WALKS of nightjarref26.One and Same (layer 26), where both sides are the same.
-/
import Derived.Test.YtgoppolkplmphaaRows
import Derived.Test.YtgoppolkplmphaaScriptActs
import Derived.Test.YtgoppolkplmphaaRegion
namespace Go.Proofs.Ytgoppolkplmphaa
open Go.RowKit

set_option maxHeartbeats 1000000 in
theorem one_eq (v : ActV) (s1 s2 : Option Addr) (c1 c2 : Nat) (w : World) (h1 : SlAt w s1 (bys v.inj)) (h2 : SlAt w s2 (bys v.inj)) :
    Calls Try.prog 43 #[(.agg #[.int .i64 v.dn, .int .i64 v.who, .int .i64 v.k, .int .i64 v.kd, .int .i64 v.st, .int .i64 v.op, .int .i64 v.us, .slice s1 v.inj.length c1]), (.agg #[.int .i64 v.dn, .int .i64 v.who, .int .i64 v.k, .int .i64 v.kd, .int .i64 v.st, .int .i64 v.op, .int .i64 v.us, .slice s2 v.inj.length c2])] w fun e w' => e = .returned (.bool true) ∧ Below w.heap.size w w' := by
  have tW : Touch (fun _ => False) w ((w.alloc (.cells #[.int .i64 v.dn, .int .i64 v.who, .int .i64 v.k, .int .i64 v.kd, .int .i64 v.st, .int .i64 v.op, .int .i64 v.us, .slice s1 v.inj.length c1] 55)).alloc (.cells #[.int .i64 v.dn, .int .i64 v.who, .int .i64 v.k, .int .i64 v.kd, .int .i64 v.st, .int .i64 v.op, .int .i64 v.us, .slice s2 v.inj.length c2] 55)) := ((Touch.refl _ _).alloc _).alloc _
  have q1 : (convert 31 9 (.slice s1 v.inj.length c1)).run Try.prog ((w.alloc (.cells #[.int .i64 v.dn, .int .i64 v.who, .int .i64 v.k, .int .i64 v.kd, .int .i64 v.st, .int .i64 v.op, .int .i64 v.us, .slice s1 v.inj.length c1] 55)).alloc (.cells #[.int .i64 v.dn, .int .i64 v.who, .int .i64 v.k, .int .i64 v.kd, .int .i64 v.st, .int .i64 v.op, .int .i64 v.us, .slice s2 v.inj.length c2] 55)) = .ok (.string (strOfNums v.inj)) ((w.alloc (.cells #[.int .i64 v.dn, .int .i64 v.who, .int .i64 v.k, .int .i64 v.kd, .int .i64 v.st, .int .i64 v.op, .int .i64 v.us, .slice s1 v.inj.length c1] 55)).alloc (.cells #[.int .i64 v.dn, .int .i64 v.who, .int .i64 v.k, .int .i64 v.kd, .int .i64 v.st, .int .i64 v.op, .int .i64 v.us, .slice s2 v.inj.length c2] 55)) := run_str _ _ _ _ Try.underlying31 Try.underlying5 Try.underlying9 s1 _ c1 v.inj rfl (h1.touch tW (fun _ _ _ h => h))
  have q2 : (convert 31 9 (.slice s2 v.inj.length c2)).run Try.prog ((w.alloc (.cells #[.int .i64 v.dn, .int .i64 v.who, .int .i64 v.k, .int .i64 v.kd, .int .i64 v.st, .int .i64 v.op, .int .i64 v.us, .slice s1 v.inj.length c1] 55)).alloc (.cells #[.int .i64 v.dn, .int .i64 v.who, .int .i64 v.k, .int .i64 v.kd, .int .i64 v.st, .int .i64 v.op, .int .i64 v.us, .slice s2 v.inj.length c2] 55)) = .ok (.string (strOfNums v.inj)) ((w.alloc (.cells #[.int .i64 v.dn, .int .i64 v.who, .int .i64 v.k, .int .i64 v.kd, .int .i64 v.st, .int .i64 v.op, .int .i64 v.us, .slice s1 v.inj.length c1] 55)).alloc (.cells #[.int .i64 v.dn, .int .i64 v.who, .int .i64 v.k, .int .i64 v.kd, .int .i64 v.st, .int .i64 v.op, .int .i64 v.us, .slice s2 v.inj.length c2] 55)) := run_str _ _ _ _ Try.underlying31 Try.underlying5 Try.underlying9 s2 _ c2 v.inj rfl (h2.touch tW (fun _ _ _ h => h))
  clear h1 h2 tW
  go_enter Try.func43, Try.ntmps43
  go_wp2
  go_ret
  exact ⟨rfl, ((Below.refl _ _).alloc (Nat.le_refl _) _).alloc (by simp) _⟩

/-- A row of acts that can be read. -/
structure RowAt (w : World) (a : Option Addr) (R : ActRow) : Prop where
  cells : SlAt w a (rowCells R)
  bytes : ∀ q ∈ R, SlAt w q.2.1 (bys q.1.inj)

theorem rowCells_at (R : ActRow) (i : Nat) (q : ActV × Option Addr × Nat) (h : R[i]? = some q) (r : Nat) (hr : r < 8) : (rowCells R)[i * 8 + r]? = (actCells q)[r]? := by
  induction R generalizing i with
  | nil => simp at h
  | cons p R ih =>
    have hl : (actCells p).length = 8 := by simp [actCells]
    cases i with
    | zero =>
      simp at h
      subst h
      simp only [rowCells, List.flatMap_cons, Nat.zero_mul, Nat.zero_add]
      rw [List.getElem?_append_left (by omega)]
    | succ i =>
      have h2 := ih i (by simpa using h)
      simp only [rowCells, List.flatMap_cons] at h2 ⊢
      rw [List.getElem?_append_right (by omega), hl, show (i + 1) * 8 + r - 8 = i * 8 + r by omega]
      exact h2

theorem RowAt.touch {w w' : World} {a : Option Addr} {R : ActRow} (h : RowAt w a R) {S : Nat → Prop} (ht : Touch S w w') (h1 : ∀ x, a = some x → R ≠ [] → ¬ S x.block) (h2 : ∀ q ∈ R, ∀ x, q.2.1 = some x → q.1.inj ≠ [] → ¬ S x.block) : RowAt w' a R :=
  ⟨h.cells.touch ht (fun x hx hne => h1 x hx (by rintro rfl; exact hne rfl)), fun q hq => (h.bytes q hq).touch ht (fun x hx hne => h2 q hq x hx (by intro e; rw [e] at hne; exact hne rfl))⟩

theorem RowAt.same {w w' : World} {a : Option Addr} {R : ActRow} (h : RowAt w a R) (ht : Touch (fun _ => False) w w') : RowAt w' a R := h.touch ht (fun _ _ _ h => h) (fun _ _ _ _ _ h => h)

theorem RowAt.of_owns {w : World} {base : Nat} {a : Option Addr} {n c : Nat} {R : ActRow} (h : ActsOwn w base (.slice a n c) R) : RowAt w a R := by
  refine ⟨?_, fun q hq => SlAt.of_owns (h.bytes q hq)⟩
  have h0 := h.row
  rcases h.row.2 with ⟨h1, h2⟩ | ⟨g, cap', cur, h1, _, h2, _⟩
  · simp only [Value.slice.injEq] at h1
    obtain ⟨rfl, rfl, rfl⟩ := h1
    have : R = [] := List.eq_nil_of_length_eq_zero h2
    subst this
    rfl
  · simp only [Value.slice.injEq] at h1
    obtain ⟨rfl, rfl, rfl⟩ := h1
    intro j u hj
    refine ⟨rfl, ?_⟩
    have := h0.cells (g := g) rfl j u hj
    simpa [Addr.add_lit] using this

theorem RowAt.at {w : World} {a : Option Addr} {R : ActRow} (h : RowAt w a R) {i : Nat} {q : ActV × Option Addr × Nat} (hq : R[i]? = some q) :
    ∃ b o, a = some ⟨b, o, none⟩ ∧ w.cell? ⟨b, o + i * 8, none⟩ = some (.int .i64 q.1.dn) ∧ w.cell? ⟨b, o + i * 8 + 1, none⟩ = some (.int .i64 q.1.who) ∧ w.cell? ⟨b, o + i * 8 + 2, none⟩ = some (.int .i64 q.1.k) ∧ w.cell? ⟨b, o + i * 8 + 3, none⟩ = some (.int .i64 q.1.kd) ∧ w.cell? ⟨b, o + i * 8 + 4, none⟩ = some (.int .i64 q.1.st) ∧ w.cell? ⟨b, o + i * 8 + 5, none⟩ = some (.int .i64 q.1.op) ∧ w.cell? ⟨b, o + i * 8 + 6, none⟩ = some (.int .i64 q.1.us) ∧ w.cell? ⟨b, o + i * 8 + 7, none⟩ = some (.slice q.2.1 q.1.inj.length q.2.2) := by
  obtain ⟨b, o, rfl, h0⟩ := h.cells.get (k := i * 8 + 0) (u := .int .i64 q.1.dn) (by rw [rowCells_at R i q hq 0 (by decide)]; rfl)
  have g : ∀ r u, r < 8 → (actCells q)[r]? = some u → w.cell? ⟨b, o + (i * 8 + r), none⟩ = some u := fun r u hr hu => (h.cells (i * 8 + r) u (by rw [rowCells_at R i q hq r hr]; exact hu)).2
  exact ⟨b, o, rfl, by have h := g 0 _ (by decide) rfl; rw [← Nat.add_assoc] at h; exact h, by have h := g 1 _ (by decide) rfl; rw [← Nat.add_assoc] at h; exact h, by have h := g 2 _ (by decide) rfl; rw [← Nat.add_assoc] at h; exact h, by have h := g 3 _ (by decide) rfl; rw [← Nat.add_assoc] at h; exact h, by have h := g 4 _ (by decide) rfl; rw [← Nat.add_assoc] at h; exact h, by have h := g 5 _ (by decide) rfl; rw [← Nat.add_assoc] at h; exact h, by have h := g 6 _ (by decide) rfl; rw [← Nat.add_assoc] at h; exact h, by have h := g 7 _ (by decide) rfl; rw [← Nat.add_assoc] at h; exact h⟩

set_option maxRecDepth 100000 in
set_option maxHeartbeats 2000000 in
theorem same_eq_acts (a1 a2 : Option Addr) (n : Nat) (k1 k2 : Nat) (R1 R2 : ActRow) (w : World) (h1 : RowAt w a1 R1) (h2 : RowAt w a2 R2) (hn1 : R1.length = n) (hm : R1.map (·.1) = R2.map (·.1)) (hk1 : n ≤ k1) (hk2 : n ≤ k2) (hm1 : k1 ≤ maxLen) (_hm2 : k2 ≤ maxLen) :
    Calls Try.prog 37 #[.slice a1 n k1, .slice a2 n k2] w fun e w' => e = .returned (.bool true) ∧ Below w.heap.size w w' := by
  have hn2 : R2.length = n := by have := congrArg List.length hm; simp at this; omega
  unfold maxLen at hm1
  have HH := Lib.hid (And.intro h1 (And.intro h2 (And.intro hn1 (And.intro hn2 hm))))
  clear h1 h2 hn1 hn2 hm
  go_enter Try.func37, Try.ntmps37
  go_wp2_with fail
  go_loopw [5] (fun i wz => ∃ j : Nat, j ≤ n ∧ i = .int .i64 j ∧ Below w.heap.size w wz) (fun i _ => (n - intOf i).toNat)
  case atStart => exact ⟨0, Nat.zero_le _, rfl, Below.refl _ _⟩
  case round =>
    obtain ⟨j, hj, rfl, hb⟩ := hrel
    by_cases hq : j = n
    · subst hq
      go_wp2_with fail
      go_ret
      exact ⟨rfl, hb⟩
    · have hjl : j < n := by omega
      have hj1 : (j : Int) < n := by omega
      have hj0 : (0 : Int) ≤ j := by omega
      have hkk1 : (n : Int) ≤ k1 := by omega
      have hkk2 : (n : Int) ≤ k2 := by omega
      obtain ⟨p1, e1⟩ : ∃ p1, R1[j]? = some p1 := ⟨_, List.getElem?_eq_getElem (by have := HH.out.2.2.1; omega)⟩
      obtain ⟨p2, e2⟩ : ∃ p2, R2[j]? = some p2 := ⟨_, List.getElem?_eq_getElem (by have := HH.out.2.2.2.1; omega)⟩
      have hv : p1.1 = p2.1 := by
        have h := congrArg (fun l => l[j]?) HH.out.2.2.2.2
        simp [e1, e2] at h
        exact h
      obtain ⟨v, s1, c1⟩ := p1
      obtain ⟨v', s2, c2⟩ := p2
      obtain rfl : v = v' := hv
      have g1 := HH.out.1.same (Touch.of_below hb)
      have g2 := HH.out.2.1.same (Touch.of_below hb)
      obtain ⟨b1, o1, ha1, _⟩ := g1.at e1
      obtain ⟨b2, o2, ha2, _⟩ := g2.at e2
      subst ha1 ha2
      have C : ∀ W, Touch (fun _ => False) wr W → (W.cell? ⟨b1, o1 + j * 8, none⟩ = some (.int .i64 v.dn) ∧ W.cell? ⟨b1, o1 + j * 8 + 1, none⟩ = some (.int .i64 v.who) ∧ W.cell? ⟨b1, o1 + j * 8 + 2, none⟩ = some (.int .i64 v.k) ∧ W.cell? ⟨b1, o1 + j * 8 + 3, none⟩ = some (.int .i64 v.kd) ∧ W.cell? ⟨b1, o1 + j * 8 + 4, none⟩ = some (.int .i64 v.st) ∧ W.cell? ⟨b1, o1 + j * 8 + 5, none⟩ = some (.int .i64 v.op) ∧ W.cell? ⟨b1, o1 + j * 8 + 6, none⟩ = some (.int .i64 v.us) ∧ W.cell? ⟨b1, o1 + j * 8 + 7, none⟩ = some (.slice s1 v.inj.length c1)) ∧ (W.cell? ⟨b2, o2 + j * 8, none⟩ = some (.int .i64 v.dn) ∧ W.cell? ⟨b2, o2 + j * 8 + 1, none⟩ = some (.int .i64 v.who) ∧ W.cell? ⟨b2, o2 + j * 8 + 2, none⟩ = some (.int .i64 v.k) ∧ W.cell? ⟨b2, o2 + j * 8 + 3, none⟩ = some (.int .i64 v.kd) ∧ W.cell? ⟨b2, o2 + j * 8 + 4, none⟩ = some (.int .i64 v.st) ∧ W.cell? ⟨b2, o2 + j * 8 + 5, none⟩ = some (.int .i64 v.op) ∧ W.cell? ⟨b2, o2 + j * 8 + 6, none⟩ = some (.int .i64 v.us) ∧ W.cell? ⟨b2, o2 + j * 8 + 7, none⟩ = some (.slice s2 v.inj.length c2)) := fun W hW => by
        obtain ⟨_, _, q1, d1⟩ := (g1.same hW).at e1
        obtain ⟨_, _, q2, d2⟩ := (g2.same hW).at e2
        cases q1
        cases q2
        exact ⟨d1, d2⟩
      have HC := Lib.hid (And.intro C (And.intro (fun W (hW : Touch (fun _ => False) wr W) => (g1.same hW).bytes _ (List.mem_of_getElem? e1)) (fun W (hW : Touch (fun _ => False) wr W) => (g2.same hW).bytes _ (List.mem_of_getElem? e2))))
      have HB := Lib.hid hb
      clear C g1 g2 e1 e2 hb
      go_wp2_with fail
      refine wp_region_held_drew (S := fun w' : World => (w'.cell? ⟨b1, o1 + j * 8, none⟩ = some (.int .i64 v.dn) ∧ w'.cell? ⟨b1, o1 + j * 8 + 1, none⟩ = some (.int .i64 v.who) ∧ w'.cell? ⟨b1, o1 + j * 8 + 2, none⟩ = some (.int .i64 v.k) ∧ w'.cell? ⟨b1, o1 + j * 8 + 3, none⟩ = some (.int .i64 v.kd) ∧ w'.cell? ⟨b1, o1 + j * 8 + 4, none⟩ = some (.int .i64 v.st) ∧ w'.cell? ⟨b1, o1 + j * 8 + 5, none⟩ = some (.int .i64 v.op) ∧ w'.cell? ⟨b1, o1 + j * 8 + 6, none⟩ = some (.int .i64 v.us) ∧ w'.cell? ⟨b1, o1 + j * 8 + 7, none⟩ = some (.slice s1 v.inj.length c1)) ∧ (w'.cell? ⟨b2, o2 + j * 8, none⟩ = some (.int .i64 v.dn) ∧ w'.cell? ⟨b2, o2 + j * 8 + 1, none⟩ = some (.int .i64 v.who) ∧ w'.cell? ⟨b2, o2 + j * 8 + 2, none⟩ = some (.int .i64 v.k) ∧ w'.cell? ⟨b2, o2 + j * 8 + 3, none⟩ = some (.int .i64 v.kd) ∧ w'.cell? ⟨b2, o2 + j * 8 + 4, none⟩ = some (.int .i64 v.st) ∧ w'.cell? ⟨b2, o2 + j * 8 + 5, none⟩ = some (.int .i64 v.op) ∧ w'.cell? ⟨b2, o2 + j * 8 + 6, none⟩ = some (.int .i64 v.us) ∧ w'.cell? ⟨b2, o2 + j * 8 + 7, none⟩ = some (.slice s2 v.inj.length c2))) (by kernel_rfl) (HC.out.1 _ ((Touch.refl _ _).drew)) (fun hHeld => ?_)
      refine region_take 0 (v := ?va0) rfl rfl (by kernel_rfl) (by kernel_rfl) (by kernel_rfl) (fun _ _ _ h => h) hHeld (Or.inl ⟨by rfl, ?ya0⟩) ?ra0
      case ya0 => (intro w hSw; (try dsimp only at hSw); go_simp; try with_reducible rfl)
      try simp only [Act.put, List.setIfInBounds_toArray, List.set_cons_zero, List.set_cons_succ]
      refine region_take 1 (v := ?va1) rfl rfl (by kernel_rfl) (by kernel_rfl) (by kernel_rfl) (fun _ _ _ h => h) hHeld (Or.inl ⟨by rfl, ?ya1⟩) ?ra1
      case ya1 => (intro w hSw; (try dsimp only at hSw); go_simp; try with_reducible rfl)
      try simp only [Act.put, List.setIfInBounds_toArray, List.set_cons_zero, List.set_cons_succ]
      refine region_take 2 (v := ?va2) rfl rfl (by kernel_rfl) (by kernel_rfl) (by kernel_rfl) (fun _ _ _ h => h) hHeld (Or.inl ⟨by rfl, ?ya2⟩) ?ra2
      case ya2 => (intro w hSw; (try dsimp only at hSw); go_simp; try with_reducible rfl)
      try simp only [Act.put, List.setIfInBounds_toArray, List.set_cons_zero, List.set_cons_succ]
      refine region_take 3 (v := ?va3) rfl rfl (by kernel_rfl) (by kernel_rfl) (by kernel_rfl) (fun _ _ _ h => h) hHeld (Or.inl ⟨by rfl, ?ya3⟩) ?ra3
      case ya3 => (intro w hSw; (try dsimp only at hSw); go_simp; try with_reducible rfl)
      try simp only [Act.put, List.setIfInBounds_toArray, List.set_cons_zero, List.set_cons_succ]
      refine region_take 4 (v := ?va4) rfl rfl (by kernel_rfl) (by kernel_rfl) (by kernel_rfl) (fun _ _ _ h => h) hHeld (Or.inl ⟨by rfl, ?ya4⟩) ?ra4
      case ya4 => (intro w hSw; (try dsimp only at hSw); go_simp; try with_reducible rfl)
      try simp only [Act.put, List.setIfInBounds_toArray, List.set_cons_zero, List.set_cons_succ]
      refine region_take 5 (v := ?va5) rfl rfl (by kernel_rfl) (by kernel_rfl) (by kernel_rfl) (fun _ _ _ h => h) hHeld (Or.inl ⟨by rfl, ?ya5⟩) ?ra5
      case ya5 => (intro w hSw; (try dsimp only at hSw); go_simp; try with_reducible rfl)
      try simp only [Act.put, List.setIfInBounds_toArray, List.set_cons_zero, List.set_cons_succ]
      refine region_take 6 (v := ?va6) rfl rfl (by kernel_rfl) (by kernel_rfl) (by kernel_rfl) (fun _ _ _ h => h) hHeld (Or.inl ⟨by rfl, ?ya6⟩) ?ra6
      case ya6 => (intro w hSw; (try dsimp only at hSw); go_simp; try with_reducible rfl)
      try simp only [Act.put, List.setIfInBounds_toArray, List.set_cons_zero, List.set_cons_succ]
      refine region_take 7 (v := ?va7) rfl rfl (by kernel_rfl) (by kernel_rfl) (by kernel_rfl) (fun _ _ _ h => h) hHeld (Or.inl ⟨by rfl, ?ya7⟩) ?ra7
      case ya7 => (intro w hSw; (try dsimp only at hSw); go_simp; try with_reducible rfl)
      try simp only [Act.put, List.setIfInBounds_toArray, List.set_cons_zero, List.set_cons_succ]
      refine region_one 8 (by kernel_rfl) rfl (fun K hK => ?_)
      go_simp
      go_at_call 43
      (with_reducible refine (one_eq v s1 s2 c1 c2 _ (HC.out.2.1 _ ((Touch.refl _ _).drew)) (HC.out.2.2 _ ((Touch.refl _ _).drew))).mono ?_)
      rintro e w2 ⟨rfl, hb2⟩
      have t2 := Lib.hid (((Touch.refl (fun _ => False) wr).drew).trans (Touch.of_below hb2))
      clear hb2
      refine hK.out _ _ (HC.out.1 _ t2.out) (fun _ => ?_)
      clear hK K hHeld
      have hHeld := HC.out.1 _ t2.out
      try simp only [Act.put, List.setIfInBounds_toArray, List.set_cons_zero, List.set_cons_succ]
      refine region_take 9 (v := ?va9) rfl rfl (by kernel_rfl) (by kernel_rfl) (by kernel_rfl) (fun _ _ _ h => h) hHeld (Or.inl ⟨by rfl, ?ya9⟩) ?ra9
      case ya9 => (intro w hSw; (try dsimp only at hSw); go_simp; try with_reducible rfl)
      try simp only [Act.put, List.setIfInBounds_toArray, List.set_cons_zero, List.set_cons_succ]
      refine wpAnyH_done (by kernel_rfl) ?_ _
      go_wp2_with fail
      go_roundw
      case rel => exact ⟨j + 1, hjl, by first | rfl | (congr 1; omega), HB.out.trans (t2.out.below HB.out.size (fun _ _ h => h))⟩
      case measure => simp [intOf]; omega

/-- How many acts do d. -/
def countV (L : List ActV) (d : Int) : Nat := (L.filter fun v => v.dn == d).length
theorem countV_snoc (L : List ActV) (v : ActV) (d : Int) : countV (L ++ [v]) d = countV L d + (if v.dn = d then 1 else 0) := by
  unfold countV
  by_cases h : v.dn = d <;> simp [List.filter_append, h]

set_option maxRecDepth 100000 in
set_option maxHeartbeats 2000000 in
theorem count_any (a : Option Addr) (n k : Nat) (R : ActRow) (d : Int) (w : World) (h : RowAt w a R) (hn : R.length = n) (hk : n ≤ k) (hm : k ≤ maxLen) :
    Calls Try.prog 41 #[.slice a n k, .int .i64 d] w fun e w' => e = .returned (.int .i64 (countV (R.map (·.1)) d)) ∧ Below w.heap.size w w' := by
  unfold maxLen at hm
  have HH := Lib.hid (And.intro h hn)
  clear h hn
  go_enter Try.func41, Try.ntmps41
  go_wp2_with fail
  go_loopw [4, 9] (fun m i wz => ∃ j : Nat, j ≤ n ∧ i = .int .i64 j ∧ m = .int .i64 (countV ((R.map (·.1)).take j) d) ∧ Below w.heap.size w wz) (fun _ i _ => (n - intOf i).toNat)
  case atStart => exact ⟨0, Nat.zero_le _, rfl, rfl, Below.refl _ _⟩
  case round =>
    obtain ⟨j, hj, rfl, rfl, hb⟩ := hrel
    by_cases hq : j = n
    · subst hq
      go_wp2_with fail
      go_ret
      refine ⟨?_, hb⟩
      rw [List.take_of_length_le (by simp [HH.out.2])]
      rfl
    · have hjl : j < n := by omega
      have hj1 : (j : Int) < n := by omega
      have hj0 : (0 : Int) ≤ j := by omega
      have hkk1 : (n : Int) ≤ k := by omega
      obtain ⟨p1, e1⟩ : ∃ p1, R[j]? = some p1 := ⟨_, List.getElem?_eq_getElem (by have := HH.out.2; omega)⟩
      obtain ⟨b1, o1, rfl, d0, d1, d2, d3, d4, d5, d6, d7⟩ := (HH.out.1.same (Touch.of_below hb)).at e1
      have hs : countV ((R.map (·.1)).take (j + 1)) d = countV ((R.map (·.1)).take j) d + (if p1.1.dn = d then 1 else 0) := by
        rw [List.take_add_one, show (R.map (·.1))[j]? = some p1.1 by simp [e1]]
        exact countV_snoc _ _ _
      obtain ⟨cj, hcj⟩ : ∃ cj, countV ((R.map (·.1)).take j) d = cj := ⟨_, rfl⟩
      have hcn : cj ≤ j := by
        rw [← hcj]
        unfold countV
        refine Nat.le_trans (List.length_filter_le _ _) ?_
        simp
        try omega
      rw [hcj] at hs ⊢
      have HS := Lib.hid (And.intro hs hb)
      clear hs hcj hb e1
      have hc : (p1.1.dn = d ∧ (p1.1.dn == d) = true) ∨ (p1.1.dn ≠ d ∧ (p1.1.dn == d) = false) := by by_cases h : p1.1.dn = d <;> simp [h]
      rcases hc with ⟨hc, hd⟩ | ⟨hc, hd⟩
      all_goals
        have HQ := Lib.hid hc
        clear hc
        go_wp2_with fail
        go_roundw
        case rel =>
          refine ⟨j + 1, hjl, by first | rfl | (congr 1; omega), ?_, HS.out.2.alloc HS.out.2.size _⟩
          rw [HS.out.1]
          have := HQ.out
          simp [this]
          try (unfold wrap64; omega)
        case measure => simp [intOf]; omega
end Go.Proofs.Ytgoppolkplmphaa
