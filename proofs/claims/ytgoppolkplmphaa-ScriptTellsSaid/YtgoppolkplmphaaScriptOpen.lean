/-
  A SLICE OF ACTS THAT CAME IN (layer 26).
-/
import Derived.Test.YtgoppolkplmphaaRows
import Derived.Test.YtgoppolkplmphaaScriptSame
import Derived.Test.YtgoppolkplmphaaOpen
import Derived.Deep.SlicePairs
namespace Go.Proofs.Ytgoppolkplmphaa
open Go.ChangeShapes Go.WideShapes Go.ChangeAt Go.RowKit

instance : Inhabited ActV := ⟨⟨0, 0, 0, 0, 0, 0, 0, []⟩⟩

theorem rowCells_len (R : ActRow) : (rowCells R).length = R.length * 8 := by
  induction R with
  | nil => rfl
  | cons q R ih =>
    have h : rowCells (q :: R) = actCells q ++ rowCells R := by simp [rowCells]
    rw [h, List.length_append, ih]
    simp [actCells]
    omega

theorem cells_act : Try.prog.cellsOf 55 = 8 := by kernel_rfl
theorem cells_order : Try.prog.cellsOf 53 = 4 := by kernel_rfl
theorem cells_int : Try.prog.cellsOf 3 = 1 := by kernel_rfl
theorem cells_bytes : Try.prog.cellsOf 31 = 1 := by kernel_rfl
theorem cells_byte : Try.prog.cellsOf 5 = 1 := by kernel_rfl

/-- One act that came in. -/
theorem act_of {H : Type} {enc : TypeId × Value → H} {w : World} {base n : Nat} {held : Bool} {cs : List Value} {x : DataW H × List MemPlace} (hl : cs.length = 8)
    (h : DataW.trod enc Try.prog w base (fun _ => true) held n 55 cs = some x) : ∃ q : ActV × Option Addr × Nat, cs = actCells q ∧ SlAt w q.2.1 (bys q.1.inj) := by
  obtain ⟨xs, k, hk, hxy, _, hxl, hf⟩ := DataW.trod_struct Try.underlying55 h
  match cs, hl with
  | [v0, v1, v2, v3, v4, v5, v6, v7], _ =>
    match xs, hxl with
    | [y0, y1, y2, y3, y4], _ =>
      have g0 : DataW.trod enc Try.prog w base (fun _ => true) held k 3 (List.take (Try.prog.cellsOf 3) (List.drop 0 [v0, v1, v2, v3, v4, v5, v6, v7])) = some y0 := hf 0 _ rfl
      have g1 : DataW.trod enc Try.prog w base (fun _ => true) held k 3 (List.take (Try.prog.cellsOf 3) (List.drop 1 [v0, v1, v2, v3, v4, v5, v6, v7])) = some y1 := hf 1 _ rfl
      have g2 : DataW.trod enc Try.prog w base (fun _ => true) held k 3 (List.take (Try.prog.cellsOf 3) (List.drop 2 [v0, v1, v2, v3, v4, v5, v6, v7])) = some y2 := hf 2 _ rfl
      have g3 : DataW.trod enc Try.prog w base (fun _ => true) held k 53 (List.take (Try.prog.cellsOf 53) (List.drop 3 [v0, v1, v2, v3, v4, v5, v6, v7])) = some y3 := hf 3 _ rfl
      have g4 : DataW.trod enc Try.prog w base (fun _ => true) held k 31 (List.take (Try.prog.cellsOf 31) (List.drop 7 [v0, v1, v2, v3, v4, v5, v6, v7])) = some y4 := hf 4 _ rfl
      simp only [cells_int, List.drop_succ_cons, List.drop_zero, List.take_succ_cons, List.take_zero] at g0 g1 g2
      simp only [cells_order, List.drop_succ_cons, List.drop_zero, List.take_succ_cons, List.take_zero] at g3
      simp only [cells_bytes, List.drop_succ_cons, List.drop_zero, List.take_succ_cons, List.take_zero] at g4
      obtain ⟨n0, e0, _, _⟩ := DataW.trod_int Try.underlying3 g0
      obtain ⟨n1, e1, _, _⟩ := DataW.trod_int Try.underlying3 g1
      obtain ⟨n2, e2, _, _⟩ := DataW.trod_int Try.underlying3 g2
      obtain ⟨xs', k', hk', hxy', _, hxl', hf'⟩ := DataW.trod_struct Try.underlying53 g3
      match xs', hxl' with
      | [z0, z1, z2, z3], _ =>
        have p0 : DataW.trod enc Try.prog w base (fun _ => true) held k' 3 (List.take (Try.prog.cellsOf 3) (List.drop 0 [v3, v4, v5, v6])) = some z0 := hf' 0 _ rfl
        have p1 : DataW.trod enc Try.prog w base (fun _ => true) held k' 3 (List.take (Try.prog.cellsOf 3) (List.drop 1 [v3, v4, v5, v6])) = some z1 := hf' 1 _ rfl
        have p2 : DataW.trod enc Try.prog w base (fun _ => true) held k' 3 (List.take (Try.prog.cellsOf 3) (List.drop 2 [v3, v4, v5, v6])) = some z2 := hf' 2 _ rfl
        have p3 : DataW.trod enc Try.prog w base (fun _ => true) held k' 3 (List.take (Try.prog.cellsOf 3) (List.drop 3 [v3, v4, v5, v6])) = some z3 := hf' 3 _ rfl
        simp only [cells_int, List.drop_succ_cons, List.drop_zero, List.take_succ_cons, List.take_zero] at p0 p1 p2 p3
        obtain ⟨n3, e3, _, _⟩ := DataW.trod_int Try.underlying3 p0
        obtain ⟨n4, e4, _, _⟩ := DataW.trod_int Try.underlying3 p1
        obtain ⟨n5, e5, _, _⟩ := DataW.trod_int Try.underlying3 p2
        obtain ⟨n6, e6, _, _⟩ := DataW.trod_int Try.underlying3 p3
        have hv : ∃ a' l' c', v7 = .slice a' l' c' := by
          rcases open_ints Try.underlying31 Try.underlying5 cells_byte g4 with ⟨hcs, _⟩ | ⟨x', l', c', zs, hcs, _⟩
          · exact ⟨none, 0, 0, by simpa using hcs⟩
          · exact ⟨some x', l', c', by simpa using hcs⟩
        obtain ⟨a', l', c', rfl⟩ := hv
        obtain ⟨zs, hz⟩ := row_of (k := .u8) Try.underlying31 Try.underlying5 cells_byte ⟨k, g4⟩
        have := hz.hlen
        subst this
        simp only [List.cons.injEq, and_true] at e0 e1 e2 e3 e4 e5 e6
        subst e0 e1 e2 e3 e4 e5 e6
        exact ⟨(⟨n0, n1, n2, n3, n4, n5, n6, zs⟩, a', c'), rfl, hz.bys⟩

theorem acts_of {H : Type} {enc : TypeId × Value → H} {w : World} {base : Nat} {held : Bool} {a : Option Addr} {len cap : Nat} {d : DataW H} {p : List MemPlace}
    (h : DataW.Trod enc Try.prog w base (fun _ => true) held 47 (.slice a len cap) d p) : ∃ R : ActRow, R.length = len ∧ len ≤ cap ∧ cap ≤ maxLen ∧ RowAt w a R := by
  obtain ⟨fuel, hf⟩ := h
  rcases Go.Deep.open_slice Try.underlying47 hf with ⟨hcs, _⟩ | ⟨x, l, c, m, n, D, Pl, hcs, hb, hl, hm, hmm, _, hx⟩
  · simp [Value.cells] at hcs
    obtain ⟨rfl, rfl, rfl⟩ := hcs
    exact ⟨[], rfl, Nat.le_refl _, Nat.zero_le _, rfl, fun q hq => by cases hq⟩
  · simp [Value.cells] at hcs
    obtain ⟨rfl, rfl, rfl⟩ := hcs
    simp only [if_true] at hmm
    subst hmm
    have each : ∀ r, r < m → ∃ q : ActV × Option Addr × Nat, (∀ k u, (actCells q)[k]? = some u → w.cell? ((x.add (r * 8)).add k) = some u) ∧ SlAt w q.2.1 (bys q.1.inj) := by
      intro r hr
      obtain ⟨cs', h1, h2⟩ := hx r hr
      rw [cells_act] at h1
      obtain ⟨_, hlen, hcell⟩ := World.cells?_some h1
      obtain ⟨q, rfl, hs⟩ := act_of hlen h2
      refine ⟨q, fun k u hk => ?_, hs⟩
      have hk8 : k < 8 := by
        have := (List.getElem?_eq_some_iff.1 hk).1
        simpa [actCells] using this
      rw [hcell k hk8]
      exact hk
    obtain ⟨y, hy⟩ := Go.Deep.choose_lt each
    refine ⟨(List.range len).map y, by simp, hl, hm, fun j u hj => ?_, fun q hq => ?_⟩
    · have hjl : j < ((List.range len).map y).length * 8 := by
        have := (List.getElem?_eq_some_iff.1 hj).1
        rwa [rowCells_len] at this
      simp at hjl
      have hi : j / 8 < len := by omega
      have hq : ((List.range len).map y)[j / 8]? = some (y (j / 8)) := by simp [hi]
      have h8 := rowCells_at _ (j / 8) _ hq (j % 8) (by omega)
      rw [show j / 8 * 8 + j % 8 = j by omega, hj] at h8
      have hc := (hy (j / 8) (by omega)).1 (j % 8) u h8.symm
      obtain ⟨b, o, s⟩ := x
      cases s with
      | none =>
        rw [Addr.add_lit, Addr.add_lit, show o + j / 8 * 8 + j % 8 = o + j by omega] at hc
        exact ⟨rfl, hc⟩
      | some s =>
        exfalso
        have hc0 := (hy 0 (by omega)).1 0 (.int .i64 (y 0).1.dn) rfl
        simp only [World.cell?, Addr.add, Nat.zero_mul, if_true] at hc0
        split at hc0
        · simp at hc0
        · cases hc0
    · rw [List.mem_map] at hq
      obtain ⟨i, hi, rfl⟩ := hq
      rw [List.mem_range] at hi
      exact (hy i (by omega)).2
end Go.Proofs.Ytgoppolkplmphaa
