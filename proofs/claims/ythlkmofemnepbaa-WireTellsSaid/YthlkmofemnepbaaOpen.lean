/-
  WHAT A LAW's WALK IS TOLD OF ITS ARGUMENTS: a slice of numbers that came in.
-/
import Derived.Test.YthlkmofemnepbaaRows
import Derived.Test.YthlkmofemnepbaaKit
import Derived.OpenShut
import Derived.ShutString
import Derived.ChangeOld
import Derived.Below
import Derived.Deep.Slices
namespace Go.Proofs.Ythlkmofemnepbaa
open Go.ChangeShapes Go.WideShapes Go.ChangeAt Go.RowKit

/-- A slice of numbers that came in: its elements are zs. -/
structure RowIn (k : IntKind) (w : World) (a : Option Addr) (len cap : Nat) (zs : List Int) : Prop where
  hlen : zs.length = len
  le : len ≤ cap
  hcap : cap ≤ maxLen
  nil : a = none → cap = 0
  cells : SlAt w a (zs.map (Value.int k))
  old : ∀ x, a = some x → zs ≠ [] → x.block < w.heap.size
  wf : ∀ n ∈ zs, (Lit.int k n).wf = true

theorem row_of {H : Type} {P : Program} {enc : TypeId × Value → H} {w : World} {base : Nat} {held : Bool} {t e : TypeId} {k : IntKind} {a : Option Addr} {len cap : Nat} {d : DataW H} {p : List MemPlace}
    (hu : P.underlying t = some (.slice e)) (he : P.underlying e = some (.int k)) (hs : P.cellsOf e = 1) (h : DataW.Trod enc P w base (fun _ => true) held t (.slice a len cap) d p) :
    ∃ zs : List Int, RowIn k w a len cap zs := by
  obtain ⟨fuel, hf⟩ := h
  rcases open_ints hu he hs hf with ⟨hcs, _⟩ | ⟨x, l, c, zs, hcs, _, hl, hm, hz, _, hcell, hwz⟩
  · simp [Value.cells] at hcs
    obtain ⟨rfl, rfl, rfl⟩ := hcs
    exact ⟨[], rfl, Nat.le_refl _, Nat.zero_le _, (fun _ => rfl), rfl, (fun x h => by cases h), (fun n h => by cases h)⟩
  · simp [Value.cells] at hcs
    obtain ⟨rfl, rfl, rfl⟩ := hcs
    have hz' : zs.length = cap := by simpa using hz
    have hat : SlAt w (some x) ((zs.take len).map (Value.int k)) := by
      intro j u hj
      have hj' : j < len := by
        have := (List.getElem?_eq_some_iff.1 hj).1
        simp at this; omega
      have hu' : u = .int k (zs.getD j 0) := by
        simp [hj'] at hj
        obtain ⟨y, h1, h2⟩ := hj
        simp [List.getD, h1, h2]
      have hc := hcell j (by omega)
      subst hu'
      obtain ⟨b, o, s⟩ := x
      cases s with
      | none => exact ⟨rfl, by simpa [Addr.add_lit] using hc⟩
      | some s =>
        exfalso
        have hc0 := hcell 0 (by omega)
        simp only [World.cell?, Addr.add, if_true] at hc0
        split at hc0
        · simp at hc0
        · cases hc0
    refine ⟨zs.take len, by simp; omega, hl, hm, (fun h => by cases h), hat, (fun y hy hne => ?_), fun n hn => hwz n (List.mem_of_mem_take hn)⟩
    cases hy
    exact hat.lt (by simpa using hne)

theorem RowIn.ints {w : World} {a : Option Addr} {len cap : Nat} {zs : List Int} (h : RowIn .i64 w a len cap zs) : SlAt w a (ints zs) := h.cells
theorem RowIn.bys {w : World} {a : Option Addr} {len cap : Nat} {zs : List Int} (h : RowIn .u8 w a len cap zs) : SlAt w a (bys zs) := h.cells

theorem RowIn.range {w : World} {a : Option Addr} {len cap : Nat} {zs : List Int} (h : RowIn .u8 w a len cap zs) : ∀ z ∈ zs, 0 ≤ z ∧ z < 256 := fun z hz => by
  have := h.wf z hz
  simp [Lit.wf, IntKind.min, IntKind.max, IntKind.bits, IntKind.signed] at this
  omega

theorem slat_of_cells {w : World} {x : Addr} {n : Nat} {f : Nat → Value} (h : ∀ i, i < n → w.cell? (x.add i) = some (f i)) : SlAt w (some x) ((List.range n).map f) := by
  intro j u hj
  have hj' : j < n := by
    have := (List.getElem?_eq_some_iff.1 hj).1
    simpa using this
  have hu : u = f j := by
    simp [hj'] at hj
    exact hj.symm
  subst hu
  have hc := h j hj'
  obtain ⟨b, o, s⟩ := x
  cases s with
  | none => exact ⟨rfl, by simpa [Addr.add_lit] using hc⟩
  | some s =>
    exfalso
    have hc0 := h 0 (by omega)
    simp only [World.cell?, Addr.add, if_true] at hc0
    split at hc0
    · simp at hc0
    · cases hc0

/-- A slice of slices of numbers that came in: row r has the elements Z r. -/
structure RowsIn (k : IntKind) (w : World) (a : Option Addr) (len cap : Nat) (A : Nat → Option Addr) (C : Nat → Nat) (Z : Nat → List Int) : Prop where
  le : len ≤ cap
  hcap : cap ≤ maxLen
  nil : a = none → cap = 0
  cells : SlAt w a ((List.range len).map fun r => .slice (A r) (Z r).length (C r))
  rows : ∀ r, r < len → RowIn k w (A r) (Z r).length (C r) (Z r)

theorem rows_of {H : Type} {P : Program} {enc : TypeId × Value → H} {w : World} {base : Nat} {held : Bool} {t e q : TypeId} {k : IntKind} {a : Option Addr} {len cap : Nat} {d : DataW H} {p : List MemPlace}
    (hu : P.underlying t = some (.slice e)) (he : P.underlying e = some (.slice q)) (hq : P.underlying q = some (.int k)) (ce : P.cellsOf e = 1) (cq : P.cellsOf q = 1)
    (h : DataW.Trod enc P w base (fun _ => true) held t (.slice a len cap) d p) :
    ∃ A C Z, RowsIn k w a len cap A C Z := by
  obtain ⟨fuel, hf⟩ := h
  rcases Go.Deep.open_slice1 hu ce hf with ⟨hcs, _⟩ | ⟨x, l, c, m, n, V, D, Pl, hcs, hb, hl, hm, hmm, _, hx⟩
  · simp [Value.cells] at hcs
    obtain ⟨rfl, rfl, rfl⟩ := hcs
    exact ⟨fun _ => none, fun _ => 0, fun _ => [], Nat.le_refl _, Nat.zero_le _, (fun _ => rfl), rfl, (fun r hr => by omega)⟩
  · simp [Value.cells] at hcs
    obtain ⟨rfl, rfl, rfl⟩ := hcs
    simp only [if_true] at hmm
    subst hmm
    have each : ∀ r, r < m → ∃ y : Option Addr × Nat × List Int, V r = .slice y.1 y.2.2.length y.2.1 ∧ RowIn k w y.1 y.2.2.length y.2.1 y.2.2 := by
      intro r hr
      have h2 := (hx r hr).2
      have hv : ∃ a' l' c', V r = .slice a' l' c' := by
        rcases open_ints he hq cq h2 with ⟨hcs, _⟩ | ⟨x', l', c', zs, hcs, _⟩
        · exact ⟨none, 0, 0, by simpa using hcs⟩
        · exact ⟨some x', l', c', by simpa using hcs⟩
      obtain ⟨a', l', c', hv⟩ := hv
      rw [hv] at h2
      obtain ⟨zs, hz⟩ := row_of he hq cq ⟨n, h2⟩
      have := hz.hlen
      subst this
      exact ⟨(a', c', zs), hv, hz⟩
    obtain ⟨y, hy⟩ := Go.Deep.choose_lt each
    refine ⟨fun r => (y r).1, fun r => (y r).2.1, fun r => (y r).2.2, hl, hm, (fun h => by cases h), ?_, fun r hr => (hy r (by omega)).2⟩
    refine slat_of_cells (f := fun r => .slice (y r).1 (y r).2.2.length (y r).2.1) (fun i hi => ?_)
    rw [(hx i (by omega)).1, (hy i (by omega)).1]
end Go.Proofs.Ythlkmofemnepbaa
