/-
  A SLICE OF STRUCTS OF TWO NUMBERS THAT CAME IN.
-/
import Derived.Test.YtgoppolkplmphaaRows
import Derived.Test.YtgoppolkplmphaaOpen
import Derived.Deep.SlicePairs
namespace Go.Proofs.Ytgoppolkplmphaa
open Go.ChangeShapes Go.WideShapes Go.ChangeAt Go.RowKit

structure PairsIn (w : World) (a : Option Addr) (len cap : Nat) (A : List (Int × Int)) : Prop where
  hlen : A.length = len
  le : len ≤ cap
  hcap : cap ≤ maxLen
  nil : a = none → cap = 0
  cells : ∀ i p, A[i]? = some p → ∃ b o, a = some ⟨b, o, none⟩ ∧ b < w.heap.size ∧ w.cell? ⟨b, o + i * 2, none⟩ = some (.int .i64 p.1) ∧ w.cell? ⟨b, o + i * 2 + 1, none⟩ = some (.int .i64 p.2)
  wf : ∀ p ∈ A, (Lit.int .i64 p.1).wf = true ∧ (Lit.int .i64 p.2).wf = true

theorem PairsIn.touch {w w' : World} {a : Option Addr} {len cap : Nat} {A : List (Int × Int)} (h : PairsIn w a len cap A) {S : Nat → Prop} (ht : Touch S w w') (hS : ∀ k, k < w.heap.size → ¬ S k) : PairsIn w' a len cap A := by
  refine ⟨h.hlen, h.le, h.hcap, h.nil, fun i p hi => ?_, h.wf⟩
  obtain ⟨b, o, ha, hb, h0, h1⟩ := h.cells i p hi
  refine ⟨b, o, ha, Nat.lt_of_lt_of_le hb ht.size, ?_, ?_⟩
  · rw [World.cell?_of_block (w := w) (a := ⟨b, o + i * 2, none⟩) (ht.block _ hb (hS b hb))]; exact h0
  · rw [World.cell?_of_block (w := w) (a := ⟨b, o + i * 2 + 1, none⟩) (ht.block _ hb (hS b hb))]; exact h1

theorem pairs_of {H : Type} {P : Program} {enc : TypeId × Value → H} {w : World} {base : Nat} {held : Bool} {t e : TypeId} {f0 f1 : Field} {a : Option Addr} {len cap : Nat} {d : DataW H} {p : List MemPlace}
    (ht : P.underlying t = some (.slice e)) (he : P.underlying e = some (.struct #[f0, f1]))
    (ce : P.cellsOf e = 2) (o0 : f0.offset = 0) (o1 : f1.offset = 1) (c0 : P.cellsOf f0.type = 1) (c1 : P.cellsOf f1.type = 1) (u0 : P.underlying f0.type = some (.int .i64)) (u1 : P.underlying f1.type = some (.int .i64))
    (h : DataW.Trod enc P w base (fun _ => true) held t (.slice a len cap) d p) :
    ∃ A : List (Int × Int), PairsIn w a len cap A := by
  obtain ⟨fuel, hf⟩ := h
  rcases Go.Deep.open_slice_pairs ht he ce o0 o1 c0 c1 hf with ⟨hcs, _⟩ | ⟨x, l, c, m, n, V0, V1, D0, D1, P0, P1, hcs, hb, hl, hm, hmm, _, hx⟩
  · simp [Value.cells] at hcs
    obtain ⟨rfl, rfl, rfl⟩ := hcs
    exact ⟨[], rfl, Nat.le_refl _, Nat.zero_le _, (fun _ => rfl), (fun i p hi => by simp at hi), (fun p hp => by cases hp)⟩
  · simp [Value.cells] at hcs
    obtain ⟨rfl, rfl, rfl⟩ := hcs
    simp only [if_true] at hmm
    subst hmm
    have each : ∀ r, r < m → ∃ y : Int × Int, V0 r = .int .i64 y.1 ∧ V1 r = .int .i64 y.2 ∧ (Lit.int .i64 y.1).wf = true ∧ (Lit.int .i64 y.2).wf = true := by
      intro r hr
      obtain ⟨_, _, t0, t1⟩ := hx r hr
      obtain ⟨n0, e0, _, w0⟩ := DataW.trod_int u0 t0
      obtain ⟨n1, e1, _, w1⟩ := DataW.trod_int u1 t1
      exact ⟨(n0, n1), by simpa using e0, by simpa using e1, w0, w1⟩
    obtain ⟨y, hy⟩ := Go.Deep.choose_lt each
    refine ⟨(List.range len).map y, by simp, hl, hm, (fun h => by cases h), fun i p hi => ?_, fun p hp => ?_⟩
    · have hi' : i < len := by
        have := (List.getElem?_eq_some_iff.1 hi).1
        simpa using this
      obtain rfl : y i = p := by
        simp [hi'] at hi
        exact hi
      obtain ⟨h0, h1, _, _⟩ := hx i (by omega)
      rw [(hy i (by omega)).1] at h0
      rw [(hy i (by omega)).2.1] at h1
      obtain ⟨b, o, s⟩ := x
      cases s with
      | none =>
        rw [Addr.add_lit] at h0 h1
        exact ⟨b, o, rfl, World.block_lt_of_cell? w ⟨b, o + i * 2, none⟩ h0, h0, by rw [Nat.add_assoc]; exact h1⟩
      | some s =>
        exfalso
        have hc0 := (hx 0 (by omega)).1
        rw [(hy 0 (by omega)).1] at hc0
        simp only [World.cell?, Addr.add, Nat.zero_mul, if_true] at hc0
        split at hc0
        · simp at hc0
        · cases hc0
    · rw [List.mem_map] at hp
      obtain ⟨i, hi, rfl⟩ := hp
      rw [List.mem_range] at hi
      exact (hy i (by omega)).2.2
end Go.Proofs.Ytgoppolkplmphaa
