/-
  PARTS THAT CAME IN: a slice of slices of bytes, as a list of parts.
-/
import Derived.Test.YtanjhalhpllcaaaRows
import Derived.Test.YtanjhalhpllcaaaDigestLib
namespace Go.Proofs.Ytanjhalhpllcaaa
open Go.RowKit

structure PartsArg (w : World) (a : Option Addr) (len cap : Nat) (L : List Part) : Prop where
  hlen : L.length = len
  le : len ≤ cap
  hcap : cap ≤ maxLen
  nil : a = none → cap = 0
  parts : PartsIn w a L
  lt : ∀ p ∈ L, p.bs.length ≤ p.cap ∧ p.cap ≤ maxLen ∧ ∀ y ∈ p.bs, y < 256

theorem RowsIn.parts {w : World} {a : Option Addr} {len cap : Nat} {A : Nat → Option Addr} {C : Nat → Nat} {Z : Nat → List Int} (h : RowsIn .u8 w a len cap A C Z) : ∃ L, PartsArg w a len cap L := by
  refine ⟨(List.range len).map fun r => ⟨A r, C r, nats (Z r)⟩, by simp, h.le, h.hcap, h.nil, ⟨?_, ?_⟩, ?_⟩
  · have e : ((List.range len).map fun r => (⟨A r, C r, nats (Z r)⟩ : Part)).map Part.v = (List.range len).map fun r => .slice (A r) (Z r).length (C r) := by
      rw [List.map_map]
      refine List.map_congr_left fun r _ => ?_
      simp [Part.v, nats_len]
    rw [e]
    exact h.cells
  · intro p hp
    rw [List.mem_map] at hp
    obtain ⟨r, hr, rfl⟩ := hp
    have hb := (h.rows r (List.mem_range.1 hr)).bytes
    exact ⟨hb.cells, hb.nil⟩
  · intro p hp
    rw [List.mem_map] at hp
    obtain ⟨r, hr, rfl⟩ := hp
    have hb := (h.rows r (List.mem_range.1 hr)).bytes
    exact ⟨by have := hb.le; have := hb.hlen; simp only; omega, hb.hcap, hb.lt⟩
theorem flatP_lt {L : List Part} (h : ∀ p ∈ L, ∀ y ∈ p.bs, y < 256) : ∀ y ∈ flatP L, y < 256 := by
  intro y hy
  unfold flatP at hy
  rw [List.mem_flatMap] at hy
  obtain ⟨p, hp, hy⟩ := hy
  exact h p hp y hy
end Go.Proofs.Ytanjhalhpllcaaa
