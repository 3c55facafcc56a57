/-
  What the laws of digests share: bytes that came in, as numbers.
-/
import Derived.Test.YthlkmofemnepbaaRows
import Derived.Test.YthlkmofemnepbaaDigestSmall
import Derived.Test.YthlkmofemnepbaaOpen
namespace Go.Proofs.Ythlkmofemnepbaa
open Go.RowKit

def nats (zs : List Int) : List Nat := zs.map Int.toNat
theorem nats_len (zs : List Int) : (nats zs).length = zs.length := by simp [nats]
theorem bn_nats {zs : List Int} (h : ∀ z ∈ zs, 0 ≤ z ∧ z < 256) : bn (nats zs) = bys zs := by
  unfold bn nats natsD
  congr 1
  rw [List.map_map]
  refine List.ext_getElem (by simp) fun i h1 h2 => ?_
  simp only [List.getElem_map, Function.comp]
  have := h (zs[i]'h2) (List.getElem_mem h2)
  omega
theorem nats_lt {zs : List Int} (h : ∀ z ∈ zs, 0 ≤ z ∧ z < 256) : ∀ y ∈ nats zs, y < 256 := by
  intro y hy
  unfold nats at hy
  rw [List.mem_map] at hy
  obtain ⟨z, hz, rfl⟩ := hy
  have := h z hz
  omega

/-- Bytes that came in. -/
structure BytesIn (w : World) (a : Option Addr) (len cap : Nat) (b : List Nat) : Prop where
  hlen : b.length = len
  le : len ≤ cap
  hcap : cap ≤ maxLen
  nil : a = none → cap = 0
  cells : SlAt w a (bn b)
  old : ∀ x, a = some x → b ≠ [] → x.block < w.heap.size
  lt : ∀ y ∈ b, y < 256

theorem RowIn.bytes {w : World} {a : Option Addr} {len cap : Nat} {zs : List Int} (h : RowIn .u8 w a len cap zs) : BytesIn w a len cap (nats zs) :=
  ⟨by rw [nats_len]; exact h.hlen, h.le, h.hcap, h.nil, by rw [bn_nats h.range]; exact h.bys, fun x hx hn => h.old x hx (fun e => hn (by rw [e]; rfl)), nats_lt h.range⟩
end Go.Proofs.Ythlkmofemnepbaa
