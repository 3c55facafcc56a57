/-
  COOKIES (layer 6), in plain Lean; numbers of seven bytes. It speaks of no program but for what field.Put lays.
-/
import Derived.Test.YthlkmofemnepbaaRows
import Derived.Test.YthlkmofemnepbaaPutLib
import Derived.Test.YthlkmofemnepbaaDigestLib
import Derived.Test.YthlkmofemnepbaaMacPlain
namespace Go.Proofs.Ythlkmofemnepbaa
open Go.RowKit

/-- A number's seven bytes. -/
def num7 (n : Int) : List Nat := nats (putList n 7 7)
theorem num7_len (n : Int) : (num7 n).length = 7 := by rw [num7, nats_len, putList_len]
theorem num7_lt (n : Int) : ∀ y ∈ num7 n, y < 256 := nats_lt (putList_range n 7 7)
theorem num7_add (n : Int) : num7 (n + 72057594037927936) = num7 n := by
  unfold num7
  have h := putList_add n 1 7
  have e : n + 1 * 2 ^ (8 * 7) = n + 72057594037927936 := by rw [show (1 : Int) * 2 ^ (8 * 7) = 72057594037927936 from rfl]
  rw [e] at h
  rw [h]
theorem bn_num7 (n : Int) : bn (num7 n) = bys (putList n 7 7) := bn_nats (putList_range n 7 7)

/-- A cookie. -/
def mintN (s : List Nat) (ad no ep : Int) : List Nat := (hmac (hmac s (num7 ep)) (num7 ad ++ (num7 no ++ num7 ep))).take 16
theorem mintN_len (s : List Nat) (ad no ep : Int) : (mintN s ad no ep).length = 16 := by rw [mintN, List.length_take, hmac_len]; rfl
theorem mintN_lt (s : List Nat) (ad no ep : Int) : ∀ y ∈ mintN s ad no ep, y < 256 := fun y hy => hmac_lt _ _ y (List.mem_of_mem_take hy)

/-- What a check says: 0 good, 4 old, 3 not this cookie. -/
def checkN (s : List Nat) (ad no ep now : Int) (c : List Nat) : Int :=
  if ep < 0 ∨ now < ep ∨ 1 < now - ep then 4 else if mintN s ad no ep = c then 0 else 3

theorem mint_secret : mintN [115, 101, 99, 114, 101, 116] 1 2 5 ≠ List.replicate 16 0 := by decide +kernel
end Go.Proofs.Ythlkmofemnepbaa
