/-
  DIGESTS BY A KEY (layer 3), in plain Lean. It speaks of no program.
-/
import Derived.Test.YthlkmofemnepbaaRows
import Derived.Test.YthlkmofemnepbaaDigestSmall
namespace Go.Proofs.Ythlkmofemnepbaa
open Go.RowKit

/-- A key's 64 bytes. -/
def macKey (key : List Nat) : List Nat :=
  let k := if 64 < key.length then sha key else key
  k ++ List.replicate (64 - k.length) 0
def macBlock (key : List Nat) (by' : Nat) : List Nat := (macKey key).map (· ^^^ by')
/-- The digest of bytes by a key. -/
def hmac (key b : List Nat) : List Nat := sha (macBlock key 92 ++ sha (macBlock key 54 ++ b))

theorem hmac_jefe : (hmac [74, 101, 102, 101] [119, 104, 97, 116, 32, 100, 111, 32, 121, 97, 32, 119, 97, 110, 116, 32, 102, 111, 114, 32, 110, 111, 116, 104, 105, 110, 103, 63]).take 8 = [91, 220, 193, 70, 191, 96, 117, 78] := by decide +kernel
theorem hmac_nil : (hmac [] []).take 4 = [182, 19, 103, 154] := by decide +kernel

theorem macKey_len (key : List Nat) : (macKey key).length = 64 := by
  unfold macKey
  by_cases h : 64 < key.length
  · simp [h, sha_len]
  · simp [h]; omega
theorem macKey_lt (key : List Nat) (h : ∀ y ∈ key, y < 256) : ∀ y ∈ macKey key, y < 256 := by
  intro y hy
  unfold macKey at hy
  simp only [List.mem_append] at hy
  rcases hy with hy | hy
  · split at hy
    · exact sha_lt _ y hy
    · exact h y hy
  · rw [List.eq_of_mem_replicate hy]; omega
theorem xor_byte {a b : Nat} (ha : a < 256) (hb : b < 256) : a ^^^ b < 256 := Nat.xor_lt_two_pow (n := 8) ha hb
theorem macBlock_len (key : List Nat) (by' : Nat) : (macBlock key by').length = 64 := by rw [macBlock, List.length_map, macKey_len]
theorem macBlock_lt (key : List Nat) (by' : Nat) (h : ∀ y ∈ key, y < 256) (hb : by' < 256) : ∀ y ∈ macBlock key by', y < 256 := by
  intro y hy
  unfold macBlock at hy
  rw [List.mem_map] at hy
  obtain ⟨z, hz, rfl⟩ := hy
  exact xor_byte (macKey_lt key h z hz) hb
theorem hmac_len (key b : List Nat) : (hmac key b).length = 32 := sha_len _
theorem hmac_lt (key b : List Nat) : ∀ y ∈ hmac key b, y < 256 := sha_lt _

theorem xor_u8 (a b : Nat) (ha : a < 256) (hb : b < 256) : bits .xor .u8 (a : Int) (b : Int) = ((a ^^^ b : Nat) : Int) := by
  have h1 : (BitVec.ofInt 8 (a : Int)).toNat = a := by rw [BitVec.ofInt_natCast, BitVec.toNat_ofNat]; exact Nat.mod_eq_of_lt (by omega)
  have h2 : (BitVec.ofInt 8 (b : Int)).toNat = b := by rw [BitVec.ofInt_natCast, BitVec.toNat_ofNat]; exact Nat.mod_eq_of_lt (by omega)
  have h3 : a ^^^ b < 2 ^ 8 := Nat.xor_lt_two_pow (by omega) (by omega)
  show IntKind.u8.wrap ((BitVec.ofInt 8 (a : Int) ^^^ BitVec.ofInt 8 (b : Int)).toNat : Int) = _
  rw [BitVec.toNat_xor, h1, h2]
  simp [IntKind.wrap, IntKind.bits, IntKind.signed]
  omega
theorem or_u8 (a b : Nat) (ha : a < 256) (hb : b < 256) : bits .or .u8 (a : Int) (b : Int) = ((a ||| b : Nat) : Int) := by
  have h1 : (BitVec.ofInt 8 (a : Int)).toNat = a := by rw [BitVec.ofInt_natCast, BitVec.toNat_ofNat]; exact Nat.mod_eq_of_lt (by omega)
  have h2 : (BitVec.ofInt 8 (b : Int)).toNat = b := by rw [BitVec.ofInt_natCast, BitVec.toNat_ofNat]; exact Nat.mod_eq_of_lt (by omega)
  have h3 : a ||| b < 2 ^ 8 := Nat.or_lt_two_pow (by omega) (by omega)
  show IntKind.u8.wrap ((BitVec.ofInt 8 (a : Int) ||| BitVec.ofInt 8 (b : Int)).toNat : Int) = _
  rw [BitVec.toNat_or, h1, h2]
  simp [IntKind.wrap, IntKind.bits, IntKind.signed]
  omega
theorem xor_zero_iff (a b : Nat) : a ^^^ b = 0 ↔ a = b := by
  constructor
  · intro h
    have e : a ^^^ b ^^^ b = 0 ^^^ b := by rw [h]
    rw [Nat.xor_assoc, Nat.xor_self, Nat.xor_zero, Nat.zero_xor] at e
    exact e
  · rintro rfl; exact Nat.xor_self a
theorem or_zero_iff (a b : Nat) : a ||| b = 0 ↔ a = 0 ∧ b = 0 := Nat.or_eq_zero_iff
end Go.Proofs.Ythlkmofemnepbaa
