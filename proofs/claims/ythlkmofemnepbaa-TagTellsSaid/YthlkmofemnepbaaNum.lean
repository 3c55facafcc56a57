/-
  THE WALKS of field.Reader.Take (both cases in one) and Num (layer 4).
-/
import Derived.Test.YthlkmofemnepbaaReader
namespace Go.Proofs.Ythlkmofemnepbaa
open Go.RowKit

/-- What Take n hands out of zs, what is left, whether it has failed. -/
def rdTake (zs : List Int) (bad : Bool) (n : Int) : List Int × List Int × Bool :=
  if bad = true ∨ n < 0 ∨ (zs.length : Int) < n then ([], [], true) else (zs.take n.toNat, zs.drop n.toNat, false)

def Took (w : World) (rb base : Nat) (r : List Int × List Int × Bool) (e : Ending) (w' : World) : Prop :=
  ∃ v, e = .returned v ∧ w'.ownsRow w.heap.size 5 1 v r.1.length (bys r.1) ∧ RdIs w' rb base r.2.1 r.2.2 ∧ Touch (fun k => k = rb) w w'

set_option maxRecDepth 100000 in
theorem take_rd (rb base : Nat) (zs : List Int) (bad : Bool) (n : Int) (w : World) (hr : RdIs w rb base zs bad) (hz : zs.length ≤ 90000) :
    Calls Try.prog 49 #[.pointer (some ⟨rb, 0, none⟩), .int .i64 n] w (Took w rb base (rdTake zs bad n)) := by
  by_cases h : bad = true ∨ n < 0 ∨ (zs.length : Int) < n
  · rw [show rdTake zs bad n = ([], [], true) by unfold rdTake; rw [if_pos h]]
    refine (take_no rb base zs bad n w hr (by cases bad <;> simp_all <;> omega)).mono ?_
    rintro e w1 ⟨rfl, h1, h2⟩
    exact ⟨_, rfl, by simpa [bys] using World.ownsRow_nil w1 _ _ _, h1, h2⟩
  · rw [show rdTake zs bad n = (zs.take n.toNat, zs.drop n.toNat, false) by unfold rdTake; rw [if_neg h]]
    obtain ⟨rfl, h0, h1⟩ : bad = false ∧ 0 ≤ n ∧ n ≤ zs.length := by cases bad <;> simp_all
    obtain ⟨m, rfl⟩ : ∃ m : Nat, n = m := ⟨n.toNat, by omega⟩
    refine (take_yes rb base zs m w hr (by omega) hz).mono ?_
    rintro e w1 ⟨v, rfl, h1, h2, h3⟩
    refine ⟨v, rfl, ?_, h2, h3⟩
    rw [show (zs.take (m : Int).toNat).length = m by simp; omega]
    exact h1

/-- The number that bytes are, the highest one first. -/
def numOf (zs : List Int) : Int := zs.foldl (fun n c => n * 256 + c) 0
theorem numOf_snoc (zs : List Int) (c : Int) : numOf (zs ++ [c]) = numOf zs * 256 + c := by simp [numOf]

theorem or_byte (x c : Nat) (hx : x < 281474976710656) (hc : c < 256) : bits .or .i64 (x * 256 : Int) (c : Int) = ((x * 256 + c : Nat) : Int) := by
  have h1 : (BitVec.ofInt 64 ((x * 256 : Nat) : Int)).toNat = x * 256 := by
    rw [BitVec.ofInt_natCast, BitVec.toNat_ofNat]; exact Nat.mod_eq_of_lt (by omega)
  have h2 : (BitVec.ofInt 64 (c : Int)).toNat = c := by
    rw [BitVec.ofInt_natCast, BitVec.toNat_ofNat]; exact Nat.mod_eq_of_lt (by omega)
  have h3 : x * 256 ||| c = x * 256 + c := by
    have := Nat.two_pow_add_eq_or_of_lt (i := 8) hc x
    rw [Nat.mul_comm]
    exact this.symm
  show IntKind.i64.wrap ((BitVec.ofInt 64 ((x * 256 : Nat) : Int) ||| BitVec.ofInt 64 (c : Int)).toNat : Int) = _
  rw [BitVec.toNat_or, h1, h2, h3]
  simp [IntKind.wrap, IntKind.bits, IntKind.signed]
  split <;> omega

theorem numOf_take (zs : List Int) (h : ∀ z ∈ zs, 0 ≤ z ∧ z < 256) (j : Nat) : 0 ≤ numOf (zs.take j) ∧ numOf (zs.take j) < 256 ^ j := by
  induction j with
  | zero => simp [numOf]
  | succ j ih =>
    have hp : (256 : Int) ^ (j + 1) = 256 ^ j * 256 := Int.pow_succ 256 j
    by_cases hj : j < zs.length
    · have h2 := h zs[j] (List.getElem_mem hj)
      rw [List.take_succ_eq_append_getElem hj, numOf_snoc]
      omega
    · rw [List.take_of_length_le (by omega)] at ih
      rw [List.take_of_length_le (by omega)]
      omega

set_option maxHeartbeats 1000000 in
set_option maxRecDepth 100000 in
theorem num_rd (rb base : Nat) (zs : List Int) (bad : Bool) (size : Int) (w : World) (hr : RdIs w rb base zs bad) (hz : zs.length ≤ 90000) (hb : ∀ z ∈ zs, 0 ≤ z ∧ z < 256) :
    Calls Try.prog 48 #[.pointer (some ⟨rb, 0, none⟩), .int .i64 size] w fun e w' => e = .returned (.int .i64 (numOf (rdTake zs bad (fitN size)).1)) ∧ RdIs w' rb base (rdTake zs bad (fitN size)).2.1 (rdTake zs bad (fitN size)).2.2 ∧ Touch (fun k => k = rb) w w' := by
  have h7 : 1 ≤ fitN size ∧ fitN size ≤ 7 := by unfold fitN; omega
  obtain ⟨r, hg⟩ : ∃ r, r = rdTake zs bad (fitN size) := ⟨_, rfl⟩
  rw [← hg]
  have HG := Lib.hid hg
  have HR := Lib.hid (And.intro hr hb)
  clear hr hb hg
  go_enter Try.func48, Try.ntmps48
  go_wp2_with fail
  refine (fit_any size w).mono ?_
  rintro e w1 ⟨rfl, rfl⟩
  go_wp2_with fail
  refine (take_rd rb base zs bad (fitN size) w HR.out.1 hz).mono ?_
  rintro e w1 ⟨v, rfl, hown, hrd, ht⟩
  rw [← HG.out] at hown hrd
  have hlen : r.1.length ≤ 7 := by rw [HG.out]; unfold rdTake; split <;> simp; omega
  have hB : ∀ z ∈ r.1, 0 ≤ z ∧ z < 256 := by
    rw [HG.out]
    unfold rdTake; split
    · intro z hz; cases hz
    · intro z hz; exact HR.out.2 z (List.mem_of_mem_take hz)
  have ho := hown
  obtain ⟨a1, c1, rfl, hn1, hl1, hm1, hb1⟩ := owns_form ho
  have H1 := Lib.hid (And.intro hown (And.intro hrd (And.intro ht (And.intro hB hn1))))
  clear ho hown hrd ht hB hn1 hl1 hm1 hb1
  go_wp2_with fail
  go_loopw [4, 12] (fun n k wr => ∃ j : Nat, j ≤ r.1.length ∧ n = .int .i64 (numOf (r.1.take j)) ∧ k = .int .i64 j ∧ wr = w1) (fun _ k _ => (r.1.length - intOf k).toNat)
  case atStart => exact ⟨0, Nat.zero_le _, rfl, rfl, rfl⟩
  case round =>
    obtain ⟨j, hj, rfl, rfl, rfl⟩ := hrel
    by_cases hq : j = r.1.length
    · subst hq
      go_wp2_with fail
      go_ret
      refine ⟨?_, H1.out.2.1, H1.out.2.2.1⟩
      simp
    · have hjl : j < r.1.length := by omega
      have hc : r.1[j]? = some (r.1[j]'hjl) := by simp
      generalize (r.1[j]'hjl) = c at hc
      have hc2 := H1.out.2.2.2.1 c (List.mem_of_getElem? hc)
      obtain ⟨b, o, rfl, hcell⟩ := (SlAt.of_owns H1.out.1).get (k := j) (u := .int .u8 c) (by simp [bys, hc])
      have HC := Lib.hid hc
      clear hc
      go_wp2_with fail
      go_roundw
      case rel =>
        refine ⟨j + 1, hjl, ?_, by first | rfl | (congr 1; omega), trivial⟩
        have hj6 : j ≤ 6 := by omega
        have hb := numOf_take r.1 H1.out.2.2.2.1 j
        have hp : (256 : Int) ^ j ≤ 256 ^ 6 := by
          rcases j with _ | _ | _ | _ | _ | _ | _ | j <;> first | decide | omega
        have e1 : r.1.take (j + 1) = r.1.take j ++ [c] := by rw [List.take_add_one, HC.out]; rfl
        rw [e1, numOf_snoc]
        generalize numOf (r.1.take j) = x at hb ⊢
        have hx : x < 281474976710656 := by omega
        have hw : wrap64 (x * 256) = x * 256 := by unfold wrap64; omega
        rw [hw]
        obtain ⟨y, rfl⟩ : ∃ y : Nat, x = y := ⟨x.toNat, by omega⟩
        obtain ⟨d, rfl⟩ : ∃ d : Nat, c = d := ⟨c.toNat, by omega⟩
        rw [or_byte y d (by omega) (by omega)]
        congr 1
      case measure => simp [intOf]; omega
end Go.Proofs.Ythlkmofemnepbaa
