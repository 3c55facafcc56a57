/-
  PLAIN LAWS of packets: how many bytes, which kind, no other packet's bytes.
-/
import Derived.Test.YthlkmofemnepbaaRows
import Derived.Test.YthlkmofemnepbaaWirePlain
namespace Go.Proofs.Ythlkmofemnepbaa
open Go.RowKit

def sizeN (k : Int) : Nat := 1 + ((slotsN k).map (·.size)).sum + ((if sealedN k = true then 16 else 0) + (if taggedN k = true then 8 else 0))
theorem layS_sum (src : List Int) (L : List Slot) : (layS src L).length = (L.map (·.size)).sum := by
  induction L with
  | nil => rfl
  | cons s L ih => rw [layS_cons, List.length_append, putList_len, ih, List.map_cons, List.sum_cons]
theorem enc_len (p : Pk) (ho : p.Ok) : (encN p).length = sizeN p.kind := by
  unfold encN sizeN encSec encTag
  rw [List.length_cons, List.length_append, List.length_append, layS_sum]
  have h1 : (if sealedN p.kind = true then natsD p.sec else []).length = if sealedN p.kind = true then 16 else 0 := by
    split
    · rw [natsD_len, ho.hs]
    · rfl
  have h2 : (if taggedN p.kind = true then natsD p.tag else []).length = if taggedN p.kind = true then 8 else 0 := by
    split
    · rw [natsD_len, ho.ht]
    · rfl
  rw [h1, h2]
  omega
theorem size_range (k : Int) (h : 1 ≤ k ∧ k ≤ 12) : 5 ≤ sizeN k ∧ sizeN k ≤ 26 := by
  obtain rfl | rfl | rfl | rfl | rfl | rfl | rfl | rfl | rfl | rfl | rfl | rfl : k = 1 ∨ k = 2 ∨ k = 3 ∨ k = 4 ∨ k = 5 ∨ k = 6 ∨ k = 7 ∨ k = 8 ∨ k = 9 ∨ k = 10 ∨ k = 11 ∨ k = 12 := by omega
  all_goals decide
theorem size_table (k : Int) (h : 1 ≤ k ∧ k ≤ 12) : ([0, 5, 25, 26, 25, 17, 18, 19, 24, 18, 17, 18, 6] : List Int)[k.toNat]? = some (sizeN k : Int) := by
  obtain rfl | rfl | rfl | rfl | rfl | rfl | rfl | rfl | rfl | rfl | rfl | rfl : k = 1 ∨ k = 2 ∨ k = 3 ∨ k = 4 ∨ k = 5 ∨ k = 6 ∨ k = 7 ∨ k = 8 ∨ k = 9 ∨ k = 10 ∨ k = 11 ∨ k = 12 := by omega
  all_goals decide
theorem enc_head (p : Pk) (h : RightN p) : (encN p)[0]? = some p.kind := by
  unfold encN
  rw [kind_range _ (right_kind p h)]
  rfl
theorem enc_range (p : Pk) (ho : p.Ok) : ∀ z ∈ encN p, 0 ≤ z ∧ z < 256 := by
  intro z hz
  unfold encN at hz
  rw [List.mem_cons, List.mem_append, List.mem_append] at hz
  rcases hz with rfl | hz | hz | hz
  · omega
  · unfold layS at hz
    rw [List.mem_flatMap] at hz
    obtain ⟨s, _, hs⟩ := hz
    exact putList_range _ _ _ z hs
  · unfold encSec at hz
    split at hz
    · exact natsD_range _ ho.rs z hz
    · cases hz
  · unfold encTag at hz
    split at hz
    · exact natsD_range _ ho.rt z hz
    · cases hz

theorem enc_inj (p q : Pk) (hp : p.Ok) (hq : q.Ok) (rp : RightN p) (rq : RightN q) (h : encN p = encN q) : p = q := by
  rw [← (dec_enc p hp rp).2, h, (dec_enc q hq rq).2]

/-- What reads as a packet has as many bytes as its first one says. -/
theorem dec_len (zs : List Int) (hr : ∀ z ∈ zs, 0 ≤ z ∧ z < 256) (h : DecOk zs) : ∃ k, zs[0]? = some k ∧ zs.length = sizeN k := by
  have e := enc_dec zs hr h
  refine ⟨(decP zs).kind, ?_, ?_⟩
  · have h0 := enc_head _ h.2.2
    rw [e] at h0
    exact h0
  · have hl := enc_len _ (decP_ok zs hr)
    rw [e] at hl
    exact hl

theorem dec_take (zs : List Int) (hr : ∀ z ∈ zs, 0 ≤ z ∧ z < 256) (h : DecOk zs) (i : Nat) (hi : i < zs.length) : ¬ DecOk (zs.take i) := by
  intro h2
  obtain ⟨k, k1, k2⟩ := dec_len zs hr h
  obtain ⟨k', j1, j2⟩ := dec_len (zs.take i) (fun z hz => hr z (List.mem_of_mem_take hz)) h2
  have hi0 : 0 < i := by
    refine Nat.pos_of_ne_zero (fun e => ?_)
    rw [e] at j1
    cases j1
  rw [List.getElem?_take_of_lt hi0, k1] at j1
  cases j1
  rw [List.length_take] at j2
  omega

theorem dec_more (zs : List Int) (hr : ∀ z ∈ zs, 0 ≤ z ∧ z < 256) (h : DecOk zs) (c : Int) (hc : 0 ≤ c ∧ c < 256) : ¬ DecOk (zs ++ [c]) := by
  intro h2
  obtain ⟨k, k1, k2⟩ := dec_len zs hr h
  obtain ⟨k', j1, j2⟩ := dec_len (zs ++ [c]) (fun z hz => by
    rcases List.mem_append.1 hz with hz | hz
    · exact hr z hz
    · rw [List.mem_singleton] at hz
      rw [hz]
      exact hc) h2
  have hl : 0 < zs.length := (List.getElem?_eq_some_iff.1 k1).1
  rw [List.getElem?_append_left hl, k1] at j1
  cases j1
  rw [List.length_append, List.length_singleton] at j2
  omega
end Go.Proofs.Ythlkmofemnepbaa
