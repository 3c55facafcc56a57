/-
  THE DOCUMENT'S PARTS OF A PACKET (layer 5): in plain Lean, and walked.
-/
import Derived.Test.YthlkmofemnepbaaRows
import Derived.Test.YthlkmofemnepbaaWirePlain
import Derived.Test.YthlkmofemnepbaaDec
import Derived.Test.YthlkmofemnepbaaSlices
namespace Go.Proofs.Ythlkmofemnepbaa
open Go.RowKit

/-- A part of a packet: which one, its size, its least, its greatest. -/
structure RPart where
  what : Int
  size : Int
  low : Int
  high : Int

def rpOf (s : Slot) : RPart := ⟨(s.i : Int) - 1, s.size, s.low, s.high⟩
def rpSec : RPart := ⟨11, 16, 0, 0⟩
def rpTag : RPart := ⟨12, 8, 0, 0⟩
def partsN (k : Int) : List RPart := (slotsN k).map rpOf ++ ((if sealedN k = true then [rpSec] else []) ++ (if taggedN k = true then [rpTag] else []))

/-- Which cell of a packet. -/
def RPart.cell (r : RPart) : Nat := r.what.toNat + 1
theorem rpOf_cell (s : Slot) (h : SlotOk s) : (rpOf s).cell = s.i := by
  have := h.i0
  show ((s.i : Int) - 1).toNat + 1 = s.i
  omega

theorem slots_size (k : Int) (s : Slot) (h : s ∈ slotsN k) : SlotOk s := slots_ok k s h

theorem parts_mem (k : Int) (r : RPart) (h : r ∈ partsN k) : (∃ s ∈ slotsN k, r = rpOf s) ∨ r = rpSec ∨ r = rpTag := by
  unfold partsN at h
  simp only [List.mem_append, List.mem_map] at h
  rcases h with ⟨s, h1, rfl⟩ | h | h
  · exact Or.inl ⟨s, h1, rfl⟩
  · split at h
    · exact Or.inr (Or.inl (by simpa using h))
    · cases h
  · split at h
    · exact Or.inr (Or.inr (by simpa using h))
    · cases h

theorem parts_empty (k : Int) : partsN k = [] ↔ slotsN k = [] := by
  constructor
  · intro h
    unfold partsN at h
    simp only [List.append_eq_nil_iff, List.map_eq_nil_iff] at h
    exact h.1
  · intro h
    have hk : ¬ (2 ≤ k ∧ k ≤ 11) := by
      intro hk
      rcases slots_cases k with h2 | h2
      · have h3 : k = 2 ∨ k = 3 ∨ k = 4 ∨ k = 5 ∨ k = 6 ∨ k = 7 ∨ k = 8 ∨ k = 9 ∨ k = 10 ∨ k = 11 := by omega
        rcases h3 with rfl | rfl | rfl | rfl | rfl | rfl | rfl | rfl | rfl | rfl <;> exact absurd h (by decide)
      · have h3 : k = 2 ∨ k = 3 ∨ k = 4 ∨ k = 5 ∨ k = 6 ∨ k = 7 ∨ k = 8 ∨ k = 9 ∨ k = 10 ∨ k = 11 := by omega
        rcases h3 with rfl | rfl | rfl | rfl | rfl | rfl | rfl | rfl | rfl | rfl <;> exact absurd h (by decide)
    have h1 : sealedN k = false := by
      unfold sealedN
      rw [Bool.and_eq_false_iff, decide_eq_false_iff_not, decide_eq_false_iff_not]
      omega
    have h2 : taggedN k = false := by
      unfold taggedN
      rw [Bool.and_eq_false_iff, decide_eq_false_iff_not, decide_eq_false_iff_not]
      omega
    unfold partsN
    rw [h, h1, h2]
    rfl

theorem parts_len (k : Int) : (partsN k).length ≤ 8 := by
  have := slots_len k
  unfold partsN
  simp only [List.length_append, List.length_map]
  split <;> split <;> simp <;> omega

/-! ### the bare packet -/
def stB (p b : Pk) (r : RPart) : Pk :=
  if r.what = 11 then { b with sec := p.sec } else if r.what = 12 then { b with tag := p.tag } else { b with n := b.n.set r.cell (p.n.getD r.cell 0) }
def foldB (p : Pk) (L : List RPart) (b : Pk) : Pk := L.foldl (stB p) b
def pk0 (k : Int) : Pk := ⟨k :: List.replicate 11 0, List.replicate 16 0, List.replicate 8 0⟩
theorem pk0_ok (k : Int) : (pk0 k).Ok := pk_z_ok _ rfl
where pk_z_ok (n : List Int) (hn : n.length = 12) : (⟨n, List.replicate 16 0, List.replicate 8 0⟩ : Pk).Ok :=
  ⟨hn, rfl, rfl, (fun y hy => by have := List.eq_of_mem_replicate hy; omega), (fun y hy => by have := List.eq_of_mem_replicate hy; omega)⟩

theorem stB_ok (p b : Pk) (r : RPart) (hp : p.Ok) (hb : b.Ok) : (stB p b r).Ok := by
  unfold stB
  split
  · exact ⟨hb.hn, hp.hs, hb.ht, hp.rs, hb.rt⟩
  · split
    · exact ⟨hb.hn, hb.hs, hp.ht, hb.rs, hp.rt⟩
    · exact ⟨by simp [hb.hn], hb.hs, hb.ht, hb.rs, hb.rt⟩
theorem foldB_ok (p : Pk) (L : List RPart) (b : Pk) (hp : p.Ok) (hb : b.Ok) : (foldB p L b).Ok := by
  induction L generalizing b with
  | nil => exact hb
  | cons r L ih => exact ih _ (stB_ok p b r hp hb)
theorem foldB_snoc (p : Pk) (L : List RPart) (r : RPart) (b : Pk) : foldB p (L ++ [r]) b = stB p (foldB p L b) r := by simp [foldB]
theorem foldB_take (p : Pk) (L : List RPart) (j : Nat) (r : RPart) (b : Pk) (h : L[j]? = some r) : foldB p (L.take (j + 1)) b = stB p (foldB p (L.take j) b) r := by
  rw [List.take_add_one, h]
  exact foldB_snoc _ _ _ _
theorem foldB_app (p : Pk) (A B : List RPart) (b : Pk) : foldB p (A ++ B) b = foldB p B (foldB p A b) := by simp [foldB]
theorem foldB_slots (p : Pk) (L : List Slot) (b : Pk) (h : ∀ s ∈ L, SlotOk s) : foldB p (L.map rpOf) b = { b with n := setS p.n L b.n } := by
  induction L generalizing b with
  | nil => rfl
  | cons s L ih =>
    have h1 := h s (by simp)
    have e : stB p b (rpOf s) = { b with n := b.n.set s.i (p.n.getD s.i 0) } := by
      unfold stB
      rw [rpOf_cell s h1, if_neg, if_neg]
      · show ¬ ((s.i : Int) - 1 = 12)
        have := h1.i1
        omega
      · show ¬ ((s.i : Int) - 1 = 11)
        have := h1.i1
        omega
    show foldB p (L.map rpOf) (stB p b (rpOf s)) = _
    rw [e, ih _ (fun x hx => h x (by simp [hx])), setS_cons]

theorem foldB_end (p : Pk) : foldB p (partsN p.kind) (pk0 p.kind) = ⟨bareNs p, bareSec p, bareTag p⟩ := by
  unfold partsN
  rw [foldB_app, foldB_slots _ _ _ (slots_ok _)]
  unfold bareNs bareSec bareTag
  cases h1 : sealedN p.kind with
  | true =>
    cases h2 : taggedN p.kind with
    | true => simp [foldB, stB, rpSec, rpTag, pk0]
    | false => simp [foldB, stB, rpSec, pk0]
  | false =>
    cases h2 : taggedN p.kind with
    | true => simp [foldB, stB, rpTag, pk0]
    | false => simp [foldB, pk0]

/-- A part is within its range. -/
def OkR (p : Pk) (r : RPart) : Prop := r.what = 11 ∨ r.what = 12 ∨ (r.low ≤ p.n.getD r.cell 0 ∧ p.n.getD r.cell 0 ≤ r.high)
theorem okR_all (p : Pk) : (∀ r ∈ partsN p.kind, OkR p r) ↔ InR p := by
  constructor
  · intro h s hs
    have h1 := slots_ok _ s hs
    rcases h (rpOf s) (by unfold partsN; simp only [List.mem_append, List.mem_map]; exact Or.inl ⟨s, hs, rfl⟩) with e | e | e
    · exfalso
      have e2 : (s.i : Int) - 1 = 11 := e
      have := h1.i1
      omega
    · exfalso
      have e2 : (s.i : Int) - 1 = 12 := e
      have := h1.i1
      omega
    · rw [rpOf_cell s h1] at e
      exact e
  · intro h r hr
    rcases parts_mem _ r hr with ⟨s, hs, rfl⟩ | rfl | rfl
    · refine Or.inr (Or.inr ?_)
      rw [rpOf_cell s (slots_ok _ s hs)]
      exact h s hs
    · exact Or.inl rfl
    · exact Or.inr (Or.inl rfl)

/-- The document's test of a void packet. -/
def Void3 (p : Pk) : Prop := p.n.getD 7 0 = 0 ∧ p.n.getD 5 0 = 0 ∧ p.n.getD 6 0 = 0
theorem void_iff (p : Pk) (h : InR p) (h8 : p.kind = 8) (h3 : p.n.getD 3 0 = 0) : Void p ↔ ¬ Void3 p := by
  unfold InR at h
  rw [h8] at h
  have b7 := h ⟨7, 4, 0, 1073741824⟩ (by simp [slotsN])
  have b5 := h ⟨5, 1, 0, 3⟩ (by simp [slotsN])
  have b6 := h ⟨6, 1, 0, 4⟩ (by simp [slotsN])
  simp only at b5 b6 b7
  unfold Void Void3
  constructor
  · rintro ⟨_, _, hs⟩ ⟨z7, z5, z6⟩
    omega
  · intro hn
    refine ⟨h8, h3, ?_⟩
    omega

/-! ### a packet's bytes -/
def layR (p : Pk) (r : RPart) : List Int := if r.what = 11 then natsD p.sec else if r.what = 12 then natsD p.tag else putList (p.n.getD r.cell 0) r.size.toNat r.size.toNat
def layRs (p : Pk) (L : List RPart) : List Int := L.flatMap (layR p)
theorem layRs_take (p : Pk) (L : List RPart) (j : Nat) (r : RPart) (h : L[j]? = some r) : layRs p (L.take (j + 1)) = layRs p (L.take j) ++ layR p r := by
  rw [List.take_add_one, h]
  simp [layRs]
theorem layR_slot (p : Pk) (s : Slot) (h : SlotOk s) : layR p (rpOf s) = putList (p.n.getD s.i 0) s.size s.size := by
  unfold layR
  rw [rpOf_cell s h, if_neg, if_neg]
  · rfl
  · show ¬ ((s.i : Int) - 1 = 12)
    have := h.i1
    omega
  · show ¬ ((s.i : Int) - 1 = 11)
    have := h.i1
    omega
theorem layRs_slots (p : Pk) (L : List Slot) (h : ∀ s ∈ L, SlotOk s) : layRs p (L.map rpOf) = layS p.n L := by
  induction L with
  | nil => rfl
  | cons s L ih =>
    have e : layRs p ((s :: L).map rpOf) = layR p (rpOf s) ++ layRs p (L.map rpOf) := rfl
    rw [e, layR_slot p s (h s (by simp)), ih (fun x hx => h x (by simp [hx])), layS_cons]
theorem layRs_end (p : Pk) : layRs p (partsN p.kind) = layS p.n (slotsN p.kind) ++ (encSec p ++ encTag p) := by
  unfold partsN
  have e : ∀ A B, layRs p (A ++ B) = layRs p A ++ layRs p B := fun A B => by simp [layRs]
  rw [e, e, layRs_slots _ _ (slots_ok _)]
  unfold encSec encTag
  cases h1 : sealedN p.kind <;> cases h2 : taggedN p.kind <;> simp [layRs, layR, rpSec, rpTag]
theorem layRs_len (p : Pk) (hp : p.Ok) (k : Int) (j : Nat) : (layRs p ((partsN k).take j)).length ≤ 16 * 8 := by
  have h1 : ∀ L : List RPart, (∀ r ∈ L, (layR p r).length ≤ 16) → (layRs p L).length ≤ 16 * L.length := by
    intro L
    induction L with
    | nil => intro _; simp [layRs]
    | cons r L ih =>
      intro h
      have a := h r (by simp)
      have b := ih (fun x hx => h x (by simp [hx]))
      have e : layRs p (r :: L) = layR p r ++ layRs p L := rfl
      rw [e, List.length_append, List.length_cons]
      omega
  have h2 := h1 ((partsN k).take j) (by
    intro r hr
    rcases parts_mem k r (List.mem_of_mem_take hr) with ⟨s, hs, rfl⟩ | rfl | rfl
    · have ho := slots_ok k s hs
      rw [layR_slot p s ho, putList_len]
      rcases ho.size with h | h <;> omega
    · unfold layR
      rw [if_pos (show rpSec.what = 11 from rfl), natsD_len, hp.hs]
      exact Nat.le_refl _
    · unfold layR
      rw [if_neg (by decide), if_pos (show rpTag.what = 12 from rfl), natsD_len, hp.ht]
      omega)
  have h3 := parts_len k
  rw [List.length_take] at h2
  omega

/-! ### what is read -/
structure RdSt where
  zs : List Int
  bad : Bool
  q : Pk
def rdR (st : RdSt) (r : RPart) : RdSt :=
  if r.what = 11 then ⟨(rdTake st.zs st.bad 16).2.1, (rdTake st.zs st.bad 16).2.2, { st.q with sec := padN (rdTake st.zs st.bad 16).1 16 }⟩
  else if r.what = 12 then ⟨(rdTake st.zs st.bad 8).2.1, (rdTake st.zs st.bad 8).2.2, { st.q with tag := padN (rdTake st.zs st.bad 8).1 8 }⟩
  else ⟨(rdTake st.zs st.bad r.size).2.1, (rdTake st.zs st.bad r.size).2.2, { st.q with n := st.q.n.set r.cell (numOf (rdTake st.zs st.bad r.size).1) }⟩
def rdRs (L : List RPart) (st : RdSt) : RdSt := L.foldl rdR st
theorem rdRs_take (L : List RPart) (j : Nat) (r : RPart) (st : RdSt) (h : L[j]? = some r) : rdRs (L.take (j + 1)) st = rdR (rdRs (L.take j) st) r := by
  rw [List.take_add_one, h]
  simp [rdRs]
theorem rdRs_slots (L : List Slot) (st : RdSt) (h : ∀ s ∈ L, SlotOk s) :
    rdRs (L.map rpOf) st = ⟨(rdSlots L (st.zs, st.bad) st.q.n).2.1, (rdSlots L (st.zs, st.bad) st.q.n).2.2, { st.q with n := (rdSlots L (st.zs, st.bad) st.q.n).1 }⟩ := by
  induction L generalizing st with
  | nil => rfl
  | cons s L ih =>
    have h1 := h s (by simp)
    have e : rdR st (rpOf s) = ⟨(rdTake st.zs st.bad (s.size : Int)).2.1, (rdTake st.zs st.bad (s.size : Int)).2.2, { st.q with n := st.q.n.set s.i (numOf (rdTake st.zs st.bad (s.size : Int)).1) }⟩ := by
      unfold rdR
      rw [rpOf_cell s h1, if_neg, if_neg]
      · rfl
      · show ¬ ((s.i : Int) - 1 = 12)
        have := h1.i1
        omega
      · show ¬ ((s.i : Int) - 1 = 11)
        have := h1.i1
        omega
    show rdRs (L.map rpOf) (rdR st (rpOf s)) = _
    rw [e, ih _ (fun x hx => h x (by simp [hx])), rdSlots_cons]

def rd0 (zs : List Int) : RdSt := ⟨(rdTake zs false 1).2.1, (rdTake zs false 1).2.2, pk0 (decK zs)⟩
theorem padN_zero (m : Nat) : padN [] m = List.replicate m 0 := by
  show [] ++ List.replicate (m - 0) 0 = _
  rw [List.nil_append, Nat.sub_zero]
theorem rdRs_end (zs : List Int) : rdRs (partsN (decK zs)) (rd0 zs) = ⟨(decY zs).2.1, (decY zs).2.2, decP zs⟩ := by
  have e : ∀ A B st, rdRs (A ++ B) st = rdRs B (rdRs A st) := fun A B st => by simp [rdRs]
  unfold partsN
  rw [e, rdRs_slots _ _ (slots_ok _), e]
  unfold decP
  have hs : rdSlots (slotsN (decK zs)) ((rd0 zs).zs, (rd0 zs).bad) (rd0 zs).q.n = decS zs := rfl
  rw [hs]
  unfold decY decX
  cases h1 : sealedN (decK zs) <;> cases h2 : taggedN (decK zs) <;> simp [rdRs, rdR, rpSec, rpTag, rd0, pk0, padN_zero]

theorem rdR_ok (st : RdSt) (r : RPart) (hq : st.q.Ok) (hr : ∀ z ∈ st.zs, 0 ≤ z ∧ z < 256) : (rdR st r).q.Ok ∧ (∀ z ∈ (rdR st r).zs, 0 ≤ z ∧ z < 256) ∧ (rdR st r).zs.length ≤ st.zs.length := by
  unfold rdR
  split
  · have h := rdTake_mem st.zs st.bad 16 hr
    have hl := rdTake_le st.zs st.bad 16
    exact ⟨⟨hq.hn, padN_len _ _ hl.1, hq.ht, padN_lt _ _ h.1, hq.rt⟩, h.2, hl.2⟩
  · split
    · have h := rdTake_mem st.zs st.bad 8 hr
      have hl := rdTake_le st.zs st.bad 8
      exact ⟨⟨hq.hn, hq.hs, padN_len _ _ hl.1, hq.rs, padN_lt _ _ h.1⟩, h.2, hl.2⟩
    · have h : (∀ z ∈ (rdTake st.zs st.bad r.size).2.1, 0 ≤ z ∧ z < 256) ∧ (rdTake st.zs st.bad r.size).2.1.length ≤ st.zs.length := by
        unfold rdTake
        split
        · exact ⟨(fun z hz => by cases hz), Nat.zero_le _⟩
        · exact ⟨(fun z hz => hr z (List.mem_of_mem_drop hz)), by simp⟩
      exact ⟨⟨by simp [hq.hn], hq.hs, hq.ht, hq.rs, hq.rt⟩, h.1, h.2⟩
theorem rdRs_ok (L : List RPart) (st : RdSt) (hq : st.q.Ok) (hr : ∀ z ∈ st.zs, 0 ≤ z ∧ z < 256) : (rdRs L st).q.Ok ∧ (∀ z ∈ (rdRs L st).zs, 0 ≤ z ∧ z < 256) ∧ (rdRs L st).zs.length ≤ st.zs.length := by
  induction L generalizing st with
  | nil => exact ⟨hq, hr, Nat.le_refl _⟩
  | cons r L ih =>
    have h1 := rdR_ok st r hq hr
    have h2 := ih (rdR st r) h1.1 h1.2.1
    exact ⟨h2.1, h2.2.1, Nat.le_trans h2.2.2 h1.2.2⟩
end Go.Proofs.Ythlkmofemnepbaa

namespace Go.Proofs.Ythlkmofemnepbaa
open Go.RowKit

/-- What parts hands out. -/
def rpCells (r : RPart) : List Value := [.int .i64 r.what, .int .i64 r.size, .int .i64 r.low, .int .i64 r.high]
def rpsCells (L : List RPart) : List Value := L.flatMap rpCells
def PartsOf (base : Nat) (k : Int) (v : Value) (w' : World) : Prop :=
  (partsN k = [] ∧ v = .slice none 0 0) ∨ ∃ b, base ≤ b ∧ v = .slice (some ⟨b, 0, none⟩) (partsN k).length (partsN k).length ∧ partsN k ≠ [] ∧ Blk w' b 64 (rpsCells (partsN k)).toArray

set_option maxRecDepth 100000 in
theorem refId_any (x l : Int) (w : World) : Calls Try.prog 75 #[.int .i64 x, .int .i64 l] w fun e w' => e = .returned (.agg #[.int .i64 x, .int .i64 4, .int .i64 l, .int .i64 1073741824]) ∧ Below w.heap.size w w' := by
  go_enter Try.func75, Try.ntmps75
  go_wp2
  exact bodyPost_ret (results_cell_row rfl _ _ w.heap.size 64 #[.int .i64 x, .int .i64 4, .int .i64 l, .int .i64 1073741824] (0, 0) _ rfl (Blk.new _ _ _) Try.underlying64 rfl (by kernel_rfl)) rfl ⟨rfl, ((Touch.refl (fun _ => False) w).alloc _).below (Nat.le_refl _) (fun _ _ h => h)⟩

set_option maxRecDepth 100000 in
theorem refSmall_any (x l h : Int) (w : World) : Calls Try.prog 76 #[.int .i64 x, .int .i64 l, .int .i64 h] w fun e w' => e = .returned (.agg #[.int .i64 x, .int .i64 1, .int .i64 l, .int .i64 h]) ∧ Below w.heap.size w w' := by
  go_enter Try.func76, Try.ntmps76
  go_wp2
  exact bodyPost_ret (results_cell_row rfl _ _ w.heap.size 64 #[.int .i64 x, .int .i64 1, .int .i64 l, .int .i64 h] (0, 0) _ rfl (Blk.new _ _ _) Try.underlying64 rfl (by kernel_rfl)) rfl ⟨rfl, ((Touch.refl (fun _ => False) w).alloc _).below (Nat.le_refl _) (fun _ _ h => h)⟩
end Go.Proofs.Ythlkmofemnepbaa

namespace Go.Proofs.Ythlkmofemnepbaa
open Go.RowKit

set_option maxRecDepth 100000 in
set_option maxHeartbeats 4000000 in
theorem refParts_1 (w : World) : Calls Try.prog 44 #[.int .i64 1] w fun e w' => ∃ v, e = .returned v ∧ Below w.heap.size w w' ∧ PartsOf w.heap.size 1 v w' := by
  go_enter Try.func44, Try.ntmps44
  go_wp2_with fail
  obtain ⟨wb, hwb⟩ : ∃ wb, wb = (w.alloc (.cells #[.int .i64 11, .int .i64 16, .int .i64 0, .int .i64 0] 64)).alloc (.cells #[.int .i64 12, .int .i64 8, .int .i64 0, .int .i64 0] 64) := ⟨_, rfl⟩
  rw [← hwb]
  have HB1 : Hid (Blk wb w.heap.size 64 #[.int .i64 11, .int .i64 16, .int .i64 0, .int .i64 0] ∧ Blk wb (w.heap.size + 1) 64 #[.int .i64 12, .int .i64 8, .int .i64 0, .int .i64 0] ∧ Touch (fun _ => False) w wb) := Lib.hid (by rw [hwb]; exact ⟨(Blk.new w _ _).alloc _, blk_new_at (by simp) rfl, ((Touch.refl _ w).alloc _).alloc _⟩)
  obtain ⟨nk, hnk⟩ : ∃ nk, nk = w.heap.size := ⟨_, rfl⟩
  rw [← hnk]
  obtain ⟨ne, hne⟩ : ∃ ne, ne = nk + 1 := ⟨_, rfl⟩
  (try rw [← hne])
  have HB : Hid (Blk wb nk 64 #[.int .i64 11, .int .i64 16, .int .i64 0, .int .i64 0] ∧ Blk wb ne 64 #[.int .i64 12, .int .i64 8, .int .i64 0, .int .i64 0] ∧ Touch (fun _ => False) w wb) := Lib.hid (by rw [hne, hnk]; exact HB1.out)
  have HNK := Lib.hid hnk
  clear hne hwb HB1 hnk
  (with_reducible refine (refId_any 9 0 _).mono ?_)
  rintro e wc ⟨rfl, hb⟩
  have HT : Hid (Touch (fun _ => False) w wc) := Lib.hid (HB.out.2.2.trans (Touch.of_below hb))
  clear hb
  go_wp2_with fail
  go_ret
  refine ⟨_, rfl, (HT.out.alloc _).below (Nat.le_refl _) (fun _ _ h => h), Or.inr ⟨_, HT.out.size, rfl, by decide, blk_new_at rfl (by kernel_rfl)⟩⟩

set_option maxRecDepth 100000 in
set_option maxHeartbeats 4000000 in
theorem refParts_2 (w : World) : Calls Try.prog 44 #[.int .i64 2] w fun e w' => ∃ v, e = .returned v ∧ Below w.heap.size w w' ∧ PartsOf w.heap.size 2 v w' := by
  go_enter Try.func44, Try.ntmps44
  go_wp2_with fail
  obtain ⟨wb, hwb⟩ : ∃ wb, wb = (w.alloc (.cells #[.int .i64 11, .int .i64 16, .int .i64 0, .int .i64 0] 64)).alloc (.cells #[.int .i64 12, .int .i64 8, .int .i64 0, .int .i64 0] 64) := ⟨_, rfl⟩
  rw [← hwb]
  have HB1 : Hid (Blk wb w.heap.size 64 #[.int .i64 11, .int .i64 16, .int .i64 0, .int .i64 0] ∧ Blk wb (w.heap.size + 1) 64 #[.int .i64 12, .int .i64 8, .int .i64 0, .int .i64 0] ∧ Touch (fun _ => False) w wb) := Lib.hid (by rw [hwb]; exact ⟨(Blk.new w _ _).alloc _, blk_new_at (by simp) rfl, ((Touch.refl _ w).alloc _).alloc _⟩)
  obtain ⟨nk, hnk⟩ : ∃ nk, nk = w.heap.size := ⟨_, rfl⟩
  rw [← hnk]
  obtain ⟨ne, hne⟩ : ∃ ne, ne = nk + 1 := ⟨_, rfl⟩
  (try rw [← hne])
  have HB : Hid (Blk wb nk 64 #[.int .i64 11, .int .i64 16, .int .i64 0, .int .i64 0] ∧ Blk wb ne 64 #[.int .i64 12, .int .i64 8, .int .i64 0, .int .i64 0] ∧ Touch (fun _ => False) w wb) := Lib.hid (by rw [hne, hnk]; exact HB1.out)
  have HNK := Lib.hid hnk
  clear hne hwb HB1 hnk
  refine wp_region_held_drew (S := fun w' : World => TG wb w') (by kernel_rfl) ((TG.refl wb).drew) (fun hHeld => ?_)
  refine anyH_world (R := fun w' : World => TG wb w') hHeld ?_
  clear hHeld
  intro W0q2 hHeld
  refine region_take 2 (v := ?vq22_1) rfl rfl (by kernel_rfl) (by kernel_rfl) (by kernel_rfl) (fun _ _ _ h => h) hHeld (Or.inl ⟨by rfl, ?yq22_1⟩) ?rq22_1
  case yq22_1 => (intro w hSw; refine (yields_load_blk 64 (.tmp 3) rfl nk 64 #[.int .i64 11, .int .i64 16, .int .i64 0, .int .i64 0] _ rfl (HB.out.1.tg hSw) Try.underlying64 rfl (by kernel_rfl)).trans ?_; with_reducible rfl)
  try simp only [Act.put, List.setIfInBounds_toArray, List.set_cons_zero, List.set_cons_succ]
  refine region_one 0 (by kernel_rfl) rfl (fun K hK => ?_)
  go_simp
  go_at_call 75
  (with_reducible refine (refId_any 9 0 _).mono ?_)
  rintro e uq2_2 ⟨rfl, hb8⟩
  have ht := Touch.of_below (S := fun _ => False) hb8
  refine hK.out _ _ (((hHeld).still ht)) (fun hHeld2 => ?_)
  clear hK K hHeld ht
  have hHeld := hHeld2
  clear hHeld2
  try simp only [Act.put, List.setIfInBounds_toArray, List.set_cons_zero, List.set_cons_succ]
  refine region_one 1 (by kernel_rfl) rfl (fun K hK => ?_)
  go_simp
  go_at_call 75
  (with_reducible refine (refId_any 10 0 _).mono ?_)
  rintro e uq2_3 ⟨rfl, hb8⟩
  have ht := Touch.of_below (S := fun _ => False) hb8
  refine hK.out _ _ (((hHeld).still ht)) (fun hHeld2 => ?_)
  clear hK K hHeld ht
  have hHeld := hHeld2
  clear hHeld2
  try simp only [Act.put, List.setIfInBounds_toArray, List.set_cons_zero, List.set_cons_succ]
  refine region_one 3 (by kernel_rfl) rfl (fun K hK => ?_)
  go_simp
  refine K_world (fun w' : World => Touch (fun _ => False) uq2_3 w' ∧ Blk w' uq2_3.heap.size 64 #[.int .i64 9, .int .i64 4, .int .i64 0, .int .i64 1073741824, .int .i64 10, .int .i64 4, .int .i64 0, .int .i64 1073741824, .int .i64 11, .int .i64 16, .int .i64 0, .int .i64 0] ∧ w.heap.size ≤ uq2_3.heap.size) ⟨(Touch.refl _ _).alloc _, Blk.new _ _ _, (by have h := (hHeld).size; have := HB.out.2.2.size; omega)⟩ ?_
  intro uq2_4 hx
  have HR := Lib.hid hx.2
  have ht := hx.1
  refine hK.out _ _ (((hHeld).still ht)) (fun hHeld2 => ?_)
  clear hK K hHeld ht
  have hHeld := hHeld2
  clear hHeld2
  try simp only [Act.put, List.setIfInBounds_toArray, List.set_cons_zero, List.set_cons_succ]
  refine region_take 4 (v := ?vq24_5) rfl rfl (by kernel_rfl) (by kernel_rfl) (by kernel_rfl) (fun _ _ _ h => h) hHeld (Or.inl ⟨by rfl, ?yq24_5⟩) ?rq24_5
  case yq24_5 => (intro w hSw; (try dsimp only at hSw); go_simp; try with_reducible rfl)
  try simp only [Act.put, List.setIfInBounds_toArray, List.set_cons_zero, List.set_cons_succ]
  refine wpAnyH_done (by kernel_rfl) ?_ _
  have HT := Lib.hid ((hHeld).still2)
  go_wp2_with fail
  go_ret
  refine ⟨_, rfl, (HB.out.2.2.trans HT.out).below (Nat.le_refl _) (fun _ _ h => h), Or.inr ⟨_, HR.out.2, rfl, by decide, HR.out.1⟩⟩

set_option maxRecDepth 100000 in
set_option maxHeartbeats 4000000 in
theorem refParts_3 (w : World) : Calls Try.prog 44 #[.int .i64 3] w fun e w' => ∃ v, e = .returned v ∧ Below w.heap.size w w' ∧ PartsOf w.heap.size 3 v w' := by
  go_enter Try.func44, Try.ntmps44
  go_wp2_with fail
  obtain ⟨wb, hwb⟩ : ∃ wb, wb = (w.alloc (.cells #[.int .i64 11, .int .i64 16, .int .i64 0, .int .i64 0] 64)).alloc (.cells #[.int .i64 12, .int .i64 8, .int .i64 0, .int .i64 0] 64) := ⟨_, rfl⟩
  rw [← hwb]
  have HB1 : Hid (Blk wb w.heap.size 64 #[.int .i64 11, .int .i64 16, .int .i64 0, .int .i64 0] ∧ Blk wb (w.heap.size + 1) 64 #[.int .i64 12, .int .i64 8, .int .i64 0, .int .i64 0] ∧ Touch (fun _ => False) w wb) := Lib.hid (by rw [hwb]; exact ⟨(Blk.new w _ _).alloc _, blk_new_at (by simp) rfl, ((Touch.refl _ w).alloc _).alloc _⟩)
  obtain ⟨nk, hnk⟩ : ∃ nk, nk = w.heap.size := ⟨_, rfl⟩
  rw [← hnk]
  obtain ⟨ne, hne⟩ : ∃ ne, ne = nk + 1 := ⟨_, rfl⟩
  (try rw [← hne])
  have HB : Hid (Blk wb nk 64 #[.int .i64 11, .int .i64 16, .int .i64 0, .int .i64 0] ∧ Blk wb ne 64 #[.int .i64 12, .int .i64 8, .int .i64 0, .int .i64 0] ∧ Touch (fun _ => False) w wb) := Lib.hid (by rw [hne, hnk]; exact HB1.out)
  have HNK := Lib.hid hnk
  clear hne hwb HB1 hnk
  refine wp_region_held_drew (S := fun w' : World => TG wb w') (by kernel_rfl) ((TG.refl wb).drew) (fun hHeld => ?_)
  refine anyH_world (R := fun w' : World => TG wb w') hHeld ?_
  clear hHeld
  intro W0q3 hHeld
  refine region_take 3 (v := ?vq33_1) rfl rfl (by kernel_rfl) (by kernel_rfl) (by kernel_rfl) (fun _ _ _ h => h) hHeld (Or.inl ⟨by rfl, ?yq33_1⟩) ?rq33_1
  case yq33_1 => (intro w hSw; refine (yields_load_blk 64 (.tmp 3) rfl nk 64 #[.int .i64 11, .int .i64 16, .int .i64 0, .int .i64 0] _ rfl (HB.out.1.tg hSw) Try.underlying64 rfl (by kernel_rfl)).trans ?_; with_reducible rfl)
  try simp only [Act.put, List.setIfInBounds_toArray, List.set_cons_zero, List.set_cons_succ]
  refine region_one 0 (by kernel_rfl) rfl (fun K hK => ?_)
  go_simp
  go_at_call 76
  (with_reducible refine (refSmall_any 2 1 16 _).mono ?_)
  rintro e uq3_2 ⟨rfl, hb8⟩
  have ht := Touch.of_below (S := fun _ => False) hb8
  refine hK.out _ _ (((hHeld).still ht)) (fun hHeld2 => ?_)
  clear hK K hHeld ht
  have hHeld := hHeld2
  clear hHeld2
  try simp only [Act.put, List.setIfInBounds_toArray, List.set_cons_zero, List.set_cons_succ]
  refine region_one 1 (by kernel_rfl) rfl (fun K hK => ?_)
  go_simp
  go_at_call 75
  (with_reducible refine (refId_any 9 0 _).mono ?_)
  rintro e uq3_3 ⟨rfl, hb8⟩
  have ht := Touch.of_below (S := fun _ => False) hb8
  refine hK.out _ _ (((hHeld).still ht)) (fun hHeld2 => ?_)
  clear hK K hHeld ht
  have hHeld := hHeld2
  clear hHeld2
  try simp only [Act.put, List.setIfInBounds_toArray, List.set_cons_zero, List.set_cons_succ]
  refine region_one 2 (by kernel_rfl) rfl (fun K hK => ?_)
  go_simp
  go_at_call 75
  (with_reducible refine (refId_any 10 0 _).mono ?_)
  rintro e uq3_4 ⟨rfl, hb8⟩
  have ht := Touch.of_below (S := fun _ => False) hb8
  refine hK.out _ _ (((hHeld).still ht)) (fun hHeld2 => ?_)
  clear hK K hHeld ht
  have hHeld := hHeld2
  clear hHeld2
  try simp only [Act.put, List.setIfInBounds_toArray, List.set_cons_zero, List.set_cons_succ]
  refine region_one 4 (by kernel_rfl) rfl (fun K hK => ?_)
  go_simp
  refine K_world (fun w' : World => Touch (fun _ => False) uq3_4 w' ∧ Blk w' uq3_4.heap.size 64 #[.int .i64 2, .int .i64 1, .int .i64 1, .int .i64 16, .int .i64 9, .int .i64 4, .int .i64 0, .int .i64 1073741824, .int .i64 10, .int .i64 4, .int .i64 0, .int .i64 1073741824, .int .i64 11, .int .i64 16, .int .i64 0, .int .i64 0] ∧ w.heap.size ≤ uq3_4.heap.size) ⟨(Touch.refl _ _).alloc _, Blk.new _ _ _, (by have h := (hHeld).size; have := HB.out.2.2.size; omega)⟩ ?_
  intro uq3_5 hx
  have HR := Lib.hid hx.2
  have ht := hx.1
  refine hK.out _ _ (((hHeld).still ht)) (fun hHeld2 => ?_)
  clear hK K hHeld ht
  have hHeld := hHeld2
  clear hHeld2
  try simp only [Act.put, List.setIfInBounds_toArray, List.set_cons_zero, List.set_cons_succ]
  refine region_take 5 (v := ?vq35_6) rfl rfl (by kernel_rfl) (by kernel_rfl) (by kernel_rfl) (fun _ _ _ h => h) hHeld (Or.inl ⟨by rfl, ?yq35_6⟩) ?rq35_6
  case yq35_6 => (intro w hSw; (try dsimp only at hSw); go_simp; try with_reducible rfl)
  try simp only [Act.put, List.setIfInBounds_toArray, List.set_cons_zero, List.set_cons_succ]
  refine wpAnyH_done (by kernel_rfl) ?_ _
  have HT := Lib.hid ((hHeld).still2)
  go_wp2_with fail
  go_ret
  refine ⟨_, rfl, (HB.out.2.2.trans HT.out).below (Nat.le_refl _) (fun _ _ h => h), Or.inr ⟨_, HR.out.2, rfl, by decide, HR.out.1⟩⟩

set_option maxRecDepth 100000 in
set_option maxHeartbeats 4000000 in
theorem refParts_4 (w : World) : Calls Try.prog 44 #[.int .i64 4] w fun e w' => ∃ v, e = .returned v ∧ Below w.heap.size w w' ∧ PartsOf w.heap.size 4 v w' := by
  go_enter Try.func44, Try.ntmps44
  go_wp2_with fail
  obtain ⟨wb, hwb⟩ : ∃ wb, wb = (w.alloc (.cells #[.int .i64 11, .int .i64 16, .int .i64 0, .int .i64 0] 64)).alloc (.cells #[.int .i64 12, .int .i64 8, .int .i64 0, .int .i64 0] 64) := ⟨_, rfl⟩
  rw [← hwb]
  have HB1 : Hid (Blk wb w.heap.size 64 #[.int .i64 11, .int .i64 16, .int .i64 0, .int .i64 0] ∧ Blk wb (w.heap.size + 1) 64 #[.int .i64 12, .int .i64 8, .int .i64 0, .int .i64 0] ∧ Touch (fun _ => False) w wb) := Lib.hid (by rw [hwb]; exact ⟨(Blk.new w _ _).alloc _, blk_new_at (by simp) rfl, ((Touch.refl _ w).alloc _).alloc _⟩)
  obtain ⟨nk, hnk⟩ : ∃ nk, nk = w.heap.size := ⟨_, rfl⟩
  rw [← hnk]
  obtain ⟨ne, hne⟩ : ∃ ne, ne = nk + 1 := ⟨_, rfl⟩
  (try rw [← hne])
  have HB : Hid (Blk wb nk 64 #[.int .i64 11, .int .i64 16, .int .i64 0, .int .i64 0] ∧ Blk wb ne 64 #[.int .i64 12, .int .i64 8, .int .i64 0, .int .i64 0] ∧ Touch (fun _ => False) w wb) := Lib.hid (by rw [hne, hnk]; exact HB1.out)
  have HNK := Lib.hid hnk
  clear hne hwb HB1 hnk
  refine wp_region_held_drew (S := fun w' : World => TG wb w') (by kernel_rfl) ((TG.refl wb).drew) (fun hHeld => ?_)
  refine anyH_world (R := fun w' : World => TG wb w') hHeld ?_
  clear hHeld
  intro W0q4 hHeld
  refine region_take 2 (v := ?vq42_1) rfl rfl (by kernel_rfl) (by kernel_rfl) (by kernel_rfl) (fun _ _ _ h => h) hHeld (Or.inl ⟨by rfl, ?yq42_1⟩) ?rq42_1
  case yq42_1 => (intro w hSw; refine (yields_load_blk 64 (.tmp 3) rfl nk 64 #[.int .i64 11, .int .i64 16, .int .i64 0, .int .i64 0] _ rfl (HB.out.1.tg hSw) Try.underlying64 rfl (by kernel_rfl)).trans ?_; with_reducible rfl)
  try simp only [Act.put, List.setIfInBounds_toArray, List.set_cons_zero, List.set_cons_succ]
  refine region_one 0 (by kernel_rfl) rfl (fun K hK => ?_)
  go_simp
  go_at_call 75
  (with_reducible refine (refId_any 0 1 _).mono ?_)
  rintro e uq4_2 ⟨rfl, hb8⟩
  have ht := Touch.of_below (S := fun _ => False) hb8
  refine hK.out _ _ (((hHeld).still ht)) (fun hHeld2 => ?_)
  clear hK K hHeld ht
  have hHeld := hHeld2
  clear hHeld2
  try simp only [Act.put, List.setIfInBounds_toArray, List.set_cons_zero, List.set_cons_succ]
  refine region_one 1 (by kernel_rfl) rfl (fun K hK => ?_)
  go_simp
  go_at_call 75
  (with_reducible refine (refId_any 9 0 _).mono ?_)
  rintro e uq4_3 ⟨rfl, hb8⟩
  have ht := Touch.of_below (S := fun _ => False) hb8
  refine hK.out _ _ (((hHeld).still ht)) (fun hHeld2 => ?_)
  clear hK K hHeld ht
  have hHeld := hHeld2
  clear hHeld2
  try simp only [Act.put, List.setIfInBounds_toArray, List.set_cons_zero, List.set_cons_succ]
  refine region_one 3 (by kernel_rfl) rfl (fun K hK => ?_)
  go_simp
  refine K_world (fun w' : World => Touch (fun _ => False) uq4_3 w' ∧ Blk w' uq4_3.heap.size 64 #[.int .i64 0, .int .i64 4, .int .i64 1, .int .i64 1073741824, .int .i64 9, .int .i64 4, .int .i64 0, .int .i64 1073741824, .int .i64 11, .int .i64 16, .int .i64 0, .int .i64 0] ∧ w.heap.size ≤ uq4_3.heap.size) ⟨(Touch.refl _ _).alloc _, Blk.new _ _ _, (by have h := (hHeld).size; have := HB.out.2.2.size; omega)⟩ ?_
  intro uq4_4 hx
  have HR := Lib.hid hx.2
  have ht := hx.1
  refine hK.out _ _ (((hHeld).still ht)) (fun hHeld2 => ?_)
  clear hK K hHeld ht
  have hHeld := hHeld2
  clear hHeld2
  try simp only [Act.put, List.setIfInBounds_toArray, List.set_cons_zero, List.set_cons_succ]
  refine region_take 4 (v := ?vq44_5) rfl rfl (by kernel_rfl) (by kernel_rfl) (by kernel_rfl) (fun _ _ _ h => h) hHeld (Or.inl ⟨by rfl, ?yq44_5⟩) ?rq44_5
  case yq44_5 => (intro w hSw; (try dsimp only at hSw); go_simp; try with_reducible rfl)
  try simp only [Act.put, List.setIfInBounds_toArray, List.set_cons_zero, List.set_cons_succ]
  refine wpAnyH_done (by kernel_rfl) ?_ _
  have HT := Lib.hid ((hHeld).still2)
  go_wp2_with fail
  go_ret
  refine ⟨_, rfl, (HB.out.2.2.trans HT.out).below (Nat.le_refl _) (fun _ _ h => h), Or.inr ⟨_, HR.out.2, rfl, by decide, HR.out.1⟩⟩

end Go.Proofs.Ythlkmofemnepbaa

namespace Go.Proofs.Ythlkmofemnepbaa
open Go.RowKit

set_option maxRecDepth 100000 in
set_option maxHeartbeats 4000000 in
theorem refParts_5 (w : World) : Calls Try.prog 44 #[.int .i64 5] w fun e w' => ∃ v, e = .returned v ∧ Below w.heap.size w w' ∧ PartsOf w.heap.size 5 v w' := by
  go_enter Try.func44, Try.ntmps44
  go_wp2_with fail
  obtain ⟨wb, hwb⟩ : ∃ wb, wb = (w.alloc (.cells #[.int .i64 11, .int .i64 16, .int .i64 0, .int .i64 0] 64)).alloc (.cells #[.int .i64 12, .int .i64 8, .int .i64 0, .int .i64 0] 64) := ⟨_, rfl⟩
  rw [← hwb]
  have HB1 : Hid (Blk wb w.heap.size 64 #[.int .i64 11, .int .i64 16, .int .i64 0, .int .i64 0] ∧ Blk wb (w.heap.size + 1) 64 #[.int .i64 12, .int .i64 8, .int .i64 0, .int .i64 0] ∧ Touch (fun _ => False) w wb) := Lib.hid (by rw [hwb]; exact ⟨(Blk.new w _ _).alloc _, blk_new_at (by simp) rfl, ((Touch.refl _ w).alloc _).alloc _⟩)
  obtain ⟨nk, hnk⟩ : ∃ nk, nk = w.heap.size := ⟨_, rfl⟩
  rw [← hnk]
  obtain ⟨ne, hne⟩ : ∃ ne, ne = nk + 1 := ⟨_, rfl⟩
  (try rw [← hne])
  have HB : Hid (Blk wb nk 64 #[.int .i64 11, .int .i64 16, .int .i64 0, .int .i64 0] ∧ Blk wb ne 64 #[.int .i64 12, .int .i64 8, .int .i64 0, .int .i64 0] ∧ Touch (fun _ => False) w wb) := Lib.hid (by rw [hne, hnk]; exact HB1.out)
  have HNK := Lib.hid hnk
  clear hne hwb HB1 hnk
  refine wp_region_held_drew (S := fun w' : World => TG wb w') (by kernel_rfl) ((TG.refl wb).drew) (fun hHeld => ?_)
  refine anyH_world (R := fun w' : World => TG wb w') hHeld ?_
  clear hHeld
  intro W0q5 hHeld
  refine region_take 2 (v := ?vq52_1) rfl rfl (by kernel_rfl) (by kernel_rfl) (by kernel_rfl) (fun _ _ _ h => h) hHeld (Or.inl ⟨by rfl, ?yq52_1⟩) ?rq52_1
  case yq52_1 => (intro w hSw; refine (yields_load_blk 64 (.tmp 4) rfl ne 64 #[.int .i64 12, .int .i64 8, .int .i64 0, .int .i64 0] _ rfl (HB.out.2.1.tg hSw) Try.underlying64 rfl (by kernel_rfl)).trans ?_; with_reducible rfl)
  try simp only [Act.put, List.setIfInBounds_toArray, List.set_cons_zero, List.set_cons_succ]
  refine region_one 0 (by kernel_rfl) rfl (fun K hK => ?_)
  go_simp
  go_at_call 75
  (with_reducible refine (refId_any 0 1 _).mono ?_)
  rintro e uq5_2 ⟨rfl, hb8⟩
  have ht := Touch.of_below (S := fun _ => False) hb8
  refine hK.out _ _ (((hHeld).still ht)) (fun hHeld2 => ?_)
  clear hK K hHeld ht
  have hHeld := hHeld2
  clear hHeld2
  try simp only [Act.put, List.setIfInBounds_toArray, List.set_cons_zero, List.set_cons_succ]
  refine region_one 1 (by kernel_rfl) rfl (fun K hK => ?_)
  go_simp
  go_at_call 75
  (with_reducible refine (refId_any 1 1 _).mono ?_)
  rintro e uq5_3 ⟨rfl, hb8⟩
  have ht := Touch.of_below (S := fun _ => False) hb8
  refine hK.out _ _ (((hHeld).still ht)) (fun hHeld2 => ?_)
  clear hK K hHeld ht
  have hHeld := hHeld2
  clear hHeld2
  try simp only [Act.put, List.setIfInBounds_toArray, List.set_cons_zero, List.set_cons_succ]
  refine region_one 3 (by kernel_rfl) rfl (fun K hK => ?_)
  go_simp
  refine K_world (fun w' : World => Touch (fun _ => False) uq5_3 w' ∧ Blk w' uq5_3.heap.size 64 #[.int .i64 0, .int .i64 4, .int .i64 1, .int .i64 1073741824, .int .i64 1, .int .i64 4, .int .i64 1, .int .i64 1073741824, .int .i64 12, .int .i64 8, .int .i64 0, .int .i64 0] ∧ w.heap.size ≤ uq5_3.heap.size) ⟨(Touch.refl _ _).alloc _, Blk.new _ _ _, (by have h := (hHeld).size; have := HB.out.2.2.size; omega)⟩ ?_
  intro uq5_4 hx
  have HR := Lib.hid hx.2
  have ht := hx.1
  refine hK.out _ _ (((hHeld).still ht)) (fun hHeld2 => ?_)
  clear hK K hHeld ht
  have hHeld := hHeld2
  clear hHeld2
  try simp only [Act.put, List.setIfInBounds_toArray, List.set_cons_zero, List.set_cons_succ]
  refine region_take 4 (v := ?vq54_5) rfl rfl (by kernel_rfl) (by kernel_rfl) (by kernel_rfl) (fun _ _ _ h => h) hHeld (Or.inl ⟨by rfl, ?yq54_5⟩) ?rq54_5
  case yq54_5 => (intro w hSw; (try dsimp only at hSw); go_simp; try with_reducible rfl)
  try simp only [Act.put, List.setIfInBounds_toArray, List.set_cons_zero, List.set_cons_succ]
  refine wpAnyH_done (by kernel_rfl) ?_ _
  have HT := Lib.hid ((hHeld).still2)
  go_wp2_with fail
  go_ret
  refine ⟨_, rfl, (HB.out.2.2.trans HT.out).below (Nat.le_refl _) (fun _ _ h => h), Or.inr ⟨_, HR.out.2, rfl, by decide, HR.out.1⟩⟩

set_option maxRecDepth 100000 in
set_option maxHeartbeats 4000000 in
theorem refParts_6 (w : World) : Calls Try.prog 44 #[.int .i64 6] w fun e w' => ∃ v, e = .returned v ∧ Below w.heap.size w w' ∧ PartsOf w.heap.size 6 v w' := by
  go_enter Try.func44, Try.ntmps44
  go_wp2_with fail
  obtain ⟨wb, hwb⟩ : ∃ wb, wb = (w.alloc (.cells #[.int .i64 11, .int .i64 16, .int .i64 0, .int .i64 0] 64)).alloc (.cells #[.int .i64 12, .int .i64 8, .int .i64 0, .int .i64 0] 64) := ⟨_, rfl⟩
  rw [← hwb]
  have HB1 : Hid (Blk wb w.heap.size 64 #[.int .i64 11, .int .i64 16, .int .i64 0, .int .i64 0] ∧ Blk wb (w.heap.size + 1) 64 #[.int .i64 12, .int .i64 8, .int .i64 0, .int .i64 0] ∧ Touch (fun _ => False) w wb) := Lib.hid (by rw [hwb]; exact ⟨(Blk.new w _ _).alloc _, blk_new_at (by simp) rfl, ((Touch.refl _ w).alloc _).alloc _⟩)
  obtain ⟨nk, hnk⟩ : ∃ nk, nk = w.heap.size := ⟨_, rfl⟩
  rw [← hnk]
  obtain ⟨ne, hne⟩ : ∃ ne, ne = nk + 1 := ⟨_, rfl⟩
  (try rw [← hne])
  have HB : Hid (Blk wb nk 64 #[.int .i64 11, .int .i64 16, .int .i64 0, .int .i64 0] ∧ Blk wb ne 64 #[.int .i64 12, .int .i64 8, .int .i64 0, .int .i64 0] ∧ Touch (fun _ => False) w wb) := Lib.hid (by rw [hne, hnk]; exact HB1.out)
  have HNK := Lib.hid hnk
  clear hne hwb HB1 hnk
  refine wp_region_held_drew (S := fun w' : World => TG wb w') (by kernel_rfl) ((TG.refl wb).drew) (fun hHeld => ?_)
  refine anyH_world (R := fun w' : World => TG wb w') hHeld ?_
  clear hHeld
  intro W0q6 hHeld
  refine region_take 3 (v := ?vq63_1) rfl rfl (by kernel_rfl) (by kernel_rfl) (by kernel_rfl) (fun _ _ _ h => h) hHeld (Or.inl ⟨by rfl, ?yq63_1⟩) ?rq63_1
  case yq63_1 => (intro w hSw; refine (yields_load_blk 64 (.tmp 4) rfl ne 64 #[.int .i64 12, .int .i64 8, .int .i64 0, .int .i64 0] _ rfl (HB.out.2.1.tg hSw) Try.underlying64 rfl (by kernel_rfl)).trans ?_; with_reducible rfl)
  try simp only [Act.put, List.setIfInBounds_toArray, List.set_cons_zero, List.set_cons_succ]
  refine region_one 0 (by kernel_rfl) rfl (fun K hK => ?_)
  go_simp
  go_at_call 75
  (with_reducible refine (refId_any 0 1 _).mono ?_)
  rintro e uq6_2 ⟨rfl, hb8⟩
  have ht := Touch.of_below (S := fun _ => False) hb8
  refine hK.out _ _ (((hHeld).still ht)) (fun hHeld2 => ?_)
  clear hK K hHeld ht
  have hHeld := hHeld2
  clear hHeld2
  try simp only [Act.put, List.setIfInBounds_toArray, List.set_cons_zero, List.set_cons_succ]
  refine region_one 1 (by kernel_rfl) rfl (fun K hK => ?_)
  go_simp
  go_at_call 75
  (with_reducible refine (refId_any 1 1 _).mono ?_)
  rintro e uq6_3 ⟨rfl, hb8⟩
  have ht := Touch.of_below (S := fun _ => False) hb8
  refine hK.out _ _ (((hHeld).still ht)) (fun hHeld2 => ?_)
  clear hK K hHeld ht
  have hHeld := hHeld2
  clear hHeld2
  try simp only [Act.put, List.setIfInBounds_toArray, List.set_cons_zero, List.set_cons_succ]
  refine region_one 2 (by kernel_rfl) rfl (fun K hK => ?_)
  go_simp
  go_at_call 76
  (with_reducible refine (refSmall_any 4 1 3 _).mono ?_)
  rintro e uq6_4 ⟨rfl, hb8⟩
  have ht := Touch.of_below (S := fun _ => False) hb8
  refine hK.out _ _ (((hHeld).still ht)) (fun hHeld2 => ?_)
  clear hK K hHeld ht
  have hHeld := hHeld2
  clear hHeld2
  try simp only [Act.put, List.setIfInBounds_toArray, List.set_cons_zero, List.set_cons_succ]
  refine region_one 4 (by kernel_rfl) rfl (fun K hK => ?_)
  go_simp
  refine K_world (fun w' : World => Touch (fun _ => False) uq6_4 w' ∧ Blk w' uq6_4.heap.size 64 #[.int .i64 0, .int .i64 4, .int .i64 1, .int .i64 1073741824, .int .i64 1, .int .i64 4, .int .i64 1, .int .i64 1073741824, .int .i64 4, .int .i64 1, .int .i64 1, .int .i64 3, .int .i64 12, .int .i64 8, .int .i64 0, .int .i64 0] ∧ w.heap.size ≤ uq6_4.heap.size) ⟨(Touch.refl _ _).alloc _, Blk.new _ _ _, (by have h := (hHeld).size; have := HB.out.2.2.size; omega)⟩ ?_
  intro uq6_5 hx
  have HR := Lib.hid hx.2
  have ht := hx.1
  refine hK.out _ _ (((hHeld).still ht)) (fun hHeld2 => ?_)
  clear hK K hHeld ht
  have hHeld := hHeld2
  clear hHeld2
  try simp only [Act.put, List.setIfInBounds_toArray, List.set_cons_zero, List.set_cons_succ]
  refine region_take 5 (v := ?vq65_6) rfl rfl (by kernel_rfl) (by kernel_rfl) (by kernel_rfl) (fun _ _ _ h => h) hHeld (Or.inl ⟨by rfl, ?yq65_6⟩) ?rq65_6
  case yq65_6 => (intro w hSw; (try dsimp only at hSw); go_simp; try with_reducible rfl)
  try simp only [Act.put, List.setIfInBounds_toArray, List.set_cons_zero, List.set_cons_succ]
  refine wpAnyH_done (by kernel_rfl) ?_ _
  have HT := Lib.hid ((hHeld).still2)
  go_wp2_with fail
  go_ret
  refine ⟨_, rfl, (HB.out.2.2.trans HT.out).below (Nat.le_refl _) (fun _ _ h => h), Or.inr ⟨_, HR.out.2, rfl, by decide, HR.out.1⟩⟩

set_option maxRecDepth 100000 in
set_option maxHeartbeats 4000000 in
theorem refParts_7 (w : World) : Calls Try.prog 44 #[.int .i64 7] w fun e w' => ∃ v, e = .returned v ∧ Below w.heap.size w w' ∧ PartsOf w.heap.size 7 v w' := by
  go_enter Try.func44, Try.ntmps44
  go_wp2_with fail
  obtain ⟨wb, hwb⟩ : ∃ wb, wb = (w.alloc (.cells #[.int .i64 11, .int .i64 16, .int .i64 0, .int .i64 0] 64)).alloc (.cells #[.int .i64 12, .int .i64 8, .int .i64 0, .int .i64 0] 64) := ⟨_, rfl⟩
  rw [← hwb]
  have HB1 : Hid (Blk wb w.heap.size 64 #[.int .i64 11, .int .i64 16, .int .i64 0, .int .i64 0] ∧ Blk wb (w.heap.size + 1) 64 #[.int .i64 12, .int .i64 8, .int .i64 0, .int .i64 0] ∧ Touch (fun _ => False) w wb) := Lib.hid (by rw [hwb]; exact ⟨(Blk.new w _ _).alloc _, blk_new_at (by simp) rfl, ((Touch.refl _ w).alloc _).alloc _⟩)
  obtain ⟨nk, hnk⟩ : ∃ nk, nk = w.heap.size := ⟨_, rfl⟩
  rw [← hnk]
  obtain ⟨ne, hne⟩ : ∃ ne, ne = nk + 1 := ⟨_, rfl⟩
  (try rw [← hne])
  have HB : Hid (Blk wb nk 64 #[.int .i64 11, .int .i64 16, .int .i64 0, .int .i64 0] ∧ Blk wb ne 64 #[.int .i64 12, .int .i64 8, .int .i64 0, .int .i64 0] ∧ Touch (fun _ => False) w wb) := Lib.hid (by rw [hne, hnk]; exact HB1.out)
  have HNK := Lib.hid hnk
  clear hne hwb HB1 hnk
  refine wp_region_held_drew (S := fun w' : World => TG wb w') (by kernel_rfl) ((TG.refl wb).drew) (fun hHeld => ?_)
  refine anyH_world (R := fun w' : World => TG wb w') hHeld ?_
  clear hHeld
  intro W0q7 hHeld
  refine region_take 4 (v := ?vq74_1) rfl rfl (by kernel_rfl) (by kernel_rfl) (by kernel_rfl) (fun _ _ _ h => h) hHeld (Or.inl ⟨by rfl, ?yq74_1⟩) ?rq74_1
  case yq74_1 => (intro w hSw; refine (yields_load_blk 64 (.tmp 4) rfl ne 64 #[.int .i64 12, .int .i64 8, .int .i64 0, .int .i64 0] _ rfl (HB.out.2.1.tg hSw) Try.underlying64 rfl (by kernel_rfl)).trans ?_; with_reducible rfl)
  try simp only [Act.put, List.setIfInBounds_toArray, List.set_cons_zero, List.set_cons_succ]
  refine region_one 0 (by kernel_rfl) rfl (fun K hK => ?_)
  go_simp
  go_at_call 75
  (with_reducible refine (refId_any 0 1 _).mono ?_)
  rintro e uq7_2 ⟨rfl, hb8⟩
  have ht := Touch.of_below (S := fun _ => False) hb8
  refine hK.out _ _ (((hHeld).still ht)) (fun hHeld2 => ?_)
  clear hK K hHeld ht
  have hHeld := hHeld2
  clear hHeld2
  try simp only [Act.put, List.setIfInBounds_toArray, List.set_cons_zero, List.set_cons_succ]
  refine region_one 1 (by kernel_rfl) rfl (fun K hK => ?_)
  go_simp
  go_at_call 75
  (with_reducible refine (refId_any 1 1 _).mono ?_)
  rintro e uq7_3 ⟨rfl, hb8⟩
  have ht := Touch.of_below (S := fun _ => False) hb8
  refine hK.out _ _ (((hHeld).still ht)) (fun hHeld2 => ?_)
  clear hK K hHeld ht
  have hHeld := hHeld2
  clear hHeld2
  try simp only [Act.put, List.setIfInBounds_toArray, List.set_cons_zero, List.set_cons_succ]
  refine region_one 2 (by kernel_rfl) rfl (fun K hK => ?_)
  go_simp
  go_at_call 76
  (with_reducible refine (refSmall_any 3 1 7 _).mono ?_)
  rintro e uq7_4 ⟨rfl, hb8⟩
  have ht := Touch.of_below (S := fun _ => False) hb8
  refine hK.out _ _ (((hHeld).still ht)) (fun hHeld2 => ?_)
  clear hK K hHeld ht
  have hHeld := hHeld2
  clear hHeld2
  try simp only [Act.put, List.setIfInBounds_toArray, List.set_cons_zero, List.set_cons_succ]
  refine region_one 3 (by kernel_rfl) rfl (fun K hK => ?_)
  go_simp
  go_at_call 76
  (with_reducible refine (refSmall_any 2 1 16 _).mono ?_)
  rintro e uq7_5 ⟨rfl, hb8⟩
  have ht := Touch.of_below (S := fun _ => False) hb8
  refine hK.out _ _ (((hHeld).still ht)) (fun hHeld2 => ?_)
  clear hK K hHeld ht
  have hHeld := hHeld2
  clear hHeld2
  try simp only [Act.put, List.setIfInBounds_toArray, List.set_cons_zero, List.set_cons_succ]
  refine region_one 5 (by kernel_rfl) rfl (fun K hK => ?_)
  go_simp
  refine K_world (fun w' : World => Touch (fun _ => False) uq7_5 w' ∧ Blk w' uq7_5.heap.size 64 #[.int .i64 0, .int .i64 4, .int .i64 1, .int .i64 1073741824, .int .i64 1, .int .i64 4, .int .i64 1, .int .i64 1073741824, .int .i64 3, .int .i64 1, .int .i64 1, .int .i64 7, .int .i64 2, .int .i64 1, .int .i64 1, .int .i64 16, .int .i64 12, .int .i64 8, .int .i64 0, .int .i64 0] ∧ w.heap.size ≤ uq7_5.heap.size) ⟨(Touch.refl _ _).alloc _, Blk.new _ _ _, (by have h := (hHeld).size; have := HB.out.2.2.size; omega)⟩ ?_
  intro uq7_6 hx
  have HR := Lib.hid hx.2
  have ht := hx.1
  refine hK.out _ _ (((hHeld).still ht)) (fun hHeld2 => ?_)
  clear hK K hHeld ht
  have hHeld := hHeld2
  clear hHeld2
  try simp only [Act.put, List.setIfInBounds_toArray, List.set_cons_zero, List.set_cons_succ]
  refine region_take 6 (v := ?vq76_7) rfl rfl (by kernel_rfl) (by kernel_rfl) (by kernel_rfl) (fun _ _ _ h => h) hHeld (Or.inl ⟨by rfl, ?yq76_7⟩) ?rq76_7
  case yq76_7 => (intro w hSw; (try dsimp only at hSw); go_simp; try with_reducible rfl)
  try simp only [Act.put, List.setIfInBounds_toArray, List.set_cons_zero, List.set_cons_succ]
  refine wpAnyH_done (by kernel_rfl) ?_ _
  have HT := Lib.hid ((hHeld).still2)
  go_wp2_with fail
  go_ret
  refine ⟨_, rfl, (HB.out.2.2.trans HT.out).below (Nat.le_refl _) (fun _ _ h => h), Or.inr ⟨_, HR.out.2, rfl, by decide, HR.out.1⟩⟩

set_option maxRecDepth 100000 in
set_option maxHeartbeats 4000000 in
theorem refParts_10 (w : World) : Calls Try.prog 44 #[.int .i64 10] w fun e w' => ∃ v, e = .returned v ∧ Below w.heap.size w w' ∧ PartsOf w.heap.size 10 v w' := by
  go_enter Try.func44, Try.ntmps44
  go_wp2_with fail
  obtain ⟨wb, hwb⟩ : ∃ wb, wb = (w.alloc (.cells #[.int .i64 11, .int .i64 16, .int .i64 0, .int .i64 0] 64)).alloc (.cells #[.int .i64 12, .int .i64 8, .int .i64 0, .int .i64 0] 64) := ⟨_, rfl⟩
  rw [← hwb]
  have HB1 : Hid (Blk wb w.heap.size 64 #[.int .i64 11, .int .i64 16, .int .i64 0, .int .i64 0] ∧ Blk wb (w.heap.size + 1) 64 #[.int .i64 12, .int .i64 8, .int .i64 0, .int .i64 0] ∧ Touch (fun _ => False) w wb) := Lib.hid (by rw [hwb]; exact ⟨(Blk.new w _ _).alloc _, blk_new_at (by simp) rfl, ((Touch.refl _ w).alloc _).alloc _⟩)
  obtain ⟨nk, hnk⟩ : ∃ nk, nk = w.heap.size := ⟨_, rfl⟩
  rw [← hnk]
  obtain ⟨ne, hne⟩ : ∃ ne, ne = nk + 1 := ⟨_, rfl⟩
  (try rw [← hne])
  have HB : Hid (Blk wb nk 64 #[.int .i64 11, .int .i64 16, .int .i64 0, .int .i64 0] ∧ Blk wb ne 64 #[.int .i64 12, .int .i64 8, .int .i64 0, .int .i64 0] ∧ Touch (fun _ => False) w wb) := Lib.hid (by rw [hne, hnk]; exact HB1.out)
  have HNK := Lib.hid hnk
  clear hne hwb HB1 hnk
  refine wp_region_held_drew (S := fun w' : World => TG wb w') (by kernel_rfl) ((TG.refl wb).drew) (fun hHeld => ?_)
  refine anyH_world (R := fun w' : World => TG wb w') hHeld ?_
  clear hHeld
  intro W0q10 hHeld
  refine region_take 2 (v := ?vq102_1) rfl rfl (by kernel_rfl) (by kernel_rfl) (by kernel_rfl) (fun _ _ _ h => h) hHeld (Or.inl ⟨by rfl, ?yq102_1⟩) ?rq102_1
  case yq102_1 => (intro w hSw; refine (yields_load_blk 64 (.tmp 4) rfl ne 64 #[.int .i64 12, .int .i64 8, .int .i64 0, .int .i64 0] _ rfl (HB.out.2.1.tg hSw) Try.underlying64 rfl (by kernel_rfl)).trans ?_; with_reducible rfl)
  try simp only [Act.put, List.setIfInBounds_toArray, List.set_cons_zero, List.set_cons_succ]
  refine region_one 0 (by kernel_rfl) rfl (fun K hK => ?_)
  go_simp
  go_at_call 75
  (with_reducible refine (refId_any 0 1 _).mono ?_)
  rintro e uq10_2 ⟨rfl, hb8⟩
  have ht := Touch.of_below (S := fun _ => False) hb8
  refine hK.out _ _ (((hHeld).still ht)) (fun hHeld2 => ?_)
  clear hK K hHeld ht
  have hHeld := hHeld2
  clear hHeld2
  try simp only [Act.put, List.setIfInBounds_toArray, List.set_cons_zero, List.set_cons_succ]
  refine region_one 1 (by kernel_rfl) rfl (fun K hK => ?_)
  go_simp
  go_at_call 75
  (with_reducible refine (refId_any 1 1 _).mono ?_)
  rintro e uq10_3 ⟨rfl, hb8⟩
  have ht := Touch.of_below (S := fun _ => False) hb8
  refine hK.out _ _ (((hHeld).still ht)) (fun hHeld2 => ?_)
  clear hK K hHeld ht
  have hHeld := hHeld2
  clear hHeld2
  try simp only [Act.put, List.setIfInBounds_toArray, List.set_cons_zero, List.set_cons_succ]
  refine region_one 3 (by kernel_rfl) rfl (fun K hK => ?_)
  go_simp
  refine K_world (fun w' : World => Touch (fun _ => False) uq10_3 w' ∧ Blk w' uq10_3.heap.size 64 #[.int .i64 0, .int .i64 4, .int .i64 1, .int .i64 1073741824, .int .i64 1, .int .i64 4, .int .i64 1, .int .i64 1073741824, .int .i64 12, .int .i64 8, .int .i64 0, .int .i64 0] ∧ w.heap.size ≤ uq10_3.heap.size) ⟨(Touch.refl _ _).alloc _, Blk.new _ _ _, (by have h := (hHeld).size; have := HB.out.2.2.size; omega)⟩ ?_
  intro uq10_4 hx
  have HR := Lib.hid hx.2
  have ht := hx.1
  refine hK.out _ _ (((hHeld).still ht)) (fun hHeld2 => ?_)
  clear hK K hHeld ht
  have hHeld := hHeld2
  clear hHeld2
  try simp only [Act.put, List.setIfInBounds_toArray, List.set_cons_zero, List.set_cons_succ]
  refine region_take 4 (v := ?vq104_5) rfl rfl (by kernel_rfl) (by kernel_rfl) (by kernel_rfl) (fun _ _ _ h => h) hHeld (Or.inl ⟨by rfl, ?yq104_5⟩) ?rq104_5
  case yq104_5 => (intro w hSw; (try dsimp only at hSw); go_simp; try with_reducible rfl)
  try simp only [Act.put, List.setIfInBounds_toArray, List.set_cons_zero, List.set_cons_succ]
  refine wpAnyH_done (by kernel_rfl) ?_ _
  have HT := Lib.hid ((hHeld).still2)
  go_wp2_with fail
  go_ret
  refine ⟨_, rfl, (HB.out.2.2.trans HT.out).below (Nat.le_refl _) (fun _ _ h => h), Or.inr ⟨_, HR.out.2, rfl, by decide, HR.out.1⟩⟩

end Go.Proofs.Ythlkmofemnepbaa

namespace Go.Proofs.Ythlkmofemnepbaa
open Go.RowKit

set_option maxRecDepth 100000 in
set_option maxHeartbeats 4000000 in
theorem refParts_8 (w : World) : Calls Try.prog 44 #[.int .i64 8] w fun e w' => ∃ v, e = .returned v ∧ Below w.heap.size w w' ∧ PartsOf w.heap.size 8 v w' := by
  go_enter Try.func44, Try.ntmps44
  go_wp2_with fail
  obtain ⟨wb, hwb⟩ : ∃ wb, wb = (w.alloc (.cells #[.int .i64 11, .int .i64 16, .int .i64 0, .int .i64 0] 64)).alloc (.cells #[.int .i64 12, .int .i64 8, .int .i64 0, .int .i64 0] 64) := ⟨_, rfl⟩
  rw [← hwb]
  have HB1 : Hid (Blk wb w.heap.size 64 #[.int .i64 11, .int .i64 16, .int .i64 0, .int .i64 0] ∧ Blk wb (w.heap.size + 1) 64 #[.int .i64 12, .int .i64 8, .int .i64 0, .int .i64 0] ∧ Touch (fun _ => False) w wb) := Lib.hid (by rw [hwb]; exact ⟨(Blk.new w _ _).alloc _, blk_new_at (by simp) rfl, ((Touch.refl _ w).alloc _).alloc _⟩)
  obtain ⟨nk, hnk⟩ : ∃ nk, nk = w.heap.size := ⟨_, rfl⟩
  rw [← hnk]
  obtain ⟨ne, hne⟩ : ∃ ne, ne = nk + 1 := ⟨_, rfl⟩
  (try rw [← hne])
  have HB : Hid (Blk wb nk 64 #[.int .i64 11, .int .i64 16, .int .i64 0, .int .i64 0] ∧ Blk wb ne 64 #[.int .i64 12, .int .i64 8, .int .i64 0, .int .i64 0] ∧ Touch (fun _ => False) w wb) := Lib.hid (by rw [hne, hnk]; exact HB1.out)
  have HNK := Lib.hid hnk
  clear hne hwb HB1 hnk
  refine wp_region_held_drew (S := fun w' : World => TG wb w') (by kernel_rfl) ((TG.refl wb).drew) (fun hHeld => ?_)
  refine anyH_world (R := fun w' : World => TG wb w') hHeld ?_
  clear hHeld
  intro W0q8 hHeld
  refine region_take 6 (v := ?vq86_1) rfl rfl (by kernel_rfl) (by kernel_rfl) (by kernel_rfl) (fun _ _ _ h => h) hHeld (Or.inl ⟨by rfl, ?yq86_1⟩) ?rq86_1
  case yq86_1 => (intro w hSw; refine (yields_load_blk 64 (.tmp 4) rfl ne 64 #[.int .i64 12, .int .i64 8, .int .i64 0, .int .i64 0] _ rfl (HB.out.2.1.tg hSw) Try.underlying64 rfl (by kernel_rfl)).trans ?_; with_reducible rfl)
  try simp only [Act.put, List.setIfInBounds_toArray, List.set_cons_zero, List.set_cons_succ]
  refine region_one 0 (by kernel_rfl) rfl (fun K hK => ?_)
  go_simp
  go_at_call 75
  (with_reducible refine (refId_any 0 1 _).mono ?_)
  rintro e uq8_2 ⟨rfl, hb8⟩
  have ht := Touch.of_below (S := fun _ => False) hb8
  refine hK.out _ _ (((hHeld).still ht)) (fun hHeld2 => ?_)
  clear hK K hHeld ht
  have hHeld := hHeld2
  clear hHeld2
  try simp only [Act.put, List.setIfInBounds_toArray, List.set_cons_zero, List.set_cons_succ]
  refine region_one 1 (by kernel_rfl) rfl (fun K hK => ?_)
  go_simp
  go_at_call 75
  (with_reducible refine (refId_any 1 1 _).mono ?_)
  rintro e uq8_3 ⟨rfl, hb8⟩
  have ht := Touch.of_below (S := fun _ => False) hb8
  refine hK.out _ _ (((hHeld).still ht)) (fun hHeld2 => ?_)
  clear hK K hHeld ht
  have hHeld := hHeld2
  clear hHeld2
  try simp only [Act.put, List.setIfInBounds_toArray, List.set_cons_zero, List.set_cons_succ]
  refine region_one 2 (by kernel_rfl) rfl (fun K hK => ?_)
  go_simp
  go_at_call 76
  (with_reducible refine (refSmall_any 2 0 16 _).mono ?_)
  rintro e uq8_4 ⟨rfl, hb8⟩
  have ht := Touch.of_below (S := fun _ => False) hb8
  refine hK.out _ _ (((hHeld).still ht)) (fun hHeld2 => ?_)
  clear hK K hHeld ht
  have hHeld := hHeld2
  clear hHeld2
  try simp only [Act.put, List.setIfInBounds_toArray, List.set_cons_zero, List.set_cons_succ]
  refine region_one 3 (by kernel_rfl) rfl (fun K hK => ?_)
  go_simp
  go_at_call 75
  (with_reducible refine (refId_any 6 0 _).mono ?_)
  rintro e uq8_5 ⟨rfl, hb8⟩
  have ht := Touch.of_below (S := fun _ => False) hb8
  refine hK.out _ _ (((hHeld).still ht)) (fun hHeld2 => ?_)
  clear hK K hHeld ht
  have hHeld := hHeld2
  clear hHeld2
  try simp only [Act.put, List.setIfInBounds_toArray, List.set_cons_zero, List.set_cons_succ]
  refine region_one 4 (by kernel_rfl) rfl (fun K hK => ?_)
  go_simp
  go_at_call 76
  (with_reducible refine (refSmall_any 4 0 3 _).mono ?_)
  rintro e uq8_6 ⟨rfl, hb8⟩
  have ht := Touch.of_below (S := fun _ => False) hb8
  refine hK.out _ _ (((hHeld).still ht)) (fun hHeld2 => ?_)
  clear hK K hHeld ht
  have hHeld := hHeld2
  clear hHeld2
  try simp only [Act.put, List.setIfInBounds_toArray, List.set_cons_zero, List.set_cons_succ]
  refine region_one 5 (by kernel_rfl) rfl (fun K hK => ?_)
  go_simp
  go_at_call 76
  (with_reducible refine (refSmall_any 5 0 4 _).mono ?_)
  rintro e uq8_7 ⟨rfl, hb8⟩
  have ht := Touch.of_below (S := fun _ => False) hb8
  refine hK.out _ _ (((hHeld).still ht)) (fun hHeld2 => ?_)
  clear hK K hHeld ht
  have hHeld := hHeld2
  clear hHeld2
  try simp only [Act.put, List.setIfInBounds_toArray, List.set_cons_zero, List.set_cons_succ]
  refine region_one 7 (by kernel_rfl) rfl (fun K hK => ?_)
  go_simp
  refine K_world (fun w' : World => Touch (fun _ => False) uq8_7 w' ∧ Blk w' uq8_7.heap.size 64 #[.int .i64 0, .int .i64 4, .int .i64 1, .int .i64 1073741824, .int .i64 1, .int .i64 4, .int .i64 1, .int .i64 1073741824, .int .i64 2, .int .i64 1, .int .i64 0, .int .i64 16, .int .i64 6, .int .i64 4, .int .i64 0, .int .i64 1073741824, .int .i64 4, .int .i64 1, .int .i64 0, .int .i64 3, .int .i64 5, .int .i64 1, .int .i64 0, .int .i64 4, .int .i64 12, .int .i64 8, .int .i64 0, .int .i64 0] ∧ w.heap.size ≤ uq8_7.heap.size) ⟨(Touch.refl _ _).alloc _, Blk.new _ _ _, (by have h := (hHeld).size; have := HB.out.2.2.size; omega)⟩ ?_
  intro uq8_8 hx
  have HR := Lib.hid hx.2
  have ht := hx.1
  refine hK.out _ _ (((hHeld).still ht)) (fun hHeld2 => ?_)
  clear hK K hHeld ht
  have hHeld := hHeld2
  clear hHeld2
  try simp only [Act.put, List.setIfInBounds_toArray, List.set_cons_zero, List.set_cons_succ]
  refine region_take 8 (v := ?vq88_9) rfl rfl (by kernel_rfl) (by kernel_rfl) (by kernel_rfl) (fun _ _ _ h => h) hHeld (Or.inl ⟨by rfl, ?yq88_9⟩) ?rq88_9
  case yq88_9 => (intro w hSw; (try dsimp only at hSw); go_simp; try with_reducible rfl)
  try simp only [Act.put, List.setIfInBounds_toArray, List.set_cons_zero, List.set_cons_succ]
  refine wpAnyH_done (by kernel_rfl) ?_ _
  have HT := Lib.hid ((hHeld).still2)
  go_wp2_with fail
  go_ret
  refine ⟨_, rfl, (HB.out.2.2.trans HT.out).below (Nat.le_refl _) (fun _ _ h => h), Or.inr ⟨_, HR.out.2, rfl, by decide, HR.out.1⟩⟩

set_option maxRecDepth 100000 in
set_option maxHeartbeats 4000000 in
theorem refParts_9 (w : World) : Calls Try.prog 44 #[.int .i64 9] w fun e w' => ∃ v, e = .returned v ∧ Below w.heap.size w w' ∧ PartsOf w.heap.size 9 v w' := by
  go_enter Try.func44, Try.ntmps44
  go_wp2_with fail
  obtain ⟨wb, hwb⟩ : ∃ wb, wb = (w.alloc (.cells #[.int .i64 11, .int .i64 16, .int .i64 0, .int .i64 0] 64)).alloc (.cells #[.int .i64 12, .int .i64 8, .int .i64 0, .int .i64 0] 64) := ⟨_, rfl⟩
  rw [← hwb]
  have HB1 : Hid (Blk wb w.heap.size 64 #[.int .i64 11, .int .i64 16, .int .i64 0, .int .i64 0] ∧ Blk wb (w.heap.size + 1) 64 #[.int .i64 12, .int .i64 8, .int .i64 0, .int .i64 0] ∧ Touch (fun _ => False) w wb) := Lib.hid (by rw [hwb]; exact ⟨(Blk.new w _ _).alloc _, blk_new_at (by simp) rfl, ((Touch.refl _ w).alloc _).alloc _⟩)
  obtain ⟨nk, hnk⟩ : ∃ nk, nk = w.heap.size := ⟨_, rfl⟩
  rw [← hnk]
  obtain ⟨ne, hne⟩ : ∃ ne, ne = nk + 1 := ⟨_, rfl⟩
  (try rw [← hne])
  have HB : Hid (Blk wb nk 64 #[.int .i64 11, .int .i64 16, .int .i64 0, .int .i64 0] ∧ Blk wb ne 64 #[.int .i64 12, .int .i64 8, .int .i64 0, .int .i64 0] ∧ Touch (fun _ => False) w wb) := Lib.hid (by rw [hne, hnk]; exact HB1.out)
  have HNK := Lib.hid hnk
  clear hne hwb HB1 hnk
  refine wp_region_held_drew (S := fun w' : World => TG wb w') (by kernel_rfl) ((TG.refl wb).drew) (fun hHeld => ?_)
  refine anyH_world (R := fun w' : World => TG wb w') hHeld ?_
  clear hHeld
  intro W0q9 hHeld
  refine region_take 3 (v := ?vq93_1) rfl rfl (by kernel_rfl) (by kernel_rfl) (by kernel_rfl) (fun _ _ _ h => h) hHeld (Or.inl ⟨by rfl, ?yq93_1⟩) ?rq93_1
  case yq93_1 => (intro w hSw; refine (yields_load_blk 64 (.tmp 4) rfl ne 64 #[.int .i64 12, .int .i64 8, .int .i64 0, .int .i64 0] _ rfl (HB.out.2.1.tg hSw) Try.underlying64 rfl (by kernel_rfl)).trans ?_; with_reducible rfl)
  try simp only [Act.put, List.setIfInBounds_toArray, List.set_cons_zero, List.set_cons_succ]
  refine region_one 0 (by kernel_rfl) rfl (fun K hK => ?_)
  go_simp
  go_at_call 75
  (with_reducible refine (refId_any 0 1 _).mono ?_)
  rintro e uq9_2 ⟨rfl, hb8⟩
  have ht := Touch.of_below (S := fun _ => False) hb8
  refine hK.out _ _ (((hHeld).still ht)) (fun hHeld2 => ?_)
  clear hK K hHeld ht
  have hHeld := hHeld2
  clear hHeld2
  try simp only [Act.put, List.setIfInBounds_toArray, List.set_cons_zero, List.set_cons_succ]
  refine region_one 1 (by kernel_rfl) rfl (fun K hK => ?_)
  go_simp
  go_at_call 75
  (with_reducible refine (refId_any 7 0 _).mono ?_)
  rintro e uq9_3 ⟨rfl, hb8⟩
  have ht := Touch.of_below (S := fun _ => False) hb8
  refine hK.out _ _ (((hHeld).still ht)) (fun hHeld2 => ?_)
  clear hK K hHeld ht
  have hHeld := hHeld2
  clear hHeld2
  try simp only [Act.put, List.setIfInBounds_toArray, List.set_cons_zero, List.set_cons_succ]
  refine region_one 2 (by kernel_rfl) rfl (fun K hK => ?_)
  go_simp
  go_at_call 76
  (with_reducible refine (refSmall_any 8 0 255 _).mono ?_)
  rintro e uq9_4 ⟨rfl, hb8⟩
  have ht := Touch.of_below (S := fun _ => False) hb8
  refine hK.out _ _ (((hHeld).still ht)) (fun hHeld2 => ?_)
  clear hK K hHeld ht
  have hHeld := hHeld2
  clear hHeld2
  try simp only [Act.put, List.setIfInBounds_toArray, List.set_cons_zero, List.set_cons_succ]
  refine region_one 4 (by kernel_rfl) rfl (fun K hK => ?_)
  go_simp
  refine K_world (fun w' : World => Touch (fun _ => False) uq9_4 w' ∧ Blk w' uq9_4.heap.size 64 #[.int .i64 0, .int .i64 4, .int .i64 1, .int .i64 1073741824, .int .i64 7, .int .i64 4, .int .i64 0, .int .i64 1073741824, .int .i64 8, .int .i64 1, .int .i64 0, .int .i64 255, .int .i64 12, .int .i64 8, .int .i64 0, .int .i64 0] ∧ w.heap.size ≤ uq9_4.heap.size) ⟨(Touch.refl _ _).alloc _, Blk.new _ _ _, (by have h := (hHeld).size; have := HB.out.2.2.size; omega)⟩ ?_
  intro uq9_5 hx
  have HR := Lib.hid hx.2
  have ht := hx.1
  refine hK.out _ _ (((hHeld).still ht)) (fun hHeld2 => ?_)
  clear hK K hHeld ht
  have hHeld := hHeld2
  clear hHeld2
  try simp only [Act.put, List.setIfInBounds_toArray, List.set_cons_zero, List.set_cons_succ]
  refine region_take 5 (v := ?vq95_6) rfl rfl (by kernel_rfl) (by kernel_rfl) (by kernel_rfl) (fun _ _ _ h => h) hHeld (Or.inl ⟨by rfl, ?yq95_6⟩) ?rq95_6
  case yq95_6 => (intro w hSw; (try dsimp only at hSw); go_simp; try with_reducible rfl)
  try simp only [Act.put, List.setIfInBounds_toArray, List.set_cons_zero, List.set_cons_succ]
  refine wpAnyH_done (by kernel_rfl) ?_ _
  have HT := Lib.hid ((hHeld).still2)
  go_wp2_with fail
  go_ret
  refine ⟨_, rfl, (HB.out.2.2.trans HT.out).below (Nat.le_refl _) (fun _ _ h => h), Or.inr ⟨_, HR.out.2, rfl, by decide, HR.out.1⟩⟩

set_option maxRecDepth 100000 in
set_option maxHeartbeats 4000000 in
theorem refParts_11 (w : World) : Calls Try.prog 44 #[.int .i64 11] w fun e w' => ∃ v, e = .returned v ∧ Below w.heap.size w w' ∧ PartsOf w.heap.size 11 v w' := by
  go_enter Try.func44, Try.ntmps44
  go_wp2_with fail
  obtain ⟨wb, hwb⟩ : ∃ wb, wb = (w.alloc (.cells #[.int .i64 11, .int .i64 16, .int .i64 0, .int .i64 0] 64)).alloc (.cells #[.int .i64 12, .int .i64 8, .int .i64 0, .int .i64 0] 64) := ⟨_, rfl⟩
  rw [← hwb]
  have HB1 : Hid (Blk wb w.heap.size 64 #[.int .i64 11, .int .i64 16, .int .i64 0, .int .i64 0] ∧ Blk wb (w.heap.size + 1) 64 #[.int .i64 12, .int .i64 8, .int .i64 0, .int .i64 0] ∧ Touch (fun _ => False) w wb) := Lib.hid (by rw [hwb]; exact ⟨(Blk.new w _ _).alloc _, blk_new_at (by simp) rfl, ((Touch.refl _ w).alloc _).alloc _⟩)
  obtain ⟨nk, hnk⟩ : ∃ nk, nk = w.heap.size := ⟨_, rfl⟩
  rw [← hnk]
  obtain ⟨ne, hne⟩ : ∃ ne, ne = nk + 1 := ⟨_, rfl⟩
  (try rw [← hne])
  have HB : Hid (Blk wb nk 64 #[.int .i64 11, .int .i64 16, .int .i64 0, .int .i64 0] ∧ Blk wb ne 64 #[.int .i64 12, .int .i64 8, .int .i64 0, .int .i64 0] ∧ Touch (fun _ => False) w wb) := Lib.hid (by rw [hne, hnk]; exact HB1.out)
  have HNK := Lib.hid hnk
  clear hne hwb HB1 hnk
  refine wp_region_held_drew (S := fun w' : World => TG wb w') (by kernel_rfl) ((TG.refl wb).drew) (fun hHeld => ?_)
  refine anyH_world (R := fun w' : World => TG wb w') hHeld ?_
  clear hHeld
  intro W0q11 hHeld
  refine region_take 3 (v := ?vq113_1) rfl rfl (by kernel_rfl) (by kernel_rfl) (by kernel_rfl) (fun _ _ _ h => h) hHeld (Or.inl ⟨by rfl, ?yq113_1⟩) ?rq113_1
  case yq113_1 => (intro w hSw; refine (yields_load_blk 64 (.tmp 4) rfl ne 64 #[.int .i64 12, .int .i64 8, .int .i64 0, .int .i64 0] _ rfl (HB.out.2.1.tg hSw) Try.underlying64 rfl (by kernel_rfl)).trans ?_; with_reducible rfl)
  try simp only [Act.put, List.setIfInBounds_toArray, List.set_cons_zero, List.set_cons_succ]
  refine region_one 0 (by kernel_rfl) rfl (fun K hK => ?_)
  go_simp
  go_at_call 75
  (with_reducible refine (refId_any 0 1 _).mono ?_)
  rintro e uq11_2 ⟨rfl, hb8⟩
  have ht := Touch.of_below (S := fun _ => False) hb8
  refine hK.out _ _ (((hHeld).still ht)) (fun hHeld2 => ?_)
  clear hK K hHeld ht
  have hHeld := hHeld2
  clear hHeld2
  try simp only [Act.put, List.setIfInBounds_toArray, List.set_cons_zero, List.set_cons_succ]
  refine region_one 1 (by kernel_rfl) rfl (fun K hK => ?_)
  go_simp
  go_at_call 75
  (with_reducible refine (refId_any 1 1 _).mono ?_)
  rintro e uq11_3 ⟨rfl, hb8⟩
  have ht := Touch.of_below (S := fun _ => False) hb8
  refine hK.out _ _ (((hHeld).still ht)) (fun hHeld2 => ?_)
  clear hK K hHeld ht
  have hHeld := hHeld2
  clear hHeld2
  try simp only [Act.put, List.setIfInBounds_toArray, List.set_cons_zero, List.set_cons_succ]
  refine region_one 2 (by kernel_rfl) rfl (fun K hK => ?_)
  go_simp
  go_at_call 76
  (with_reducible refine (refSmall_any 3 0 15 _).mono ?_)
  rintro e uq11_4 ⟨rfl, hb8⟩
  have ht := Touch.of_below (S := fun _ => False) hb8
  refine hK.out _ _ (((hHeld).still ht)) (fun hHeld2 => ?_)
  clear hK K hHeld ht
  have hHeld := hHeld2
  clear hHeld2
  try simp only [Act.put, List.setIfInBounds_toArray, List.set_cons_zero, List.set_cons_succ]
  refine region_one 4 (by kernel_rfl) rfl (fun K hK => ?_)
  go_simp
  refine K_world (fun w' : World => Touch (fun _ => False) uq11_4 w' ∧ Blk w' uq11_4.heap.size 64 #[.int .i64 0, .int .i64 4, .int .i64 1, .int .i64 1073741824, .int .i64 1, .int .i64 4, .int .i64 1, .int .i64 1073741824, .int .i64 3, .int .i64 1, .int .i64 0, .int .i64 15, .int .i64 12, .int .i64 8, .int .i64 0, .int .i64 0] ∧ w.heap.size ≤ uq11_4.heap.size) ⟨(Touch.refl _ _).alloc _, Blk.new _ _ _, (by have h := (hHeld).size; have := HB.out.2.2.size; omega)⟩ ?_
  intro uq11_5 hx
  have HR := Lib.hid hx.2
  have ht := hx.1
  refine hK.out _ _ (((hHeld).still ht)) (fun hHeld2 => ?_)
  clear hK K hHeld ht
  have hHeld := hHeld2
  clear hHeld2
  try simp only [Act.put, List.setIfInBounds_toArray, List.set_cons_zero, List.set_cons_succ]
  refine region_take 5 (v := ?vq115_6) rfl rfl (by kernel_rfl) (by kernel_rfl) (by kernel_rfl) (fun _ _ _ h => h) hHeld (Or.inl ⟨by rfl, ?yq115_6⟩) ?rq115_6
  case yq115_6 => (intro w hSw; (try dsimp only at hSw); go_simp; try with_reducible rfl)
  try simp only [Act.put, List.setIfInBounds_toArray, List.set_cons_zero, List.set_cons_succ]
  refine wpAnyH_done (by kernel_rfl) ?_ _
  have HT := Lib.hid ((hHeld).still2)
  go_wp2_with fail
  go_ret
  refine ⟨_, rfl, (HB.out.2.2.trans HT.out).below (Nat.le_refl _) (fun _ _ h => h), Or.inr ⟨_, HR.out.2, rfl, by decide, HR.out.1⟩⟩

set_option maxRecDepth 100000 in
set_option maxHeartbeats 4000000 in
theorem refParts_12 (w : World) : Calls Try.prog 44 #[.int .i64 12] w fun e w' => ∃ v, e = .returned v ∧ Below w.heap.size w w' ∧ PartsOf w.heap.size 12 v w' := by
  go_enter Try.func44, Try.ntmps44
  go_wp2_with fail
  obtain ⟨wb, hwb⟩ : ∃ wb, wb = (w.alloc (.cells #[.int .i64 11, .int .i64 16, .int .i64 0, .int .i64 0] 64)).alloc (.cells #[.int .i64 12, .int .i64 8, .int .i64 0, .int .i64 0] 64) := ⟨_, rfl⟩
  rw [← hwb]
  have HB1 : Hid (Blk wb w.heap.size 64 #[.int .i64 11, .int .i64 16, .int .i64 0, .int .i64 0] ∧ Blk wb (w.heap.size + 1) 64 #[.int .i64 12, .int .i64 8, .int .i64 0, .int .i64 0] ∧ Touch (fun _ => False) w wb) := Lib.hid (by rw [hwb]; exact ⟨(Blk.new w _ _).alloc _, blk_new_at (by simp) rfl, ((Touch.refl _ w).alloc _).alloc _⟩)
  obtain ⟨nk, hnk⟩ : ∃ nk, nk = w.heap.size := ⟨_, rfl⟩
  rw [← hnk]
  obtain ⟨ne, hne⟩ : ∃ ne, ne = nk + 1 := ⟨_, rfl⟩
  (try rw [← hne])
  have HB : Hid (Blk wb nk 64 #[.int .i64 11, .int .i64 16, .int .i64 0, .int .i64 0] ∧ Blk wb ne 64 #[.int .i64 12, .int .i64 8, .int .i64 0, .int .i64 0] ∧ Touch (fun _ => False) w wb) := Lib.hid (by rw [hne, hnk]; exact HB1.out)
  have HNK := Lib.hid hnk
  clear hne hwb HB1 hnk
  (with_reducible refine (refId_any 9 0 _).mono ?_)
  rintro e wc ⟨rfl, hb⟩
  have HT : Hid (Touch (fun _ => False) w wc) := Lib.hid (HB.out.2.2.trans (Touch.of_below hb))
  clear hb
  go_wp2_with fail
  (with_reducible refine (refSmall_any 3 0 15 _).mono ?_)
  rintro e wd ⟨rfl, hb⟩
  have HD : Hid (Touch (fun _ => False) w wd) := Lib.hid (HT.out.trans (Touch.of_below hb))
  clear hb
  go_wp2_with fail
  go_ret
  refine ⟨_, rfl, (HD.out.alloc _).below (Nat.le_refl _) (fun _ _ h => h), Or.inr ⟨_, HD.out.size, rfl, by decide, blk_new_at rfl (by kernel_rfl)⟩⟩

end Go.Proofs.Ythlkmofemnepbaa

namespace Go.Proofs.Ythlkmofemnepbaa
open Go.RowKit

set_option maxRecDepth 100000 in
set_option maxHeartbeats 4000000 in
theorem refParts_nil (k : Int) (hk : ¬ (1 ≤ k ∧ k ≤ 12)) (w : World) : Calls Try.prog 44 #[.int .i64 k] w fun e w' => ∃ v, e = .returned v ∧ Below w.heap.size w w' ∧ PartsOf w.heap.size k v w' := by
  have hn := (parts_empty k).2 (slots_nil k hk)
  have e1 : ∀ j : Int, 1 ≤ j → j ≤ 12 → (k == j) = false := fun j h1 h2 => beq_eq_false_iff_ne.2 (by omega)
  have t1 := e1 1 (by decide) (by decide)
  have t2 := e1 2 (by decide) (by decide)
  have t3 := e1 3 (by decide) (by decide)
  have t4 := e1 4 (by decide) (by decide)
  have t5 := e1 5 (by decide) (by decide)
  have t6 := e1 6 (by decide) (by decide)
  have t7 := e1 7 (by decide) (by decide)
  have t8 := e1 8 (by decide) (by decide)
  have t9 := e1 9 (by decide) (by decide)
  have t10 := e1 10 (by decide) (by decide)
  have t11 := e1 11 (by decide) (by decide)
  have t12 := e1 12 (by decide) (by decide)
  have HN := Lib.hid hn
  clear e1 hk hn
  go_enter Try.func44, Try.ntmps44
  go_wp2_with fail
  obtain ⟨wb, hwb⟩ : ∃ wb, wb = (w.alloc (.cells #[.int .i64 11, .int .i64 16, .int .i64 0, .int .i64 0] 64)).alloc (.cells #[.int .i64 12, .int .i64 8, .int .i64 0, .int .i64 0] 64) := ⟨_, rfl⟩
  rw [← hwb]
  have HB1 : Hid (Blk wb w.heap.size 64 #[.int .i64 11, .int .i64 16, .int .i64 0, .int .i64 0] ∧ Blk wb (w.heap.size + 1) 64 #[.int .i64 12, .int .i64 8, .int .i64 0, .int .i64 0] ∧ Touch (fun _ => False) w wb) := Lib.hid (by rw [hwb]; exact ⟨(Blk.new w _ _).alloc _, blk_new_at (by simp) rfl, ((Touch.refl _ w).alloc _).alloc _⟩)
  obtain ⟨nk, hnk⟩ : ∃ nk, nk = w.heap.size := ⟨_, rfl⟩
  rw [← hnk]
  obtain ⟨ne, hne⟩ : ∃ ne, ne = nk + 1 := ⟨_, rfl⟩
  (try rw [← hne])
  have HB : Hid (Blk wb nk 64 #[.int .i64 11, .int .i64 16, .int .i64 0, .int .i64 0] ∧ Blk wb ne 64 #[.int .i64 12, .int .i64 8, .int .i64 0, .int .i64 0] ∧ Touch (fun _ => False) w wb) := Lib.hid (by rw [hne, hnk]; exact HB1.out)
  have HNK := Lib.hid hnk
  clear hne hwb HB1 hnk
  go_ret
  exact ⟨_, rfl, HB.out.2.2.below (Nat.le_of_eq HNK.out) (fun _ _ h => h), Or.inl ⟨HN.out, rfl⟩⟩

theorem refParts_any (k : Int) (w : World) : Calls Try.prog 44 #[.int .i64 k] w fun e w' => ∃ v, e = .returned v ∧ Below w.heap.size w w' ∧ PartsOf w.heap.size k v w' := by
  by_cases hk : 1 ≤ k ∧ k ≤ 12
  · obtain rfl | rfl | rfl | rfl | rfl | rfl | rfl | rfl | rfl | rfl | rfl | rfl : k = 1 ∨ k = 2 ∨ k = 3 ∨ k = 4 ∨ k = 5 ∨ k = 6 ∨ k = 7 ∨ k = 8 ∨ k = 9 ∨ k = 10 ∨ k = 11 ∨ k = 12 := by omega
    · exact refParts_1 w
    · exact refParts_2 w
    · exact refParts_3 w
    · exact refParts_4 w
    · exact refParts_5 w
    · exact refParts_6 w
    · exact refParts_7 w
    · exact refParts_8 w
    · exact refParts_9 w
    · exact refParts_10 w
    · exact refParts_11 w
    · exact refParts_12 w
  · exact refParts_nil k hk w
end Go.Proofs.Ythlkmofemnepbaa

namespace Go.Proofs.Ythlkmofemnepbaa
open Go.RowKit

set_option maxRecDepth 100000 in
theorem refTagged_any (k : Int) (w : World) : Calls Try.prog 28 #[.int .i64 k] w fun e w' => e = .returned (.bool (taggedN k)) ∧ w = w' := by
  by_cases h1 : 5 ≤ k
  · by_cases h2 : k ≤ 11
    all_goals
      go_enter Try.func28, Try.ntmps28
      go_wp2
      go_ret
      exact ⟨by simp [taggedN, h1, h2], rfl⟩
  · skip
    go_enter Try.func28, Try.ntmps28
    go_wp2
    go_ret
    exact ⟨by simp [taggedN]; omega, rfl⟩

set_option maxRecDepth 100000 in
set_option maxHeartbeats 4000000 in
theorem refGet_any (p : Pk) (hp : p.Ok) (i : Nat) (h1 : 1 ≤ i) (h2 : i < 12) (w : World) :
    Calls Try.prog 46 #[.agg (pkV p), .int .i64 ((i : Int) - 1)] w fun e w' => e = .returned (.int .i64 (p.n.getD i 0)) ∧ Below w.heap.size w w' := by
  have e1 : (pkV p)[1]? = some (.int .i64 (p.n.getD 1 0)) := pkV_num hp 1 (by decide)
  have e2 : (pkV p)[2]? = some (.int .i64 (p.n.getD 2 0)) := pkV_num hp 2 (by decide)
  have e3 : (pkV p)[3]? = some (.int .i64 (p.n.getD 3 0)) := pkV_num hp 3 (by decide)
  have e4 : (pkV p)[4]? = some (.int .i64 (p.n.getD 4 0)) := pkV_num hp 4 (by decide)
  have e5 : (pkV p)[5]? = some (.int .i64 (p.n.getD 5 0)) := pkV_num hp 5 (by decide)
  have e6 : (pkV p)[6]? = some (.int .i64 (p.n.getD 6 0)) := pkV_num hp 6 (by decide)
  have e7 : (pkV p)[7]? = some (.int .i64 (p.n.getD 7 0)) := pkV_num hp 7 (by decide)
  have e8 : (pkV p)[8]? = some (.int .i64 (p.n.getD 8 0)) := pkV_num hp 8 (by decide)
  have e9 : (pkV p)[9]? = some (.int .i64 (p.n.getD 9 0)) := pkV_num hp 9 (by decide)
  have e10 : (pkV p)[10]? = some (.int .i64 (p.n.getD 10 0)) := pkV_num hp 10 (by decide)
  have e11 : (pkV p)[11]? = some (.int .i64 (p.n.getD 11 0)) := pkV_num hp 11 (by decide)
  have HP := Lib.hid hp
  clear hp
  obtain rfl | rfl | rfl | rfl | rfl | rfl | rfl | rfl | rfl | rfl | rfl : i = 1 ∨ i = 2 ∨ i = 3 ∨ i = 4 ∨ i = 5 ∨ i = 6 ∨ i = 7 ∨ i = 8 ∨ i = 9 ∨ i = 10 ∨ i = 11 := by omega
  all_goals
    go_enter Try.func46, Try.ntmps46
    go_wp2
    go_ret
    exact ⟨by first | rfl | simp, (((Touch.refl (fun _ => False) w).alloc _).alloc _).below (Nat.le_refl _) (fun _ _ h => h)⟩
end Go.Proofs.Ythlkmofemnepbaa

namespace Go.Proofs.Ythlkmofemnepbaa
open Go.RowKit

set_option maxRecDepth 100000 in
set_option maxHeartbeats 4000000 in
theorem refWith_1 (p : Pk) (hp : p.Ok) (x : Int) (w : World) :
    Calls Try.prog 54 #[.agg (pkV p), .int .i64 0, .int .i64 x] w fun e w' => e = .returned (.agg (pkV { p with n := p.n.set 1 x })) ∧ Below w.heap.size w w' := by
  have HP := Lib.hid (And.intro hp (hp.setN 1 x))
  have cx : ∀ o, ((w.alloc (.cells (pkV p) 25)).alloc o).cell? ⟨w.heap.size, 1, none⟩ = some (.int .i64 (p.n.getD 1 0)) := fun o => ((Blk.new w (pkV p) 25).alloc o).num hp 1 (by decide)
  have fx : ∀ o, ((w.alloc (.cells (pkV p) 25)).alloc o).frozen? ⟨w.heap.size, 1, none⟩ = false := fun o => ((Blk.new w (pkV p) 25).alloc o).frozen 1
  clear hp
  go_enter Try.func54, Try.ntmps54
  go_wp2_with (first
    | ((with_reducible refine at_op (.load 25 (.tmp 3)) rfl ?_); refine wpList_load_blk rfl 25 (.tmp 3) rfl w.heap.size 25 (pkV { p with n := p.n.set 1 x }) _ rfl ((blk_new_at rfl (pkV_setN HP.out.1 1 (by decide) x)).alloc _) Try.underlying25 rfl (by rw [pkV_size HP.out.2]; first | done | kernel_rfl) ?_)
    | ((with_reducible refine at_op (.store 25 (.tmp 6) (.tmp 52)) rfl ?_); refine wpList_store_blk rfl 25 (.tmp 6) (.tmp 52) rfl (w.heap.size + 1) 25 (pkV Pk.zero) (pkV { p with n := p.n.set 1 x }) rfl rfl (blk_new_at (by simp) rfl) (by rw [pkV_size HP.out.2]; first | done | kernel_rfl) (by rw [pkV_size HP.out.2]; first | done | kernel_rfl) (pkV_one _) ?_; intro wz hBz htz hsz))
  refine bodyPost_ret (results_cell_row rfl _ _ (w.heap.size + 1) 25 (pkV { p with n := p.n.set 1 x }) (0, 0) _ rfl hBz Try.underlying25 rfl (by rw [pkV_size HP.out.2]; first | done | kernel_rfl)) rfl ⟨rfl, ?_⟩
  exact (Touch.then (S := fun _ => False) (((Touch.refl (fun _ => False) w).alloc _).alloc _) htz (fun i hi e => by omega)).below (Nat.le_refl _) (fun _ _ h => h)

set_option maxRecDepth 100000 in
set_option maxHeartbeats 4000000 in
theorem refWith_2 (p : Pk) (hp : p.Ok) (x : Int) (w : World) :
    Calls Try.prog 54 #[.agg (pkV p), .int .i64 1, .int .i64 x] w fun e w' => e = .returned (.agg (pkV { p with n := p.n.set 2 x })) ∧ Below w.heap.size w w' := by
  have HP := Lib.hid (And.intro hp (hp.setN 2 x))
  have cx : ∀ o, ((w.alloc (.cells (pkV p) 25)).alloc o).cell? ⟨w.heap.size, 2, none⟩ = some (.int .i64 (p.n.getD 2 0)) := fun o => ((Blk.new w (pkV p) 25).alloc o).num hp 2 (by decide)
  have fx : ∀ o, ((w.alloc (.cells (pkV p) 25)).alloc o).frozen? ⟨w.heap.size, 2, none⟩ = false := fun o => ((Blk.new w (pkV p) 25).alloc o).frozen 2
  clear hp
  go_enter Try.func54, Try.ntmps54
  go_wp2_with (first
    | ((with_reducible refine at_op (.load 25 (.tmp 3)) rfl ?_); refine wpList_load_blk rfl 25 (.tmp 3) rfl w.heap.size 25 (pkV { p with n := p.n.set 2 x }) _ rfl ((blk_new_at rfl (pkV_setN HP.out.1 2 (by decide) x)).alloc _) Try.underlying25 rfl (by rw [pkV_size HP.out.2]; first | done | kernel_rfl) ?_)
    | ((with_reducible refine at_op (.store 25 (.tmp 6) (.tmp 52)) rfl ?_); refine wpList_store_blk rfl 25 (.tmp 6) (.tmp 52) rfl (w.heap.size + 1) 25 (pkV Pk.zero) (pkV { p with n := p.n.set 2 x }) rfl rfl (blk_new_at (by simp) rfl) (by rw [pkV_size HP.out.2]; first | done | kernel_rfl) (by rw [pkV_size HP.out.2]; first | done | kernel_rfl) (pkV_one _) ?_; intro wz hBz htz hsz))
  refine bodyPost_ret (results_cell_row rfl _ _ (w.heap.size + 1) 25 (pkV { p with n := p.n.set 2 x }) (0, 0) _ rfl hBz Try.underlying25 rfl (by rw [pkV_size HP.out.2]; first | done | kernel_rfl)) rfl ⟨rfl, ?_⟩
  exact (Touch.then (S := fun _ => False) (((Touch.refl (fun _ => False) w).alloc _).alloc _) htz (fun i hi e => by omega)).below (Nat.le_refl _) (fun _ _ h => h)

set_option maxRecDepth 100000 in
set_option maxHeartbeats 4000000 in
theorem refWith_3 (p : Pk) (hp : p.Ok) (x : Int) (w : World) :
    Calls Try.prog 54 #[.agg (pkV p), .int .i64 2, .int .i64 x] w fun e w' => e = .returned (.agg (pkV { p with n := p.n.set 3 x })) ∧ Below w.heap.size w w' := by
  have HP := Lib.hid (And.intro hp (hp.setN 3 x))
  have cx : ∀ o, ((w.alloc (.cells (pkV p) 25)).alloc o).cell? ⟨w.heap.size, 3, none⟩ = some (.int .i64 (p.n.getD 3 0)) := fun o => ((Blk.new w (pkV p) 25).alloc o).num hp 3 (by decide)
  have fx : ∀ o, ((w.alloc (.cells (pkV p) 25)).alloc o).frozen? ⟨w.heap.size, 3, none⟩ = false := fun o => ((Blk.new w (pkV p) 25).alloc o).frozen 3
  clear hp
  go_enter Try.func54, Try.ntmps54
  go_wp2_with (first
    | ((with_reducible refine at_op (.load 25 (.tmp 3)) rfl ?_); refine wpList_load_blk rfl 25 (.tmp 3) rfl w.heap.size 25 (pkV { p with n := p.n.set 3 x }) _ rfl ((blk_new_at rfl (pkV_setN HP.out.1 3 (by decide) x)).alloc _) Try.underlying25 rfl (by rw [pkV_size HP.out.2]; first | done | kernel_rfl) ?_)
    | ((with_reducible refine at_op (.store 25 (.tmp 6) (.tmp 52)) rfl ?_); refine wpList_store_blk rfl 25 (.tmp 6) (.tmp 52) rfl (w.heap.size + 1) 25 (pkV Pk.zero) (pkV { p with n := p.n.set 3 x }) rfl rfl (blk_new_at (by simp) rfl) (by rw [pkV_size HP.out.2]; first | done | kernel_rfl) (by rw [pkV_size HP.out.2]; first | done | kernel_rfl) (pkV_one _) ?_; intro wz hBz htz hsz))
  refine bodyPost_ret (results_cell_row rfl _ _ (w.heap.size + 1) 25 (pkV { p with n := p.n.set 3 x }) (0, 0) _ rfl hBz Try.underlying25 rfl (by rw [pkV_size HP.out.2]; first | done | kernel_rfl)) rfl ⟨rfl, ?_⟩
  exact (Touch.then (S := fun _ => False) (((Touch.refl (fun _ => False) w).alloc _).alloc _) htz (fun i hi e => by omega)).below (Nat.le_refl _) (fun _ _ h => h)

set_option maxRecDepth 100000 in
set_option maxHeartbeats 4000000 in
theorem refWith_4 (p : Pk) (hp : p.Ok) (x : Int) (w : World) :
    Calls Try.prog 54 #[.agg (pkV p), .int .i64 3, .int .i64 x] w fun e w' => e = .returned (.agg (pkV { p with n := p.n.set 4 x })) ∧ Below w.heap.size w w' := by
  have HP := Lib.hid (And.intro hp (hp.setN 4 x))
  have cx : ∀ o, ((w.alloc (.cells (pkV p) 25)).alloc o).cell? ⟨w.heap.size, 4, none⟩ = some (.int .i64 (p.n.getD 4 0)) := fun o => ((Blk.new w (pkV p) 25).alloc o).num hp 4 (by decide)
  have fx : ∀ o, ((w.alloc (.cells (pkV p) 25)).alloc o).frozen? ⟨w.heap.size, 4, none⟩ = false := fun o => ((Blk.new w (pkV p) 25).alloc o).frozen 4
  clear hp
  go_enter Try.func54, Try.ntmps54
  go_wp2_with (first
    | ((with_reducible refine at_op (.load 25 (.tmp 3)) rfl ?_); refine wpList_load_blk rfl 25 (.tmp 3) rfl w.heap.size 25 (pkV { p with n := p.n.set 4 x }) _ rfl ((blk_new_at rfl (pkV_setN HP.out.1 4 (by decide) x)).alloc _) Try.underlying25 rfl (by rw [pkV_size HP.out.2]; first | done | kernel_rfl) ?_)
    | ((with_reducible refine at_op (.store 25 (.tmp 6) (.tmp 52)) rfl ?_); refine wpList_store_blk rfl 25 (.tmp 6) (.tmp 52) rfl (w.heap.size + 1) 25 (pkV Pk.zero) (pkV { p with n := p.n.set 4 x }) rfl rfl (blk_new_at (by simp) rfl) (by rw [pkV_size HP.out.2]; first | done | kernel_rfl) (by rw [pkV_size HP.out.2]; first | done | kernel_rfl) (pkV_one _) ?_; intro wz hBz htz hsz))
  refine bodyPost_ret (results_cell_row rfl _ _ (w.heap.size + 1) 25 (pkV { p with n := p.n.set 4 x }) (0, 0) _ rfl hBz Try.underlying25 rfl (by rw [pkV_size HP.out.2]; first | done | kernel_rfl)) rfl ⟨rfl, ?_⟩
  exact (Touch.then (S := fun _ => False) (((Touch.refl (fun _ => False) w).alloc _).alloc _) htz (fun i hi e => by omega)).below (Nat.le_refl _) (fun _ _ h => h)

set_option maxRecDepth 100000 in
set_option maxHeartbeats 4000000 in
theorem refWith_5 (p : Pk) (hp : p.Ok) (x : Int) (w : World) :
    Calls Try.prog 54 #[.agg (pkV p), .int .i64 4, .int .i64 x] w fun e w' => e = .returned (.agg (pkV { p with n := p.n.set 5 x })) ∧ Below w.heap.size w w' := by
  have HP := Lib.hid (And.intro hp (hp.setN 5 x))
  have cx : ∀ o, ((w.alloc (.cells (pkV p) 25)).alloc o).cell? ⟨w.heap.size, 5, none⟩ = some (.int .i64 (p.n.getD 5 0)) := fun o => ((Blk.new w (pkV p) 25).alloc o).num hp 5 (by decide)
  have fx : ∀ o, ((w.alloc (.cells (pkV p) 25)).alloc o).frozen? ⟨w.heap.size, 5, none⟩ = false := fun o => ((Blk.new w (pkV p) 25).alloc o).frozen 5
  clear hp
  go_enter Try.func54, Try.ntmps54
  go_wp2_with (first
    | ((with_reducible refine at_op (.load 25 (.tmp 3)) rfl ?_); refine wpList_load_blk rfl 25 (.tmp 3) rfl w.heap.size 25 (pkV { p with n := p.n.set 5 x }) _ rfl ((blk_new_at rfl (pkV_setN HP.out.1 5 (by decide) x)).alloc _) Try.underlying25 rfl (by rw [pkV_size HP.out.2]; first | done | kernel_rfl) ?_)
    | ((with_reducible refine at_op (.store 25 (.tmp 6) (.tmp 52)) rfl ?_); refine wpList_store_blk rfl 25 (.tmp 6) (.tmp 52) rfl (w.heap.size + 1) 25 (pkV Pk.zero) (pkV { p with n := p.n.set 5 x }) rfl rfl (blk_new_at (by simp) rfl) (by rw [pkV_size HP.out.2]; first | done | kernel_rfl) (by rw [pkV_size HP.out.2]; first | done | kernel_rfl) (pkV_one _) ?_; intro wz hBz htz hsz))
  refine bodyPost_ret (results_cell_row rfl _ _ (w.heap.size + 1) 25 (pkV { p with n := p.n.set 5 x }) (0, 0) _ rfl hBz Try.underlying25 rfl (by rw [pkV_size HP.out.2]; first | done | kernel_rfl)) rfl ⟨rfl, ?_⟩
  exact (Touch.then (S := fun _ => False) (((Touch.refl (fun _ => False) w).alloc _).alloc _) htz (fun i hi e => by omega)).below (Nat.le_refl _) (fun _ _ h => h)

set_option maxRecDepth 100000 in
set_option maxHeartbeats 4000000 in
theorem refWith_6 (p : Pk) (hp : p.Ok) (x : Int) (w : World) :
    Calls Try.prog 54 #[.agg (pkV p), .int .i64 5, .int .i64 x] w fun e w' => e = .returned (.agg (pkV { p with n := p.n.set 6 x })) ∧ Below w.heap.size w w' := by
  have HP := Lib.hid (And.intro hp (hp.setN 6 x))
  have cx : ∀ o, ((w.alloc (.cells (pkV p) 25)).alloc o).cell? ⟨w.heap.size, 6, none⟩ = some (.int .i64 (p.n.getD 6 0)) := fun o => ((Blk.new w (pkV p) 25).alloc o).num hp 6 (by decide)
  have fx : ∀ o, ((w.alloc (.cells (pkV p) 25)).alloc o).frozen? ⟨w.heap.size, 6, none⟩ = false := fun o => ((Blk.new w (pkV p) 25).alloc o).frozen 6
  clear hp
  go_enter Try.func54, Try.ntmps54
  go_wp2_with (first
    | ((with_reducible refine at_op (.load 25 (.tmp 3)) rfl ?_); refine wpList_load_blk rfl 25 (.tmp 3) rfl w.heap.size 25 (pkV { p with n := p.n.set 6 x }) _ rfl ((blk_new_at rfl (pkV_setN HP.out.1 6 (by decide) x)).alloc _) Try.underlying25 rfl (by rw [pkV_size HP.out.2]; first | done | kernel_rfl) ?_)
    | ((with_reducible refine at_op (.store 25 (.tmp 6) (.tmp 52)) rfl ?_); refine wpList_store_blk rfl 25 (.tmp 6) (.tmp 52) rfl (w.heap.size + 1) 25 (pkV Pk.zero) (pkV { p with n := p.n.set 6 x }) rfl rfl (blk_new_at (by simp) rfl) (by rw [pkV_size HP.out.2]; first | done | kernel_rfl) (by rw [pkV_size HP.out.2]; first | done | kernel_rfl) (pkV_one _) ?_; intro wz hBz htz hsz))
  refine bodyPost_ret (results_cell_row rfl _ _ (w.heap.size + 1) 25 (pkV { p with n := p.n.set 6 x }) (0, 0) _ rfl hBz Try.underlying25 rfl (by rw [pkV_size HP.out.2]; first | done | kernel_rfl)) rfl ⟨rfl, ?_⟩
  exact (Touch.then (S := fun _ => False) (((Touch.refl (fun _ => False) w).alloc _).alloc _) htz (fun i hi e => by omega)).below (Nat.le_refl _) (fun _ _ h => h)

set_option maxRecDepth 100000 in
set_option maxHeartbeats 4000000 in
theorem refWith_7 (p : Pk) (hp : p.Ok) (x : Int) (w : World) :
    Calls Try.prog 54 #[.agg (pkV p), .int .i64 6, .int .i64 x] w fun e w' => e = .returned (.agg (pkV { p with n := p.n.set 7 x })) ∧ Below w.heap.size w w' := by
  have HP := Lib.hid (And.intro hp (hp.setN 7 x))
  have cx : ∀ o, ((w.alloc (.cells (pkV p) 25)).alloc o).cell? ⟨w.heap.size, 7, none⟩ = some (.int .i64 (p.n.getD 7 0)) := fun o => ((Blk.new w (pkV p) 25).alloc o).num hp 7 (by decide)
  have fx : ∀ o, ((w.alloc (.cells (pkV p) 25)).alloc o).frozen? ⟨w.heap.size, 7, none⟩ = false := fun o => ((Blk.new w (pkV p) 25).alloc o).frozen 7
  clear hp
  go_enter Try.func54, Try.ntmps54
  go_wp2_with (first
    | ((with_reducible refine at_op (.load 25 (.tmp 3)) rfl ?_); refine wpList_load_blk rfl 25 (.tmp 3) rfl w.heap.size 25 (pkV { p with n := p.n.set 7 x }) _ rfl ((blk_new_at rfl (pkV_setN HP.out.1 7 (by decide) x)).alloc _) Try.underlying25 rfl (by rw [pkV_size HP.out.2]; first | done | kernel_rfl) ?_)
    | ((with_reducible refine at_op (.store 25 (.tmp 6) (.tmp 52)) rfl ?_); refine wpList_store_blk rfl 25 (.tmp 6) (.tmp 52) rfl (w.heap.size + 1) 25 (pkV Pk.zero) (pkV { p with n := p.n.set 7 x }) rfl rfl (blk_new_at (by simp) rfl) (by rw [pkV_size HP.out.2]; first | done | kernel_rfl) (by rw [pkV_size HP.out.2]; first | done | kernel_rfl) (pkV_one _) ?_; intro wz hBz htz hsz))
  refine bodyPost_ret (results_cell_row rfl _ _ (w.heap.size + 1) 25 (pkV { p with n := p.n.set 7 x }) (0, 0) _ rfl hBz Try.underlying25 rfl (by rw [pkV_size HP.out.2]; first | done | kernel_rfl)) rfl ⟨rfl, ?_⟩
  exact (Touch.then (S := fun _ => False) (((Touch.refl (fun _ => False) w).alloc _).alloc _) htz (fun i hi e => by omega)).below (Nat.le_refl _) (fun _ _ h => h)

set_option maxRecDepth 100000 in
set_option maxHeartbeats 4000000 in
theorem refWith_8 (p : Pk) (hp : p.Ok) (x : Int) (w : World) :
    Calls Try.prog 54 #[.agg (pkV p), .int .i64 7, .int .i64 x] w fun e w' => e = .returned (.agg (pkV { p with n := p.n.set 8 x })) ∧ Below w.heap.size w w' := by
  have HP := Lib.hid (And.intro hp (hp.setN 8 x))
  have cx : ∀ o, ((w.alloc (.cells (pkV p) 25)).alloc o).cell? ⟨w.heap.size, 8, none⟩ = some (.int .i64 (p.n.getD 8 0)) := fun o => ((Blk.new w (pkV p) 25).alloc o).num hp 8 (by decide)
  have fx : ∀ o, ((w.alloc (.cells (pkV p) 25)).alloc o).frozen? ⟨w.heap.size, 8, none⟩ = false := fun o => ((Blk.new w (pkV p) 25).alloc o).frozen 8
  clear hp
  go_enter Try.func54, Try.ntmps54
  go_wp2_with (first
    | ((with_reducible refine at_op (.load 25 (.tmp 3)) rfl ?_); refine wpList_load_blk rfl 25 (.tmp 3) rfl w.heap.size 25 (pkV { p with n := p.n.set 8 x }) _ rfl ((blk_new_at rfl (pkV_setN HP.out.1 8 (by decide) x)).alloc _) Try.underlying25 rfl (by rw [pkV_size HP.out.2]; first | done | kernel_rfl) ?_)
    | ((with_reducible refine at_op (.store 25 (.tmp 6) (.tmp 52)) rfl ?_); refine wpList_store_blk rfl 25 (.tmp 6) (.tmp 52) rfl (w.heap.size + 1) 25 (pkV Pk.zero) (pkV { p with n := p.n.set 8 x }) rfl rfl (blk_new_at (by simp) rfl) (by rw [pkV_size HP.out.2]; first | done | kernel_rfl) (by rw [pkV_size HP.out.2]; first | done | kernel_rfl) (pkV_one _) ?_; intro wz hBz htz hsz))
  refine bodyPost_ret (results_cell_row rfl _ _ (w.heap.size + 1) 25 (pkV { p with n := p.n.set 8 x }) (0, 0) _ rfl hBz Try.underlying25 rfl (by rw [pkV_size HP.out.2]; first | done | kernel_rfl)) rfl ⟨rfl, ?_⟩
  exact (Touch.then (S := fun _ => False) (((Touch.refl (fun _ => False) w).alloc _).alloc _) htz (fun i hi e => by omega)).below (Nat.le_refl _) (fun _ _ h => h)

set_option maxRecDepth 100000 in
set_option maxHeartbeats 4000000 in
theorem refWith_9 (p : Pk) (hp : p.Ok) (x : Int) (w : World) :
    Calls Try.prog 54 #[.agg (pkV p), .int .i64 8, .int .i64 x] w fun e w' => e = .returned (.agg (pkV { p with n := p.n.set 9 x })) ∧ Below w.heap.size w w' := by
  have HP := Lib.hid (And.intro hp (hp.setN 9 x))
  have cx : ∀ o, ((w.alloc (.cells (pkV p) 25)).alloc o).cell? ⟨w.heap.size, 9, none⟩ = some (.int .i64 (p.n.getD 9 0)) := fun o => ((Blk.new w (pkV p) 25).alloc o).num hp 9 (by decide)
  have fx : ∀ o, ((w.alloc (.cells (pkV p) 25)).alloc o).frozen? ⟨w.heap.size, 9, none⟩ = false := fun o => ((Blk.new w (pkV p) 25).alloc o).frozen 9
  clear hp
  go_enter Try.func54, Try.ntmps54
  go_wp2_with (first
    | ((with_reducible refine at_op (.load 25 (.tmp 3)) rfl ?_); refine wpList_load_blk rfl 25 (.tmp 3) rfl w.heap.size 25 (pkV { p with n := p.n.set 9 x }) _ rfl ((blk_new_at rfl (pkV_setN HP.out.1 9 (by decide) x)).alloc _) Try.underlying25 rfl (by rw [pkV_size HP.out.2]; first | done | kernel_rfl) ?_)
    | ((with_reducible refine at_op (.store 25 (.tmp 6) (.tmp 52)) rfl ?_); refine wpList_store_blk rfl 25 (.tmp 6) (.tmp 52) rfl (w.heap.size + 1) 25 (pkV Pk.zero) (pkV { p with n := p.n.set 9 x }) rfl rfl (blk_new_at (by simp) rfl) (by rw [pkV_size HP.out.2]; first | done | kernel_rfl) (by rw [pkV_size HP.out.2]; first | done | kernel_rfl) (pkV_one _) ?_; intro wz hBz htz hsz))
  refine bodyPost_ret (results_cell_row rfl _ _ (w.heap.size + 1) 25 (pkV { p with n := p.n.set 9 x }) (0, 0) _ rfl hBz Try.underlying25 rfl (by rw [pkV_size HP.out.2]; first | done | kernel_rfl)) rfl ⟨rfl, ?_⟩
  exact (Touch.then (S := fun _ => False) (((Touch.refl (fun _ => False) w).alloc _).alloc _) htz (fun i hi e => by omega)).below (Nat.le_refl _) (fun _ _ h => h)

set_option maxRecDepth 100000 in
set_option maxHeartbeats 4000000 in
theorem refWith_10 (p : Pk) (hp : p.Ok) (x : Int) (w : World) :
    Calls Try.prog 54 #[.agg (pkV p), .int .i64 9, .int .i64 x] w fun e w' => e = .returned (.agg (pkV { p with n := p.n.set 10 x })) ∧ Below w.heap.size w w' := by
  have HP := Lib.hid (And.intro hp (hp.setN 10 x))
  have cx : ∀ o, ((w.alloc (.cells (pkV p) 25)).alloc o).cell? ⟨w.heap.size, 10, none⟩ = some (.int .i64 (p.n.getD 10 0)) := fun o => ((Blk.new w (pkV p) 25).alloc o).num hp 10 (by decide)
  have fx : ∀ o, ((w.alloc (.cells (pkV p) 25)).alloc o).frozen? ⟨w.heap.size, 10, none⟩ = false := fun o => ((Blk.new w (pkV p) 25).alloc o).frozen 10
  clear hp
  go_enter Try.func54, Try.ntmps54
  go_wp2_with (first
    | ((with_reducible refine at_op (.load 25 (.tmp 3)) rfl ?_); refine wpList_load_blk rfl 25 (.tmp 3) rfl w.heap.size 25 (pkV { p with n := p.n.set 10 x }) _ rfl ((blk_new_at rfl (pkV_setN HP.out.1 10 (by decide) x)).alloc _) Try.underlying25 rfl (by rw [pkV_size HP.out.2]; first | done | kernel_rfl) ?_)
    | ((with_reducible refine at_op (.store 25 (.tmp 6) (.tmp 52)) rfl ?_); refine wpList_store_blk rfl 25 (.tmp 6) (.tmp 52) rfl (w.heap.size + 1) 25 (pkV Pk.zero) (pkV { p with n := p.n.set 10 x }) rfl rfl (blk_new_at (by simp) rfl) (by rw [pkV_size HP.out.2]; first | done | kernel_rfl) (by rw [pkV_size HP.out.2]; first | done | kernel_rfl) (pkV_one _) ?_; intro wz hBz htz hsz))
  refine bodyPost_ret (results_cell_row rfl _ _ (w.heap.size + 1) 25 (pkV { p with n := p.n.set 10 x }) (0, 0) _ rfl hBz Try.underlying25 rfl (by rw [pkV_size HP.out.2]; first | done | kernel_rfl)) rfl ⟨rfl, ?_⟩
  exact (Touch.then (S := fun _ => False) (((Touch.refl (fun _ => False) w).alloc _).alloc _) htz (fun i hi e => by omega)).below (Nat.le_refl _) (fun _ _ h => h)

set_option maxRecDepth 100000 in
set_option maxHeartbeats 4000000 in
theorem refWith_11 (p : Pk) (hp : p.Ok) (x : Int) (w : World) :
    Calls Try.prog 54 #[.agg (pkV p), .int .i64 10, .int .i64 x] w fun e w' => e = .returned (.agg (pkV { p with n := p.n.set 11 x })) ∧ Below w.heap.size w w' := by
  have HP := Lib.hid (And.intro hp (hp.setN 11 x))
  have cx : ∀ o, ((w.alloc (.cells (pkV p) 25)).alloc o).cell? ⟨w.heap.size, 11, none⟩ = some (.int .i64 (p.n.getD 11 0)) := fun o => ((Blk.new w (pkV p) 25).alloc o).num hp 11 (by decide)
  have fx : ∀ o, ((w.alloc (.cells (pkV p) 25)).alloc o).frozen? ⟨w.heap.size, 11, none⟩ = false := fun o => ((Blk.new w (pkV p) 25).alloc o).frozen 11
  clear hp
  go_enter Try.func54, Try.ntmps54
  go_wp2_with (first
    | ((with_reducible refine at_op (.load 25 (.tmp 3)) rfl ?_); refine wpList_load_blk rfl 25 (.tmp 3) rfl w.heap.size 25 (pkV { p with n := p.n.set 11 x }) _ rfl ((blk_new_at rfl (pkV_setN HP.out.1 11 (by decide) x)).alloc _) Try.underlying25 rfl (by rw [pkV_size HP.out.2]; first | done | kernel_rfl) ?_)
    | ((with_reducible refine at_op (.store 25 (.tmp 6) (.tmp 52)) rfl ?_); refine wpList_store_blk rfl 25 (.tmp 6) (.tmp 52) rfl (w.heap.size + 1) 25 (pkV Pk.zero) (pkV { p with n := p.n.set 11 x }) rfl rfl (blk_new_at (by simp) rfl) (by rw [pkV_size HP.out.2]; first | done | kernel_rfl) (by rw [pkV_size HP.out.2]; first | done | kernel_rfl) (pkV_one _) ?_; intro wz hBz htz hsz))
  refine bodyPost_ret (results_cell_row rfl _ _ (w.heap.size + 1) 25 (pkV { p with n := p.n.set 11 x }) (0, 0) _ rfl hBz Try.underlying25 rfl (by rw [pkV_size HP.out.2]; first | done | kernel_rfl)) rfl ⟨rfl, ?_⟩
  exact (Touch.then (S := fun _ => False) (((Touch.refl (fun _ => False) w).alloc _).alloc _) htz (fun i hi e => by omega)).below (Nat.le_refl _) (fun _ _ h => h)

end Go.Proofs.Ythlkmofemnepbaa

namespace Go.Proofs.Ythlkmofemnepbaa
open Go.RowKit

theorem refWith_any (p : Pk) (hp : p.Ok) (i : Nat) (h1 : 1 ≤ i) (h2 : i < 12) (x : Int) (w : World) :
    Calls Try.prog 54 #[.agg (pkV p), .int .i64 ((i : Int) - 1), .int .i64 x] w fun e w' => e = .returned (.agg (pkV { p with n := p.n.set i x })) ∧ Below w.heap.size w w' := by
  obtain rfl | rfl | rfl | rfl | rfl | rfl | rfl | rfl | rfl | rfl | rfl : i = 1 ∨ i = 2 ∨ i = 3 ∨ i = 4 ∨ i = 5 ∨ i = 6 ∨ i = 7 ∨ i = 8 ∨ i = 9 ∨ i = 10 ∨ i = 11 := by omega
  · exact refWith_1 p hp x w
  · exact refWith_2 p hp x w
  · exact refWith_3 p hp x w
  · exact refWith_4 p hp x w
  · exact refWith_5 p hp x w
  · exact refWith_6 p hp x w
  · exact refWith_7 p hp x w
  · exact refWith_8 p hp x w
  · exact refWith_9 p hp x w
  · exact refWith_10 p hp x w
  · exact refWith_11 p hp x w

/-- Where the parts of a kind lie. -/
def PartsRow (w : World) (a : Option Addr) (L : List RPart) : Prop :=
  (L = [] ∧ a = none) ∨ ∃ b, a = some ⟨b, 0, none⟩ ∧ L ≠ [] ∧ Blk w b 64 (rpsCells L).toArray

theorem PartsOf.row {base : Nat} {k : Int} {v : Value} {w' : World} (h : PartsOf base k v w') : ∃ a, v = .slice a (partsN k).length (partsN k).length ∧ PartsRow w' a (partsN k) ∧ (∀ x, a = some x → base ≤ x.block) := by
  rcases h with ⟨h1, rfl⟩ | ⟨b, hb, rfl, h2, h3⟩
  · exact ⟨none, by rw [h1]; rfl, Or.inl ⟨h1, rfl⟩, fun x hx => by cases hx⟩
  · exact ⟨_, rfl, Or.inr ⟨b, rfl, h2, h3⟩, fun x hx => by cases hx; exact hb⟩

theorem rpsCells_at (L : List RPart) (j : Nat) (r : RPart) (h : L[j]? = some r) : ∃ A B, rpsCells L = A ++ (rpCells r ++ B) ∧ A.length = j * 4 := by
  induction L generalizing j with
  | nil => simp at h
  | cons x L ih =>
    cases j with
    | zero =>
      simp at h
      subst h
      exact ⟨[], rpsCells L, rfl, rfl⟩
    | succ j =>
      simp at h
      obtain ⟨A, B, e, hl⟩ := ih j h
      refine ⟨rpCells x ++ A, B, ?_, ?_⟩
      · show rpCells x ++ rpsCells L = _
        rw [e, List.append_assoc]
      · rw [List.length_append, hl]
        show 4 + j * 4 = _
        omega

theorem PartsRow.at {w : World} {a : Option Addr} {L : List RPart} (h : PartsRow w a L) {j : Nat} {r : RPart} (hj : L[j]? = some r) : ∃ b, a = some ⟨b, 0, none⟩ ∧ b < w.heap.size ∧
    w.cell? ⟨b, j * 4, none⟩ = some (.int .i64 r.what) ∧ w.cell? ⟨b, j * 4 + 1, none⟩ = some (.int .i64 r.size) ∧ w.cell? ⟨b, j * 4 + 2, none⟩ = some (.int .i64 r.low) ∧ w.cell? ⟨b, j * 4 + 3, none⟩ = some (.int .i64 r.high) := by
  rcases h with ⟨rfl, _⟩ | ⟨b, rfl, _, hB⟩
  · simp at hj
  · obtain ⟨A, B, e, hl⟩ := rpsCells_at L j r hj
    rw [e] at hB
    have h0 := hB.range
    rw [hl] at h0
    exact ⟨b, rfl, hB.lt, h0 0 _ rfl, h0 1 _ rfl, h0 2 _ rfl, h0 3 _ rfl⟩

theorem PartsRow.touch {w w' : World} {a : Option Addr} {L : List RPart} (h : PartsRow w a L) {S : Nat → Prop} (ht : Touch S w w') (hS : ∀ x, a = some x → ¬ S x.block) : PartsRow w' a L := by
  rcases h with h | ⟨b, rfl, h2, hB⟩
  · exact Or.inl h
  · exact Or.inr ⟨b, rfl, h2, hB.touch ht (hS _ rfl)⟩

theorem PartsRow.lt {w : World} {a : Option Addr} {L : List RPart} (h : PartsRow w a L) : ∀ x, a = some x → x.block < w.heap.size := by
  rintro x rfl
  rcases h with ⟨_, h⟩ | ⟨b, h, _, hB⟩
  · cases h
  · cases h
    exact hB.lt

/-- What a part is: a number, the secret, the tag. -/
theorem part_kinds {k : Int} {j : Nat} {r : RPart} (h : (partsN k)[j]? = some r) :
    r = rpSec ∨ r = rpTag ∨ (1 ≤ r.cell ∧ r.cell < 12 ∧ r.what = (r.cell : Int) - 1 ∧ (r.what == 11) = false ∧ (r.what == 12) = false ∧ ((r.size = 1) ∨ (r.size = 4)) ∧ ¬ r.what = 11 ∧ ¬ r.what = 12) := by
  rcases parts_mem k r (List.mem_of_getElem? h) with ⟨s, hs, rfl⟩ | h | h
  · have ho := slots_ok k s hs
    have h0 := ho.i0
    have h1 := ho.i1
    have e : (rpOf s).what = (s.i : Int) - 1 := rfl
    refine Or.inr (Or.inr ⟨?_, ?_, ?_, ?_, ?_, ?_, ?_, ?_⟩)
    · rw [rpOf_cell s ho]; exact h0
    · rw [rpOf_cell s ho]; exact h1
    · rw [rpOf_cell s ho, e]
    · rw [e]; exact beq_eq_false_iff_ne.2 (by omega)
    · rw [e]; exact beq_eq_false_iff_ne.2 (by omega)
    · rcases ho.size with h | h
      · exact Or.inl (by show ((s.size : Nat) : Int) = 1; rw [h]; rfl)
      · exact Or.inr (by show ((s.size : Nat) : Int) = 4; rw [h]; rfl)
    · rw [e]; omega
    · rw [e]; omega
  · exact Or.inl h
  · exact Or.inr (Or.inl h)
end Go.Proofs.Ythlkmofemnepbaa
