/-
  PACKETS (layer 5), in plain Lean. It speaks of no program but for what field.Put lays and the reader reads.
-/
import Derived.Test.YthlkmofemnepbaaRows
import Derived.Test.YthlkmofemnepbaaPutLib
import Derived.Test.YthlkmofemnepbaaNum
import Derived.Test.YthlkmofemnepbaaDigestLib
namespace Go.Proofs.Ythlkmofemnepbaa
open Go.RowKit

/-! ### numbers, laid and read -/
theorem numOf_putList (n : Int) (m j : Nat) (h0 : 0 ≤ n) (h1 : n < 2 ^ (8 * m)) (hj : j ≤ m) : numOf (putList n m j) = n / 2 ^ (8 * (m - j)) := by
  induction j with
  | zero => rw [show putList n m 0 = [] from rfl, Nat.sub_zero, Int.ediv_eq_zero_of_lt h0 h1]; rfl
  | succ j ih =>
    rw [putList_succ, numOf_snoc, ih (by omega)]
    unfold putByte
    have e : 8 * (m - j) = 8 * (m - 1 - j) + 8 := by omega
    rw [show m - (j + 1) = m - 1 - j by omega, e, Int.pow_add, ← Int.ediv_ediv_of_nonneg (Int.le_of_lt (Int.pow_pos (by decide)))]
    generalize n / 2 ^ (8 * (m - 1 - j)) = q
    rw [show (2 : Int) ^ 8 = 256 from rfl]
    omega
theorem numOf_put (n : Int) (m : Nat) (h0 : 0 ≤ n) (h1 : n < 2 ^ (8 * m)) : numOf (putList n m m) = n := by
  rw [numOf_putList n m m h0 h1 (Nat.le_refl _)]
  simp

theorem put_numOf (zs : List Int) (m : Nat) (hm : m = 1 ∨ m = 4) (hl : zs.length = m) (hr : ∀ z ∈ zs, 0 ≤ z ∧ z < 256) : putList (numOf zs) m m = zs := by
  rcases hm with rfl | rfl
  · match zs, hl with
    | [a], _ =>
      have ha := hr a (by simp)
      simp [numOf, putList, putByte]
      omega
  · match zs, hl with
    | [a, b, c, d], _ =>
      have ha := hr a (by simp)
      have hb := hr b (by simp)
      have hc := hr c (by simp)
      have hd := hr d (by simp)
      simp only [numOf, putList, putByte, List.foldl, show List.range 4 = [0, 1, 2, 3] from rfl, List.map, show (2 : Int) ^ (8 * (4 - 1 - 0)) = 16777216 from rfl, show (2 : Int) ^ (8 * (4 - 1 - 1)) = 65536 from rfl, show (2 : Int) ^ (8 * (4 - 1 - 2)) = 256 from rfl, show (2 : Int) ^ (8 * (4 - 1 - 3)) = 1 from rfl, List.cons.injEq, and_true]
      refine ⟨?_, ?_, ?_, ?_⟩ <;> omega

theorem rdTake_eq (zs : List Int) (bad : Bool) (m : Nat) : rdTake zs bad (m : Int) = if bad = true ∨ zs.length < m then ([], [], true) else (zs.take m, zs.drop m, false) := by
  unfold rdTake
  by_cases h : bad = true ∨ zs.length < m
  · rw [if_pos h, if_pos (h.elim Or.inl (fun h => Or.inr (Or.inr (by omega))))]
  · rw [if_neg h, if_neg (fun h2 => h (h2.elim Or.inl (fun h2 => Or.inr (by omega))))]
    simp
theorem rdTake_app (x y : List Int) (m : Nat) (hm : x.length = m) : rdTake (x ++ y) false (m : Int) = (x, y, false) := by
  subst hm
  rw [rdTake_eq, if_neg (by simp), List.take_left, List.drop_left]
theorem rdTake_inv (zs : List Int) (bad : Bool) (m : Nat) (h : (rdTake zs bad (m : Int)).2.2 = false) : bad = false ∧ zs = (rdTake zs bad (m : Int)).1 ++ (rdTake zs bad (m : Int)).2.1 ∧ (rdTake zs bad (m : Int)).1.length = m := by
  rw [rdTake_eq] at h ⊢
  by_cases h2 : bad = true ∨ zs.length < m
  · rw [if_pos h2] at h
    cases h
  · rw [if_neg h2]
    refine ⟨by cases bad <;> simp_all, (List.take_append_drop m zs).symm, ?_⟩
    simp
    omega
theorem rdTake_mem (zs : List Int) (bad : Bool) (m : Nat) (hr : ∀ z ∈ zs, 0 ≤ z ∧ z < 256) : (∀ z ∈ (rdTake zs bad (m : Int)).1, 0 ≤ z ∧ z < 256) ∧ (∀ z ∈ (rdTake zs bad (m : Int)).2.1, 0 ≤ z ∧ z < 256) := by
  rw [rdTake_eq]
  split
  · exact ⟨(fun z hz => by cases hz), (fun z hz => by cases hz)⟩
  · exact ⟨(fun z hz => hr z (List.mem_of_mem_take hz)), (fun z hz => hr z (List.mem_of_mem_drop hz))⟩
theorem rdTake_le (zs : List Int) (bad : Bool) (m : Nat) : (rdTake zs bad (m : Int)).1.length ≤ m ∧ (rdTake zs bad (m : Int)).2.1.length ≤ zs.length := by
  rw [rdTake_eq]
  split <;> simp <;> omega

/-! ### packets -/
/-- A number of a packet: which of its cells, its size, its least, its greatest. -/
structure Slot where
  i : Nat
  size : Nat
  low : Int
  high : Int

def sId : Slot := ⟨1, 4, 1, 1073741824⟩
def sOrder : Slot := ⟨2, 4, 1, 1073741824⟩
def sOnce : Slot := ⟨10, 4, 0, 1073741824⟩
def sTime : Slot := ⟨11, 4, 0, 1073741824⟩
def sCode : Slot := ⟨4, 1, 0, 15⟩
def sWho : Slot := ⟨3, 1, 1, 16⟩

/-- The numbers of a kind, in order. -/
def slotsN (k : Int) : List Slot :=
  if k = 1 then [sOnce]
  else if k = 2 then [sOnce, sTime]
  else if k = 3 then [sWho, sOnce, sTime]
  else if k = 4 then [sId, sOnce]
  else if k = 5 then [sId, sOrder]
  else if k = 10 then [sId, sOrder]
  else if k = 6 then [sId, sOrder, ⟨5, 1, 1, 3⟩]
  else if k = 7 then [sId, sOrder, ⟨4, 1, 1, 7⟩, sWho]
  else if k = 8 then [sId, sOrder, ⟨3, 1, 0, 16⟩, ⟨7, 4, 0, 1073741824⟩, ⟨5, 1, 0, 3⟩, ⟨6, 1, 0, 4⟩]
  else if k = 9 then [sId, ⟨8, 4, 0, 1073741824⟩, ⟨9, 1, 0, 255⟩]
  else if k = 11 then [sId, sOrder, sCode]
  else if k = 12 then [sOnce, sCode]
  else []

structure SlotOk (s : Slot) : Prop where
  i0 : 1 ≤ s.i
  i1 : s.i < 12
  size : s.size = 1 ∨ s.size = 4
  low : 0 ≤ s.low
  high : s.high < 2 ^ (8 * s.size)

theorem slots_cases (k : Int) : slotsN k = [] ∨ k = 1 ∨ k = 2 ∨ k = 3 ∨ k = 4 ∨ k = 5 ∨ k = 6 ∨ k = 7 ∨ k = 8 ∨ k = 9 ∨ k = 10 ∨ k = 11 ∨ k = 12 := by
  by_cases h : 1 ≤ k ∧ k ≤ 12
  · right
    omega
  · left
    unfold slotsN
    repeat rw [if_neg (by omega)]

theorem slots_nil (k : Int) (h : ¬ (1 ≤ k ∧ k ≤ 12)) : slotsN k = [] := by
  rcases slots_cases k with h2 | h2
  · exact h2
  · exfalso; omega

theorem slots_ok (k : Int) : ∀ s ∈ slotsN k, SlotOk s := by
  intro s hs
  rcases slots_cases k with h | h | h | h | h | h | h | h | h | h | h | h | h
  · rw [h] at hs; cases hs
  all_goals
    subst h
    simp [slotsN, sId, sOrder, sOnce, sTime, sCode, sWho] at hs
  all_goals
    first
    | (rcases hs with rfl | rfl | rfl | rfl | rfl | rfl <;> exact ⟨by decide, by decide, by decide, by decide, by decide⟩)
    | (rcases hs with rfl | rfl | rfl | rfl <;> exact ⟨by decide, by decide, by decide, by decide, by decide⟩)
    | (rcases hs with rfl | rfl | rfl <;> exact ⟨by decide, by decide, by decide, by decide, by decide⟩)
    | (rcases hs with rfl | rfl <;> exact ⟨by decide, by decide, by decide, by decide, by decide⟩)
    | (subst hs; exact ⟨by decide, by decide, by decide, by decide, by decide⟩)

theorem slots_nodup (k : Int) : ((slotsN k).map (·.i)).Nodup := by
  rcases slots_cases k with h | h | h | h | h | h | h | h | h | h | h | h | h
  · rw [h]; exact List.nodup_nil
  all_goals
    subst h
    decide

theorem slots_len (k : Int) : (slotsN k).length ≤ 6 := by
  rcases slots_cases k with h | h | h | h | h | h | h | h | h | h | h | h | h
  · rw [h]; exact Nat.zero_le _
  all_goals
    subst h
    decide

def sealedN (k : Int) : Bool := decide (2 ≤ k) && decide (k ≤ 4)
def taggedN (k : Int) : Bool := decide (5 ≤ k) && decide (k ≤ 11)

/-- A packet: its numbers (the kind first), its secret, its tag. -/
structure Pk where
  n : List Int
  sec : List Nat
  tag : List Nat

theorem Pk.ext {p q : Pk} (h1 : p.n = q.n) (h2 : p.sec = q.sec) (h3 : p.tag = q.tag) : p = q := by
  cases p; cases q; simp_all

structure Pk.Ok (p : Pk) : Prop where
  hn : p.n.length = 12
  hs : p.sec.length = 16
  ht : p.tag.length = 8
  rs : ∀ y ∈ p.sec, y < 256
  rt : ∀ y ∈ p.tag, y < 256

def Pk.kind (p : Pk) : Int := p.n.getD 0 0
def Pk.zero : Pk := ⟨List.replicate 12 0, List.replicate 16 0, List.replicate 8 0⟩

def setS (src : List Int) (L : List Slot) (b : List Int) : List Int := L.foldl (fun b s => b.set s.i (src.getD s.i 0)) b
theorem setS_len (src : List Int) (L : List Slot) (b : List Int) : (setS src L b).length = b.length := by
  induction L generalizing b with
  | nil => rfl
  | cons s L ih => rw [setS, List.foldl_cons, ← setS, ih, List.length_set]
theorem setS_cons (src : List Int) (s : Slot) (L : List Slot) (b : List Int) : setS src (s :: L) b = setS src L (b.set s.i (src.getD s.i 0)) := rfl
theorem setS_snoc (src : List Int) (s : Slot) (L : List Slot) (b : List Int) : setS src (L ++ [s]) b = (setS src L b).set s.i (src.getD s.i 0) := by simp [setS]

def bareNs (p : Pk) : List Int := setS p.n (slotsN p.kind) (p.kind :: List.replicate 11 0)
def bareSec (p : Pk) : List Nat := if sealedN p.kind = true then p.sec else List.replicate 16 0
def bareTag (p : Pk) : List Nat := if taggedN p.kind = true then p.tag else List.replicate 8 0

def InR (p : Pk) : Prop := ∀ s ∈ slotsN p.kind, s.low ≤ p.n.getD s.i 0 ∧ p.n.getD s.i 0 ≤ s.high
def Bare (p : Pk) : Prop := bareNs p = p.n ∧ bareSec p = p.sec ∧ bareTag p = p.tag
def Void (p : Pk) : Prop := p.kind = 8 ∧ p.n.getD 3 0 = 0 ∧ 0 < p.n.getD 7 0 + p.n.getD 5 0 + p.n.getD 6 0

def RightN (p : Pk) : Prop := InR p ∧ slotsN p.kind ≠ [] ∧ Bare p ∧ ¬ Void p
instance (p : Pk) : Decidable (InR p) := by unfold InR; infer_instance
instance (p : Pk) : Decidable (Bare p) := by unfold Bare; infer_instance
instance (p : Pk) : Decidable (Void p) := by unfold Void; infer_instance
instance (k : Int) : Decidable (slotsN k ≠ []) := by
  cases h : slotsN k with
  | nil => exact isFalse (fun h2 => h2 rfl)
  | cons x l => exact isTrue (fun h2 => by cases h2)
instance (p : Pk) : Decidable (RightN p) := by unfold RightN; infer_instance

/-- A packet's bytes. -/
def layS (src : List Int) (L : List Slot) : List Int := L.flatMap fun s => putList (src.getD s.i 0) s.size s.size
theorem layS_cons (src : List Int) (s : Slot) (L : List Slot) : layS src (s :: L) = putList (src.getD s.i 0) s.size s.size ++ layS src L := by simp [layS]
theorem layS_snoc (src : List Int) (s : Slot) (L : List Slot) : layS src (L ++ [s]) = layS src L ++ putList (src.getD s.i 0) s.size s.size := by simp [layS]
def encSec (p : Pk) : List Int := if sealedN p.kind = true then natsD p.sec else []
def encTag (p : Pk) : List Int := if taggedN p.kind = true then natsD p.tag else []
def encN (p : Pk) : List Int := p.kind % 256 :: (layS p.n (slotsN p.kind) ++ (encSec p ++ encTag p))

/-- What is read of bytes. -/
def rdSlots : List Slot → List Int × Bool → List Int → List Int × (List Int × Bool)
  | [], st, n => (n, st)
  | s :: L, st, n => rdSlots L (rdTake st.1 st.2 (s.size : Int)).2 (n.set s.i (numOf (rdTake st.1 st.2 (s.size : Int)).1))
theorem rdSlots_cons (s : Slot) (L : List Slot) (st : List Int × Bool) (n : List Int) : rdSlots (s :: L) st n = rdSlots L (rdTake st.1 st.2 (s.size : Int)).2 (n.set s.i (numOf (rdTake st.1 st.2 (s.size : Int)).1)) := rfl
theorem rdSlots_snoc (s : Slot) (L : List Slot) (st : List Int × Bool) (n : List Int) : rdSlots (L ++ [s]) st n = ((rdSlots L st n).1.set s.i (numOf (rdTake (rdSlots L st n).2.1 (rdSlots L st n).2.2 (s.size : Int)).1), (rdTake (rdSlots L st n).2.1 (rdSlots L st n).2.2 (s.size : Int)).2) := by
  induction L generalizing st n with
  | nil => rfl
  | cons x L ih => rw [List.cons_append, rdSlots_cons, ih, rdSlots_cons]
theorem rdSlots_len (L : List Slot) (st : List Int × Bool) (n : List Int) : (rdSlots L st n).1.length = n.length := by
  induction L generalizing st n with
  | nil => rfl
  | cons x L ih => rw [rdSlots_cons, ih, List.length_set]
theorem rdSlots_rest (L : List Slot) (st : List Int × Bool) (n : List Int) (hr : ∀ z ∈ st.1, 0 ≤ z ∧ z < 256) : (∀ z ∈ (rdSlots L st n).2.1, 0 ≤ z ∧ z < 256) ∧ (rdSlots L st n).2.1.length ≤ st.1.length := by
  induction L generalizing st n with
  | nil => exact ⟨hr, Nat.le_refl _⟩
  | cons x L ih =>
    rw [rdSlots_cons]
    have h := ih (rdTake st.1 st.2 (x.size : Int)).2 (n.set x.i (numOf (rdTake st.1 st.2 (x.size : Int)).1)) (rdTake_mem _ _ _ hr).2
    exact ⟨h.1, Nat.le_trans h.2 (rdTake_le _ _ _).2⟩

/-- Bytes taken, with zeros behind. -/
def padN (x : List Int) (m : Nat) : List Nat := nats x ++ List.replicate (m - x.length) 0

def decK (zs : List Int) : Int := numOf (rdTake zs false 1).1
def decS (zs : List Int) : List Int × (List Int × Bool) := rdSlots (slotsN (decK zs)) (rdTake zs false 1).2 (decK zs :: List.replicate 11 0)
def decX (zs : List Int) : List Int × List Int × Bool := if sealedN (decK zs) = true then rdTake (decS zs).2.1 (decS zs).2.2 16 else ([], (decS zs).2)
def decY (zs : List Int) : List Int × List Int × Bool := if taggedN (decK zs) = true then rdTake (decX zs).2.1 (decX zs).2.2 8 else ([], (decX zs).2)
def decP (zs : List Int) : Pk := ⟨(decS zs).1, padN (decX zs).1 16, padN (decY zs).1 8⟩
def DecOk (zs : List Int) : Prop := (decY zs).2.2 = false ∧ (decY zs).2.1 = [] ∧ RightN (decP zs)
instance (zs : List Int) : Decidable (DecOk zs) := by unfold DecOk; infer_instance

/-! ### what is read is what was laid -/
theorem rdSlots_fwd (src : List Int) (L : List Slot) (n rest : List Int) (h : ∀ s ∈ L, 0 ≤ src.getD s.i 0 ∧ src.getD s.i 0 < 2 ^ (8 * s.size)) :
    rdSlots L (layS src L ++ rest, false) n = (setS src L n, (rest, false)) := by
  induction L generalizing n with
  | nil => rfl
  | cons s L ih =>
    have h1 := h s (by simp)
    rw [rdSlots_cons, layS_cons, List.append_assoc, rdTake_app _ _ _ (putList_len _ _ _), numOf_put _ _ h1.1 h1.2, setS_cons]
    exact ih _ (fun x hx => h x (by simp [hx]))

theorem rdSlots_keep (L : List Slot) (st : List Int × Bool) (n : List Int) (j : Nat) (h : j ∉ L.map (·.i)) : (rdSlots L st n).1.getD j 0 = n.getD j 0 := by
  induction L generalizing st n with
  | nil => rfl
  | cons s L ih =>
    simp only [List.map_cons, List.mem_cons, not_or] at h
    rw [rdSlots_cons, ih _ _ h.2]
    simp [List.getD, Ne.symm h.1]

theorem rdSlots_bwd (L : List Slot) (st : List Int × Bool) (n : List Int) (h : (rdSlots L st n).2.2 = false) (hd : (L.map (·.i)).Nodup) (hs : ∀ s ∈ L, s.i < n.length ∧ (s.size = 1 ∨ s.size = 4)) (hr : ∀ z ∈ st.1, 0 ≤ z ∧ z < 256) :
    st.2 = false ∧ st.1 = layS (rdSlots L st n).1 L ++ (rdSlots L st n).2.1 := by
  induction L generalizing st n with
  | nil => exact ⟨h, rfl⟩
  | cons s L ih =>
    rw [List.map_cons, List.nodup_cons] at hd
    have h1 := hs s (by simp)
    rw [rdSlots_cons] at h ⊢
    obtain ⟨a1, a2⟩ := ih _ _ h hd.2 (fun x hx => by rw [List.length_set]; exact hs x (by simp [hx])) (rdTake_mem _ _ _ hr).2
    obtain ⟨b1, b2, b3⟩ := rdTake_inv _ _ _ a1
    refine ⟨b1, ?_⟩
    rw [layS_cons, rdSlots_keep _ _ _ _ hd.1]
    have e : (n.set s.i (numOf (rdTake st.1 st.2 (s.size : Int)).1)).getD s.i 0 = numOf (rdTake st.1 st.2 (s.size : Int)).1 := by
      simp [List.getD, h1.1]
    rw [e, put_numOf _ _ h1.2 b3 (rdTake_mem _ _ _ hr).1, List.append_assoc, ← a2]
    exact b2

theorem natsD_nats (zs : List Int) (h : ∀ z ∈ zs, 0 ≤ z ∧ z < 256) : natsD (nats zs) = zs := by
  unfold natsD nats
  rw [List.map_map]
  refine List.ext_getElem (by simp) fun i h1 h2 => ?_
  simp only [List.getElem_map, Function.comp]
  have := h (zs[i]'h2) (List.getElem_mem h2)
  omega
theorem nats_natsD (ys : List Nat) : nats (natsD ys) = ys := by
  unfold natsD nats
  rw [List.map_map]
  refine List.ext_getElem (by simp) fun i h1 h2 => ?_
  simp
theorem natsD_len (ys : List Nat) : (natsD ys).length = ys.length := by simp [natsD]
theorem natsD_range (ys : List Nat) (h : ∀ y ∈ ys, y < 256) : ∀ z ∈ natsD ys, 0 ≤ z ∧ z < 256 := by
  intro z hz
  unfold natsD at hz
  rw [List.mem_map] at hz
  obtain ⟨y, hy, rfl⟩ := hz
  have := h y hy
  omega
theorem padN_nats (ys : List Nat) (m : Nat) (h : ys.length = m) : padN (natsD ys) m = ys := by
  unfold padN
  rw [nats_natsD, natsD_len, h, Nat.sub_self]
  simp
theorem padN_len (x : List Int) (m : Nat) (h : x.length ≤ m) : (padN x m).length = m := by
  unfold padN
  simp [nats_len]
  omega
theorem padN_nil (m : Nat) : padN [] m = List.replicate m 0 := by simp [padN, nats]

theorem right_kind (p : Pk) (h : RightN p) : 1 ≤ p.kind ∧ p.kind ≤ 12 := by
  refine Classical.byContradiction fun hn => ?_
  exact h.2.1 (slots_nil _ hn)

theorem kind_range (k : Int) (h : 1 ≤ k ∧ k ≤ 12) : k % 256 = k := by omega

/-- THE BYTES OF A RIGHT PACKET ARE READ AS IT WAS. -/
theorem dec_enc (p : Pk) (ho : p.Ok) (h : RightN p) : DecOk (encN p) ∧ decP (encN p) = p := by
  have hk := right_kind p h
  have e0 : rdTake (encN p) false 1 = ([p.kind], layS p.n (slotsN p.kind) ++ (encSec p ++ encTag p), false) := by
    unfold encN
    rw [kind_range _ hk]
    exact rdTake_app [p.kind] _ 1 rfl
  have ek : decK (encN p) = p.kind := by
    unfold decK
    rw [e0]
    simp [numOf]
  have es : decS (encN p) = (p.n, (encSec p ++ encTag p, false)) := by
    unfold decS
    rw [e0, ek, rdSlots_fwd]
    · rw [show setS p.n (slotsN p.kind) (p.kind :: List.replicate 11 0) = bareNs p from rfl, h.2.2.1.1]
    · intro s hs
      have h1 := h.1 s hs
      have h2 := slots_ok _ s hs
      have := h2.low
      have := h2.high
      omega
  have ex : decX (encN p) = (encSec p, encTag p, false) := by
    unfold decX
    rw [es, ek]
    by_cases hq : sealedN p.kind = true
    · rw [if_pos hq]
      exact rdTake_app _ _ 16 (by unfold encSec; rw [if_pos hq, natsD_len, ho.hs])
    · rw [if_neg hq]
      have : encSec p = [] := by unfold encSec; rw [if_neg hq]
      rw [this]
      rfl
  have ey : decY (encN p) = (encTag p, [], false) := by
    unfold decY
    rw [ex, ek]
    by_cases hq : taggedN p.kind = true
    · rw [if_pos hq]
      have := rdTake_app (encTag p) [] 8 (by unfold encTag; rw [if_pos hq, natsD_len, ho.ht])
      rw [List.append_nil] at this
      exact this
    · rw [if_neg hq]
      have : encTag p = [] := by unfold encTag; rw [if_neg hq]
      rw [this]
  have ep : decP (encN p) = p := by
    unfold decP
    rw [es, ex, ey]
    refine Pk.ext rfl ?_ ?_
    · show padN (encSec p) 16 = p.sec
      rw [← h.2.2.1.2.1]
      unfold encSec bareSec
      by_cases hq : sealedN p.kind = true
      · rw [if_pos hq, if_pos hq]
        exact padN_nats _ _ ho.hs
      · rw [if_neg hq, if_neg hq]
        exact padN_nil 16
    · show padN (encTag p) 8 = p.tag
      rw [← h.2.2.1.2.2]
      unfold encTag bareTag
      by_cases hq : taggedN p.kind = true
      · rw [if_pos hq, if_pos hq]
        exact padN_nats _ _ ho.ht
      · rw [if_neg hq, if_neg hq]
        exact padN_nil 8
  exact ⟨⟨by rw [ey], by rw [ey], by rw [ep]; exact h⟩, ep⟩

theorem decK_kind (zs : List Int) : (decP zs).kind = decK zs := by
  show (decS zs).1.getD 0 0 = decK zs
  unfold decS
  rw [rdSlots_keep]
  · rfl
  · intro hm
    rw [List.mem_map] at hm
    obtain ⟨s, hs, e⟩ := hm
    have := (slots_ok _ s hs).i0
    omega

theorem padN_back (x : List Int) (m : Nat) (hl : x.length = m) (hr : ∀ z ∈ x, 0 ≤ z ∧ z < 256) : natsD (padN x m) = x := by
  unfold padN
  rw [hl, Nat.sub_self]
  simp only [List.replicate_zero, List.append_nil]
  exact natsD_nats _ hr

/-- WHAT IS READ HAS THE BYTES THAT IT WAS READ OF. -/
theorem enc_dec (zs : List Int) (hr : ∀ z ∈ zs, 0 ≤ z ∧ z < 256) (h : DecOk zs) : encN (decP zs) = zs := by
  obtain ⟨h1, h2, h3⟩ := h
  have hk := right_kind _ h3
  have kk := decK_kind zs
  rw [kk] at hk
  -- the reads, from the last one back
  have sr := rdSlots_rest (slotsN (decK zs)) (rdTake zs false 1).2 (decK zs :: List.replicate 11 0) (rdTake_mem zs false 1 hr).2
  have y1 : (decX zs).2.2 = false ∧ (decX zs).2.1 = (if taggedN (decK zs) = true then natsD (decP zs).tag else []) := by
    have hx : ∀ z ∈ (decX zs).2.1, 0 ≤ z ∧ z < 256 := by
      unfold decX
      split
      · exact (rdTake_mem _ _ 16 sr.1).2
      · exact sr.1
    by_cases hq : taggedN (decK zs) = true
    · have e : decY zs = rdTake (decX zs).2.1 (decX zs).2.2 8 := by unfold decY; rw [if_pos hq]
      rw [e] at h1 h2
      obtain ⟨a, b, c⟩ : (decX zs).2.2 = false ∧ (decX zs).2.1 = (rdTake (decX zs).2.1 (decX zs).2.2 8).1 ++ (rdTake (decX zs).2.1 (decX zs).2.2 8).2.1 ∧ (rdTake (decX zs).2.1 (decX zs).2.2 8).1.length = 8 := rdTake_inv _ _ 8 h1
      refine ⟨a, ?_⟩
      rw [if_pos hq]
      show _ = natsD (padN (decY zs).1 8)
      rw [e, padN_back _ _ c (rdTake_mem _ _ 8 hx).1]
      have b' := b
      rw [h2, List.append_nil] at b'
      exact b'
    · have e : decY zs = ([], (decX zs).2) := by unfold decY; rw [if_neg hq]
      rw [e] at h1 h2
      rw [if_neg hq]
      exact ⟨h1, h2⟩
  have x1 : (decS zs).2.2 = false ∧ (decS zs).2.1 = (if sealedN (decK zs) = true then natsD (decP zs).sec else []) ++ (if taggedN (decK zs) = true then natsD (decP zs).tag else []) := by
    by_cases hq : sealedN (decK zs) = true
    · have e : decX zs = rdTake (decS zs).2.1 (decS zs).2.2 16 := by unfold decX; rw [if_pos hq]
      have y2 := y1
      rw [e] at y2
      obtain ⟨a, b, c⟩ : (decS zs).2.2 = false ∧ (decS zs).2.1 = (rdTake (decS zs).2.1 (decS zs).2.2 16).1 ++ (rdTake (decS zs).2.1 (decS zs).2.2 16).2.1 ∧ (rdTake (decS zs).2.1 (decS zs).2.2 16).1.length = 16 := rdTake_inv _ _ 16 y2.1
      refine ⟨a, ?_⟩
      rw [if_pos hq]
      show _ = natsD (padN (decX zs).1 16) ++ _
      rw [e, padN_back _ _ c (rdTake_mem _ _ 16 sr.1).1, ← y2.2]
      exact b
    · have e : decX zs = ([], (decS zs).2) := by unfold decX; rw [if_neg hq]
      rw [e] at y1
      rw [if_neg hq]
      exact y1
  have s1 := rdSlots_bwd (slotsN (decK zs)) (rdTake zs false 1).2 (decK zs :: List.replicate 11 0) x1.1 (slots_nodup _) (fun s hs => ⟨(slots_ok _ s hs).i1, (slots_ok _ s hs).size⟩) (rdTake_mem zs false 1 hr).2
  obtain ⟨a, b, c⟩ := rdTake_inv zs false 1 s1.1
  have c1 : (rdTake zs false 1).1 = [decK zs] := by
    have c2 : (rdTake zs false 1).1.length = 1 := c
    match hm : (rdTake zs false 1).1, c2 with
    | [y], _ =>
      unfold decK
      rw [hm]
      simp [numOf]
  have b' : zs = (rdTake zs false 1).1 ++ (rdTake zs false 1).2.1 := b
  have hfin : encN (decP zs) = (rdTake zs false 1).1 ++ (rdTake zs false 1).2.1 := by
    rw [c1, s1.2]
    unfold encN encSec encTag
    rw [kk, kind_range _ hk]
    show decK zs :: _ = decK zs :: _
    congr 1
    show layS (decS zs).1 _ ++ _ = layS (decS zs).1 _ ++ (decS zs).2.1
    rw [x1.2]
  rw [hfin]
  exact b'.symm

theorem padN_lt (x : List Int) (m : Nat) (h : ∀ z ∈ x, 0 ≤ z ∧ z < 256) : ∀ y ∈ padN x m, y < 256 := by
  intro y hy
  unfold padN at hy
  rw [List.mem_append] at hy
  rcases hy with hy | hy
  · exact nats_lt h y hy
  · have := List.eq_of_mem_replicate hy
    omega

theorem decX_range (zs : List Int) (hr : ∀ z ∈ zs, 0 ≤ z ∧ z < 256) : (∀ z ∈ (decX zs).1, 0 ≤ z ∧ z < 256) ∧ (∀ z ∈ (decX zs).2.1, 0 ≤ z ∧ z < 256) ∧ (decX zs).1.length ≤ 16 ∧ (decX zs).2.1.length ≤ zs.length := by
  have sr := rdSlots_rest (slotsN (decK zs)) (rdTake zs false 1).2 (decK zs :: List.replicate 11 0) (rdTake_mem zs false 1 hr).2
  have h1 := (rdTake_le zs false 1).2
  have h2 : (decS zs).2.1.length ≤ zs.length := Nat.le_trans sr.2 h1
  unfold decX
  split
  · have h3 := rdTake_le (decS zs).2.1 (decS zs).2.2 16
    exact ⟨(rdTake_mem _ _ 16 sr.1).1, (rdTake_mem _ _ 16 sr.1).2, h3.1, Nat.le_trans h3.2 h2⟩
  · exact ⟨(fun z hz => by cases hz), sr.1, Nat.zero_le _, h2⟩

theorem decY_range (zs : List Int) (hr : ∀ z ∈ zs, 0 ≤ z ∧ z < 256) : (∀ z ∈ (decY zs).1, 0 ≤ z ∧ z < 256) ∧ (decY zs).1.length ≤ 8 := by
  have hx := decX_range zs hr
  unfold decY
  split
  · exact ⟨(rdTake_mem _ _ 8 hx.2.1).1, (rdTake_le _ _ 8).1⟩
  · exact ⟨(fun z hz => by cases hz), Nat.zero_le _⟩

theorem decP_ok (zs : List Int) (hr : ∀ z ∈ zs, 0 ≤ z ∧ z < 256) : (decP zs).Ok := by
  have hx := decX_range zs hr
  have hy := decY_range zs hr
  exact ⟨by show (decS zs).1.length = 12; unfold decS; rw [rdSlots_len]; rfl, padN_len _ _ hx.2.2.1, padN_len _ _ hy.2, padN_lt _ _ hx.1, padN_lt _ _ hy.1⟩
end Go.Proofs.Ythlkmofemnepbaa
