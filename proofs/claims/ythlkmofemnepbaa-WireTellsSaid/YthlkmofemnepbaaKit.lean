/-
  SMALL LEMMAS ON MEMORY THAT ALL TEXTS OF THIS CLAIM USE: a block of cells that is known whole ('Blk'); which blocks a call may have turned ('Touch'); a slice that reads as a list of cells ('SlAt'); what an append leaves.
  They speak of no program.
-/
import Derived.WalkKit
import Derived.ProofKit
import Derived.Lib.Hide
import Derived.BigQuiet
import Derived.Deep.QuietTactic
import Derived.StillTailTactics
import Derived.Deep.RegionLawGrows
import Derived.Deep.RegionHeld3
namespace Go.Proofs.Ythlkmofemnepbaa
open Go.RowKit

/-- 'append' onto what the call owns, as one step of a region that draws its order. -/
theorem step_append_own {P : Program} {ops : Array Oper} {o : Oper} {a : Act} {w : World} {K : Act → World → Prop} {Q : Exit → Act → World → Prop} {E : Prop}
    (hg : o.guard = none) (s x : Operand) (t : TypeId) (ho : o.op = .call { callee := .builtin .append, args := #[s, x], argTypes := #[t, t] })
    (base : Nat) (e : TypeId) (i : TypeInfo) (z : Value) (size bytes : Nat) (ht : P.underlying t = some (.slice e)) (hi : P.info? e = some i) (hz : i.zero = some z)
    (hsize : i.size = size) (hby : i.bytes = bytes) (hzs : z.cells.size = size) (hsz : 0 < size)
    (v : Value) (n : Nat) (xs : List Value) (hs : a.eval s = v) (hown : w.ownsRow base e size v n xs)
    (ad : Addr) (m c : Nat) (news : List Value) (hx : a.eval x = .slice (some ad) m c) (hl : news.length = m * size) (hnews : ∀ j u, news[j]? = some u → w.cell? (ad.add j) = some u) (h1 : ∀ u ∈ news, u.oneCell' = true)
    (h63 : n + m ≤ maxLen) (hbytes : (n + m) * bytes ≤ 140737488355328) (hbase : base ≤ w.heap.size)
    (h : ∀ v' w', w'.ownsRow base e size v' (n + m) (xs ++ news) → w.grownBy w' v.ownBlock → (v' = .slice none 0 0 ↔ v = .slice none 0 0 ∧ m = 0) → K (a.put o.dst v') w') :
    if Region.wanted o (yielded ops a.tmps) = true then Oper.wp P o a w K Q else E := by
  rw [if_pos (by simp [Region.wanted, hg])]
  exact wp_append_own w s x t ho base e i z size bytes ht hi hz hsize hby hzs hsz v n xs hs hown ad m c news hx hl hnews h1 h63 hbytes hbase h

/-- .. of one element of one cell, which the text lays in a new block ahead of it. -/
theorem step_append_one {P : Program} {ops : Array Oper} {o : Oper} {a : Act} {w : World} {K : Act → World → Prop} {Q : Exit → Act → World → Prop} {E : Prop}
    (hg : o.guard = none) (s x : Operand) (t : TypeId) (ho : o.op = .call { callee := .builtin .append, args := #[s, x], argTypes := #[t, t] })
    (base : Nat) (e : TypeId) (i : TypeInfo) (z : Value) (bytes : Nat) (ht : P.underlying t = some (.slice e)) (hi : P.info? e = some i) (hz : i.zero = some z)
    (hsize : i.size = 1) (hby : i.bytes = bytes) (hzs : z.cells.size = 1)
    (v : Value) (n : Nat) (xs : List Value) (hs : a.eval s = v) (hown : w.ownsRow base e 1 v n xs)
    (b : Nat) (u : Value) (hx : a.eval x = .slice (some ⟨b, 0, none⟩) 1 1) (hu : w.cell? ⟨b, 0, none⟩ = some u) (h1 : u.oneCell' = true)
    (h63 : n + 1 ≤ maxLen) (hbytes : (n + 1) * bytes ≤ 140737488355328) (hbase : base ≤ w.heap.size)
    (h : ∀ v' w', w'.ownsRow base e 1 v' (n + 1) (xs ++ [u]) → w.grownBy w' v.ownBlock → K (a.put o.dst v') w') :
    if Region.wanted o (yielded ops a.tmps) = true then Oper.wp P o a w K Q else E :=
  step_append_own hg s x t ho base e i z 1 bytes ht hi hz hsize hby hzs (by decide) v n xs hs hown ⟨b, 0, none⟩ 1 1 [u] hx rfl
    (by intro j v hj; match j, hj with | 0, hj => simp at hj; subst hj; simpa [Addr.add] using hu | j + 1, hj => simp at hj) (by simpa using h1) h63 hbytes hbase (fun v' w' a b _ => h v' w' a b)

theorem wpList_append_one {P : Program} {ops : Array Oper} {rest : List Oper} {o : Oper} {a : Act} {w : World} {Q : Exit → Act → World → Prop}
    (hg : o.guard = none) (s x : Operand) (t : TypeId) (ho : o.op = .call { callee := .builtin .append, args := #[s, x], argTypes := #[t, t] })
    (base : Nat) (e : TypeId) (i : TypeInfo) (z : Value) (bytes : Nat) (ht : P.underlying t = some (.slice e)) (hi : P.info? e = some i) (hz : i.zero = some z)
    (hsize : i.size = 1) (hby : i.bytes = bytes) (hzs : z.cells.size = 1)
    (v : Value) (n : Nat) (xs : List Value) (hs : a.eval s = v) (hown : w.ownsRow base e 1 v n xs)
    (b : Nat) (u : Value) (hx : a.eval x = .slice (some ⟨b, 0, none⟩) 1 1) (hu : w.cell? ⟨b, 0, none⟩ = some u) (h1 : u.oneCell' = true)
    (h63 : n + 1 ≤ maxLen) (hbytes : (n + 1) * bytes ≤ 140737488355328) (hbase : base ≤ w.heap.size)
    (h : ∀ v' w', w'.ownsRow base e 1 v' (n + 1) (xs ++ [u]) → w.grownBy w' v.ownBlock → wpList P ops Q rest (a.put o.dst v') w') : wpList P ops Q (o :: rest) a w :=
  wpList_append_own w hg s x t ho base e i z 1 bytes ht hi hz hsize hby hzs (by decide) v n xs hs hown ⟨b, 0, none⟩ 1 1 [u] hx rfl
    (by intro j v hj; match j, hj with | 0, hj => simp at hj; subst hj; simpa [Addr.add] using hu | j + 1, hj => simp at hj) (by simpa using h1) h63 hbytes hbase (fun v' w' a b _ => h v' w' a b)

/-- Block b holds just the cells c, of element type T, none of them frozen. -/
def Blk (w : World) (b : Nat) (T : TypeId) (c : Array Value) : Prop := w.heap[b]? = some (.cells c T (0, 0))

theorem Blk.lt {w : World} {b : Nat} {T : TypeId} {c : Array Value} (h : Blk w b T c) : b < w.heap.size := by
  rcases Nat.lt_or_ge b w.heap.size with h' | h'
  · exact h'
  · simp [Blk, Array.getElem?_eq_none h'] at h

theorem Blk.cell? {w : World} {b : Nat} {T : TypeId} {c : Array Value} (h : Blk w b T c) (i : Nat) : w.cell? ⟨b, i, none⟩ = c[i]? := by
  unfold Blk at h; simp [World.cell?, h]

theorem Blk.cell {w : World} {b : Nat} {T : TypeId} {c : Array Value} (h : Blk w b T c) (i : Nat) {v : Value} (hi : c[i]? = some v) : w.cell? ⟨b, i, none⟩ = some v := by
  rw [h.cell?, hi]

theorem Blk.frozen {w : World} {b : Nat} {T : TypeId} {c : Array Value} (h : Blk w b T c) (i : Nat) : w.frozen? ⟨b, i, none⟩ = false := by
  unfold Blk at h; simp [World.frozen?, h]

theorem Blk.new (w : World) (c : Array Value) (T : TypeId) : Blk (w.alloc (.cells c T)) w.heap.size T c := heap_alloc_new w _

theorem Blk.alloc {w : World} {b : Nat} {T : TypeId} {c : Array Value} (h : Blk w b T c) (o : Obj) : Blk (w.alloc o) b T c := by
  unfold Blk; rw [Below.heap_alloc w o b h.lt]; exact h

theorem Blk.drew {w : World} {b : Nat} {T : TypeId} {c : Array Value} (h : Blk w b T c) : Blk w.drew b T c := h
theorem Blk.drewN {w : World} {b : Nat} {T : TypeId} {c : Array Value} (h : Blk w b T c) (n : Nat) : Blk (w.drewN n) b T c := h

theorem Blk.set {w : World} {b : Nat} {T : TypeId} {c : Array Value} (h : Blk w b T c) (i : Nat) (v : Value) : Blk (w.setCell ⟨b, i, none⟩ v) b T (c.setIfInBounds i v) :=
  heap_setCell_same w b i c T v h

theorem Blk.set_ne {w : World} {b : Nat} {T : TypeId} {c : Array Value} (h : Blk w b T c) {a : Addr} (hne : b ≠ a.block) (v : Value) : Blk (w.setCell a v) b T c := by
  unfold Blk; rw [Below.heap_setCell _ _ _ _ hne]; exact h

theorem Blk.ne {w : World} {b b' : Nat} {T T' : TypeId} {c c' : Array Value} (h : Blk w b T c) (h' : Blk w b' T' c') (hs : c.size ≠ c'.size) : b ≠ b' := by
  rintro rfl
  unfold Blk at h h'
  rw [h] at h'
  injection h' with h'
  injection h' with h1
  exact hs (by rw [h1])

/-- Of the blocks that were there only those of S may have turned; the streams are as they were. -/
structure Touch (S : Nat → Prop) (w w' : World) : Prop where
  os : w'.os = w.os
  tape : w'.tape = w.tape
  output : w'.output = w.output
  size : w.heap.size ≤ w'.heap.size
  block : ∀ k, k < w.heap.size → ¬ S k → w'.heap[k]? = w.heap[k]?

theorem Touch.refl (S : Nat → Prop) (w : World) : Touch S w w := ⟨rfl, rfl, rfl, Nat.le_refl _, fun _ _ _ => rfl⟩

theorem Touch.trans {S : Nat → Prop} {a b c : World} (h : Touch S a b) (k : Touch S b c) : Touch S a c :=
  ⟨k.os.trans h.os, k.tape.trans h.tape, k.output.trans h.output, Nat.le_trans h.size k.size, fun i hi hs => (k.block i (Nat.lt_of_lt_of_le hi h.size) hs).trans (h.block i hi hs)⟩

theorem Touch.mono {S S' : Nat → Prop} {w w' : World} (h : Touch S w w') (hS : ∀ k, k < w.heap.size → S k → S' k) : Touch S' w w' :=
  ⟨h.os, h.tape, h.output, h.size, fun k hk hs => h.block k hk (fun h' => hs (hS k hk h'))⟩

/-- What comes behind may turn blocks of S, and whatever is new. -/
theorem Touch.then {S S' : Nat → Prop} {a b c : World} (h : Touch S a b) (k : Touch S' b c) (hS : ∀ i, i < a.heap.size → S' i → S i) : Touch S a c :=
  ⟨k.os.trans h.os, k.tape.trans h.tape, k.output.trans h.output, Nat.le_trans h.size k.size,
    fun i hi hs => (k.block i (Nat.lt_of_lt_of_le hi h.size) (fun h' => hs (hS i hi h'))).trans (h.block i hi hs)⟩

theorem Touch.drew {S : Nat → Prop} {a w : World} (h : Touch S a w) : Touch S a w.drew := ⟨h.os, h.tape, h.output, h.size, h.block⟩
theorem Touch.drewN {S : Nat → Prop} {a w : World} (h : Touch S a w) (n : Nat) : Touch S a (w.drewN n) := ⟨h.os, h.tape, h.output, h.size, h.block⟩

theorem Touch.alloc {S : Nat → Prop} {a w : World} (h : Touch S a w) (o : Obj) : Touch S a (w.alloc o) :=
  h.then (S' := fun _ => False) ⟨rfl, rfl, rfl, by simp, fun k hk _ => Below.heap_alloc w o k hk⟩ (fun _ _ h => h.elim)

theorem Touch.setCell {S : Nat → Prop} {a w : World} (h : Touch S a w) {p : Addr} (hp : p.block < a.heap.size → S p.block) (u : Value) : Touch S a (w.setCell p u) :=
  h.then (S' := fun k => k = p.block) ⟨rfl, rfl, rfl, by simp, fun k _ hk => Below.heap_setCell _ _ _ _ hk⟩ (fun i hi e => by subst e; exact hp hi)

theorem Touch.grown {S : Nat → Prop} {a w w' : World} {row : Option Nat} (h : Touch S a w) (hg : w.grownBy w' row) (hr : ∀ k, row = some k → k < a.heap.size → S k) : Touch S a w' :=
  h.then (S' := fun k => some k = row) ⟨hg.os, hg.tape, hg.output, hg.size, hg.block⟩ (fun i hi e => hr i e.symm hi)

/-- A call that turns no old block. -/
theorem Touch.of_below {S : Nat → Prop} {w w' : World} (h : Below w.heap.size w w') : Touch S w w' := ⟨h.os, h.tape, h.output, h.size, fun k hk _ => h.block k hk⟩
theorem Touch.below {S : Nat → Prop} {w w' : World} (h : Touch S w w') {B : Nat} (hB : B ≤ w.heap.size) (hS : ∀ k, k < B → ¬ S k) : Below B w w' :=
  ⟨h.os, h.tape, h.output, h.size, fun k hk => h.block k (Nat.lt_of_lt_of_le hk hB) (hS k hk)⟩

theorem Blk.touch {w w' : World} {b : Nat} {T : TypeId} {c : Array Value} (h : Blk w b T c) {S : Nat → Prop} (ht : Touch S w w') (hb : ¬ S b) : Blk w' b T c := by
  unfold Blk; rw [ht.block b h.lt hb]; exact h

/-- The slice's cells hold cs, one after the other (elements of one cell each). A nil slice holds none. -/
def SlAt (w : World) (a : Option Addr) (cs : List Value) : Prop :=
  match a with
  | none => cs = []
  | some x => ∀ j u, cs[j]? = some u → x.spot = none ∧ w.cell? ⟨x.block, x.off + j, none⟩ = some u

theorem SlAt.touch {w w' : World} {a : Option Addr} {cs : List Value} (h : SlAt w a cs) {S : Nat → Prop} (ht : Touch S w w') (hb : ∀ x, a = some x → cs ≠ [] → ¬ S x.block) : SlAt w' a cs := by
  cases a with
  | none => exact h
  | some x =>
    intro j u hj
    have hne : cs ≠ [] := by rintro rfl; simp at hj
    obtain ⟨hs, hc⟩ := h j u hj
    have hlt : x.block < w.heap.size := World.block_lt_of_cell? w ⟨x.block, x.off + j, none⟩ hc
    refine ⟨hs, ?_⟩
    rw [World.cell?_of_block (w := w) (a := ⟨x.block, x.off + j, none⟩) (ht.block _ hlt (hb x rfl hne))]
    exact hc

theorem SlAt.at {w : World} {x : Addr} {cs : List Value} (h : SlAt w (some x) cs) : ∀ j u, cs[j]? = some u → w.cell? (x.add j) = some u := by
  intro j u hj
  obtain ⟨hx, hc⟩ := h j u hj
  obtain ⟨b, o, s⟩ := x
  simp at hx
  subst hx
  rw [Addr.add_lit]
  exact hc

/-- One cell of it; and that the address is a plain one. -/
theorem SlAt.get {w : World} {a : Option Addr} {cs : List Value} (h : SlAt w a cs) {k : Nat} {u : Value} (hk : cs[k]? = some u) : ∃ b o, a = some ⟨b, o, none⟩ ∧ w.cell? ⟨b, o + k, none⟩ = some u := by
  cases a with
  | none => have h0 : cs = [] := h; subst h0; simp at hk
  | some x =>
    obtain ⟨hs, hc⟩ := h k u hk
    obtain ⟨b, o, s⟩ := x
    simp at hs
    subst hs
    exact ⟨b, o, rfl, hc⟩

theorem SlAt.lt {w : World} {x : Addr} {cs : List Value} (h : SlAt w (some x) cs) (hne : cs ≠ []) : x.block < w.heap.size := by
  cases cs with
  | nil => exact absurd rfl hne
  | cons u l => exact World.block_lt_of_cell? w ⟨x.block, x.off + 0, none⟩ (h 0 u rfl).2

theorem SlAt.nil (w : World) (x : Addr) : SlAt w (some x) [] := fun j u h => by simp at h

/-- A row that the call owns, read as a slice. -/
theorem SlAt.of_owns {w : World} {base : Nat} {e : TypeId} {a : Option Addr} {n m cap : Nat} {xs : List Value} (h : w.ownsRow base e 1 (.slice a n cap) m xs) : SlAt w a xs := by
  have h0 := h
  rcases h.2 with ⟨h1, h2⟩ | ⟨g, cap', cur, h1, _, h2, _⟩
  · simp only [Value.slice.injEq] at h1
    obtain ⟨rfl, rfl, rfl⟩ := h1
    have := h.1
    subst h2
    exact List.eq_nil_of_length_eq_zero (by simpa using this)
  · simp only [Value.slice.injEq] at h1
    obtain ⟨rfl, rfl, rfl⟩ := h1
    intro j u hj
    refine ⟨rfl, ?_⟩
    have := h0.cells (g := g) rfl j u hj
    simpa [Addr.add_lit] using this

theorem owns_len {w : World} {base : Nat} {e : TypeId} {v : Value} {n : Nat} {xs : List Value} (h : w.ownsRow base e 1 v n xs) : xs.length = n := by
  simpa using h.1

/-- What a row that the call owns looks like. -/
theorem owns_form {w : World} {base : Nat} {e : TypeId} {size : Nat} {v : Value} {n : Nat} {xs : List Value} (h : w.ownsRow base e size v n xs) :
    ∃ a cap, v = .slice a n cap ∧ (a = none → n = 0 ∧ cap = 0) ∧ n ≤ cap ∧ cap ≤ maxLen ∧ (∀ x, a = some x → base ≤ x.block ∧ x.off = 0 ∧ x.spot = none) := by
  rcases h.2 with ⟨rfl, rfl⟩ | ⟨g, cap, cur, rfl, hb, _, hn, hm, _⟩
  · exact ⟨none, 0, rfl, (fun _ => ⟨rfl, rfl⟩), Nat.le_refl _, Nat.zero_le _, (fun x hx => by cases hx)⟩
  · exact ⟨_, cap, rfl, (fun h => by cases h), hn, hm, (fun x hx => by cases hx; exact ⟨hb, rfl, rfl⟩)⟩

theorem owns_touch {w w' : World} {base : Nat} {e : TypeId} {size : Nat} {v : Value} {n : Nat} {xs : List Value} (h : w.ownsRow base e size v n xs) {S : Nat → Prop} (ht : Touch S w w')
    (hb : ∀ k, v.ownBlock = some k → ¬ S k) : w'.ownsRow base e size v n xs := by
  refine ⟨h.1, ?_⟩
  rcases h.2 with hn | ⟨g, cap, cur, rfl, hg, hh, rest⟩
  · exact .inl hn
  · refine .inr ⟨g, cap, cur, rfl, hg, ?_, rest⟩
    rw [ht.block g (Array.getElem?_eq_some_iff.1 hh).1 (hb g rfl)]
    exact hh

theorem owns_mono {w : World} {base base' : Nat} {e : TypeId} {size : Nat} {v : Value} {n : Nat} {xs : List Value} (h : w.ownsRow base e size v n xs) (hb : base' ≤ base) : w.ownsRow base' e size v n xs := by
  refine ⟨h.1, ?_⟩
  rcases h.2 with hn | ⟨g, cap, cur, rfl, hg, rest⟩
  · exact .inl hn
  · exact .inr ⟨g, cap, cur, rfl, by omega, rest⟩

theorem owns_some {w : World} {base : Nat} {e : TypeId} {size : Nat} {v : Value} {n : Nat} {xs : List Value} (h : w.ownsRow base e size v n xs) (hn : 0 < n) :
    ∃ g cap, v = .slice (some ⟨g, 0, none⟩) n cap ∧ base ≤ g ∧ n ≤ cap ∧ cap ≤ maxLen := by
  rcases h.2 with ⟨_, h0⟩ | ⟨g, cap, cur, hv, hb, _, hn, hm, _⟩
  · omega
  · exact ⟨g, cap, hv, hb, hn, hm⟩

theorem SlAt.drop {w : World} {b o : Nat} {cs : List Value} (h : SlAt w (some ⟨b, o, none⟩) cs) (k : Nat) : SlAt w (some ⟨b, o + k, none⟩) (cs.drop k) := by
  intro j u hj
  simp at hj
  have := (h (k + j) u hj).2
  exact ⟨rfl, by simpa [Nat.add_assoc] using this⟩

/-- A slice of a slice, from l on, as the model lays it: behind an array's end the address stays. -/
theorem SlAt.sliced {w : World} {a : Option Addr} {cs : List Value} (h : SlAt w a cs) {l cap : Nat} (hc : cs.length ≤ cap) : SlAt w (if cap = l then a else a.map (·.add l)) (cs.drop l) := by
  split
  · rename_i e
    have : cs.drop l = [] := List.drop_eq_nil_of_le (by omega)
    rw [this]
    cases a with
    | none => rfl
    | some x => exact SlAt.nil w x
  · cases a with
    | none => have h0 : cs = [] := h; subst h0; simp [SlAt]
    | some x =>
      intro j u hj
      simp at hj
      obtain ⟨h1, h2⟩ := h (l + j) u hj
      obtain ⟨b, o, s⟩ := x
      simp at h1
      subst h1
      simp only [Addr.add_lit]
      first | exact ⟨rfl, by simpa [Nat.add_assoc] using h2⟩ | exact ⟨trivial, by simpa [Nat.add_assoc] using h2⟩

theorem SlAt.take {w : World} {a : Option Addr} {cs : List Value} (h : SlAt w a cs) (k : Nat) : SlAt w a (cs.take k) := by
  cases a with
  | none => have h0 : cs = [] := h; subst h0; simp [SlAt]
  | some x =>
    intro j u hj
    refine h j u ?_
    rw [List.getElem?_take] at hj
    split at hj
    · exact hj
    · cases hj

/-- A row that the call owns and that is full: its block is known whole. -/
theorem owns_blk {w : World} {base : Nat} {e : TypeId} {g n : Nat} {xs : List Value} (h : w.ownsRow base e 1 (.slice (some ⟨g, 0, none⟩) n n) n xs) : Blk w g e xs.toArray := by
  rcases h.2 with ⟨h1, _⟩ | ⟨g', cap', cur, h1, _, h2, _, _, h3, h4⟩
  · simp at h1
  · simp only [Value.slice.injEq, Option.some.injEq, Addr.mk.injEq, and_true, true_and] at h1
    obtain ⟨rfl, rfl⟩ := h1
    rw [List.take_of_length_le (by simp [h3])] at h4
    unfold Blk
    rw [h2, ← h4]

/-- The world under a new name: of it only R is known from here on. -/
theorem wp_world {P : Program} {c : Code} {Q : Exit → Act → World → Prop} {a : Act} {w : World} (R : World → Prop) (hR : R w) (h : ∀ w', R w' → c.wp P Q a w') : c.wp P Q a w := h w hR
theorem wpList_world {P : Program} {ops : Array Oper} {l : List Oper} {Q : Exit → Act → World → Prop} {a : Act} {w : World} (R : World → Prop) (hR : R w) (h : ∀ w', R w' → wpList P ops Q l a w') : wpList P ops Q l a w := h w hR

/-- An operation whose value is reckoned by the kernel (a great array that is built). -/
theorem wpList_val {P : Program} {ops : Array Oper} {rest : List Oper} {o : Oper} {a : Act} {w : World} {Q : Exit → Act → World → Prop} (hg : o.guard = none) (v : Value)
    (h : (execOp a.eval o).run P w = .ok (.value v) w) (hK : wpList P ops Q rest (a.put o.dst v) w) : wpList P ops Q (o :: rest) a w := by
  refine wpList_plain hg fun K hK' => ?_
  unfold Oper.wp
  rw [h]
  exact hK' _ _ hK

/-! ### whole arrays and structs in a block of their own -/
theorem Touch.setRow {S : Nat → Prop} {a w : World} (h : Touch S a w) {g : Nat} (hg : g < a.heap.size → S g) (cs : Array Value) : Touch S a (w.setRow g cs) :=
  h.then (S' := fun k => k = g) ⟨rfl, rfl, rfl, by simp, fun k _ hk => setRow_other w g k cs hk⟩ (fun i hi e => by subst e; exact hg hi)

/-- A whole array is stored into a block of its own. -/
theorem wp_store_blk {P : Program} {o : Oper} {a : Act} {w : World} {K : Act → World → Prop} {Q : Exit → Act → World → Prop} (ty : TypeId) (x y : Operand) (ho : o.op = .store ty x y)
    (b : Nat) (T : TypeId) (c c' : Array Value) (hx : a.eval x = .pointer (some ⟨b, 0, none⟩)) (hy : a.eval y = .agg c') (hB : Blk w b T c) (hi : (P.info? ty).map (·.size) = some c'.size) (hs : c.size = c'.size) (h1 : c'.all (·.oneCell') = true)
    (h : ∀ w', Blk w' b T c' → Touch (fun k => k = b) w w' → w'.heap.size = w.heap.size → K (a.put o.dst undef) w') : o.wp P a w K Q := by
  unfold Oper.wp execOp
  simp only [ho, hx, hy, Instr.storeAt, Instr.sureAddr, Sem.run_bind, Sem.run_pure, Result.andThen_ok, run_storeVar_row w b T ty c c' hB hi hs h1]
  exact h _ (setRow_heap w b c c' T _ hB) (Touch.setRow (S := fun k => k = b) (Touch.refl _ _) (fun _ => rfl) _) (by simp)

theorem wpList_store_blk {P : Program} {ops : Array Oper} {rest : List Oper} {o : Oper} {a : Act} {w : World} {Q : Exit → Act → World → Prop} (hg : o.guard = none) (ty : TypeId) (x y : Operand) (ho : o.op = .store ty x y)
    (b : Nat) (T : TypeId) (c c' : Array Value) (hx : a.eval x = .pointer (some ⟨b, 0, none⟩)) (hy : a.eval y = .agg c') (hB : Blk w b T c) (hi : (P.info? ty).map (·.size) = some c'.size) (hs : c.size = c'.size) (h1 : c'.all (·.oneCell') = true)
    (h : ∀ w', Blk w' b T c' → Touch (fun k => k = b) w w' → w'.heap.size = w.heap.size → wpList P ops Q rest (a.put o.dst undef) w') : wpList P ops Q (o :: rest) a w :=
  wpList_plain hg fun _ hK => wp_store_blk ty x y ho b T c c' hx hy hB hi hs h1 fun w' h2 h3 h4 => hK _ _ (h w' h2 h3 h4)

/-- A whole array is read out of a block of its own. -/
theorem wpList_load_blk {P : Program} {ops : Array Oper} {rest : List Oper} {o : Oper} {a : Act} {w : World} {Q : Exit → Act → World → Prop} (hg : o.guard = none) (ty : TypeId) (x : Operand) (ho : o.op = .load ty x)
    (b : Nat) (T : TypeId) (c : Array Value) (d : TypeDesc) (hx : a.eval x = .pointer (some ⟨b, 0, none⟩)) (hB : Blk w b T c) (hu : P.underlying ty = some d) (hd : (match d with | .struct _ | .array _ _ => true | _ => false) = true) (hi : (P.info? ty).map (·.size) = some c.size)
    (h : wpList P ops Q rest (a.put o.dst (.agg c)) w) : wpList P ops Q (o :: rest) a w :=
  wpList_load_row hg ty x ho b hx T c (0, 0) d hB hu hd hi h

/-- A call hands back a slice in memory of its own that holds xs; nothing that was there has turned. -/
def Made (T : TypeId) (xs : List Value) (w : World) (e : Ending) (w' : World) : Prop := ∃ v, e = .returned v ∧ w'.ownsRow w.heap.size T 1 v xs.length xs ∧ Below w.heap.size w w'

/-- 'append(s, x...)' onto what the call owns, whatever x is: nil, empty or not. -/
theorem run_append_any {P : Program} (w : World) (base : Nat) (t ty e : TypeId) (i : TypeInfo) (z : Value) (bytes : Nat) (ht : P.underlying t = some (.slice e)) (hi : P.info? e = some i) (hz : i.zero = some z)
    (hsize : i.size = 1) (hby : i.bytes = bytes) (hzs : z.cells.size = 1)
    (v : Value) (n : Nat) (xs : List Value) (hown : w.ownsRow base e 1 v n xs) (ao : Option Addr) (c : Nat) (news : List Value) (hsl : SlAt w ao news) (hc : ao = none → c = 0) (h1 : ∀ u ∈ news, u.oneCell' = true)
    (h63 : n + news.length ≤ maxLen) (hbytes : (n + news.length) * bytes ≤ 140737488355328) (hbase : base ≤ w.heap.size) :
    ∃ v' w', (Builtin.append_ #[t, t] ty #[v, .slice ao news.length c]).run P w = .ok v' w' ∧ w'.ownsRow base e 1 v' (n + news.length) (xs ++ news) ∧ w.grownBy w' v.ownBlock ∧ (v' = .slice none 0 0 ↔ v = .slice none 0 0 ∧ news = []) := by
  cases ao with
  | none =>
    have h0 : news = [] := hsl
    subst h0
    have hc0 := hc rfl
    subst hc0
    exact ⟨v, w, run_append_owned_none (P := P) w base t ty e i 1 ht hi v n xs hown, by simpa using hown, World.grownBy.refl _ _, by simp⟩
  | some a =>
    obtain ⟨v', w', hr, h2, h3, h4⟩ := run_append_own (P := P) w base t ty e i z 1 bytes ht hi hz hsize hby hzs (by decide) v n xs hown a news.length c news (by simp) hsl.at h1 h63 hbytes hbase
    exact ⟨v', w', hr, h2, h3, by rw [h4, List.length_eq_zero_iff]⟩

theorem wp_append_any {P : Program} {w : World} {o : Oper} {a : Act} {K : Act → World → Prop} {Q : Exit → Act → World → Prop} (s x : Operand) (t : TypeId)
    (ho : o.op = .call { callee := .builtin .append, args := #[s, x], argTypes := #[t, t] })
    (base : Nat) (e : TypeId) (i : TypeInfo) (z : Value) (bytes : Nat) (ht : P.underlying t = some (.slice e)) (hi : P.info? e = some i) (hz : i.zero = some z)
    (hsize : i.size = 1) (hby : i.bytes = bytes) (hzs : z.cells.size = 1)
    (v : Value) (n : Nat) (xs : List Value) (hs : a.eval s = v) (hown : w.ownsRow base e 1 v n xs) (ao : Option Addr) (m c : Nat) (news : List Value) (hx : a.eval x = .slice ao m c) (hm : news.length = m) (hsl : SlAt w ao news) (hc : ao = none → c = 0) (h1 : ∀ u ∈ news, u.oneCell' = true)
    (h63 : n + m ≤ maxLen) (hbytes : (n + m) * bytes ≤ 140737488355328) (hbase : base ≤ w.heap.size)
    (h : ∀ v' w', w'.ownsRow base e 1 v' (n + m) (xs ++ news) → w.grownBy w' v.ownBlock → (v' = .slice none 0 0 ↔ v = .slice none 0 0 ∧ news = []) → K (a.put o.dst v') w') : o.wp P a w K Q := by
  subst hm
  obtain ⟨v', w', hr, h2, h3, h4⟩ := run_append_any (P := P) w base t o.type e i z bytes ht hi hz hsize hby hzs v n xs hown ao c news hsl hc h1 h63 hbytes hbase
  unfold Oper.wp execOp
  simp only [ho, resolve, invoke, builtin, Sem.run_bind, Sem.run_pure, Result.andThen_ok, List.map_toArray, List.map_cons, List.map_nil, hs, hx, hr]
  exact h v' w' h2 h3 h4

theorem wpList_append_any {P : Program} {ops : Array Oper} {rest : List Oper} {w : World} {o : Oper} {a : Act} {Q : Exit → Act → World → Prop} (hg : o.guard = none) (s x : Operand) (t : TypeId)
    (ho : o.op = .call { callee := .builtin .append, args := #[s, x], argTypes := #[t, t] })
    (base : Nat) (e : TypeId) (i : TypeInfo) (z : Value) (bytes : Nat) (ht : P.underlying t = some (.slice e)) (hi : P.info? e = some i) (hz : i.zero = some z)
    (hsize : i.size = 1) (hby : i.bytes = bytes) (hzs : z.cells.size = 1)
    (v : Value) (n : Nat) (xs : List Value) (hs : a.eval s = v) (hown : w.ownsRow base e 1 v n xs) (ao : Option Addr) (m c : Nat) (news : List Value) (hx : a.eval x = .slice ao m c) (hm : news.length = m) (hsl : SlAt w ao news) (hc : ao = none → c = 0) (h1 : ∀ u ∈ news, u.oneCell' = true)
    (h63 : n + m ≤ maxLen) (hbytes : (n + m) * bytes ≤ 140737488355328) (hbase : base ≤ w.heap.size)
    (h : ∀ v' w', w'.ownsRow base e 1 v' (n + m) (xs ++ news) → w.grownBy w' v.ownBlock → (v' = .slice none 0 0 ↔ v = .slice none 0 0 ∧ news = []) → wpList P ops Q rest (a.put o.dst v') w') : wpList P ops Q (o :: rest) a w :=
  wpList_plain hg fun _ hK => wp_append_any s x t ho base e i z bytes ht hi hz hsize hby hzs v n xs hs hown ao m c news hx hm hsl hc h1 h63 hbytes hbase fun v' w' h2 h3 h4 => hK _ _ (h v' w' h2 h3 h4)

theorem step_append_any {P : Program} {ops : Array Oper} {w : World} {o : Oper} {a : Act} {K : Act → World → Prop} {Q : Exit → Act → World → Prop} {E : Prop} (hg : o.guard = none) (s x : Operand) (t : TypeId)
    (ho : o.op = .call { callee := .builtin .append, args := #[s, x], argTypes := #[t, t] })
    (base : Nat) (e : TypeId) (i : TypeInfo) (z : Value) (bytes : Nat) (ht : P.underlying t = some (.slice e)) (hi : P.info? e = some i) (hz : i.zero = some z)
    (hsize : i.size = 1) (hby : i.bytes = bytes) (hzs : z.cells.size = 1)
    (v : Value) (n : Nat) (xs : List Value) (hs : a.eval s = v) (hown : w.ownsRow base e 1 v n xs) (ao : Option Addr) (m c : Nat) (news : List Value) (hx : a.eval x = .slice ao m c) (hm : news.length = m) (hsl : SlAt w ao news) (hc : ao = none → c = 0) (h1 : ∀ u ∈ news, u.oneCell' = true)
    (h63 : n + m ≤ maxLen) (hbytes : (n + m) * bytes ≤ 140737488355328) (hbase : base ≤ w.heap.size)
    (h : ∀ v' w', w'.ownsRow base e 1 v' (n + m) (xs ++ news) → w.grownBy w' v.ownBlock → (v' = .slice none 0 0 ↔ v = .slice none 0 0 ∧ news = []) → K (a.put o.dst v') w') :
    if Region.wanted o (yielded ops a.tmps) = true then Oper.wp P o a w K Q else E := by
  rw [if_pos (by simp [Region.wanted, hg])]
  exact wp_append_any s x t ho base e i z bytes ht hi hz hsize hby hzs v n xs hs hown ao m c news hx hm hsl hc h1 h63 hbytes hbase h

/-- Numbers as cells. -/
def ints (xs : List Int) : List Value := xs.map (Value.int .i64)
def bys (xs : List Int) : List Value := xs.map (Value.int .u8)
@[simp] theorem ints_length (xs : List Int) : (ints xs).length = xs.length := by simp [ints]
@[simp] theorem bys_length (xs : List Int) : (bys xs).length = xs.length := by simp [bys]
theorem ints_at (xs : List Int) {k : Nat} (h : k < xs.length) : (ints xs)[k]? = some (.int .i64 (xs.getD k 0)) := by simp [ints, List.getD, h]
theorem bys_at (xs : List Int) {k : Nat} (h : k < xs.length) : (bys xs)[k]? = some (.int .u8 (xs.getD k 0)) := by simp [bys, List.getD, h]
theorem ints_arr_at (xs : List Int) {k : Nat} (h : k < xs.length) : (ints xs).toArray[k]? = some (.int .i64 (xs.getD k 0)) := by simpa using ints_at xs h
theorem ints_set (xs : List Int) (k : Nat) (n : Int) : (ints xs).toArray.setIfInBounds k (.int .i64 n) = (ints (xs.set k n)).toArray := by
  simp [ints, List.map_set]
theorem ints_append (xs ys : List Int) : ints (xs ++ ys) = ints xs ++ ints ys := by simp [ints]
theorem bys_append (xs ys : List Int) : bys (xs ++ ys) = bys xs ++ bys ys := by simp [bys]
theorem ints_one (xs : List Int) : ∀ u ∈ ints xs, u.oneCell' = true := ints_oneCell .i64 xs
theorem bys_one (xs : List Int) : ∀ u ∈ bys xs, u.oneCell' = true := ints_oneCell .u8 xs
theorem ints_inj {xs ys : List Int} (h : ints xs = ints ys) : xs = ys := by
  unfold ints at h
  exact List.map_inj_right (fun a b e => by injection e) |>.1 h

end Go.Proofs.Ythlkmofemnepbaa
