/-
  THE WALK over nightjarlaw02.small: the small case comes out right; and what is shared by the laws of digests.
-/
import Derived.Test.YthlkmofemnepbaaRows
import Derived.Test.YthlkmofemnepbaaDigestSum
import Derived.Test.YthlkmofemnepbaaStr
import Derived.Stop.BytesEq
namespace Go.Proofs.Ythlkmofemnepbaa
open Go.RowKit

theorem sha_lt (b : List Nat) : ∀ y ∈ sha b, y < 256 := by
  intro y hy
  unfold sha at hy
  rw [List.mem_flatMap] at hy
  obtain ⟨x, _, h⟩ := hy
  unfold wordBytes at h
  simp only [List.mem_cons, List.not_mem_nil, or_false] at h
  rcases h with rfl | rfl | rfl | rfl <;> exact Nat.mod_lt _ (by decide)

theorem bn_size (b : List Nat) : (bn b).toArray.size = b.length := by simp [bn_len]
theorem bn_all (b : List Nat) : (bn b).toArray.all (·.oneCell') = true := by
  rw [Array.all_eq_true]
  intro k hk
  exact bn_one b _ (by simp)

theorem bn_cells (xs : List Nat) (h : ∀ y ∈ xs, y < 256) : bn xs = (xs.map UInt8.ofNat).map Extern.Stop.cell := by
  unfold bn bys natsD
  rw [List.map_map, List.map_map]
  refine List.map_congr_left fun y hy => ?_
  have := h y hy
  simp [Extern.Stop.cell]
  omega

/-- Two arrays of 32 bytes that are the same. -/
theorem run_eql_bn {P : Program} (w : World) (t e : TypeId) (n : Nat) (ht : P.underlying t = some (.array n e)) (he : P.underlying e = some (.int .u8)) (hsz : ∀ w, (sizeOf e).run P w = .ok 1 w) (xs ys : List Nat) (hx : xs.length = n) (hy : ys.length = n) (hxr : ∀ y ∈ xs, y < 256) (hyr : ∀ y ∈ ys, y < 256) :
    (binOp .eql t (.agg (bn xs).toArray) (.agg (bn ys).toArray)).run P w = .ok (.bool (xs == ys)) w := by
  rw [bn_cells xs hxr, bn_cells ys hyr, run_eql_bytes w t e n ht he hsz _ _ (by simpa using hx) (by simpa using hy)]
  congr 2
  rw [Bool.eq_iff_iff, beq_iff_eq, beq_iff_eq]
  constructor
  · intro h
    refine List.ext_getElem (by rw [hx, hy]) fun i h1 h2 => ?_
    have e := congrArg (fun l => l[i]?) h
    simp only [List.getElem?_map, List.getElem?_eq_getElem h1, List.getElem?_eq_getElem h2, Option.map_some, Option.some.injEq] at e
    have a1 := hxr _ (List.getElem_mem h1)
    have a2 := hyr _ (List.getElem_mem h2)
    have e2 := congrArg UInt8.toNat e
    simp only [UInt8.toNat_ofNat'] at e2
    omega
  · rintro rfl; rfl

set_option maxRecDepth 100000 in
theorem run_eql_sha (w : World) (b : List Nat) : (binOp .eql 73 (.agg (bn (sha b)).toArray) (.agg (bn (sha b)).toArray)).run Try.prog w = .ok (.bool true) w := by
  obtain ⟨i0, hi, hz0, hz1, hz2⟩ := info_parts Try.info5
  have h := run_eql_bn (P := Try.prog) w 73 5 32 Try.underlying73 Try.underlying5 (fun w => by rw [run_sizeOf w hi]; rfl) (sha b) (sha b) (sha_len b) (sha_len b) (sha_lt b) (sha_lt b)
  rw [h]
  simp

theorem SlAt.of_blk {w : World} {b : Nat} {T : TypeId} {cs : List Value} (h : Blk w b T cs.toArray) : SlAt w (some ⟨b, 0, none⟩) cs := fun j u hj => ⟨rfl, by rw [Nat.zero_add]; exact h.cell j (by simpa using hj)⟩

/-- A row that the text has just laid. -/
theorem SlAt.new_at {w : World} {n : Nat} (hn : w.heap.size = n) (C : Array Value) (T : TypeId) (fr : Nat × Nat) : SlAt (w.alloc (.cells C T fr)) (some ⟨n, 0, none⟩) C.toList := by
  subst hn
  intro j u hj
  refine ⟨rfl, ?_⟩
  have h : (w.alloc (.cells C T fr)).heap[w.heap.size]? = some (.cells C T fr) := heap_alloc_new w _
  simp only [World.cell?, h, Nat.zero_add]
  simpa using hj
theorem SlAt.alloc {w : World} {a : Option Addr} {cs : List Value} (h : SlAt w a cs) (o : Obj) : SlAt (w.alloc o) a cs := h.touch ((Touch.refl (fun _ => False) w).alloc o) (fun _ _ _ h => h)

/-- The parts, which the text has just laid in a row. -/
theorem PartsIn.lay {w : World} {n : Nat} (hn : w.heap.size = n) (L : List Part) (T : TypeId) (h : ∀ p ∈ L, SlAt w p.a (bn p.bs) ∧ (p.a = none → p.cap = 0)) : PartsIn (w.alloc (.cells (L.map Part.v).toArray T)) (some ⟨n, 0, none⟩) L :=
  ⟨SlAt.new_at hn _ T (0, 0), fun p hp => ⟨(h p hp).1.alloc _, (h p hp).2⟩⟩
theorem partsIn_nil (w : World) : PartsIn w none [] := ⟨rfl, fun p hp => by simp at hp⟩

/-- One part, which the call's text laid in a row of its own. -/
theorem PartsIn.one {w : World} {x : Nat} {T : TypeId} {p : Part} (h : Blk w x T #[p.v]) (hs : SlAt w p.a (bn p.bs)) (hc : p.a = none → p.cap = 0) : PartsIn w (some ⟨x, 0, none⟩) [p] :=
  ⟨SlAt.of_blk h, fun q hq => by rw [List.mem_singleton] at hq; subst hq; exact ⟨hs, hc⟩⟩

/-- '[]byte("..")' of a constant, a row and two further on. -/
theorem run_const1 {P : Program} (t e : TypeId) (ht : P.underlying t = some (.slice e)) (he : P.underlying e = some (.int .u8)) (w : World) (o : Obj) (C : Array Value) (n c : Nat) :
    (convert t t (.slice (some ⟨w.heap.size + 1, 0, none⟩) n c)).run P ((w.alloc o).alloc (.cells C e)) = .ok (.slice (some ⟨w.heap.size + 1, 0, none⟩) n c) ((w.alloc o).alloc (.cells C e (C.size, C.size + 1))) := by
  have h := Lib.run_convert_bytes_const (P := P) (w.alloc o) t e C n c ht he
  have e : (w.alloc o).heap.size = w.heap.size + 1 := by simp
  rw [e] at h
  exact h
theorem run_const2 {P : Program} (t e : TypeId) (ht : P.underlying t = some (.slice e)) (he : P.underlying e = some (.int .u8)) (w : World) (o o' : Obj) (C : Array Value) (n c : Nat) :
    (convert t t (.slice (some ⟨w.heap.size + 2, 0, none⟩) n c)).run P (((w.alloc o).alloc o').alloc (.cells C e)) = .ok (.slice (some ⟨w.heap.size + 2, 0, none⟩) n c) (((w.alloc o).alloc o').alloc (.cells C e (C.size, C.size + 1))) := by
  have h := Lib.run_convert_bytes_const (P := P) ((w.alloc o).alloc o') t e C n c ht he
  have e : ((w.alloc o).alloc o').heap.size = w.heap.size + 2 := by simp
  rw [e] at h
  exact h

/-- A whole array is read, by an operation that stands behind '&&'. -/
theorem wpList_load_blk_g {P : Program} {ops : Array Oper} {rest : List Oper} {o : Oper} {a : Act} {w : World} {Q : Exit → Act → World → Prop} (hw : Region.wanted o (yielded ops a.tmps) = true) (ty : TypeId) (x : Operand) (ho : o.op = .load ty x)
    (b : Nat) (T : TypeId) (c : Array Value) (d : TypeDesc) (hx : a.eval x = .pointer (some ⟨b, 0, none⟩)) (hB : Blk w b T c) (hu : P.underlying ty = some d) (hd : (match d with | .struct _ | .array _ _ => true | _ => false) = true) (hi : (P.info? ty).map (·.size) = some c.size)
    (h : wpList P ops Q rest (a.put o.dst (.agg c)) w) : wpList P ops Q (o :: rest) a w :=
  wpList_step fun K hK => by
    rw [if_pos hw]
    exact wp_load_row ty x ho b hx T c (0, 0) d hB hu hd hi (hK _ _ h)

theorem bn_take (b : List Nat) (k : Nat) : (bn b).take k = bn (b.take k) := by simp [bn, bys, natsD]
theorem bn_drop (b : List Nat) (k : Nat) : (bn b).drop k = bn (b.drop k) := by simp [bn, bys, natsD]

set_option maxRecDepth 100000 in
theorem sum_eq (a : Option Addr) (n cap : Nat) (L : List Part) (b : List Nat) (w : World) (hp : PartsIn w a L) (hb : flatP L = b) (hl : L.length = n) (hr : ∀ y ∈ b, y < 256) (hn : b.length ≤ 1000000) (hm : n ≤ 1000000) :
    Calls Try.prog 78 #[.slice a n cap] w fun e w' => e = .returned (.agg (bn (sha b)).toArray) ∧ Below w.heap.size w w' := by
  subst hb hl
  exact sum_any a cap L w hp hr hn hm

end Go.Proofs.Ythlkmofemnepbaa
