/-
  THE WALK over nightjarlaw02.small: the small case comes out right; and what is shared by the laws of digests.
-/
import Derived.Test.YtanjhalhpllcaaaRows
import Derived.Test.YtanjhalhpllcaaaDigestSum
import Derived.Test.YtanjhalhpllcaaaStr
import Derived.Stop.BytesEq
namespace Go.Proofs.Ytanjhalhpllcaaa
open Go.RowKit

theorem sha_lt (b : List Nat) : ∀ y ∈ sha b, y < 256 := by
  intro y hy
  unfold sha at hy
  rw [List.mem_flatMap] at hy
  obtain ⟨x, _, h⟩ := hy
  unfold wordBytes at h
  simp only [List.mem_cons, List.not_mem_nil, or_false] at h
  rcases h with rfl | rfl | rfl | rfl <;> exact Nat.mod_lt _ (by decide)

theorem bn_size (b : List Nat) : (bn b).toArray.size = b.length := by simp [bn_len]
theorem bn_all (b : List Nat) : (bn b).toArray.all (·.oneCell') = true := by
  rw [Array.all_eq_true]
  intro k hk
  exact bn_one b _ (by simp)

theorem bn_cells (xs : List Nat) (h : ∀ y ∈ xs, y < 256) : bn xs = (xs.map UInt8.ofNat).map Extern.Stop.cell := by
  unfold bn bys natsD
  rw [List.map_map, List.map_map]
  refine List.map_congr_left fun y hy => ?_
  have := h y hy
  simp [Extern.Stop.cell]
  omega

/-- Two arrays of 32 bytes that are the same. -/
theorem run_eql_bn {P : Program} (w : World) (t e : TypeId) (n : Nat) (ht : P.underlying t = some (.array n e)) (he : P.underlying e = some (.int .u8)) (hsz : ∀ w, (sizeOf e).run P w = .ok 1 w) (xs ys : List Nat) (hx : xs.length = n) (hy : ys.length = n) (hxr : ∀ y ∈ xs, y < 256) (hyr : ∀ y ∈ ys, y < 256) :
    (binOp .eql t (.agg (bn xs).toArray) (.agg (bn ys).toArray)).run P w = .ok (.bool (xs == ys)) w := by
  rw [bn_cells xs hxr, bn_cells ys hyr, run_eql_bytes w t e n ht he hsz _ _ (by simpa using hx) (by simpa using hy)]
  congr 2
  rw [Bool.eq_iff_iff, beq_iff_eq, beq_iff_eq]
  constructor
  · intro h
    refine List.ext_getElem (by rw [hx, hy]) fun i h1 h2 => ?_
    have e := congrArg (fun l => l[i]?) h
    simp only [List.getElem?_map, List.getElem?_eq_getElem h1, List.getElem?_eq_getElem h2, Option.map_some, Option.some.injEq] at e
    have a1 := hxr _ (List.getElem_mem h1)
    have a2 := hyr _ (List.getElem_mem h2)
    have e2 := congrArg UInt8.toNat e
    simp only [UInt8.toNat_ofNat'] at e2
    omega
  · rintro rfl; rfl

theorem run_eql_sha (w : World) (b : List Nat) : (binOp .eql 24 (.agg (bn (sha b)).toArray) (.agg (bn (sha b)).toArray)).run Try.prog w = .ok (.bool true) w := by
  obtain ⟨i0, hi, hz0, hz1, hz2⟩ := info_parts Try.info5
  have h := run_eql_bn (P := Try.prog) w 24 5 32 Try.underlying24 Try.underlying5 (fun w => by rw [run_sizeOf w hi]; rfl) (sha b) (sha b) (sha_len b) (sha_len b) (sha_lt b) (sha_lt b)
  rw [h]
  simp

theorem SlAt.of_blk {w : World} {b : Nat} {T : TypeId} {cs : List Value} (h : Blk w b T cs.toArray) : SlAt w (some ⟨b, 0, none⟩) cs := fun j u hj => ⟨rfl, by rw [Nat.zero_add]; exact h.cell j (by simpa using hj)⟩

/-- A row that the text has just laid. -/
theorem SlAt.new_at {w : World} {n : Nat} (hn : w.heap.size = n) (C : Array Value) (T : TypeId) (fr : Nat × Nat) : SlAt (w.alloc (.cells C T fr)) (some ⟨n, 0, none⟩) C.toList := by
  subst hn
  intro j u hj
  refine ⟨rfl, ?_⟩
  have h : (w.alloc (.cells C T fr)).heap[w.heap.size]? = some (.cells C T fr) := heap_alloc_new w _
  simp only [World.cell?, h, Nat.zero_add]
  simpa using hj
theorem SlAt.alloc {w : World} {a : Option Addr} {cs : List Value} (h : SlAt w a cs) (o : Obj) : SlAt (w.alloc o) a cs := h.touch ((Touch.refl (fun _ => False) w).alloc o) (fun _ _ _ h => h)

/-- The parts, which the text has just laid in a row. -/
theorem PartsIn.lay {w : World} {n : Nat} (hn : w.heap.size = n) (L : List Part) (T : TypeId) (h : ∀ p ∈ L, SlAt w p.a (bn p.bs) ∧ (p.a = none → p.cap = 0)) : PartsIn (w.alloc (.cells (L.map Part.v).toArray T)) (some ⟨n, 0, none⟩) L :=
  ⟨SlAt.new_at hn _ T (0, 0), fun p hp => ⟨(h p hp).1.alloc _, (h p hp).2⟩⟩
theorem partsIn_nil (w : World) : PartsIn w none [] := ⟨rfl, fun p hp => by simp at hp⟩

/-- One part, which the call's text laid in a row of its own. -/
theorem PartsIn.one {w : World} {x : Nat} {T : TypeId} {p : Part} (h : Blk w x T #[p.v]) (hs : SlAt w p.a (bn p.bs)) (hc : p.a = none → p.cap = 0) : PartsIn w (some ⟨x, 0, none⟩) [p] :=
  ⟨SlAt.of_blk h, fun q hq => by rw [List.mem_singleton] at hq; subst hq; exact ⟨hs, hc⟩⟩

/-- '[]byte("..")' of a constant, a row and two further on. -/
theorem run_const1 {P : Program} (t e : TypeId) (ht : P.underlying t = some (.slice e)) (he : P.underlying e = some (.int .u8)) (w : World) (o : Obj) (C : Array Value) (n c : Nat) :
    (convert t t (.slice (some ⟨w.heap.size + 1, 0, none⟩) n c)).run P ((w.alloc o).alloc (.cells C e)) = .ok (.slice (some ⟨w.heap.size + 1, 0, none⟩) n c) ((w.alloc o).alloc (.cells C e (C.size, C.size + 1))) := by
  have h := Lib.run_convert_bytes_const (P := P) (w.alloc o) t e C n c ht he
  have e : (w.alloc o).heap.size = w.heap.size + 1 := by simp
  rw [e] at h
  exact h
theorem run_const2 {P : Program} (t e : TypeId) (ht : P.underlying t = some (.slice e)) (he : P.underlying e = some (.int .u8)) (w : World) (o o' : Obj) (C : Array Value) (n c : Nat) :
    (convert t t (.slice (some ⟨w.heap.size + 2, 0, none⟩) n c)).run P (((w.alloc o).alloc o').alloc (.cells C e)) = .ok (.slice (some ⟨w.heap.size + 2, 0, none⟩) n c) (((w.alloc o).alloc o').alloc (.cells C e (C.size, C.size + 1))) := by
  have h := Lib.run_convert_bytes_const (P := P) ((w.alloc o).alloc o') t e C n c ht he
  have e : ((w.alloc o).alloc o').heap.size = w.heap.size + 2 := by simp
  rw [e] at h
  exact h

/-- A whole array is read, by an operation that stands behind '&&'. -/
theorem wpList_load_blk_g {P : Program} {ops : Array Oper} {rest : List Oper} {o : Oper} {a : Act} {w : World} {Q : Exit → Act → World → Prop} (hw : Region.wanted o (yielded ops a.tmps) = true) (ty : TypeId) (x : Operand) (ho : o.op = .load ty x)
    (b : Nat) (T : TypeId) (c : Array Value) (d : TypeDesc) (hx : a.eval x = .pointer (some ⟨b, 0, none⟩)) (hB : Blk w b T c) (hu : P.underlying ty = some d) (hd : (match d with | .struct _ | .array _ _ => true | _ => false) = true) (hi : (P.info? ty).map (·.size) = some c.size)
    (h : wpList P ops Q rest (a.put o.dst (.agg c)) w) : wpList P ops Q (o :: rest) a w :=
  wpList_step fun K hK => by
    rw [if_pos hw]
    exact wp_load_row ty x ho b hx T c (0, 0) d hB hu hd hi (hK _ _ h)

theorem bn_take (b : List Nat) (k : Nat) : (bn b).take k = bn (b.take k) := by simp [bn, bys, natsD]
theorem bn_drop (b : List Nat) (k : Nat) : (bn b).drop k = bn (b.drop k) := by simp [bn, bys, natsD]

theorem sum_eq (a : Option Addr) (n cap : Nat) (L : List Part) (b : List Nat) (w : World) (hp : PartsIn w a L) (hb : flatP L = b) (hl : L.length = n) (hr : ∀ y ∈ b, y < 256) (hn : b.length ≤ 1000000) (hm : n ≤ 1000000) :
    Calls Try.prog 12 #[.slice a n cap] w fun e w' => e = .returned (.agg (bn (sha b)).toArray) ∧ Below w.heap.size w w' := by
  subst hb hl
  exact sum_any a cap L w hp hr hn hm

set_option maxRecDepth 100000 in
set_option maxHeartbeats 2000000 in
theorem digestSmall_any (w : World) : Calls Try.prog 11 #[] w fun e w' => e = .returned (.bool true) ∧ Below w.heap.size w w' := by
  have kc := fun (w : World) (C : Array Value) (n c : Nat) => Lib.run_convert_bytes_const (P := Try.prog) w 22 5 C n c Try.underlying22 Try.underlying5
  have kc1 := run_const1 (P := Try.prog) 22 5 Try.underlying22 Try.underlying5
  go_enter Try.func11, Try.ntmps11
  go_wp2_with fail
  (with_reducible refine (sum_eq _ 1 1 [⟨some ⟨w.heap.size, 0, none⟩, 3, [97, 98, 99]⟩] [97, 98, 99] _ ?_ rfl rfl (by decide) (by decide) (by decide)).mono ?_)
  · refine PartsIn.lay (by simp) [⟨some ⟨w.heap.size, 0, none⟩, 3, [97, 98, 99]⟩] _ (fun p hp => ?_)
    rw [List.mem_singleton] at hp
    subst hp
    exact ⟨SlAt.new_at rfl #[.int .u8 97, .int .u8 98, .int .u8 99] _ (3, 4), fun h => by cases h⟩
  rintro e w1 ⟨rfl, hb1⟩
  obtain ⟨D1, hD1⟩ : ∃ D1, D1 = sha [97, 98, 99] := ⟨_, rfl⟩
  rw [← hD1]
  have HD1 := Lib.hid (And.intro hD1 (And.intro (show (bn D1).toArray.size = 32 by rw [bn_size, hD1, sha_len]) (And.intro (bn_all D1) hb1)))
  clear hD1 hb1
  go_wp2_with (refine wpList_store_blk rfl 24 (.tmp 1) (.tmp 7) rfl w1.heap.size 24 _ (bn D1).toArray rfl rfl (Blk.new _ _ _) (by rw [HD1.out.2.1]; first | done | kernel_rfl) (by rw [HD1.out.2.1]; first | done | kernel_rfl) HD1.out.2.2.1 ?_; intro w2 hB2 ht2 hs2; have H2 := Lib.hid (And.intro hB2 (And.intro ht2 hs2)); clear hB2 ht2 hs2)
  (with_reducible refine (sum_eq none 0 0 [] [] w2 (partsIn_nil _) rfl rfl (by decide) (by decide) (by decide)).mono ?_)
  rintro e w3 ⟨rfl, hb3⟩
  obtain ⟨D2, hD2⟩ : ∃ D2, D2 = sha [] := ⟨_, rfl⟩
  rw [← hD2]
  have HD2 := Lib.hid (And.intro hD2 (And.intro (show (bn D2).toArray.size = 32 by rw [bn_size, hD2, sha_len]) (And.intro (bn_all D2) hb3)))
  clear hD2 hb3
  go_wp2_with (refine wpList_store_blk rfl 24 (.tmp 2) (.tmp 8) rfl w3.heap.size 24 _ (bn D2).toArray rfl rfl (Blk.new _ _ _) (by rw [HD2.out.2.1]; first | done | kernel_rfl) (by rw [HD2.out.2.1]; first | done | kernel_rfl) HD2.out.2.2.1 ?_; intro w4 hB4 ht4 hs4; have H4 := Lib.hid (And.intro hB4 (And.intro ht4 hs4)); clear hB4 ht4 hs4)
  (with_reducible refine (sum_eq _ 3 3 [⟨some ⟨w4.heap.size, 0, none⟩, 2, [97, 98]⟩, ⟨none, 0, []⟩, ⟨some ⟨w4.heap.size + 1, 0, none⟩, 1, [99]⟩] [97, 98, 99] _ ?_ rfl rfl (by decide) (by decide) (by decide)).mono ?_)
  · refine PartsIn.lay (by simp) [⟨some ⟨w4.heap.size, 0, none⟩, 2, [97, 98]⟩, ⟨none, 0, []⟩, ⟨some ⟨w4.heap.size + 1, 0, none⟩, 1, [99]⟩] _ (fun p hp => ?_)
    simp only [List.mem_cons, List.not_mem_nil, or_false] at hp
    rcases hp with rfl | rfl | rfl
    · exact ⟨(SlAt.new_at rfl #[.int .u8 97, .int .u8 98] _ (2, 3)).alloc _, fun h => by cases h⟩
    · exact ⟨rfl, fun _ => rfl⟩
    · exact ⟨SlAt.new_at (by simp) #[.int .u8 99] _ (1, 2), fun h => by cases h⟩
  rintro e w5 ⟨rfl, hb5⟩
  rw [← HD1.out.1]
  have H5 := Lib.hid hb5
  clear hb5
  go_wp2_with (first
    | (refine wpList_load_blk_g (by rfl) 24 (.tmp 1) rfl w1.heap.size 24 (bn D1).toArray _ rfl HL.out.1 Try.underlying24 rfl (by rw [HD1.out.2.1]; first | done | kernel_rfl) ?_)
    | (refine wpList_load_blk_g (by rfl) 24 (.tmp 3) rfl w5.heap.size 24 (bn D1).toArray _ rfl HL.out.2 Try.underlying24 rfl (by rw [HD1.out.2.1]; first | done | kernel_rfl) ?_)
    | (
    refine wpList_store_blk rfl 24 (.tmp 3) (.tmp 14) rfl w5.heap.size 24 _ (bn D1).toArray rfl rfl (Blk.new _ _ _) (by rw [HD1.out.2.1]; first | done | kernel_rfl) (by rw [HD1.out.2.1]; first | done | kernel_rfl) HD1.out.2.2.1 ?_
    intro w6 hB6 ht6 hs6
    have H6 := Lib.hid (And.intro hB6 (And.intro ht6 hs6))
    clear hB6 ht6 hs6
    have z1 : w1.heap.size ≤ w2.heap.size := by have := H2.out.2.2; simp at this; omega
    have z2 : w1.heap.size < w2.heap.size := by have := H2.out.2.2; simp at this; omega
    have z3 : w2.heap.size ≤ w3.heap.size := HD2.out.2.2.2.size
    have z4 : w4.heap.size = w3.heap.size + 1 := by have := H4.out.2.2; simpa using this
    have z5 : w4.heap.size + 3 ≤ w5.heap.size := by have := H5.out.size; simpa using this
    have B1 : Blk w6 w1.heap.size 24 (bn D1).toArray := ((((((((H2.out.1.touch (Touch.of_below (S := fun _ => False) HD2.out.2.2.2) (fun h => h)).alloc _).touch H4.out.2.1 (fun e => by omega)).alloc _).alloc _).alloc _).touch (Touch.of_below (S := fun _ => False) H5.out) (fun h => h)).alloc _).touch H6.out.2.1 (fun e => by omega)
    have B2 : Blk w6 w3.heap.size 24 (bn D2).toArray := (((((H4.out.1.alloc _).alloc _).alloc _).touch (Touch.of_below (S := fun _ => False) H5.out) (fun h => h)).alloc _).touch H6.out.2.1 (fun e => by omega)
    have B3 : Blk w6 w5.heap.size 24 (bn D1).toArray := H6.out.1
    have s1 : SlAt w6 (some ⟨w1.heap.size, 0, none⟩) (bys [186, 120, 22, 191, 143, 1, 207, 234]) := by
      have h := (SlAt.of_blk B1).take 8
      rw [bn_take, HD1.out.1, sha_abc.1] at h
      exact h
    have s2 : SlAt w6 (some ⟨w1.heap.size, 28, none⟩) (bys [242, 0, 21, 173]) := by
      have h := (SlAt.of_blk B1).drop 28
      rw [bn_drop, HD1.out.1, sha_abc.2] at h
      exact h
    have s3 : SlAt w6 (some ⟨w3.heap.size, 0, none⟩) (bys [227, 176, 196, 66]) := by
      have h := (SlAt.of_blk B2).take 4
      rw [bn_take, HD2.out.1, sha_nil] at h
      exact h
    have q1 := run_str (P := Try.prog) w6 22 9 5 Try.underlying22 Try.underlying5 Try.underlying9 _ 8 32 [186, 120, 22, 191, 143, 1, 207, 234] rfl s1
    have q2 := run_str (P := Try.prog) w6 22 9 5 Try.underlying22 Try.underlying5 Try.underlying9 _ 4 4 [242, 0, 21, 173] rfl s2
    have q3 := run_str (P := Try.prog) w6 22 9 5 Try.underlying22 Try.underlying5 Try.underlying9 _ 4 32 [227, 176, 196, 66] rfl s3
    have b1 : ((strOfNums [186, 120, 22, 191, 143, 1, 207, 234]).toList == ([186, 120, 22, 191, 143, 1, 207, 234] : List UInt8)) = true := by kernel_rfl
    have b2 : ((strOfNums [242, 0, 21, 173]).toList == ([242, 0, 21, 173] : List UInt8)) = true := by kernel_rfl
    have b3 : ((strOfNums [227, 176, 196, 66]).toList == ([227, 176, 196, 66] : List UInt8)) = true := by kernel_rfl
    have HL := Lib.hid (And.intro B1 B3)
    have e1 : ∀ w, (binOp .eql 24 (.agg (bn D1).toArray) (.agg (bn D1).toArray)).run Try.prog w = .ok (.bool true) w := fun w => by rw [HD1.out.1]; exact run_eql_sha w _
    clear s1 s2 s3 B1 B2 B3 z1 z2 z3 z4 z5))
  go_ret
  refine ⟨rfl, ?_⟩
  have t0 : Touch (fun _ => False) w w2 := Touch.then (S := fun _ => False) (((((Touch.refl _ w).alloc _).alloc _).trans (Touch.of_below HD1.out.2.2.2)).alloc _) H2.out.2.1 (fun i hi e => by have := HD1.out.2.2.2.size; simp at this; omega)
  have t1 : Touch (fun _ => False) w w4 := Touch.then (S := fun _ => False) ((t0.trans (Touch.of_below HD2.out.2.2.2)).alloc _) H4.out.2.1 (fun i hi e => by have := t0.size; have := HD2.out.2.2.2.size; omega)
  have t2 : Touch (fun _ => False) w w6 := Touch.then (S := fun _ => False) (((((t1.alloc _).alloc _).alloc _).trans (Touch.of_below H5.out)).alloc _) H6.out.2.1 (fun i hi e => by have := t1.size; have := H5.out.size; simp at this; omega)
  exact t2.below (Nat.le_refl _) (fun _ _ h => h)
end Go.Proofs.Ytanjhalhpllcaaa
