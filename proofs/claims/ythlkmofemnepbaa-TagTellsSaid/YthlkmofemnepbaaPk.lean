/-
  A PACKET IN MEMORY: its cells, parts of a block that are stored, two packets that are compared.
-/
import Derived.Test.YthlkmofemnepbaaRows
import Derived.Test.YthlkmofemnepbaaWirePlain
import Derived.Test.YthlkmofemnepbaaChain
import Derived.Deep.MidRow
namespace Go.Proofs.Ythlkmofemnepbaa
open Go.RowKit

def Pk.cells (p : Pk) : List Value := ints p.n ++ (bn p.sec ++ bn p.tag)
def pkV (p : Pk) : Array Value := p.cells.toArray

theorem Pk.cells_len {p : Pk} (h : p.Ok) : p.cells.length = 36 := by simp [Pk.cells, bn_len, h.hn, h.hs, h.ht]
theorem pkV_size {p : Pk} (h : p.Ok) : (pkV p).size = 36 := by simp [pkV, Pk.cells_len h]
theorem Pk.cells_one (p : Pk) : ∀ v ∈ p.cells, v.oneCell' = true := by
  intro v hv
  simp only [Pk.cells, List.mem_append] at hv
  rcases hv with hv | hv | hv
  · exact ints_one _ _ hv
  · exact bn_one _ _ hv
  · exact bn_one _ _ hv
theorem pkV_one (p : Pk) : (pkV p).all (·.oneCell') = true := all_oneCell_toArray p.cells_one

theorem pkV_num {p : Pk} (h : p.Ok) (i : Nat) (hi : i < 12) : (pkV p)[i]? = some (.int .i64 (p.n.getD i 0)) := by
  unfold pkV Pk.cells
  rw [List.getElem?_toArray, List.getElem?_append_left (by simp [h.hn, hi])]
  exact ints_at _ (by rw [h.hn]; exact hi)

theorem pkV_setN {p : Pk} (h : p.Ok) (i : Nat) (hi : i < 12) (x : Int) : (pkV p).setIfInBounds i (.int .i64 x) = pkV { p with n := p.n.set i x } := by
  unfold pkV Pk.cells
  rw [List.setIfInBounds_toArray, List.set_append_left _ _ (by simp [h.hn, hi])]
  congr 2
  simp [ints, List.map_set]
theorem Pk.Ok.setN {p : Pk} (h : p.Ok) (i : Nat) (x : Int) : ({ p with n := p.n.set i x } : Pk).Ok := ⟨by simp [h.hn], h.hs, h.ht, h.rs, h.rt⟩
theorem Pk.Ok.setSec {p : Pk} (h : p.Ok) {s : List Nat} (hs : s.length = 16) (hr : ∀ y ∈ s, y < 256) : ({ p with sec := s } : Pk).Ok := ⟨h.hn, hs, h.ht, hr, h.rt⟩
theorem Pk.Ok.setTag {p : Pk} (h : p.Ok) {s : List Nat} (hs : s.length = 8) (hr : ∀ y ∈ s, y < 256) : ({ p with tag := s } : Pk).Ok := ⟨h.hn, h.hs, hs, h.rs, hr⟩
theorem pk_zero_ok (n : List Int) (hn : n.length = 12) : (⟨n, List.replicate 16 0, List.replicate 8 0⟩ : Pk).Ok :=
  ⟨hn, rfl, rfl, (fun y hy => by have := List.eq_of_mem_replicate hy; omega), (fun y hy => by have := List.eq_of_mem_replicate hy; omega)⟩

/-! ### parts of a block -/
theorem Blk.range {w : World} {b : Nat} {T : TypeId} {A M B : List Value} (h : Blk w b T (A ++ (M ++ B)).toArray) : w.rangeAt b A.length M := by
  intro j v hj
  refine h.cell _ ?_
  have hl : j < M.length := (List.getElem?_eq_some_iff.1 hj).1
  rw [List.getElem?_toArray, List.getElem?_append_right (by omega), Nat.add_sub_cancel_left, List.getElem?_append_left hl]
  exact hj

theorem Blk.there {w : World} {b : Nat} {T : TypeId} {c : Array Value} (h : Blk w b T c) (o n : Nat) (hn : o + n ≤ c.size) : w.there b o n := fun j hj =>
  ⟨by rw [h.cell? (o + j), Array.getElem?_eq_getElem (by omega)]; rfl, h.frozen _⟩

theorem Blk.setCells {b : Nat} {T : TypeId} : ∀ (vs : List Value) {w : World} {A M B : List Value} (_ : vs.length = M.length) (_ : Blk w b T (A ++ (M ++ B)).toArray), Blk (w.setCells b A.length vs) b T (A ++ (vs ++ B)).toArray
  | [], w, A, M, B, hl, h => by
    cases M with
    | nil => exact h
    | cons m M => cases hl
  | v :: vs, w, A, M, B, hl, h => by
    cases M with
    | nil => cases hl
    | cons m M =>
      have h1 := h.set A.length v
      rw [List.setIfInBounds_toArray, List.cons_append, List.set_append_right _ _ (Nat.le_refl _), Nat.sub_self, List.set_cons_zero] at h1
      have e1 : A ++ v :: (M ++ B) = (A ++ [v]) ++ (M ++ B) := by simp
      rw [e1] at h1
      have h2 := Blk.setCells vs (by simpa using hl) h1
      have e2 : (A ++ [v]) ++ (vs ++ B) = A ++ (v :: vs ++ B) := by simp
      rw [e2, List.length_append, List.length_singleton] at h2
      exact h2

theorem Touch.setCells {S : Nat → Prop} {b : Nat} : ∀ (vs : List Value) (o : Nat) {a w : World} (_ : Touch S a w) (_ : b < a.heap.size → S b), Touch S a (w.setCells b o vs)
  | [], _, _, _, h, _ => h
  | v :: vs, o, _, _, h, hb => Touch.setCells vs (o + 1) (Touch.setCell h (p := ⟨b, o, none⟩) hb v) hb

theorem heap_setCells (b : Nat) : ∀ (vs : List Value) (o : Nat) (w : World), (w.setCells b o vs).heap.size = w.heap.size
  | [], _, _ => rfl
  | v :: vs, o, w => by
    show ((w.setCell ⟨b, o, none⟩ v).setCells b (o + 1) vs).heap.size = _
    rw [heap_setCells b vs]
    simp

/-- A part of a block is stored. -/
theorem wpList_store_part {P : Program} {ops : Array Oper} {rest : List Oper} {op : Oper} {a : Act} {w : World} {Q : Exit → Act → World → Prop} (hgd : op.guard = none) (ty : TypeId) (x y : Operand) (ho : op.op = .store ty x y)
    (b o : Nat) (T : TypeId) (A M B vs : List Value) (hx : a.eval x = .pointer (some ⟨b, o, none⟩)) (hy : a.eval y = .agg vs.toArray) (hB : Blk w b T (A ++ (M ++ B)).toArray) (hA : A.length = o) (hl : vs.length = M.length)
    (hi : (P.info? ty).map (·.size) = some vs.length) (h1 : ∀ v ∈ vs, v.oneCell' = true)
    (h : ∀ w', Blk w' b T (A ++ (vs ++ B)).toArray → Touch (fun k => k = b) w w' → w'.heap.size = w.heap.size → wpList P ops Q rest (a.put op.dst undef) w') : wpList P ops Q (op :: rest) a w := by
  subst hA
  refine wpList_store_mid hgd ty x y ho b A.length vs.toArray hx hy (hB.there _ _ (by simp; omega)) (by simpa using hi) (all_oneCell_toArray h1) ?_
  exact h _ (hB.setCells vs hl) (Touch.setCells vs _ (Touch.refl _ w) (fun _ => rfl)) (heap_setCells b vs _ w)

theorem pkV_split_sec (p : Pk) : pkV p = (ints p.n ++ (bn p.sec ++ bn p.tag)).toArray := rfl
theorem pkV_split_tag (p : Pk) : pkV p = ((ints p.n ++ bn p.sec) ++ (bn p.tag ++ [])).toArray := by simp [pkV, Pk.cells]

theorem Blk.sec {w : World} {b : Nat} {T : TypeId} {p : Pk} (h : Blk w b T (pkV p)) (ho : p.Ok) : w.rangeAt b 12 (bn p.sec) := by
  have h2 := Blk.range (A := ints p.n) (M := bn p.sec) (B := bn p.tag) h
  rw [ints_length, ho.hn] at h2
  exact h2
theorem Blk.tag {w : World} {b : Nat} {T : TypeId} {p : Pk} (h : Blk w b T (pkV p)) (ho : p.Ok) : w.rangeAt b 28 (bn p.tag) := by
  rw [pkV_split_tag] at h
  have h2 := Blk.range (A := ints p.n ++ bn p.sec) (M := bn p.tag) (B := []) h
  rw [List.length_append, ints_length, ho.hn, bn_len, ho.hs] at h2
  exact h2
theorem Blk.num {w : World} {b : Nat} {T : TypeId} {p : Pk} (h : Blk w b T (pkV p)) (ho : p.Ok) (i : Nat) (hi : i < 12) : w.cell? ⟨b, i, none⟩ = some (.int .i64 (p.n.getD i 0)) := h.cell i (pkV_num ho i hi)
theorem Blk.setN {w : World} {b : Nat} {T : TypeId} {p : Pk} (h : Blk w b T (pkV p)) (ho : p.Ok) (i : Nat) (hi : i < 12) (x : Int) : Blk (w.setCell ⟨b, i, none⟩ (.int .i64 x)) b T (pkV { p with n := p.n.set i x }) := by
  rw [← pkV_setN ho i hi]
  exact h.set i _

/-- A packet's secret is stored. -/
theorem wpList_store_sec {P : Program} {ops : Array Oper} {rest : List Oper} {op : Oper} {a : Act} {w : World} {Q : Exit → Act → World → Prop} (hgd : op.guard = none) (ty : TypeId) (x y : Operand) (ho : op.op = .store ty x y)
    (b : Nat) (T : TypeId) (p : Pk) (s : List Nat) (hx : a.eval x = .pointer (some ⟨b, 12, none⟩)) (hy : a.eval y = .agg (bn s).toArray) (hB : Blk w b T (pkV p)) (hp : p.Ok) (hs : s.length = 16) (hi : (P.info? ty).map (·.size) = some 16)
    (h : ∀ w', Blk w' b T (pkV { p with sec := s }) → Touch (fun k => k = b) w w' → w'.heap.size = w.heap.size → wpList P ops Q rest (a.put op.dst undef) w') : wpList P ops Q (op :: rest) a w :=
  wpList_store_part hgd ty x y ho b 12 T (ints p.n) (bn p.sec) (bn p.tag) (bn s) hx hy hB (by rw [ints_length, hp.hn]) (by rw [bn_len, bn_len, hs, hp.hs]) (by rw [bn_len, hs]; exact hi) (bn_one s) h
/-- A packet's tag is stored. -/
theorem wpList_store_tag {P : Program} {ops : Array Oper} {rest : List Oper} {op : Oper} {a : Act} {w : World} {Q : Exit → Act → World → Prop} (hgd : op.guard = none) (ty : TypeId) (x y : Operand) (ho : op.op = .store ty x y)
    (b : Nat) (T : TypeId) (p : Pk) (s : List Nat) (hx : a.eval x = .pointer (some ⟨b, 28, none⟩)) (hy : a.eval y = .agg (bn s).toArray) (hB : Blk w b T (pkV p)) (hp : p.Ok) (hs : s.length = 8) (hi : (P.info? ty).map (·.size) = some 8)
    (h : ∀ w', Blk w' b T (pkV { p with tag := s }) → Touch (fun k => k = b) w w' → w'.heap.size = w.heap.size → wpList P ops Q rest (a.put op.dst undef) w') : wpList P ops Q (op :: rest) a w :=
  wpList_store_part hgd ty x y ho b 28 T (ints p.n ++ bn p.sec) (bn p.tag) [] (bn s) hx hy (by rw [← pkV_split_tag]; exact hB) (by rw [List.length_append, ints_length, hp.hn, bn_len, hp.hs]) (by rw [bn_len, bn_len, hs, hp.ht]) (by rw [bn_len, hs]; exact hi) (bn_one s)
    (fun w' h1 h2 h3 => h w' (by rw [pkV_split_tag]; exact h1) h2 h3)

/-! ### two packets that are compared -/
theorem list12 {n : List Int} (h : n.length = 12) : ∃ a0 a1 a2 a3 a4 a5 a6 a7 a8 a9 a10 a11, n = [a0, a1, a2, a3, a4, a5, a6, a7, a8, a9, a10, a11] := by
  match n, h with
  | [a0, a1, a2, a3, a4, a5, a6, a7, a8, a9, a10, a11], _ => exact ⟨_, _, _, _, _, _, _, _, _, _, _, _, rfl⟩

theorem run_part_int {P : Program} (w : World) (t : TypeId) (ht : P.underlying t = some (.int .i64)) (cs : Array Value) (o : Nat) (v : Value) (hv : cs[o]? = some v) : (part t cs o).run P w = .ok v w := by
  simp [part, isAgg, run_underlying ht, hv]

theorem run_part_arr {P : Program} (w : World) (t e : TypeId) (n : Nat) (ht : P.underlying t = some (.array n e)) (hsz : ∀ w, (sizeOf t).run P w = .ok n w) (A M B : List Value) (o : Nat) (hA : A.length = o) (hM : M.length = n) :
    (part t (A ++ (M ++ B)).toArray o).run P w = .ok (.agg M.toArray) w := by
  subst hA hM
  simp [part, isAgg, run_underlying ht, hsz]

theorem eqFields_cons {P : Program} (w : World) (d : Nat) (xs ys : Array Value) (f : Field) (fs : List Field) (a b : Value) (r : Bool) (hn : f.name ≠ "_") (ha : (part f.type xs f.offset).run P w = .ok a w) (hb : (part f.type ys f.offset).run P w = .ok b w) (hr : (Op.equalIn d f.type a b).run P w = .ok r w) :
    (Op.eqFields d xs ys (f :: fs)).run P w = if r = true then (Op.eqFields d xs ys fs).run P w else .ok false w := by
  simp only [Op.eqFields, if_pos hn, Sem.run_bind, ha, hb, hr, Result.andThen_ok]
  cases r <;> simp

theorem eqFields_ints {P : Program} (w : World) (d : Nat) (xs ys : Array Value) (t : TypeId) (ht : P.underlying t = some (.int .i64)) (rest : List Field) : ∀ (L : List Field) (_ : ∀ f ∈ L, f.type = t ∧ f.name ≠ "_") (A B : Nat → Int) (_ : ∀ f ∈ L, xs[f.offset]? = some (.int .i64 (A f.offset))) (_ : ∀ f ∈ L, ys[f.offset]? = some (.int .i64 (B f.offset))),
    (Op.eqFields (d + 1) xs ys (L ++ rest)).run P w = if (∀ f ∈ L, A f.offset = B f.offset) then (Op.eqFields (d + 1) xs ys rest).run P w else .ok false w
  | [], _, _, _, _, _ => by simp
  | f :: L, hL, A, B, hA, hB => by
    have h1 := hL f (by simp)
    rw [List.cons_append, eqFields_cons w (d + 1) xs ys f (L ++ rest) _ _ _ h1.2 (run_part_int w _ (by rw [h1.1]; exact ht) xs _ _ (hA f (by simp))) (run_part_int w _ (by rw [h1.1]; exact ht) ys _ _ (hB f (by simp))) (run_equalIn_int w d f.type .i64 .i64 _ _ (by rw [h1.1]; exact ht)),
      eqFields_ints w d xs ys t ht rest L (fun x hx => hL x (by simp [hx])) A B (fun x hx => hA x (by simp [hx])) (fun x hx => hB x (by simp [hx]))]
    by_cases he : A f.offset = B f.offset
    · simp [he]
    · simp [he]

theorem bn_beq {P : Program} (w : World) (d : Nat) (t e : TypeId) (n : Nat) (ht : P.underlying t = some (.array n e)) (he : P.underlying e = some (.int .u8)) (hsz : ∀ w, (sizeOf e).run P w = .ok 1 w) (xs ys : List Nat) (hx : xs.length = n) (hy : ys.length = n) (hxr : ∀ y ∈ xs, y < 256) (hyr : ∀ y ∈ ys, y < 256) :
    (Op.equalIn (d + 2) t (.agg (bn xs).toArray) (.agg (bn ys).toArray)).run P w = .ok (decide (xs = ys)) w := by
  rw [bn_cells xs hxr, bn_cells ys hyr, run_equalIn_bytes w d t e n ht he hsz _ _ (by simpa using hx) (by simpa using hy)]
  congr 1
  rw [Bool.eq_iff_iff, beq_iff_eq, decide_eq_true_iff]
  constructor
  · intro h
    refine List.ext_getElem (by rw [hx, hy]) fun i h1 h2 => ?_
    have e := congrArg (fun l => l[i]?) h
    simp only [List.getElem?_map, List.getElem?_eq_getElem h1, List.getElem?_eq_getElem h2, Option.map_some, Option.some.injEq] at e
    have a1 := hxr _ (List.getElem_mem h1)
    have a2 := hyr _ (List.getElem_mem h2)
    have e2 := congrArg UInt8.toNat e
    simp only [UInt8.toNat_ofNat'] at e2
    omega
  · rintro rfl; rfl

theorem getD_ext {x y : List Int} (hx : x.length = 12) (hy : y.length = 12) (h : ∀ i, i < 12 → x.getD i 0 = y.getD i 0) : x = y := by
  refine List.ext_getElem (by omega) fun i h1 h2 => ?_
  have := h i (by omega)
  simpa [List.getD, h1, h2] using this

set_option maxRecDepth 100000 in
theorem run_eql_pk (w : World) (p q : Pk) (hp : p.Ok) (hq : q.Ok) (r : Bool) (hr : decide (p.n = q.n ∧ p.sec = q.sec ∧ p.tag = q.tag) = r) :
    (binOp .eql 25 (.agg (pkV p)) (.agg (pkV q))).run Try.prog w = .ok (.bool r) w := by
  obtain ⟨i0, hi, hz0, hz1, hz2⟩ := info_parts Try.info5
  have s8 : ∀ w, (sizeOf 5).run Try.prog w = .ok 1 w := fun w => by rw [run_sizeOf w hi]; rfl
  obtain ⟨j0, hj, jz0, jz1, jz2⟩ := info_parts (show (Try.prog.info? 22).map (fun i => (i.zero, i.size, i.bytes)) = some (some (.agg #[.int .u8 0, .int .u8 0, .int .u8 0, .int .u8 0, .int .u8 0, .int .u8 0, .int .u8 0, .int .u8 0, .int .u8 0, .int .u8 0, .int .u8 0, .int .u8 0, .int .u8 0, .int .u8 0, .int .u8 0, .int .u8 0]), 16, 16) by kernel_rfl)
  have s16 : ∀ w, (sizeOf 22).run Try.prog w = .ok 16 w := fun w => by rw [run_sizeOf w hj]; rfl
  obtain ⟨k0, hk, kz0, kz1, kz2⟩ := info_parts (show (Try.prog.info? 23).map (fun i => (i.zero, i.size, i.bytes)) = some (some (.agg #[.int .u8 0, .int .u8 0, .int .u8 0, .int .u8 0, .int .u8 0, .int .u8 0, .int .u8 0, .int .u8 0]), 8, 8) by kernel_rfl)
  have s88 : ∀ w, (sizeOf 23).run Try.prog w = .ok 8 w := fun w => by rw [run_sizeOf w hk]; rfl
  obtain ⟨I, hI⟩ : ∃ I, I = (Try.prog.fieldsOf 25).toList.take 12 := ⟨_, rfl⟩
  obtain ⟨f, g, hT⟩ : ∃ f g, (Try.prog.fieldsOf 25).toList.drop 12 = [f, g] := by
    have hl : ((Try.prog.fieldsOf 25).toList.drop 12).length = 2 := by kernel_rfl
    match h : (Try.prog.fieldsOf 25).toList.drop 12, hl with
    | [f, g], _ => exact ⟨f, g, rfl⟩
  have hf : f.type = 22 ∧ f.name ≠ "_" ∧ f.offset = 12 ∧ g.type = 23 ∧ g.name ≠ "_" ∧ g.offset = 28 := by
    have h : ((Try.prog.fieldsOf 25).toList.drop 12).map (fun f => (f.type == 22, f.type == 23, f.name != "_", f.offset)) = [(true, false, true, 12), (false, true, true, 28)] := by kernel_rfl
    rw [hT] at h
    simp at h
    exact ⟨h.1.1, h.1.2.2.1, h.1.2.2.2, h.2.2.1, h.2.2.2.1, h.2.2.2.2⟩
  have hints : ∀ f ∈ I, f.type = 3 ∧ f.name ≠ "_" := by
    intro f hf
    have : ((Try.prog.fieldsOf 25).toList.take 12).all (fun f => f.type == 3 && f.name != "_") = true := by kernel_rfl
    rw [← hI] at this
    have h := List.all_eq_true.1 this f hf
    simp at h
    exact h
  have hoff : ∀ f ∈ I, f.offset < 12 := by
    intro f hf
    have : ((Try.prog.fieldsOf 25).toList.take 12).all (fun f => decide (f.offset < 12)) = true := by kernel_rfl
    rw [← hI] at this
    have h := List.all_eq_true.1 this f hf
    simpa using h
  have hcov : ∀ i, i < 12 → ∃ f ∈ I, f.offset = i := by
    have : (List.range 12).all (fun i => ((Try.prog.fieldsOf 25).toList.take 12).any (fun f => f.offset == i)) = true := by kernel_rfl
    rw [← hI] at this
    intro i hi
    have h := List.all_eq_true.1 this i (by simpa using hi)
    rw [List.any_eq_true] at h
    obtain ⟨f, hf, he⟩ := h
    exact ⟨f, hf, eq_of_beq he⟩
  have hfs : (Try.prog.fieldsOf 25).toList = I ++ [f, g] := by rw [hI, ← hT]; exact (List.take_append_drop 12 _).symm
  obtain ⟨f1, f2, f3, g1, g2, g3⟩ := hf
  have pa : ∀ x : Pk, x.Ok → (part f.type (pkV x) f.offset).run Try.prog w = .ok (.agg (bn x.sec).toArray) w := fun x hx => by
    rw [f1, f3, pkV_split_sec]
    exact run_part_arr w _ 5 16 Try.underlying22 s16 _ _ _ _ (by rw [ints_length, hx.hn]) (by rw [bn_len, hx.hs])
  have pb : ∀ x : Pk, x.Ok → (part g.type (pkV x) g.offset).run Try.prog w = .ok (.agg (bn x.tag).toArray) w := fun x hx => by
    rw [g1, g3, pkV_split_tag]
    exact run_part_arr w _ 5 8 Try.underlying23 s88 _ _ _ _ (by rw [List.length_append, ints_length, hx.hn, bn_len, hx.hs]) (by rw [bn_len, hx.ht])
  have ea := bn_beq (P := Try.prog) w 9997 22 5 16 Try.underlying22 Try.underlying5 s8 p.sec q.sec hp.hs hq.hs hp.rs hq.rs
  have eb := bn_beq (P := Try.prog) w 9997 23 5 8 Try.underlying23 Try.underlying5 s8 p.tag q.tag hp.ht hq.ht hp.rt hq.rt
  rw [← f1] at ea
  rw [← g1] at eb
  rw [run_eql_struct, run_equalIn_struct w 9999 _ _ _ (by kernel_rfl) (by kernel_rfl), hfs,
    eqFields_ints w 9998 (pkV p) (pkV q) 3 Try.underlying3 [f, g] I hints (fun i => p.n.getD i 0) (fun i => q.n.getD i 0) (fun f hf => pkV_num hp _ (hoff f hf)) (fun f hf => pkV_num hq _ (hoff f hf)),
    eqFields_cons w 9999 _ _ f [g] _ _ _ f2 (pa p hp) (pa q hq) ea, eqFields_cons w 9999 _ _ g [] _ _ _ g2 (pb p hp) (pb q hq) eb]
  have hn : (∀ f ∈ I, p.n.getD f.offset 0 = q.n.getD f.offset 0) ↔ p.n = q.n := by
    constructor
    · intro h
      refine getD_ext hp.hn hq.hn fun i hi => ?_
      obtain ⟨f, hf, rfl⟩ := hcov i hi
      exact h f hf
    · intro h f _
      rw [h]
  rw [← hr]
  by_cases q1 : p.n = q.n
  · rw [if_pos (hn.2 q1)]
    by_cases q2 : p.sec = q.sec
    · rw [if_pos (decide_eq_true q2)]
      by_cases q3 : p.tag = q.tag
      · rw [if_pos (decide_eq_true q3)]
        simp [Op.eqFields, q1, q2, q3]
      · rw [if_neg (by simpa using q3)]
        simp [q3]
    · rw [if_neg (by simpa using q2)]
      simp [q2]
  · rw [if_neg (fun h => q1 (hn.1 h))]
    simp [q1]
/-- Looks whether an operation comes next (a cheap test ahead of a law). -/
theorem at_op {P : Program} {ops : Array Oper} {rest : List Oper} {o : Oper} {a : Act} {w : World} {Q : Exit → Act → World → Prop} (op : Op) (_ : o.op = op) (h : wpList P ops Q (o :: rest) a w) : wpList P ops Q (o :: rest) a w := h

/-- Two structs are compared: the operation's own run. -/
theorem run_exec_eql {P : Program} (w : World) {o : Oper} {ρ : Operand → Value} (bop : BinOp) (ty ty' : TypeId) (x y : Operand) (ho : o.op = .binOp bop ty x y ty') (xs ys : Array Value) (hx : ρ x = .agg xs) (hy : ρ y = .agg ys) (hm : P.eqGuardType P.depth ty = false) (b : Bool)
    (hr : (binOp bop ty (.agg xs) (.agg ys)).run P w = .ok (.bool b) w) : (execOp ρ o).run P w = .ok (.value (.bool b)) w := by
  unfold execOp
  simp only [ho, hx, hy, Sem.run_bind, run_eqGuard_agg w bop ty x y xs ys hm, Result.andThen_ok, hr, Sem.run_pure]

/-- A value is reckoned, by an operation that may stand behind '&&'. -/
theorem wpList_val_g {P : Program} {ops : Array Oper} {rest : List Oper} {o : Oper} {a : Act} {w : World} {Q : Exit → Act → World → Prop} (hw : Region.wanted o (yielded ops a.tmps) = true) (v : Value)
    (h : (execOp a.eval o).run P w = .ok (.value v) w) (hK : wpList P ops Q rest (a.put o.dst v) w) : wpList P ops Q (o :: rest) a w :=
  wpList_step fun K hK' => by
    rw [if_pos hw]
    unfold Oper.wp
    rw [h]
    exact hK' _ _ hK

theorem wpList_eql_g {P : Program} {ops : Array Oper} {rest : List Oper} {o : Oper} {a : Act} {w : World} {Q : Exit → Act → World → Prop} (hw : Region.wanted o (yielded ops a.tmps) = true) (bop : BinOp) (ty ty' : TypeId) (x y : Operand) (ho : o.op = .binOp bop ty x y ty')
    (xs ys : Array Value) (hx : a.eval x = .agg xs) (hy : a.eval y = .agg ys) (hm : P.eqGuardType P.depth ty = false) (b : Bool) (hr : (binOp bop ty (.agg xs) (.agg ys)).run P w = .ok (.bool b) w)
    (h : wpList P ops Q rest (a.put o.dst (.bool b)) w) : wpList P ops Q (o :: rest) a w :=
  wpList_val_g hw _ (run_exec_eql w bop ty ty' x y ho xs ys hx hy hm b hr) h
end Go.Proofs.Ythlkmofemnepbaa
