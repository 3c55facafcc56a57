/-
  THE WALK of digest.state.block (layer 2).
-/
import Derived.Test.YthlkmofemnepbaaRows
import Derived.Test.YthlkmofemnepbaaDigestSchedule
import Derived.Laws.CopyOwn
namespace Go.Proofs.Ythlkmofemnepbaa
open Go.RowKit

theorem shaKC_eq : shaKC = (u32s shaK).toArray := by kernel_rfl
theorem shaK_len : shaK.length = 64 := by decide
theorem shaK_lt : ∀ x ∈ shaK, x < 4294967296 := by decide +kernel
theorem growW_lt (n : Nat) : ∀ l : List Nat, (∀ x ∈ l, x < 4294967296) → ∀ x ∈ growW n l, x < 4294967296 := by
  induction n with
  | zero => intro l h; exact h
  | succ n ih =>
    intro l h
    refine ih _ (fun x hx => ?_)
    rw [List.mem_append, List.mem_singleton] at hx
    rcases hx with h1 | rfl
    · exact h x h1
    · exact Nat.mod_lt _ (by decide)
theorem words16_lt (n : Nat) : ∀ bs : List Nat, (∀ y ∈ bs, y < 256) → ∀ x ∈ words16 n bs, x < 4294967296 := by
  induction n with
  | zero => intro bs _ x hx; simp [words16] at hx
  | succ n ih =>
    intro bs h x hx
    match bs, h, hx with
    | a :: b :: c :: d :: r, h, hx =>
      simp only [words16, List.mem_cons] at hx
      rcases hx with rfl | hx
      · have h1 := h a (by simp); have h2 := h b (by simp); have h3 := h c (by simp); have h4 := h d (by simp)
        simp only [word4]; omega
      · exact ih r (fun y hy => h y (by simp [hy])) x hx
    | [], h, hx => simp [words16] at hx
    | [_], h, hx => simp [words16] at hx
    | [_, _], h, hx => simp [words16] at hx
    | [_, _, _], h, hx => simp [words16] at hx
theorem schedule_lt (bs : List Nat) (h : ∀ y ∈ bs, y < 256) : ∀ x ∈ schedule bs, x < 4294967296 := by
  rw [schedule_grow]
  exact growW_lt 48 _ (words16_lt 16 bs h)
theorem schedule_len (bs : List Nat) (h : bs.length = 64) : (schedule bs).length = 64 := by
  rw [schedule_grow, growW_len, (words16_spec 16 bs (by omega)).1]

theorem Blk.new1 (w : World) (o : Obj) (c : Array Value) (T : TypeId) : Blk ((w.alloc o).alloc (.cells c T)) (w.heap.size + 1) T c := by
  have h := Blk.new (w.alloc o) c T
  have e : (w.alloc o).heap.size = w.heap.size + 1 := by simp
  rw [e] at h
  exact h

/-- 'a[i]' of an array by value, its elements of one cell each. -/
theorem run_index_agg {P : Program} (t e : TypeId) (n : Nat) (inf : TypeInfo) (cs : Array Value) (i : Nat) (v : Value) (w : World) (hu : P.underlying t = some (.array n e)) (hk : P.plainKey e = true)
    (hi : P.info? e = some inf) (hc : P.cellsOf e = 1) (hin : i < n) (hv : cs[i]? = some v) : (Instr.index t (.agg cs) (.int .i64 (i : Int))).run P w = .ok v w := by
  have hn : (0 : Int) ≤ i ∧ (i : Int) < (n : Int) := by omega
  have h1 : (sizeOf e).run P w = .ok 1 w := by rw [run_sizeOf w hi, hc]
  have h2 : (part e cs i).run P w = .ok v w := run_part_plain w hk hv
  simp [Instr.index, run_underlying hu, asIntOf, h1, hin, h2]

/-- 'copy' within one block, as one step of a region that draws its order. -/
theorem step_copy_blk {P : Program} {ops : Array Oper} {o : Oper} {a : Act} {w : World} {K : Act → World → Prop} {Q : Exit → Act → World → Prop} {E : Prop} (hgd : o.guard = none) (d s : Operand) (dT sT : TypeId)
    (ho : o.op = .call { callee := .builtin .copy, args := #[d, s], argTypes := #[dT, sT] }) (elem : TypeId) (hu : P.underlying dT = some (.slice elem)) (hsz : (P.info? elem).map (·.size) = some 1)
    (b off so dLen dCap sLen sCap : Nat) (hd : a.eval d = .slice (some ⟨b, off, none⟩) dLen dCap) (hs : a.eval s = .slice (some ⟨b, so, none⟩) sLen sCap) (c : Array Value) (T : TypeId) (hB : Blk w b T c)
    (cs : List Value) (hn : cs.length = Nat.min sLen dLen) (hsrc : ∀ j v, cs[j]? = some v → c[so + j]? = some v) (hfit : off + cs.length ≤ c.size) (h1 : ∀ v ∈ cs, v.oneCell' = true)
    (h : ∀ w', Blk w' b T (c.toList.take off ++ (cs ++ c.toList.drop (off + cs.length))).toArray → Touch (fun k => k = b) w w' → K (a.put o.dst (goInt cs.length)) w') :
    if Region.wanted o (yielded ops a.tmps) = true then Oper.wp P o a w K Q else E := by
  have hw : Region.wanted o (yielded ops a.tmps) = true := by simp [Region.wanted, hgd]
  rw [if_pos hw]
  have hrun := run_copy_row (P := P) w dT sT o.type elem b off dLen dCap ⟨b, so, none⟩ sLen sCap c T cs hu hsz hB hn (fun j v hj => by rw [Addr.add_lit]; exact hB.cell _ (hsrc j v hj)) hfit h1
  unfold Oper.wp
  simp only [execOp, ho, resolve, invoke, builtin, hd, hs, hrun, Result.andThen, Sem.run_bind, Sem.run_pure, List.map_toArray, List.map_cons, List.map_nil]
  refine h _ ?_ (Touch.setRow (S := fun k => k = b) (Touch.refl _ _) (fun _ => rfl) _)
  rw [List.append_assoc]
  exact setRow_heap w b c _ T _ hB

/-- The state behind the first i rounds. -/
def roundsTo (s ws : List Nat) (i : Nat) : List Nat := shaRounds s (shaK.take i) (ws.take i)
theorem shaRounds_snoc (ks : List Nat) : ∀ (s xs : List Nat) (k x : Nat), ks.length = xs.length → shaRounds s (ks ++ [k]) (xs ++ [x]) = shaRound (shaRounds s ks xs) k x := by
  induction ks with
  | nil => intro s xs k x h; cases xs with | nil => rfl | cons => simp at h
  | cons k0 ks ih => intro s xs k x h; cases xs with | nil => simp at h | cons x0 xs => exact ih _ xs k x (by simpa using h)
theorem take_snoc2 {l : List Nat} {i x : Nat} (h : l[i]? = some x) : l.take (i + 1) = l.take i ++ [x] := by
  obtain ⟨hl, rfl⟩ := List.getElem?_eq_some_iff.1 h
  rw [List.take_succ_eq_append_getElem hl]
theorem roundsTo_succ (s ws : List Nat) (i k x : Nat) (hk : shaK[i]? = some k) (hx : ws[i]? = some x) : roundsTo s ws (i + 1) = shaRound (roundsTo s ws i) k x := by
  unfold roundsTo
  rw [take_snoc2 hk, take_snoc2 hx, shaRounds_snoc]
  have h1 := (List.getElem?_eq_some_iff.1 hk).1
  have h2 := (List.getElem?_eq_some_iff.1 hx).1
  simp; omega
theorem shaRound_len (s : List Nat) (k x : Nat) (h : s.length = 8) : (shaRound s k x).length = 8 := by
  match s, h with
  | [a, b, c, d, e, f, g, h], _ => rfl
theorem eight_of (s : List Nat) (h : s.length = 8) : ∃ a b c d e f g k, s = [a, b, c, d, e, f, g, k] := by
  match s, h with
  | [a, b, c, d, e, f, g, k], _ => exact ⟨a, b, c, d, e, f, g, k, rfl⟩

set_option maxRecDepth 100000 in
set_option maxHeartbeats 4000000 in
theorem block_any (sb : Nat) (T : TypeId) (st : List Nat) (a : Option Addr) (cap : Nat) (bs : List Nat) (w : World) (hst : st.length = 8) (hsr : ∀ x ∈ st, x < 4294967296) (hB : Blk w sb T (u32s st).toArray)
    (hl : bs.length = 64) (hr : ∀ y ∈ bs, y < 256) (hs : SlAt w a (bys (natsD bs))) (hc : 64 ≤ cap) :
    Calls Try.prog 83 #[.pointer (some ⟨sb, 0, none⟩), .slice a 64 cap] w fun e w' => e = .returned (.tuple #[]) ∧ Blk w' sb T (u32s (shaBlock st bs)).toArray ∧ Touch (fun k => k = sb) w w' := by
  have hsz : (u32s st).toArray.size = 8 := by simp [u32s, hst]
  have h1c : (u32s st).toArray.all (·.oneCell') = true := by
    rw [Array.all_eq_true]
    intro k hk
    simp [u32s, Value.oneCell']
  have HH := Lib.hid (And.intro hst (And.intro hsr (And.intro hB (And.intro hl (And.intro hr (And.intro hs (And.intro hc (And.intro hsz h1c))))))))
  clear hst hsr hB hl hr hs hc hsz h1c
  go_enter Try.func83, Try.ntmps83
  go_wp2_with (first
    | (refine wpList_load_blk rfl 93 (.tmp 16) rfl sb T (u32s st).toArray _ rfl (HH.out.2.2.1) Try.underlying93 rfl (by rw [HH.out.2.2.2.2.2.2.2.1]; first | done | kernel_rfl) ?_)
    | (refine wpList_store_blk rfl 93 (.tmp 4) (.tmp 17) rfl w.heap.size 93 _ (u32s st).toArray rfl rfl (Blk.new _ _ _) (by rw [HH.out.2.2.2.2.2.2.2.1]; first | done | kernel_rfl) (by rw [HH.out.2.2.2.2.2.2.2.1]; first | done | kernel_rfl) HH.out.2.2.2.2.2.2.2.2 ?_; intro w1 hB1 ht1 hs1; have HO := Lib.hid (And.intro hB1 (And.intro ht1 hs1)); clear hB1 ht1 hs1))
  (with_reducible refine (constants_any w1).mono ?_)
  rintro e w2 ⟨rfl, hb2⟩
  have HC2 := Lib.hid hb2
  clear hb2
  go_wp2_with fail
  have hs2 : SlAt w2 a (bys (natsD bs)) := (HH.out.2.2.2.2.2.1.touch (Touch.then (S := fun _ => False) ((Touch.refl (fun _ => False) w).alloc _) HO.out.2.1 (fun i hi e => by omega)) (fun _ _ _ h => h)).touch HC2.out (fun _ _ _ h => h)
  (with_reducible refine (schedule_any a cap bs w2 HH.out.2.2.2.1 HH.out.2.2.2.2.1 hs2 HH.out.2.2.2.2.2.2.1).mono ?_)
  rintro e w3 ⟨rfl, hb3⟩
  have HC3 := Lib.hid hb3
  clear hb3 hs2
  obtain ⟨ws, hws⟩ : ∃ ws, ws = schedule bs := ⟨_, rfl⟩
  have hwl : ws.length = 64 := by rw [hws]; exact schedule_len bs HH.out.2.2.2.1
  have hwr : ∀ x ∈ ws, x < 4294967296 := by rw [hws]; exact schedule_lt bs HH.out.2.2.2.2.1
  rw [← hws]
  have hwz : (u32s ws).toArray.size = 64 := by simp [u32s, hwl]
  have hw1 : (u32s ws).toArray.all (·.oneCell') = true := by
    rw [Array.all_eq_true]
    intro k hk
    simp [u32s, Value.oneCell']
  have HW := Lib.hid (And.intro hws (And.intro hwl (And.intro hwr (And.intro hwz hw1))))
  clear hws hwl hwr hwz hw1
  go_wp2_with (first
    | (refine wpList_store_blk rfl 98 (.tmp 5) (.tmp 18) rfl w3.heap.size 98 _ shaKC rfl rfl ((Blk.new _ _ _).alloc _) (by kernel_rfl) (by kernel_rfl) (by kernel_rfl) ?_; intro w4 hB4 ht4 hs4; have H4 := Lib.hid (And.intro hB4 (And.intro ht4 hs4)); clear hB4 ht4 hs4)
    | (refine wpList_store_blk rfl 98 (.tmp 6) (.tmp 20) rfl (w3.heap.size + 1) 98 _ (u32s ws).toArray rfl rfl ((Blk.new1 w3 _ _ _).touch H4.out.2.1 (fun e => Nat.succ_ne_self _ e)) (by rw [HW.out.2.2.2.1]; first | done | kernel_rfl) (by rw [HW.out.2.2.2.1]; first | done | kernel_rfl) HW.out.2.2.2.2 ?_; intro w5 hB5 ht5 hs5; have H5 := Lib.hid (And.intro hB5 (And.intro ht5 hs5)); clear hB5 ht5 hs5)
    | (refine wpList_load_blk rfl 98 (.tmp 6) rfl (w3.heap.size + 1) 98 (u32s ws).toArray _ rfl (H5.out.1) Try.underlying98 rfl (by rw [HW.out.2.2.2.1]; first | done | kernel_rfl) ?_))
  go_loopw [22] (fun c wz => ∃ i : Nat, i ≤ 64 ∧ c = .int .i64 i ∧ (roundsTo st ws i).length = 8 ∧ (∀ x ∈ roundsTo st ws i, x < 4294967296) ∧ Blk wz sb T (u32s (roundsTo st ws i)).toArray ∧ Blk wz w.heap.size 93 (u32s st).toArray ∧ Blk wz w3.heap.size 98 (u32s shaK).toArray ∧ Touch (fun k => k = sb) w wz) (fun c _ => (64 - intOf c).toNat)
  case atStart =>
    have tt : Touch (fun _ => False) w w5 := by
      have t1 := Touch.then (S := fun _ => False) ((Touch.refl (fun _ => False) w).alloc _) HO.out.2.1 (fun i hi e => by omega)
      have t2 := t1.trans HC2.out
      have t3 := t2.trans (Touch.of_below HC3.out)
      have t4 := Touch.then (S := fun _ => False) ((t3.alloc _).alloc _) H4.out.2.1 (fun i hi e => by have := t3.size; omega)
      exact Touch.then (S := fun _ => False) t4 H5.out.2.1 (fun i hi e => by have := t3.size; omega)
    have h3 : Touch (fun _ => False) w1 w3 := HC2.out.trans (Touch.of_below HC3.out)
    have b42 : w1.heap.size = w.heap.size + 1 := by have := HO.out.2.2; simpa using this
    have hsz3 := h3.size
    refine ⟨0, Nat.zero_le _, rfl, HH.out.1, HH.out.2.1, HH.out.2.2.1.touch tt (fun h => h), ?_, ?_, tt.mono (fun _ _ h => h.elim)⟩
    · exact ((((HO.out.1.touch h3 (fun h => h)).alloc _).alloc _).touch H4.out.2.1 (fun e => by omega)).touch H5.out.2.1 (fun e => by omega)
    · rw [← shaKC_eq]
      exact H4.out.1.touch H5.out.2.1 (fun e => by omega)
  case round =>
    obtain ⟨i, hi, rfl, hrl, hrr, hBs, hBo, hBk, ht⟩ := hrel
    by_cases hq : i = 64
    · subst hq
      have hBS := Lib.hid (And.intro hrl (And.intro hrr (And.intro hBs (And.intro hBo ht))))
      clear hrl hrr hBs hBo hBk ht
      obtain ⟨R, hR⟩ : ∃ R, R = roundsTo st ws 64 := ⟨_, rfl⟩
      rw [← hR] at hBS
      have HR := Lib.hid hR
      clear hR
      go_wp2_with (refine wpList_load_blk rfl 93 (.tmp 4) rfl w.heap.size 93 (u32s st).toArray _ rfl (hBS.out.2.2.2.1) Try.underlying93 rfl (by rw [HH.out.2.2.2.2.2.2.2.1]; first | done | kernel_rfl) ?_)
      go_loopw [120] (fun c wz => ∃ (k : Nat) (ys : List Nat), k ≤ 8 ∧ c = .int .i64 k ∧ ys.length = 8 ∧ (∀ j x y, j < k → R[j]? = some x → st[j]? = some y → ys[j]? = some ((x + y) % M32)) ∧ (∀ j, k ≤ j → ys[j]? = R[j]?) ∧ Blk wz sb T (u32s ys).toArray ∧ Touch (fun k => k = sb) w wz) (fun c _ => (8 - intOf c).toNat)
      case atStart => exact ⟨0, R, Nat.zero_le _, rfl, hBS.out.1, fun j _ _ hj => absurd hj (Nat.not_lt_zero _), fun _ _ => rfl, hBS.out.2.2.1, hBS.out.2.2.2.2⟩
      case round =>
        obtain ⟨k, ys, hk, rfl, hyl, hy1, hy2, hB, ht⟩ := hrel
        by_cases hq8 : k = 8
        · subst hq8
          have HB := Lib.hid (And.intro hyl (And.intro hy1 (And.intro hB ht)))
          clear hyl hy1 hy2 hB ht
          go_wp2_with fail
          go_end0
          refine ⟨rfl, ?_, HB.out.2.2.2⟩
          have e : ys = shaBlock st bs := by
            have hr8 := hBS.out.1
            have hs8 := HH.out.1
            refine List.ext_getElem? fun j => ?_
            unfold shaBlock
            rw [List.getElem?_zipWith]
            have hRR : shaRounds st shaK (schedule bs) = R := by
              rw [HR.out, ← HW.out.1]
              unfold roundsTo
              rw [List.take_of_length_le (by rw [shaK_len]; omega), List.take_of_length_le (by rw [HW.out.2.1]; omega)]
            rw [hRR]
            by_cases hj : j < 8
            · have e1 : R[j]? = some (R[j]'(by omega)) := List.getElem?_eq_getElem (by omega)
              have e2 : st[j]? = some (st[j]'(by omega)) := List.getElem?_eq_getElem (by omega)
              rw [HB.out.2.1 j _ _ hj e1 e2, e1, e2]
            · rw [List.getElem?_eq_none (by have := HB.out.1; omega), List.getElem?_eq_none (l := R) (by omega)]
          rw [← e]
          exact HB.out.2.2.1
        · have hkl : k < 8 := by omega
          have hkI : (k : Int) < 8 := by omega
          obtain ⟨x, hx⟩ : ∃ x, R[k]? = some x := ⟨_, List.getElem?_eq_getElem (by have := hBS.out.1; omega)⟩
          obtain ⟨y, hy⟩ : ∃ y, st[k]? = some y := ⟨_, List.getElem?_eq_getElem (by have := HH.out.1; omega)⟩
          have cK := hB.cell k (v := .int .u32 (x : Int)) (u32s_at ys (by rw [hy2 k (Nat.le_refl _), hx]))
          have fK := hB.frozen k
          have hix := fun w : World => run_index_agg (P := Try.prog) 93 91 8 _ (u32s st).toArray k (.int .u32 (y : Int)) w Try.underlying93 (by kernel_rfl) rfl (by kernel_rfl) hkl (u32s_at st hy)
          have HB := Lib.hid (And.intro hyl (And.intro hy1 (And.intro hy2 (And.intro hB (And.intro ht (And.intro hx hy))))))
          clear hyl hy1 hy2 hB ht hx hy
          go_wp2_with fail
          go_region
          go_wp2_with fail
          have ev : ((x : Int) + (y : Int)) % 4294967296 = (((x + y) % M32 : Nat) : Int) := by simp [M32]
          rw [ev]
          go_roundw
          case rel =>
            obtain ⟨hyl, hy1, hy2, hB, ht, hx, hy⟩ := HB.out
            refine ⟨k + 1, ys.set k ((x + y) % M32), by omega, by first | rfl | (congr 1; omega), by simp [hyl], ?_, ?_, ?_, (Touch.setCell ht (p := ⟨sb, k, none⟩) (fun _ => rfl) _).drew⟩
            · intro j x' y' hj h1 h2
              by_cases e : k = j
              · subst e
                rw [hx] at h1; rw [hy] at h2
                cases h1; cases h2
                rw [List.getElem?_set_self (by omega)]
              · rw [List.getElem?_set_ne e]
                exact hy1 j x' y' (by omega) h1 h2
            · intro j hj
              rw [List.getElem?_set_ne (by omega)]
              exact hy2 j (by omega)
            · have h := (hB.set k (.int .u32 (((x + y) % M32 : Nat) : Int))).drew
              rw [u32s_set] at h
              exact h
          case measure => simp [intOf]; omega
    · have hil : i < 64 := by omega
      have hiI : (i : Int) < 64 := by omega
      obtain ⟨xx, hxx⟩ : ∃ xx, ws[i]? = some xx := ⟨_, List.getElem?_eq_getElem (by have := HW.out.2.1; omega)⟩
      obtain ⟨xk, hxk⟩ : ∃ xk, shaK[i]? = some xk := ⟨_, List.getElem?_eq_getElem (by have := shaK_len; omega)⟩
      have lx : xx < 4294967296 := HW.out.2.2.1 xx (List.mem_of_getElem? hxx)
      have lk : xk < 4294967296 := shaK_lt xk (List.mem_of_getElem? hxk)
      have hsucc := roundsTo_succ st ws i xk xx hxk hxx
      obtain ⟨xa, xb, xc, xd, xe, xf, xg, xh, hR⟩ := eight_of _ hrl
      rw [hR] at hrr hBs hsucc
      have la := hrr xa (by simp)
      have lb := hrr xb (by simp)
      have lc := hrr xc (by simp)
      have ld := hrr xd (by simp)
      have le := hrr xe (by simp)
      have lf := hrr xf (by simp)
      have lg := hrr xg (by simp)
      have lh := hrr xh (by simp)
      have hvx := u32s_at ws hxx
      have hne1 : sb < w.heap.size := HH.out.2.2.1.lt
      have HR := Lib.hid (And.intro hR (And.intro hBs (And.intro hBo (And.intro hBk (And.intro ht (And.intro hsucc (And.intro hxk (And.intro hrr hvx))))))))
      clear hR hBs hBo hBk ht hsucc hxk hrr hxx hvx hrl
      have c0 := HR.out.2.1.cell 0 (v := .int .u32 (xa : Int)) rfl
      have c4 := HR.out.2.1.cell 4 (v := .int .u32 (xe : Int)) rfl
      have hvx : (u32s ws)[i]? = some (.int .u32 (xx : Int)) := by have := HR.out.2.2.2.2.2.2.2.2; simpa using this
      have hix := fun w : World => run_index_agg (P := Try.prog) 98 91 64 _ (u32s ws).toArray i (.int .u32 (xx : Int)) w Try.underlying98 (by kernel_rfl) rfl (by kernel_rfl) hil HR.out.2.2.2.2.2.2.2.2
      clear hvx
      go_wp2_with fail
      go_quiet (fail)
      go_wp2_with fail
      clear hix c0 c4
      obtain ⟨W0, hW0⟩ : ∃ W0, W0 = wr.drewN nq := ⟨_, rfl⟩
      rw [← hW0]
      have hC : ∀ W, Touch (fun _ => False) W0 W → W.cell? ⟨sb, 5, none⟩ = some (.int .u32 (xf : Int)) ∧ W.cell? ⟨sb, 6, none⟩ = some (.int .u32 (xg : Int)) ∧ W.cell? ⟨sb, 7, none⟩ = some (.int .u32 (xh : Int)) ∧ W.cell? ⟨w3.heap.size, i, none⟩ = some (.int .u32 (xk : Int)) := fun W hW => by
        have t : Touch (fun _ => False) wr W := (by rw [hW0] at hW; exact ((Touch.refl _ _).drewN nq).trans hW)
        have hB := HR.out.2.1.touch t (fun h => h)
        have hK := HR.out.2.2.2.1.touch t (fun h => h)
        exact ⟨hB.cell 5 rfl, hB.cell 6 rfl, hB.cell 7 rfl, hK.cell i (u32s_at shaK HR.out.2.2.2.2.2.2.1)⟩
      have HC := Lib.hid hC
      have HW0 := Lib.hid hW0
      clear hC hW0
      refine wp_region_held_drew (S := fun w' : World => w'.cell? ⟨sb, 5, none⟩ = some (.int .u32 (xf : Int)) ∧ w'.cell? ⟨sb, 6, none⟩ = some (.int .u32 (xg : Int)) ∧ w'.cell? ⟨sb, 7, none⟩ = some (.int .u32 (xh : Int)) ∧ w'.cell? ⟨w3.heap.size, i, none⟩ = some (.int .u32 (xk : Int))) (by kernel_rfl) (HC.out _ ((Touch.refl _ _).drew)) (fun hHeld => ?_)
      refine region_take 0 (v := ?vp0) rfl rfl (by kernel_rfl) (by kernel_rfl) (by kernel_rfl) (fun _ _ _ h => h) hHeld (Or.inl ⟨by rfl, ?yp0⟩) ?rp0
      case yp0 => (intro w hSw; (try dsimp only at hSw); go_simp; try with_reducible rfl)
      try simp only [Act.put, List.setIfInBounds_toArray, List.set_cons_zero, List.set_cons_succ]
      refine region_take 1 (v := ?vp1) rfl rfl (by kernel_rfl) (by kernel_rfl) (by kernel_rfl) (fun _ _ _ h => h) hHeld (Or.inl ⟨by rfl, ?yp1⟩) ?rp1
      case yp1 => (intro w hSw; (try dsimp only at hSw); go_simp; try with_reducible rfl)
      try simp only [Act.put, List.setIfInBounds_toArray, List.set_cons_zero, List.set_cons_succ]
      refine region_take 2 (v := ?vp2) rfl rfl (by kernel_rfl) (by kernel_rfl) (by kernel_rfl) (fun _ _ _ h => h) hHeld (Or.inl ⟨by rfl, ?yp2⟩) ?rp2
      case yp2 => (intro w hSw; (try dsimp only at hSw); go_simp; try with_reducible rfl)
      try simp only [Act.put, List.setIfInBounds_toArray, List.set_cons_zero, List.set_cons_succ]
      refine region_take 3 (v := ?vp3) rfl rfl (by kernel_rfl) (by kernel_rfl) (by kernel_rfl) (fun _ _ _ h => h) hHeld (Or.inl ⟨by rfl, ?yp3⟩) ?rp3
      case yp3 => (intro w hSw; (try dsimp only at hSw); go_simp; try with_reducible rfl)
      try simp only [Act.put, List.setIfInBounds_toArray, List.set_cons_zero, List.set_cons_succ]
      refine region_take 4 (v := ?vp4) rfl rfl (by kernel_rfl) (by kernel_rfl) (by kernel_rfl) (fun _ _ _ h => h) hHeld (Or.inl ⟨by rfl, ?yp4⟩) ?rp4
      case yp4 => (intro w hSw; (try dsimp only at hSw); go_simp; try with_reducible rfl)
      try simp only [Act.put, List.setIfInBounds_toArray, List.set_cons_zero, List.set_cons_succ]
      refine region_take 6 (v := ?vp6) rfl rfl (by kernel_rfl) (by kernel_rfl) (by kernel_rfl) (fun _ _ _ h => h) hHeld (Or.inl ⟨by rfl, ?yp6⟩) ?rp6
      case yp6 => (intro w hSw; (try dsimp only at hSw); go_simp; try with_reducible rfl)
      try simp only [Act.put, List.setIfInBounds_toArray, List.set_cons_zero, List.set_cons_succ]
      refine region_take 9 (v := ?vp9) rfl rfl (by kernel_rfl) (by kernel_rfl) (by kernel_rfl) (fun _ _ _ h => h) hHeld (Or.inl ⟨by rfl, ?yp9⟩) ?rp9
      case yp9 => (intro w hSw; (try dsimp only at hSw); go_simp; try with_reducible rfl)
      try simp only [Act.put, List.setIfInBounds_toArray, List.set_cons_zero, List.set_cons_succ]
      refine region_take 13 (v := ?vp13) rfl rfl (by kernel_rfl) (by kernel_rfl) (by kernel_rfl) (fun _ _ _ h => h) hHeld (Or.inl ⟨by rfl, ?yp13⟩) ?rp13
      case yp13 => (intro w hSw; (try dsimp only at hSw); go_simp; try with_reducible rfl)
      try simp only [Act.put, List.setIfInBounds_toArray, List.set_cons_zero, List.set_cons_succ]
      refine region_take 14 (v := ?vp14) rfl rfl (by kernel_rfl) (by kernel_rfl) (by kernel_rfl) (fun _ _ _ h => h) hHeld (Or.inl ⟨by rfl, ?yp14⟩) ?rp14
      case yp14 => (intro w hSw; (try dsimp only at hSw); go_simp; try with_reducible rfl)
      try simp only [Act.put, List.setIfInBounds_toArray, List.set_cons_zero, List.set_cons_succ]
      refine region_take 15 (v := ?vp15) rfl rfl (by kernel_rfl) (by kernel_rfl) (by kernel_rfl) (fun _ _ _ h => h) hHeld (Or.inl ⟨by rfl, ?yp15⟩) ?rp15
      case yp15 => (intro w hSw; (try dsimp only at hSw); go_simp; try with_reducible rfl)
      try simp only [Act.put, List.setIfInBounds_toArray, List.set_cons_zero, List.set_cons_succ]
      refine region_take 16 (v := ?vp16) rfl rfl (by kernel_rfl) (by kernel_rfl) (by kernel_rfl) (fun _ _ _ h => h) hHeld (Or.inl ⟨by rfl, ?yp16⟩) ?rp16
      case yp16 => (intro w hSw; (try dsimp only at hSw); go_simp; try with_reducible rfl)
      try simp only [Act.put, List.setIfInBounds_toArray, List.set_cons_zero, List.set_cons_succ]
      refine region_take 17 (v := ?vp17) rfl rfl (by kernel_rfl) (by kernel_rfl) (by kernel_rfl) (fun _ _ _ h => h) hHeld (Or.inl ⟨by rfl, ?yp17⟩) ?rp17
      case yp17 => (intro w hSw; (try dsimp only at hSw); go_simp; try with_reducible rfl)
      try simp only [Act.put, List.setIfInBounds_toArray, List.set_cons_zero, List.set_cons_succ]
      refine region_take 18 (v := ?vp18) rfl rfl (by kernel_rfl) (by kernel_rfl) (by kernel_rfl) (fun _ _ _ h => h) hHeld (Or.inl ⟨by rfl, ?yp18⟩) ?rp18
      case yp18 => (intro w hSw; (try dsimp only at hSw); go_simp; try with_reducible rfl)
      try simp only [Act.put, List.setIfInBounds_toArray, List.set_cons_zero, List.set_cons_succ]
      refine region_take 19 (v := ?vp19) rfl rfl (by kernel_rfl) (by kernel_rfl) (by kernel_rfl) (fun _ _ _ h => h) hHeld (Or.inl ⟨by rfl, ?yp19⟩) ?rp19
      case yp19 => (intro w hSw; (try dsimp only at hSw); go_simp; try with_reducible rfl)
      try simp only [Act.put, List.setIfInBounds_toArray, List.set_cons_zero, List.set_cons_succ]
      refine region_take 20 (v := ?vp20) rfl rfl (by kernel_rfl) (by kernel_rfl) (by kernel_rfl) (fun _ _ _ h => h) hHeld (Or.inl ⟨by rfl, ?yp20⟩) ?rp20
      case yp20 => (intro w hSw; (try dsimp only at hSw); go_simp; try with_reducible rfl)
      try simp only [Act.put, List.setIfInBounds_toArray, List.set_cons_zero, List.set_cons_succ]
      refine region_take 21 (v := ?vp21) rfl rfl (by kernel_rfl) (by kernel_rfl) (by kernel_rfl) (fun _ _ _ h => h) hHeld (Or.inl ⟨by rfl, ?yp21⟩) ?rp21
      case yp21 => (intro w hSw; (try dsimp only at hSw); go_simp; try with_reducible rfl)
      try simp only [Act.put, List.setIfInBounds_toArray, List.set_cons_zero, List.set_cons_succ]
      refine region_take 22 (v := ?vp22) rfl rfl (by kernel_rfl) (by kernel_rfl) (by kernel_rfl) (fun _ _ _ h => h) hHeld (Or.inl ⟨by rfl, ?yp22⟩) ?rp22
      case yp22 => (intro w hSw; (try dsimp only at hSw); go_simp; try with_reducible rfl)
      try simp only [Act.put, List.setIfInBounds_toArray, List.set_cons_zero, List.set_cons_succ]
      refine region_take 23 (v := ?vp23) rfl rfl (by kernel_rfl) (by kernel_rfl) (by kernel_rfl) (fun _ _ _ h => h) hHeld (Or.inl ⟨by rfl, ?yp23⟩) ?rp23
      case yp23 => (intro w hSw; (try dsimp only at hSw); go_simp; try with_reducible rfl)
      try simp only [Act.put, List.setIfInBounds_toArray, List.set_cons_zero, List.set_cons_succ]
      refine region_take 24 (v := ?vp24) rfl rfl (by kernel_rfl) (by kernel_rfl) (by kernel_rfl) (fun _ _ _ h => h) hHeld (Or.inl ⟨by rfl, ?yp24⟩) ?rp24
      case yp24 => (intro w hSw; (try dsimp only at hSw); go_simp; try with_reducible rfl)
      try simp only [Act.put, List.setIfInBounds_toArray, List.set_cons_zero, List.set_cons_succ]
      refine region_take 25 (v := ?vp25) rfl rfl (by kernel_rfl) (by kernel_rfl) (by kernel_rfl) (fun _ _ _ h => h) hHeld (Or.inl ⟨by rfl, ?yp25⟩) ?rp25
      case yp25 => (intro w hSw; (try dsimp only at hSw); go_simp; try with_reducible rfl)
      try simp only [Act.put, List.setIfInBounds_toArray, List.set_cons_zero, List.set_cons_succ]
      refine region_take 26 (v := ?vp26) rfl rfl (by kernel_rfl) (by kernel_rfl) (by kernel_rfl) (fun _ _ _ h => h) hHeld (Or.inl ⟨by rfl, ?yp26⟩) ?rp26
      case yp26 => (intro w hSw; (try dsimp only at hSw); go_simp; try with_reducible rfl)
      try simp only [Act.put, List.setIfInBounds_toArray, List.set_cons_zero, List.set_cons_succ]
      refine region_take 27 (v := ?vp27) rfl rfl (by kernel_rfl) (by kernel_rfl) (by kernel_rfl) (fun _ _ _ h => h) hHeld (Or.inl ⟨by rfl, ?yp27⟩) ?rp27
      case yp27 => (intro w hSw; (try dsimp only at hSw); go_simp; try with_reducible rfl)
      try simp only [Act.put, List.setIfInBounds_toArray, List.set_cons_zero, List.set_cons_succ]
      refine region_take 28 (v := ?vp28) rfl rfl (by kernel_rfl) (by kernel_rfl) (by kernel_rfl) (fun _ _ _ h => h) hHeld (Or.inl ⟨by rfl, ?yp28⟩) ?rp28
      case yp28 => (intro w hSw; (try dsimp only at hSw); go_simp; try with_reducible rfl)
      try simp only [Act.put, List.setIfInBounds_toArray, List.set_cons_zero, List.set_cons_succ]
      refine region_take 30 (v := ?vp30) rfl rfl (by kernel_rfl) (by kernel_rfl) (by kernel_rfl) (fun _ _ _ h => h) hHeld (Or.inl ⟨by rfl, ?yp30⟩) ?rp30
      case yp30 => (intro w hSw; (try dsimp only at hSw); go_simp; try with_reducible rfl)
      try simp only [Act.put, List.setIfInBounds_toArray, List.set_cons_zero, List.set_cons_succ]
      refine region_take 31 (v := ?vp31) rfl rfl (by kernel_rfl) (by kernel_rfl) (by kernel_rfl) (fun _ _ _ h => h) hHeld (Or.inl ⟨by rfl, ?yp31⟩) ?rp31
      case yp31 => (intro w hSw; (try dsimp only at hSw); go_simp; try with_reducible rfl)
      try simp only [Act.put, List.setIfInBounds_toArray, List.set_cons_zero, List.set_cons_succ]
      refine region_take 32 (v := ?vp32) rfl rfl (by kernel_rfl) (by kernel_rfl) (by kernel_rfl) (fun _ _ _ h => h) hHeld (Or.inl ⟨by rfl, ?yp32⟩) ?rp32
      case yp32 => (intro w hSw; (try dsimp only at hSw); go_simp; try with_reducible rfl)
      try simp only [Act.put, List.setIfInBounds_toArray, List.set_cons_zero, List.set_cons_succ]
      refine region_take 34 (v := ?vp34) rfl rfl (by kernel_rfl) (by kernel_rfl) (by kernel_rfl) (fun _ _ _ h => h) hHeld (Or.inl ⟨by rfl, ?yp34⟩) ?rp34
      case yp34 => (intro w hSw; (try dsimp only at hSw); go_simp; try with_reducible rfl)
      try simp only [Act.put, List.setIfInBounds_toArray, List.set_cons_zero, List.set_cons_succ]
      refine region_one 5 (by kernel_rfl) rfl (fun K hK => ?_)
      go_simp
      go_at_call 89
      (with_reducible refine (right_int xe 6 6 rfl le (by decide) (by decide) _).mono ?_)
      rintro e up1 ⟨rfl, hb1⟩
      have tp1 := Lib.hid (((Touch.refl (fun _ => False) W0).drew).trans hb1)
      clear hb1
      refine hK.out _ _ (HC.out _ tp1.out) (fun _ => ?_)
      clear hK K hHeld
      have hHeld : (fun w' : World => w'.cell? ⟨sb, 5, none⟩ = some (.int .u32 (xf : Int)) ∧ w'.cell? ⟨sb, 6, none⟩ = some (.int .u32 (xg : Int)) ∧ w'.cell? ⟨sb, 7, none⟩ = some (.int .u32 (xh : Int)) ∧ w'.cell? ⟨w3.heap.size, i, none⟩ = some (.int .u32 (xk : Int))) _ := HC.out _ tp1.out
      try simp only [Act.put, List.setIfInBounds_toArray, List.set_cons_zero, List.set_cons_succ]
      refine region_one 7 (by kernel_rfl) rfl (fun K hK => ?_)
      go_simp
      go_at_call 89
      (with_reducible refine (right_int xe 11 11 rfl le (by decide) (by decide) _).mono ?_)
      rintro e up2 ⟨rfl, hb2⟩
      have tp2 := Lib.hid (tp1.out.trans hb2)
      clear hb2
      refine hK.out _ _ (HC.out _ tp2.out) (fun _ => ?_)
      clear hK K hHeld
      have hHeld : (fun w' : World => w'.cell? ⟨sb, 5, none⟩ = some (.int .u32 (xf : Int)) ∧ w'.cell? ⟨sb, 6, none⟩ = some (.int .u32 (xg : Int)) ∧ w'.cell? ⟨sb, 7, none⟩ = some (.int .u32 (xh : Int)) ∧ w'.cell? ⟨w3.heap.size, i, none⟩ = some (.int .u32 (xk : Int))) _ := HC.out _ tp2.out
      try simp only [Act.put, List.setIfInBounds_toArray, List.set_cons_zero, List.set_cons_succ]
      refine region_take 8 (v := ?vp8) rfl rfl (by kernel_rfl) (by kernel_rfl) (by kernel_rfl) (fun _ _ _ h => h) hHeld (Or.inl ⟨by rfl, ?yp8⟩) ?rp8
      case yp8 => (intro w hSw; (try dsimp only at hSw); go_simp; try with_reducible rfl)
      try simp only [Act.put, List.setIfInBounds_toArray, List.set_cons_zero, List.set_cons_succ]
      refine region_one 10 (by kernel_rfl) rfl (fun K hK => ?_)
      go_simp
      go_at_call 89
      (with_reducible refine (right_int xe 25 25 rfl le (by decide) (by decide) _).mono ?_)
      rintro e up3 ⟨rfl, hb3⟩
      have tp3 := Lib.hid (tp2.out.trans hb3)
      clear hb3
      refine hK.out _ _ (HC.out _ tp3.out) (fun _ => ?_)
      clear hK K hHeld
      have hHeld : (fun w' : World => w'.cell? ⟨sb, 5, none⟩ = some (.int .u32 (xf : Int)) ∧ w'.cell? ⟨sb, 6, none⟩ = some (.int .u32 (xg : Int)) ∧ w'.cell? ⟨sb, 7, none⟩ = some (.int .u32 (xh : Int)) ∧ w'.cell? ⟨w3.heap.size, i, none⟩ = some (.int .u32 (xk : Int))) _ := HC.out _ tp3.out
      try simp only [Act.put, List.setIfInBounds_toArray, List.set_cons_zero, List.set_cons_succ]
      refine region_take 11 (v := ?vp11) rfl rfl (by kernel_rfl) (by kernel_rfl) (by kernel_rfl) (fun _ _ _ h => h) hHeld (Or.inl ⟨by rfl, ?yp11⟩) ?rp11
      case yp11 => (intro w hSw; (try dsimp only at hSw); go_simp; try with_reducible rfl)
      try simp only [Act.put, List.setIfInBounds_toArray, List.set_cons_zero, List.set_cons_succ]
      refine region_take 12 (v := ?vp12) rfl rfl (by kernel_rfl) (by kernel_rfl) (by kernel_rfl) (fun _ _ _ h => h) hHeld (Or.inl ⟨by rfl, ?yp12⟩) ?rp12
      case yp12 => (intro w hSw; (try dsimp only at hSw); go_simp; try with_reducible rfl)
      try simp only [Act.put, List.setIfInBounds_toArray, List.set_cons_zero, List.set_cons_succ]
      refine region_take 29 (v := ?vp29) rfl rfl (by kernel_rfl) (by kernel_rfl) (by kernel_rfl) (fun _ _ _ h => h) hHeld (Or.inl ⟨by rfl, ?yp29⟩) ?rp29
      case yp29 => (intro w hSw; (try dsimp only at hSw); go_simp; try with_reducible rfl)
      try simp only [Act.put, List.setIfInBounds_toArray, List.set_cons_zero, List.set_cons_succ]
      refine region_take 33 (v := ?vp33) rfl rfl (by kernel_rfl) (by kernel_rfl) (by kernel_rfl) (fun _ _ _ h => h) hHeld (Or.inl ⟨by rfl, ?yp33⟩) ?rp33
      case yp33 => (intro w hSw; (try dsimp only at hSw); go_simp; try with_reducible rfl)
      try simp only [Act.put, List.setIfInBounds_toArray, List.set_cons_zero, List.set_cons_succ]
      refine region_take 35 (v := ?vp35) rfl rfl (by kernel_rfl) (by kernel_rfl) (by kernel_rfl) (fun _ _ _ h => h) hHeld (Or.inl ⟨by rfl, ?yp35⟩) ?rp35
      case yp35 => (intro w hSw; (try dsimp only at hSw); go_simp; try with_reducible rfl)
      try simp only [Act.put, List.setIfInBounds_toArray, List.set_cons_zero, List.set_cons_succ]
      refine region_take 36 (v := ?vp36) rfl rfl (by kernel_rfl) (by kernel_rfl) (by kernel_rfl) (fun _ _ _ h => h) hHeld (Or.inl ⟨by rfl, ?yp36⟩) ?rp36
      case yp36 => (intro w hSw; (try dsimp only at hSw); go_simp; try with_reducible rfl)
      try simp only [Act.put, List.setIfInBounds_toArray, List.set_cons_zero, List.set_cons_succ]
      refine wpAnyH_done (by kernel_rfl) ?_ _
      have hT : IntKind.u32.wrap (IntKind.u32.wrap (IntKind.u32.wrap (IntKind.u32.wrap ((xh : Int) + bits .xor .u32 (bits .xor .u32 ((rotr xe 6 : Nat) : Int) ((rotr xe 11 : Nat) : Int)) ((rotr xe 25 : Nat) : Int)) + bits .xor .u32 (xg : Int) (bits .and .u32 (xe : Int) (bits .xor .u32 (xf : Int) (xg : Int)))) + (xk : Int)) + (xx : Int)) = (((xh + bsig1 xe + choose xe xf xg + xk + xx) % M32 : Nat) : Int) := by
        rw [xor_u32 _ _ (rotr_lt _ _) (rotr_lt _ _), xor_u32 _ _ (xor_lt (rotr_lt _ _) (rotr_lt _ _)) (rotr_lt _ _), xor_u32 xf xg lf lg, and_u32 _ _ le (xor_lt lf lg), xor_u32 _ _ lg (and_lt (xor_lt lf lg)), wrap_u32, wrap_u32, wrap_u32, wrap_u32]
        unfold bsig1 choose M32
        omega
      rw [hT]
      obtain ⟨t, ht6⟩ : ∃ t, t = (xh + bsig1 xe + choose xe xf xg + xk + xx) % M32 := ⟨_, rfl⟩
      rw [← ht6]
      have lt6 : t < 4294967296 := by rw [ht6]; exact Nat.mod_lt _ (by decide)
      have tW : Touch (fun _ => False) wr up3 := by have := tp3.out; rw [HW0.out] at this; exact ((Touch.refl _ _).drewN nq).trans this
      have HT := Lib.hid (And.intro ht6 tW)
      clear hT ht6 tW tp1 tp2 tp3 HC HW0
      go_wp2_with fail
      have hC : ∀ W, Touch (fun _ => False) up3 W → W.cell? ⟨sb, 1, none⟩ = some (.int .u32 (xb : Int)) ∧ W.cell? ⟨sb, 2, none⟩ = some (.int .u32 (xc : Int)) := fun W hW => by
        have hB := HR.out.2.1.touch (HT.out.2.trans hW) (fun h => h)
        exact ⟨hB.cell 1 rfl, hB.cell 2 rfl⟩
      have HC := Lib.hid hC
      clear hC
      refine wp_region_held_drew (S := fun w' : World => w'.cell? ⟨sb, 1, none⟩ = some (.int .u32 (xb : Int)) ∧ w'.cell? ⟨sb, 2, none⟩ = some (.int .u32 (xc : Int))) (by kernel_rfl) (HC.out _ ((Touch.refl _ _).drew)) (fun hHeld => ?_)
      refine region_take 0 (v := ?vq0) rfl rfl (by kernel_rfl) (by kernel_rfl) (by kernel_rfl) (fun _ _ _ h => h) hHeld (Or.inl ⟨by rfl, ?yq0⟩) ?rq0
      case yq0 => (intro w hSw; (try dsimp only at hSw); go_simp; try with_reducible rfl)
      try simp only [Act.put, List.setIfInBounds_toArray, List.set_cons_zero, List.set_cons_succ]
      refine region_take 2 (v := ?vq2) rfl rfl (by kernel_rfl) (by kernel_rfl) (by kernel_rfl) (fun _ _ _ h => h) hHeld (Or.inl ⟨by rfl, ?yq2⟩) ?rq2
      case yq2 => (intro w hSw; (try dsimp only at hSw); go_simp; try with_reducible rfl)
      try simp only [Act.put, List.setIfInBounds_toArray, List.set_cons_zero, List.set_cons_succ]
      refine region_take 5 (v := ?vq5) rfl rfl (by kernel_rfl) (by kernel_rfl) (by kernel_rfl) (fun _ _ _ h => h) hHeld (Or.inl ⟨by rfl, ?yq5⟩) ?rq5
      case yq5 => (intro w hSw; (try dsimp only at hSw); go_simp; try with_reducible rfl)
      try simp only [Act.put, List.setIfInBounds_toArray, List.set_cons_zero, List.set_cons_succ]
      refine region_take 8 (v := ?vq8) rfl rfl (by kernel_rfl) (by kernel_rfl) (by kernel_rfl) (fun _ _ _ h => h) hHeld (Or.inl ⟨by rfl, ?yq8⟩) ?rq8
      case yq8 => (intro w hSw; (try dsimp only at hSw); go_simp; try with_reducible rfl)
      try simp only [Act.put, List.setIfInBounds_toArray, List.set_cons_zero, List.set_cons_succ]
      refine region_take 9 (v := ?vq9) rfl rfl (by kernel_rfl) (by kernel_rfl) (by kernel_rfl) (fun _ _ _ h => h) hHeld (Or.inl ⟨by rfl, ?yq9⟩) ?rq9
      case yq9 => (intro w hSw; (try dsimp only at hSw); go_simp; try with_reducible rfl)
      try simp only [Act.put, List.setIfInBounds_toArray, List.set_cons_zero, List.set_cons_succ]
      refine region_take 10 (v := ?vq10) rfl rfl (by kernel_rfl) (by kernel_rfl) (by kernel_rfl) (fun _ _ _ h => h) hHeld (Or.inl ⟨by rfl, ?yq10⟩) ?rq10
      case yq10 => (intro w hSw; (try dsimp only at hSw); go_simp; try with_reducible rfl)
      try simp only [Act.put, List.setIfInBounds_toArray, List.set_cons_zero, List.set_cons_succ]
      refine region_take 11 (v := ?vq11) rfl rfl (by kernel_rfl) (by kernel_rfl) (by kernel_rfl) (fun _ _ _ h => h) hHeld (Or.inl ⟨by rfl, ?yq11⟩) ?rq11
      case yq11 => (intro w hSw; (try dsimp only at hSw); go_simp; try with_reducible rfl)
      try simp only [Act.put, List.setIfInBounds_toArray, List.set_cons_zero, List.set_cons_succ]
      refine region_take 12 (v := ?vq12) rfl rfl (by kernel_rfl) (by kernel_rfl) (by kernel_rfl) (fun _ _ _ h => h) hHeld (Or.inl ⟨by rfl, ?yq12⟩) ?rq12
      case yq12 => (intro w hSw; (try dsimp only at hSw); go_simp; try with_reducible rfl)
      try simp only [Act.put, List.setIfInBounds_toArray, List.set_cons_zero, List.set_cons_succ]
      refine region_take 13 (v := ?vq13) rfl rfl (by kernel_rfl) (by kernel_rfl) (by kernel_rfl) (fun _ _ _ h => h) hHeld (Or.inl ⟨by rfl, ?yq13⟩) ?rq13
      case yq13 => (intro w hSw; (try dsimp only at hSw); go_simp; try with_reducible rfl)
      try simp only [Act.put, List.setIfInBounds_toArray, List.set_cons_zero, List.set_cons_succ]
      refine region_take 14 (v := ?vq14) rfl rfl (by kernel_rfl) (by kernel_rfl) (by kernel_rfl) (fun _ _ _ h => h) hHeld (Or.inl ⟨by rfl, ?yq14⟩) ?rq14
      case yq14 => (intro w hSw; (try dsimp only at hSw); go_simp; try with_reducible rfl)
      try simp only [Act.put, List.setIfInBounds_toArray, List.set_cons_zero, List.set_cons_succ]
      refine region_take 15 (v := ?vq15) rfl rfl (by kernel_rfl) (by kernel_rfl) (by kernel_rfl) (fun _ _ _ h => h) hHeld (Or.inl ⟨by rfl, ?yq15⟩) ?rq15
      case yq15 => (intro w hSw; (try dsimp only at hSw); go_simp; try with_reducible rfl)
      try simp only [Act.put, List.setIfInBounds_toArray, List.set_cons_zero, List.set_cons_succ]
      refine region_take 16 (v := ?vq16) rfl rfl (by kernel_rfl) (by kernel_rfl) (by kernel_rfl) (fun _ _ _ h => h) hHeld (Or.inl ⟨by rfl, ?yq16⟩) ?rq16
      case yq16 => (intro w hSw; (try dsimp only at hSw); go_simp; try with_reducible rfl)
      try simp only [Act.put, List.setIfInBounds_toArray, List.set_cons_zero, List.set_cons_succ]
      refine region_take 17 (v := ?vq17) rfl rfl (by kernel_rfl) (by kernel_rfl) (by kernel_rfl) (fun _ _ _ h => h) hHeld (Or.inl ⟨by rfl, ?yq17⟩) ?rq17
      case yq17 => (intro w hSw; (try dsimp only at hSw); go_simp; try with_reducible rfl)
      try simp only [Act.put, List.setIfInBounds_toArray, List.set_cons_zero, List.set_cons_succ]
      refine region_take 18 (v := ?vq18) rfl rfl (by kernel_rfl) (by kernel_rfl) (by kernel_rfl) (fun _ _ _ h => h) hHeld (Or.inl ⟨by rfl, ?yq18⟩) ?rq18
      case yq18 => (intro w hSw; (try dsimp only at hSw); go_simp; try with_reducible rfl)
      try simp only [Act.put, List.setIfInBounds_toArray, List.set_cons_zero, List.set_cons_succ]
      refine region_take 19 (v := ?vq19) rfl rfl (by kernel_rfl) (by kernel_rfl) (by kernel_rfl) (fun _ _ _ h => h) hHeld (Or.inl ⟨by rfl, ?yq19⟩) ?rq19
      case yq19 => (intro w hSw; (try dsimp only at hSw); go_simp; try with_reducible rfl)
      try simp only [Act.put, List.setIfInBounds_toArray, List.set_cons_zero, List.set_cons_succ]
      refine region_take 20 (v := ?vq20) rfl rfl (by kernel_rfl) (by kernel_rfl) (by kernel_rfl) (fun _ _ _ h => h) hHeld (Or.inl ⟨by rfl, ?yq20⟩) ?rq20
      case yq20 => (intro w hSw; (try dsimp only at hSw); go_simp; try with_reducible rfl)
      try simp only [Act.put, List.setIfInBounds_toArray, List.set_cons_zero, List.set_cons_succ]
      refine region_take 21 (v := ?vq21) rfl rfl (by kernel_rfl) (by kernel_rfl) (by kernel_rfl) (fun _ _ _ h => h) hHeld (Or.inl ⟨by rfl, ?yq21⟩) ?rq21
      case yq21 => (intro w hSw; (try dsimp only at hSw); go_simp; try with_reducible rfl)
      try simp only [Act.put, List.setIfInBounds_toArray, List.set_cons_zero, List.set_cons_succ]
      refine region_take 22 (v := ?vq22) rfl rfl (by kernel_rfl) (by kernel_rfl) (by kernel_rfl) (fun _ _ _ h => h) hHeld (Or.inl ⟨by rfl, ?yq22⟩) ?rq22
      case yq22 => (intro w hSw; (try dsimp only at hSw); go_simp; try with_reducible rfl)
      try simp only [Act.put, List.setIfInBounds_toArray, List.set_cons_zero, List.set_cons_succ]
      refine region_take 23 (v := ?vq23) rfl rfl (by kernel_rfl) (by kernel_rfl) (by kernel_rfl) (fun _ _ _ h => h) hHeld (Or.inl ⟨by rfl, ?yq23⟩) ?rq23
      case yq23 => (intro w hSw; (try dsimp only at hSw); go_simp; try with_reducible rfl)
      try simp only [Act.put, List.setIfInBounds_toArray, List.set_cons_zero, List.set_cons_succ]
      refine region_take 24 (v := ?vq24) rfl rfl (by kernel_rfl) (by kernel_rfl) (by kernel_rfl) (fun _ _ _ h => h) hHeld (Or.inl ⟨by rfl, ?yq24⟩) ?rq24
      case yq24 => (intro w hSw; (try dsimp only at hSw); go_simp; try with_reducible rfl)
      try simp only [Act.put, List.setIfInBounds_toArray, List.set_cons_zero, List.set_cons_succ]
      refine region_take 25 (v := ?vq25) rfl rfl (by kernel_rfl) (by kernel_rfl) (by kernel_rfl) (fun _ _ _ h => h) hHeld (Or.inl ⟨by rfl, ?yq25⟩) ?rq25
      case yq25 => (intro w hSw; (try dsimp only at hSw); go_simp; try with_reducible rfl)
      try simp only [Act.put, List.setIfInBounds_toArray, List.set_cons_zero, List.set_cons_succ]
      refine region_one 1 (by kernel_rfl) rfl (fun K hK => ?_)
      go_simp
      go_at_call 89
      (with_reducible refine (right_int xa 2 2 rfl la (by decide) (by decide) _).mono ?_)
      rintro e uq1 ⟨rfl, hb1⟩
      have tq1 := Lib.hid (((Touch.refl (fun _ => False) up3).drew).trans hb1)
      clear hb1
      refine hK.out _ _ (HC.out _ tq1.out) (fun _ => ?_)
      clear hK K hHeld
      have hHeld : (fun w' : World => w'.cell? ⟨sb, 1, none⟩ = some (.int .u32 (xb : Int)) ∧ w'.cell? ⟨sb, 2, none⟩ = some (.int .u32 (xc : Int))) _ := HC.out _ tq1.out
      try simp only [Act.put, List.setIfInBounds_toArray, List.set_cons_zero, List.set_cons_succ]
      refine region_one 3 (by kernel_rfl) rfl (fun K hK => ?_)
      go_simp
      go_at_call 89
      (with_reducible refine (right_int xa 13 13 rfl la (by decide) (by decide) _).mono ?_)
      rintro e uq2 ⟨rfl, hb2⟩
      have tq2 := Lib.hid (tq1.out.trans hb2)
      clear hb2
      refine hK.out _ _ (HC.out _ tq2.out) (fun _ => ?_)
      clear hK K hHeld
      have hHeld : (fun w' : World => w'.cell? ⟨sb, 1, none⟩ = some (.int .u32 (xb : Int)) ∧ w'.cell? ⟨sb, 2, none⟩ = some (.int .u32 (xc : Int))) _ := HC.out _ tq2.out
      try simp only [Act.put, List.setIfInBounds_toArray, List.set_cons_zero, List.set_cons_succ]
      refine region_take 4 (v := ?vq4) rfl rfl (by kernel_rfl) (by kernel_rfl) (by kernel_rfl) (fun _ _ _ h => h) hHeld (Or.inl ⟨by rfl, ?yq4⟩) ?rq4
      case yq4 => (intro w hSw; (try dsimp only at hSw); go_simp; try with_reducible rfl)
      try simp only [Act.put, List.setIfInBounds_toArray, List.set_cons_zero, List.set_cons_succ]
      refine region_one 6 (by kernel_rfl) rfl (fun K hK => ?_)
      go_simp
      go_at_call 89
      (with_reducible refine (right_int xa 22 22 rfl la (by decide) (by decide) _).mono ?_)
      rintro e uq3 ⟨rfl, hb3⟩
      have tq3 := Lib.hid (tq2.out.trans hb3)
      clear hb3
      refine hK.out _ _ (HC.out _ tq3.out) (fun _ => ?_)
      clear hK K hHeld
      have hHeld : (fun w' : World => w'.cell? ⟨sb, 1, none⟩ = some (.int .u32 (xb : Int)) ∧ w'.cell? ⟨sb, 2, none⟩ = some (.int .u32 (xc : Int))) _ := HC.out _ tq3.out
      try simp only [Act.put, List.setIfInBounds_toArray, List.set_cons_zero, List.set_cons_succ]
      refine region_take 7 (v := ?vq7) rfl rfl (by kernel_rfl) (by kernel_rfl) (by kernel_rfl) (fun _ _ _ h => h) hHeld (Or.inl ⟨by rfl, ?yq7⟩) ?rq7
      case yq7 => (intro w hSw; (try dsimp only at hSw); go_simp; try with_reducible rfl)
      try simp only [Act.put, List.setIfInBounds_toArray, List.set_cons_zero, List.set_cons_succ]
      refine region_take 26 (v := ?vq26) rfl rfl (by kernel_rfl) (by kernel_rfl) (by kernel_rfl) (fun _ _ _ h => h) hHeld (Or.inl ⟨by rfl, ?yq26⟩) ?rq26
      case yq26 => (intro w hSw; (try dsimp only at hSw); go_simp; try with_reducible rfl)
      try simp only [Act.put, List.setIfInBounds_toArray, List.set_cons_zero, List.set_cons_succ]
      refine region_take 27 (v := ?vq27) rfl rfl (by kernel_rfl) (by kernel_rfl) (by kernel_rfl) (fun _ _ _ h => h) hHeld (Or.inl ⟨by rfl, ?yq27⟩) ?rq27
      case yq27 => (intro w hSw; (try dsimp only at hSw); go_simp; try with_reducible rfl)
      try simp only [Act.put, List.setIfInBounds_toArray, List.set_cons_zero, List.set_cons_succ]
      refine wpAnyH_done (by kernel_rfl) ?_ _
      have hU : IntKind.u32.wrap (bits .xor .u32 (bits .xor .u32 ((rotr xa 2 : Nat) : Int) ((rotr xa 13 : Nat) : Int)) ((rotr xa 22 : Nat) : Int) + bits .or .u32 (bits .and .u32 (xa : Int) (xb : Int)) (bits .and .u32 (xc : Int) (bits .or .u32 (xa : Int) (xb : Int)))) = (((bsig0 xa + major xa xb xc) % M32 : Nat) : Int) := by
        rw [xor_u32 _ _ (rotr_lt _ _) (rotr_lt _ _), xor_u32 _ _ (xor_lt (rotr_lt _ _) (rotr_lt _ _)) (rotr_lt _ _), or_u32 xa xb la lb, and_u32 _ _ la lb, and_u32 _ _ lc (or_lt la lb), or_u32 _ _ (and_lt lb) (and_lt (or_lt la lb)), wrap_u32]
        unfold bsig0 major M32
        rfl
      rw [hU]
      obtain ⟨u, hu7⟩ : ∃ u, u = (bsig0 xa + major xa xb xc) % M32 := ⟨_, rfl⟩
      rw [← hu7]
      have lu7 : u < 4294967296 := by rw [hu7]; exact Nat.mod_lt _ (by decide)
      have HU := Lib.hid (And.intro hu7 (HT.out.2.trans tq3.out))
      clear hU hu7 tq1 tq2 tq3 HC
      go_wp2_with fail
      refine wp_region_held_drew (S := fun _ => True) (by kernel_rfl) (trivial) (fun hHeld => ?_)
      refine region_take 0 (v := ?vc0) rfl rfl (by kernel_rfl) (by kernel_rfl) (by kernel_rfl) (fun _ _ _ h => h) hHeld (Or.inl ⟨by rfl, ?yc0⟩) ?rc0
      case yc0 => (intro w hSw; (try dsimp only at hSw); go_simp; try with_reducible rfl)
      try simp only [Act.put, List.setIfInBounds_toArray, List.set_cons_zero, List.set_cons_succ]
      refine region_take 1 (v := ?vc1) rfl rfl (by kernel_rfl) (by kernel_rfl) (by kernel_rfl) (fun _ _ _ h => h) hHeld (Or.inl ⟨by rfl, ?yc1⟩) ?rc1
      case yc1 => (intro w hSw; (try dsimp only at hSw); go_simp; try with_reducible rfl)
      try simp only [Act.put, List.setIfInBounds_toArray, List.set_cons_zero, List.set_cons_succ]
      refine region_take 2 (v := ?vc2) rfl rfl (by kernel_rfl) (by kernel_rfl) (by kernel_rfl) (fun _ _ _ h => h) hHeld (Or.inl ⟨by rfl, ?yc2⟩) ?rc2
      case yc2 => (intro w hSw; (try dsimp only at hSw); go_simp; try with_reducible rfl)
      try simp only [Act.put, List.setIfInBounds_toArray, List.set_cons_zero, List.set_cons_succ]
      refine region_take 3 (v := ?vc3) rfl rfl (by kernel_rfl) (by kernel_rfl) (by kernel_rfl) (fun _ _ _ h => h) hHeld (Or.inl ⟨by rfl, ?yc3⟩) ?rc3
      case yc3 => (intro w hSw; (try dsimp only at hSw); go_simp; try with_reducible rfl)
      try simp only [Act.put, List.setIfInBounds_toArray, List.set_cons_zero, List.set_cons_succ]
      refine region_take 4 (v := ?vc4) rfl rfl (by kernel_rfl) (by kernel_rfl) (by kernel_rfl) (fun _ _ _ h => h) hHeld (Or.inl ⟨by rfl, ?yc4⟩) ?rc4
      case yc4 => (intro w hSw; (try dsimp only at hSw); go_simp; try with_reducible rfl)
      try simp only [Act.put, List.setIfInBounds_toArray, List.set_cons_zero, List.set_cons_succ]
      refine region_take 5 (v := ?vc5) rfl rfl (by kernel_rfl) (by kernel_rfl) (by kernel_rfl) (fun _ _ _ h => h) hHeld (Or.inl ⟨by rfl, ?yc5⟩) ?rc5
      case yc5 => (intro w hSw; (try dsimp only at hSw); go_simp; try with_reducible rfl)
      try simp only [Act.put, List.setIfInBounds_toArray, List.set_cons_zero, List.set_cons_succ]
      refine region_one 6 (by kernel_rfl) rfl (fun K hK => ?_)
      refine step_copy_blk rfl (.tmp 99) (.tmp 102) 102 102 rfl 91 Try.underlying102 (by kernel_rfl) sb 1 0 7 7 7 8 rfl rfl (u32s [xa, xb, xc, xd, xe, xf, xg, xh]).toArray T (HR.out.2.1.touch (S := fun _ => False) HU.out.2.drew (fun h => h)) (u32s [xa, xb, xc, xd, xe, xf, xg]) rfl (fun j v hj => by match j, hj with | 0, h => exact h | 1, h => exact h | 2, h => exact h | 3, h => exact h | 4, h => exact h | 5, h => exact h | 6, h => exact h | n + 7, h => simp [u32s] at h) (by simp [u32s]) (by simp [u32s, Value.oneCell']) ?_
      intro w8 hB8 ht8
      have HB8 : Hid (Blk w8 sb T (u32s [xa, xa, xb, xc, xd, xe, xf, xg]).toArray) := Lib.hid hB8
      have HT8 := Lib.hid ht8
      clear hB8 ht8
      refine hK.out _ _ (trivial) (fun _ => ?_)
      clear hK K hHeld
      have hHeld := trivial
      try simp only [Act.put, List.setIfInBounds_toArray, List.set_cons_zero, List.set_cons_succ]
      refine wpAnyH_done (by kernel_rfl) ?_ _
      have hB8 := HB8.out
      have HB9 := Lib.hid (And.intro hB8 ((HU.out.2.drew.mono (S' := fun k => k = sb) (fun _ _ h => h.elim)).trans HT8.out))
      clear hB8 HB8 HT8
      go_wp2_with fail
      have c4 := HB9.out.1.cell 4 (v := .int .u32 (xd : Int)) rfl
      have f4 := HB9.out.1.frozen 4
      have f0 := HB9.out.1.frozen 0
      go_region
      obtain ⟨xt, hxt⟩ : ∃ xt, xt = (xd + t) % 4294967296 := ⟨_, rfl⟩
      have ev : ((xd : Int) + (t : Int)) % 4294967296 = ((xt : Nat) : Int) := by rw [hxt]; simp
      rw [ev]
      have HX := Lib.hid (And.intro hxt ev)
      have hB10 := (HB9.out.1.set 4 (.int .u32 (xt : Int))).drew
      have hT10 : Touch (fun k => k = sb) wr (w8.setCell ⟨sb, 4, none⟩ (.int .u32 (xt : Int))).drew := (Touch.setCell HB9.out.2 (fun _ => rfl) _).drew
      obtain ⟨w10, hw10⟩ : ∃ w10, w10 = (w8.setCell ⟨sb, 4, none⟩ (.int .u32 (xt : Int))).drew := ⟨_, rfl⟩
      rw [← hw10] at hB10 hT10
      have f0 := hB10.frozen 0
      have c0 : w10.cell? ⟨sb, 0, none⟩ = some (.int .u32 (xa : Int)) := hB10.cell 0 rfl
      have H10 : Hid (Blk w10 sb T (u32s [xa, xa, xb, xc, xt, xe, xf, xg]).toArray ∧ Touch (fun k => k = sb) wr w10) := Lib.hid ⟨hB10, hT10⟩
      rw [← hw10]
      clear hxt ev hB10 hT10 hw10 c4 f4
      go_wp2_with fail
      have wtu : IntKind.u32.wrap ((t : Int) + (u : Int)) = (((t + u) % M32 : Nat) : Int) := wrap_u32 t u
      try rw [wtu]
      have vtu : ((t : Int) + (u : Int)) % 4294967296 = (((t + u) % M32 : Nat) : Int) := by simp [M32]
      try rw [vtu]
      go_roundw
      case rel =>
        have hB11 := H10.out.1.set 0 (.int .u32 (((t + u) % M32 : Nat) : Int))
        have hT11 := Touch.setCell H10.out.2 (p := ⟨sb, 0, none⟩) (fun _ => rfl) (.int .u32 (((t + u) % M32 : Nat) : Int))
        obtain ⟨hR, hBs, hBo, hBk, ht, hsucc, hxk, hrr, hvx⟩ := HR.out
        have hs : shaRound [xa, xb, xc, xd, xe, xf, xg, xh] xk xx = [(t + u) % M32, xa, xb, xc, xt, xe, xf, xg] := by
          rw [HX.out.1, HT.out.1, HU.out.1]
          rfl
        rw [hs] at hsucc
        refine ⟨i + 1, by omega, by first | rfl | (congr 1; omega), by rw [hsucc]; rfl, ?_, ?_, ?_, ?_, ht.trans hT11⟩
        · rw [hsucc]
          intro x hx
          have hm : (t + u) % M32 < 4294967296 := Nat.mod_lt _ (by decide)
          have hm2 : xt < 4294967296 := by rw [HX.out.1]; exact Nat.mod_lt _ (by decide)
          simp only [List.mem_cons, List.not_mem_nil, or_false] at hx
          rcases hx with rfl | rfl | rfl | rfl | rfl | rfl | rfl | rfl <;> assumption
        · rw [hsucc]
          exact hB11
        · exact hBo.touch hT11 (fun e => by omega)
        · have := hBk.touch hT11 (fun e => by have := (Touch.then (S := fun _ => True) ((Touch.refl (fun _ => True) w).alloc _) HO.out.2.1 (fun _ _ _ => trivial)).size; have := HC2.out.size; have := HC3.out.size; omega)
          exact this
      case measure => simp [intOf]; omega
end Go.Proofs.Ythlkmofemnepbaa
