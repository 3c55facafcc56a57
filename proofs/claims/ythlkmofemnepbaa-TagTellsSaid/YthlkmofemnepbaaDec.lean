/-
  THE WALK of wire.Decode (layer 5).
-/
import Derived.Test.YthlkmofemnepbaaRows
import Derived.Test.YthlkmofemnepbaaEnc
import Derived.Laws.IdiomCopy
import Derived.Laws.ResultCell
namespace Go.Proofs.Ythlkmofemnepbaa
open Go.RowKit

theorem RdIs.touch2 {w w' : World} {rb base : Nat} {zs : List Int} {bad : Bool} (h : RdIs w rb base zs bad) {S : Nat → Prop} (ht : Touch S w w') (hS : ∀ k, k ≤ rb → ¬ S k) : RdIs w' rb base zs bad := by
  obtain ⟨a, cap, h⟩ := h
  exact ⟨a, cap, h.rd.touch ht (hS rb (Nat.le_refl _)), h.cells.touch ht (fun x hx _ => hS _ (Nat.le_of_lt (h.low x hx))), h.nil, h.le, h.cap,
    fun x hx => ⟨(h.apart x hx).1, (h.apart x hx).2.1, Nat.lt_of_lt_of_le (h.apart x hx).2.2 ht.size⟩, h.low⟩

/-- What has been read behind j numbers. -/
def decJ (zs : List Int) (j : Nat) : Pk := ⟨(rdSlots ((slotsN (decK zs)).take j) (rdTake zs false 1).2 (decK zs :: List.replicate 11 0)).1, List.replicate 16 0, List.replicate 8 0⟩
def decT (zs : List Int) (j : Nat) : List Int × Bool := (rdSlots ((slotsN (decK zs)).take j) (rdTake zs false 1).2 (decK zs :: List.replicate 11 0)).2
theorem decJ_ok (zs : List Int) (j : Nat) : (decJ zs j).Ok := pk_zero_ok _ (by rw [rdSlots_len]; rfl)
theorem decJ_succ (zs : List Int) (j : Nat) (s : Slot) (h : (slotsN (decK zs))[j]? = some s) : decJ zs (j + 1) = { decJ zs j with n := (decJ zs j).n.set s.i (numOf (rdTake (decT zs j).1 (decT zs j).2 (s.size : Int)).1) } := by
  unfold decJ decT
  rw [List.take_add_one, h]
  show (⟨(rdSlots ((slotsN (decK zs)).take j ++ [s]) _ _).1, _, _⟩ : Pk) = _
  rw [rdSlots_snoc]
theorem decT_succ (zs : List Int) (j : Nat) (s : Slot) (h : (slotsN (decK zs))[j]? = some s) : decT zs (j + 1) = (rdTake (decT zs j).1 (decT zs j).2 (s.size : Int)).2 := by
  unfold decT
  rw [List.take_add_one, h]
  show (rdSlots ((slotsN (decK zs)).take j ++ [s]) _ _).2 = _
  rw [rdSlots_snoc]
theorem decJ_kind (zs : List Int) (j : Nat) : (decJ zs j).n.getD 0 0 = decK zs := by
  show (rdSlots _ _ _).1.getD 0 0 = decK zs
  rw [rdSlots_keep]
  · rfl
  · intro hm
    rw [List.mem_map] at hm
    obtain ⟨s, hs, e⟩ := hm
    have := (slots_ok _ s (List.mem_of_mem_take hs)).i0
    omega
theorem decT_range (zs : List Int) (j : Nat) (hr : ∀ z ∈ zs, 0 ≤ z ∧ z < 256) : (∀ z ∈ (decT zs j).1, 0 ≤ z ∧ z < 256) ∧ (decT zs j).1.length ≤ zs.length := by
  have h := rdSlots_rest ((slotsN (decK zs)).take j) (rdTake zs false 1).2 (decK zs :: List.replicate 11 0) (rdTake_mem zs false 1 hr).2
  exact ⟨h.1, Nat.le_trans h.2 (rdTake_le zs false 1).2⟩

theorem results_row_tmp {P : Program} {fn : Func} {p u : Tmp} {ty : TypeId} (h : fn.results = #[.cell p ty, .tmp u]) (tmps : Array Value) (w : World) (g : Nat) (t : TypeId) (cs : Array Value) (d : TypeDesc)
    (hp : tmps.getD p undef = .pointer (some ⟨g, 0, none⟩)) (hB : Blk w g t cs) (hu : P.underlying ty = some d) (hd : (match d with | .struct _ | .array _ _ => true | _ => false) = true) (hi : (P.info? ty).map (·.size) = some cs.size) :
    (results fn tmps).run P w = .ok (.tuple #[.agg cs, tmps.getD u undef]) w := by
  rw [results_cell_tmp h, hp]
  simp only [asAddr, Sem.run_pure, Result.andThen_ok, run_loadVar_row w g t ty cs (0, 0) d hB hu hd hi]

/-- A part of a block is copied into: all of it, or nothing. -/
theorem step_copy_part {P : Program} {ops : Array Oper} {o : Oper} {a : Act} {w : World} {K : Act → World → Prop} {Q : Exit → Act → World → Prop} {E : Prop} (hgd : o.guard = none) (d s : Operand) (dT sT : TypeId)
    (ho : o.op = .call { callee := .builtin .copy, args := #[d, s], argTypes := #[dT, sT] }) (elem : TypeId) (hu : P.underlying dT = some (.slice elem)) (hsz : (P.info? elem).map (·.size) = some 1)
    (b off n dCap : Nat) (hd : a.eval d = .slice (some ⟨b, off, none⟩) n dCap) (ao : Option Addr) (m sCap : Nat) (hs : a.eval s = .slice ao m sCap) (T : TypeId) (A M B cs : List Value) (hB : Blk w b T (A ++ (M ++ B)).toArray) (hA : A.length = off) (hM : M.length = n)
    (hcs : cs.length = m) (hle : m = 0 ∨ m = n) (hsome : ao = none → m = 0) (hsl : SlAt w ao cs) (h1 : ∀ v ∈ cs, v.oneCell' = true)
    (h : ∀ w', Blk w' b T (A ++ ((if m = 0 then M else cs) ++ B)).toArray → Touch (fun k => k = b) w w' → K (a.put o.dst (goInt m)) w') :
    if Region.wanted o (yielded ops a.tmps) = true then Oper.wp P o a w K Q else E := by
  have hw : Region.wanted o (yielded ops a.tmps) = true := by simp [Region.wanted, hgd]
  rw [if_pos hw]
  by_cases hm : m = 0
  · have hrun := run_copy_none (P := P) w dT sT o.type elem (some ⟨b, off, none⟩) ao n dCap m sCap hu hsz (by rw [hm]; exact Nat.zero_min n)
    unfold Oper.wp
    simp only [execOp, ho, resolve, invoke, builtin, hd, hs, hrun, Result.andThen, Sem.run_bind, Sem.run_pure, List.map_toArray, List.map_cons, List.map_nil]
    have h2 := h w (by rw [if_pos hm]; exact hB) (Touch.refl _ _)
    rw [hm] at h2
    exact h2
  · have hmn : m = n := by omega
    cases ao with
    | none => exact absurd (hsome rfl) hm
    | some x =>
      subst hA
      have hth := hB.there A.length M.length (by simp [← Nat.add_assoc])
      have hrun := run_copy_cells (P := P) w dT sT o.type elem b A.length n dCap x m sCap cs hu hsz (by rw [hcs, hmn]; exact (Nat.min_self n).symm) (fun j v hj => hsl.at j v hj) (fun j hj => (hth j (by omega)).1) (fun j hj => (hth j (by omega)).2) h1
      unfold Oper.wp
      simp only [execOp, ho, resolve, invoke, builtin, hd, hs, hrun, Result.andThen, Sem.run_bind, Sem.run_pure, List.map_toArray, List.map_cons, List.map_nil]
      have h2 := h (w.setCells b A.length cs) (by rw [if_neg hm]; exact hB.setCells cs (by omega)) (Touch.setCells cs _ (Touch.refl _ w) (fun _ => rfl))
      rw [← hcs] at h2
      exact h2

theorem padN_part (x : List Int) (m : Nat) (hr : ∀ z ∈ x, 0 ≤ z ∧ z < 256) (hl : x.length = 0 ∨ x.length = m) : (if x.length = 0 then bn (List.replicate m 0) else bys x) = bn (padN x m) := by
  by_cases h : x.length = 0
  · rw [if_pos h, List.eq_nil_of_length_eq_zero h, padN_nil]
  · rw [if_neg h, ← bn_nats hr]
    have h2 : x.length = m := by omega
    unfold padN
    rw [h2, Nat.sub_self]
    simp

theorem rdTake_all (zs : List Int) (bad : Bool) (m : Nat) : (rdTake zs bad (m : Int)).1.length = 0 ∨ (rdTake zs bad (m : Int)).1.length = m := by
  rw [rdTake_eq]
  split
  · exact Or.inl rfl
  · right
    simp
    omega

structure DecInv (w : World) (zs : List Int) (rb base n1 n2 : Nat) (a : Option Addr) (j : Nat) (wr : World) : Prop where
  ht : Touch (fun _ => False) w wr
  h2 : Blk wr n2 25 (pkV Pk.zero)
  h1 : Blk wr n1 25 (pkV (decJ zs j))
  rd : RdIs wr rb base (decT zs j).1 (decT zs j).2
  hr : SlotsRow wr a (slotsN (decK zs))
  ap : ∀ x, a = some x → n1 < x.block
  lt : w.heap.size = n2 ∧ n2 < rb ∧ rb < n1

set_option maxRecDepth 100000 in
set_option maxHeartbeats 8000000 in
theorem wireDec_any (a0 : Option Addr) (len cap : Nat) (zs : List Int) (w : World) (hl : zs.length = len) (hz : SlAt w a0 (bys zs)) (hc : a0 = none → cap = 0) (hn : len ≤ 90000) (hr : ∀ z ∈ zs, 0 ≤ z ∧ z < 256) :
    Calls Try.prog 23 #[.slice a0 len cap] w fun e w' => e = .returned (.tuple #[.agg (pkV (if DecOk zs then decP zs else Pk.zero)), .int .i64 (if DecOk zs then 0 else 2)]) ∧ Below w.heap.size w w' := by
  have HZ := Lib.hid (And.intro hr (And.intro hl hn))
  have hz1 : SlAt (w.alloc (.cells (pkV Pk.zero) 25)) a0 (bys zs) := hz.alloc _
  go_enter Try.func23, Try.ntmps23
  go_wp2_with fail
  show Calls Try.prog 47 #[.slice a0 len cap] (w.alloc (.cells (pkV Pk.zero) 25)) _
  (with_reducible refine (open_rd a0 len cap zs _ hl hz1 hc hn).mono ?_)
  rintro e w1 ⟨rb, rfl, hrb, hrd, hb1⟩
  obtain ⟨n2, hn2⟩ : ∃ n2, n2 = w.heap.size := ⟨_, rfl⟩
  rw [← hn2]
  obtain ⟨base, hbase⟩ : ∃ b, b = (w.alloc (.cells (pkV Pk.zero) 25)).heap.size := ⟨_, rfl⟩
  have h1 : Touch (fun _ => False) w w1 ∧ Blk w1 n2 25 (pkV Pk.zero) ∧ RdIs w1 rb base zs false ∧ n2 < rb := by
    refine ⟨((Touch.refl _ w).alloc _).trans (Touch.of_below hb1), ?_, by rw [hbase]; exact hrd, ?_⟩
    · rw [hn2]
      exact (Blk.new w (pkV Pk.zero) 25).touch (Touch.of_below (S := fun _ => False) hb1) (fun h => h)
    · have h : (w.alloc (.cells (pkV Pk.zero) 25)).heap.size ≤ rb := hrb
      simp at h
      omega
  have H1 := Lib.hid h1
  have HN2 := Lib.hid hn2
  clear h1 hn2 hbase hrb hrd hb1 hz hz1 hl hc hn hr
  go_wp2_with fail
  (with_reducible refine (num_rd rb base zs false 1 w1 H1.out.2.2.1 (by rw [HZ.out.2.1]; exact HZ.out.2.2) HZ.out.1).mono ?_)
  rintro e w2 ⟨rfl, hrd2, hb2⟩
  obtain ⟨kd, hkd⟩ : ∃ kd, kd = decK zs := ⟨_, rfl⟩
  rw [show numOf (rdTake zs false ((fitN 1 : Nat) : Int)).1 = kd by rw [hkd]; rfl]
  have H2 : Hid (Touch (fun _ => False) w w2 ∧ Blk w2 n2 25 (pkV Pk.zero) ∧ RdIs w2 rb base (rdTake zs false 1).2.1 (rdTake zs false 1).2.2 ∧ n2 < rb ∧ rb < w2.heap.size) := Lib.hid (by
    obtain ⟨q1, q2, q3, q4⟩ := H1.out
    have hz := q1.size
    have hn := HN2.out
    have hlt : rb < w1.heap.size := by obtain ⟨_, _, h⟩ := q3; exact h.rd.lt
    exact ⟨Touch.then q1 hb2 (fun i hi e => by omega), q2.touch hb2 (by omega), hrd2, q4, Nat.lt_of_lt_of_le hlt hb2.size⟩)
  have HK := Lib.hid hkd
  clear hrd2 hb2 hkd
  go_wp2_with ((with_reducible refine at_op (.store 25 (.tmp 5) (.tmp 12)) rfl ?_); refine wpList_store_blk rfl 25 (.tmp 5) (.tmp 12) rfl w2.heap.size 25 _ _ rfl rfl (Blk.new _ _ _) (by kernel_rfl) (by kernel_rfl) (by kernel_rfl) ?_; intro w3 hB3 ht3 hs3; have c3 : w3.cell? ⟨w2.heap.size, 0, none⟩ = some (.int .i64 kd) := hB3.cell 0 rfl; have HB3 := Lib.hid (And.intro hB3 ht3); clear hB3 ht3 hs3)
  (with_reducible refine (slots_any kd _).mono ?_)
  rintro e w4 ⟨v, rfl, hb4, hsl⟩
  obtain ⟨a, rfl, hrow⟩ := hsl.row
  obtain ⟨n1, hn1⟩ : ∃ n1, n1 = w2.heap.size := ⟨_, rfl⟩
  rw [← hn1]
  obtain ⟨L, hL⟩ : ∃ L, L = slotsN kd := ⟨_, rfl⟩
  rw [← hL] at hrow ⊢
  have HL : Hid (L = slotsN (decK zs)) := Lib.hid (by rw [← HK.out]; exact hL)
  have HAP : Hid (w.heap.size = n2 ∧ n2 < rb ∧ rb < n1) := Lib.hid ⟨HN2.out.symm, H2.out.2.2.2.1, by rw [hn1]; exact H2.out.2.2.2.2⟩
  have HI0 : Hid (DecInv w zs rb base n1 n2 a 0 w4) := Lib.hid (by
    obtain ⟨q1, q2, q3, q4, q5⟩ := H2.out
    obtain ⟨B3, t3⟩ := HB3.out
    have hz1 := q1.size
    have t34 : Touch (fun k => k = n1) w2 w4 := Touch.then (S := fun k => k = n1) (((Touch.refl _ w2).alloc _).trans (by rw [hn1]; exact t3)) (Touch.of_below (S := fun _ => False) hb4) (fun _ _ h => h.elim)
    have hlt2 := q2.lt
    refine ⟨Touch.then q1 t34 (fun i hi e => by omega), q2.touch t34 (by omega), ?_, ?_, by rw [← HL.out]; exact hrow, ?_, HAP.out⟩
    · rw [hn1]
      have e : decJ zs 0 = ⟨kd :: List.replicate 11 0, List.replicate 16 0, List.replicate 8 0⟩ := by rw [HK.out]; rfl
      rw [e]
      exact (show Blk w3 w2.heap.size 25 (pkV ⟨kd :: List.replicate 11 0, List.replicate 16 0, List.replicate 8 0⟩) from B3).touch (Touch.of_below (S := fun _ => False) hb4) (fun h => h)
    · exact q3.touch2 t34 (fun k hk e => by omega)
    · intro x hx
      have h3 := B3.lt
      rcases hsl with ⟨_, e⟩ | ⟨b, hb, e, _⟩
      · have ha := (Value.slice.inj e).1
        rw [hx] at ha
        cases ha
      · have ha := (Value.slice.inj e).1
        rw [hx] at ha
        have hx2 : x = ⟨b, 0, none⟩ := Option.some.inj ha
        rw [hx2]
        show n1 < b
        omega)
  clear hsl hrow hL hn1 hb4 c3
  go_wp2_with fail
  go_loopw [17] (fun i wr => ∃ j : Nat, j ≤ L.length ∧ i = .int .i64 j ∧ DecInv w zs rb base n1 n2 a j wr) (fun i _ => (L.length - intOf i).toNat)
  case atStart => exact ⟨0, Nat.zero_le _, rfl, HI0.out⟩
  case round =>
    obtain ⟨j, hj, rfl, hI⟩ := hrel
    have HI := Lib.hid hI
    clear hI
    by_cases hq : j = L.length
    · subst hq
      clear hj
      obtain ⟨PJ, hPJ⟩ : ∃ PJ, PJ = decJ zs L.length := ⟨_, rfl⟩
      obtain ⟨st, hst⟩ : ∃ st, st = decT zs L.length := ⟨_, rfl⟩
      have hfull : PJ.n = (decS zs).1 ∧ st = (decS zs).2 := by
        rw [hPJ, hst]
        unfold decJ decT decS
        rw [List.take_of_length_le (by rw [HL.out]; exact Nat.le_refl _)]
        exact ⟨rfl, rfl⟩
      have hPz : PJ = ⟨PJ.n, List.replicate 16 0, List.replicate 8 0⟩ := by rw [hPJ]; rfl
      have HRS : Hid ((∀ z ∈ st.1, 0 ≤ z ∧ z < 256) ∧ st.1.length ≤ 90000) := Lib.hid (by
        have h := decT_range zs L.length HZ.out.1
        rw [hst]
        exact ⟨h.1, Nat.le_trans h.2 (by rw [HZ.out.2.1]; exact HZ.out.2.2)⟩)
      have HJO : Hid PJ.Ok := Lib.hid (by rw [hPJ]; exact decJ_ok _ _)
      have HS : Hid (RdIs wr rb base st.1 st.2 ∧ Blk wr n1 25 (pkV PJ) ∧ Blk wr n2 25 (pkV Pk.zero) ∧ Touch (fun _ => False) w wr) := Lib.hid (by
        rw [hst, hPJ]
        exact ⟨HI.out.rd, HI.out.h1, HI.out.h2, HI.out.ht⟩)
      have c0 : wr.cell? ⟨n1, 0, none⟩ = some (.int .i64 kd) := by
        rw [HK.out, ← decJ_kind zs L.length, ← hPJ]
        exact HS.out.2.1.num HJO.out 0 (by decide)
      have HPJ := Lib.hid (And.intro hPJ (And.intro hPz (And.intro hfull.1 hfull.2)))
      clear hPJ hst hfull hPz
      go_wp2_with fail
      (with_reducible refine (sealed_any kd _).mono ?_)
      rintro e _ ⟨rfl, rfl⟩
      obtain ⟨q, hSd⟩ : ∃ q, sealedN kd = q := ⟨_, rfl⟩
      rw [hSd]
      have HSd := Lib.hid hSd
      clear hSd
      cases q
      · go_wp2_with fail
        (with_reducible refine (tagged_any kd _).mono ?_)
        rintro e _ ⟨rfl, rfl⟩
        obtain ⟨q, hT⟩ : ∃ q, taggedN kd = q := ⟨_, rfl⟩
        rw [hT]
        have HT := Lib.hid hT
        clear hT c0
        cases q
        · have HE : Hid (Touch (fun _ => False) w wr ∧ Blk wr n2 25 (pkV Pk.zero) ∧ Blk wr n1 25 (pkV (decP zs)) ∧ RdIs wr rb base (decY zs).2.1 (decY zs).2.2) := Lib.hid (by
            have hx : decX zs = ([], st) := by unfold decX; rw [← HK.out, HSd.out, HPJ.out.2.2.2]; rfl
            have hy : decY zs = ([], st) := by unfold decY; rw [← HK.out, HT.out, hx]; rfl
            refine ⟨HS.out.2.2.2, HS.out.2.2.1, ?_, by rw [hy]; exact HS.out.1⟩
            have e : decP zs = PJ := by
              unfold decP
              rw [hx, hy, HPJ.out.2.1, HPJ.out.2.2.1]
              rfl
            rw [e]
            exact HS.out.2.1)
          go_wp2_with fail
          (with_reducible refine (done_rd rb base (decY zs).2.1 (decY zs).2.2 _ HE.out.2.2.2).mono ?_)
          rintro e _ ⟨rfl, rfl⟩
          obtain ⟨q, hq⟩ : ∃ q, (!(decY zs).2.2 && (decY zs).2.1.isEmpty) = q := ⟨_, rfl⟩
          rw [hq]
          have HQ := Lib.hid hq
          clear hq
          cases q
          · have hno : ¬ DecOk zs := fun h => by
              have h1 := HQ.out
              rw [h.1, h.2.1] at h1
              cases h1
            have HNO := Lib.hid hno
            clear hno
            go_wp2_with ((with_reducible refine at_op (.store 25 (.tmp 2) (.tmp 54)) rfl ?_); refine wpList_store_blk rfl 25 (.tmp 2) (.tmp 54) rfl n2 25 (pkV Pk.zero) (pkV Pk.zero) rfl rfl HE.out.2.1 (by kernel_rfl) (by kernel_rfl) (pkV_one _) ?_; intro wz hBz htz hsz; have HF9 := Lib.hid (And.intro hBz htz); clear hBz htz hsz)
            refine bodyPost_ret (results_row_tmp rfl _ _ n2 25 (pkV Pk.zero) _ rfl HF9.out.1 Try.underlying25 rfl (by kernel_rfl)) rfl ⟨by first | rfl | (rw [if_neg HNO.out]; first | rfl | (rw [if_neg HNO.out]; rfl)), ?_⟩
            exact (Touch.then HE.out.1 HF9.out.2 (fun i hi e => by have := HAP.out; omega)).below (Nat.le_refl _) (fun _ _ h => h)
          · go_wp2_with ((with_reducible refine at_op (.load 25 (.tmp 5)) rfl ?_); refine wpList_load_blk_g (by rfl) 25 (.tmp 5) rfl n1 25 (pkV (decP zs)) _ rfl HE.out.2.2.1 Try.underlying25 rfl (by rw [pkV_size (decP_ok zs HZ.out.1)]; first | done | kernel_rfl) ?_)
            (with_reducible refine (wireRight_any (decP zs) (decP_ok zs HZ.out.1) _).mono ?_)
            rintro e w9 ⟨rfl, hb9⟩
            have h9 : Touch (fun _ => False) w w9 ∧ Blk w9 n2 25 (pkV Pk.zero) ∧ Blk w9 n1 25 (pkV (decP zs)) := ⟨HE.out.1.trans (Touch.of_below hb9), HE.out.2.1.touch (Touch.of_below (S := fun _ => False) hb9) (fun h => h), HE.out.2.2.1.touch (Touch.of_below (S := fun _ => False) hb9) (fun h => h)⟩
            have H9 := Lib.hid h9
            clear h9 hb9
            by_cases hR : RightN (decP zs)
            · have hy : DecOk zs := by
                have h1 := HQ.out
                simp at h1
                exact ⟨h1.1, h1.2, hR⟩
              rw [decide_eq_true hR]
              have HY := Lib.hid hy
              clear hy hR
              go_wp2_with (first
                | ((with_reducible refine at_op (.load 25 (.tmp 5)) rfl ?_); refine wpList_load_blk rfl 25 (.tmp 5) rfl n1 25 (pkV (decP zs)) _ rfl H9.out.2.2 Try.underlying25 rfl (by rw [pkV_size (decP_ok zs HZ.out.1)]; first | done | kernel_rfl) ?_)
                | ((with_reducible refine at_op (.store 25 (.tmp 2) (.tmp 55)) rfl ?_); refine wpList_store_blk rfl 25 (.tmp 2) (.tmp 55) rfl n2 25 (pkV Pk.zero) (pkV (decP zs)) rfl rfl H9.out.2.1 (by rw [pkV_size (decP_ok zs HZ.out.1)]; first | done | kernel_rfl) (by rw [pkV_size (decP_ok zs HZ.out.1)]; first | done | kernel_rfl) (pkV_one _) ?_; intro wz hBz htz hsz; have HF9 := Lib.hid (And.intro hBz htz); clear hBz htz hsz))
              refine bodyPost_ret (results_row_tmp rfl _ _ n2 25 (pkV (decP zs)) _ rfl HF9.out.1 Try.underlying25 rfl (by rw [pkV_size (decP_ok zs HZ.out.1)]; first | done | kernel_rfl)) rfl ⟨by first | rfl | (rw [if_pos HY.out]; first | rfl | (rw [if_pos HY.out]; rfl)), ?_⟩
              exact (Touch.then H9.out.1 HF9.out.2 (fun i hi e => by have := HAP.out; omega)).below (Nat.le_refl _) (fun _ _ h => h)
            · have hno : ¬ DecOk zs := fun h => hR h.2.2
              rw [decide_eq_false hR]
              have HNO := Lib.hid hno
              clear hno hR
              go_wp2_with ((with_reducible refine at_op (.store 25 (.tmp 2) (.tmp 54)) rfl ?_); refine wpList_store_blk rfl 25 (.tmp 2) (.tmp 54) rfl n2 25 (pkV Pk.zero) (pkV Pk.zero) rfl rfl H9.out.2.1 (by kernel_rfl) (by kernel_rfl) (pkV_one _) ?_; intro wz hBz htz hsz; have HF9 := Lib.hid (And.intro hBz htz); clear hBz htz hsz)
              refine bodyPost_ret (results_row_tmp rfl _ _ n2 25 (pkV Pk.zero) _ rfl HF9.out.1 Try.underlying25 rfl (by kernel_rfl)) rfl ⟨by first | rfl | (rw [if_neg HNO.out]; first | rfl | (rw [if_neg HNO.out]; rfl)), ?_⟩
              exact (Touch.then H9.out.1 HF9.out.2 (fun i hi e => by have := HAP.out; omega)).below (Nat.le_refl _) (fun _ _ h => h)
        · obtain ⟨TK, hTK⟩ : ∃ TK, TK = (rdTake st.1 st.2 8).1 := ⟨_, rfl⟩
          have hx : decX zs = ([], st) := by unfold decX; rw [← HK.out, HSd.out, HPJ.out.2.2.2]; rfl
          have hy : decY zs = rdTake st.1 st.2 8 := by unfold decY; rw [← HK.out, HT.out, hx]; rfl
          have HTK : Hid (TK = (rdTake st.1 st.2 8).1 ∧ (decY zs).2.1 = (rdTake st.1 st.2 8).2.1 ∧ (decY zs).2.2 = (rdTake st.1 st.2 8).2.2 ∧ (TK.length = 0 ∨ TK.length = 8) ∧ (ints PJ.n ++ bn (List.replicate 16 0)).length = 28 ∧ (∀ z ∈ TK, 0 ≤ z ∧ z < 256) ∧ decP zs = ⟨PJ.n, List.replicate 16 0, padN TK 8⟩) :=
            Lib.hid ⟨hTK, by rw [hy], by rw [hy], by rw [hTK]; exact rdTake_all _ _ 8, by rw [List.length_append, ints_length, HJO.out.hn, bn_len]; rfl, by rw [hTK]; exact (rdTake_mem _ _ 8 HRS.out.1).1, by
              unfold decP
              rw [hx, hy, HPJ.out.2.2.1, ← hTK]
              rfl⟩
          clear hTK hx hy
          have HS2 : Hid (Blk wr n2 25 (pkV Pk.zero) ∧ Touch (fun _ => False) w wr) := Lib.hid HS.out.2.2
          have HS : Hid (RdIs wr rb base st.1 st.2 ∧ Blk wr n1 25 ((ints PJ.n ++ bn (List.replicate 16 0)) ++ (bn (List.replicate 8 0) ++ [])).toArray) := Lib.hid ⟨HS.out.1, by
            have h := HS.out.2.1
            rw [HPJ.out.2.1, pkV_split_tag] at h
            exact h⟩
          go_wp2_with fail
          refine wp_region_held_drew (S := fun _ => True) (by kernel_rfl) trivial (fun _ => ?_)
          refine anyH_world (R := fun w' : World => TG wr w') ((TG.refl wr).drew) ?_
          intro W0y hHeld
          refine region_take 0 (v := ?vy0_1) rfl rfl (by kernel_rfl) (by kernel_rfl) (by kernel_rfl) (fun _ _ _ h => h) trivial (Or.inl ⟨by rfl, ?yy0_1⟩) ?ry0_1
          case yy0_1 => (intro w hSw; (try dsimp only at hSw); go_simp; try with_reducible rfl)
          try simp only [Act.put, List.setIfInBounds_toArray, List.set_cons_zero, List.set_cons_succ]
          refine region_take 1 (v := ?vy1_2) rfl rfl (by kernel_rfl) (by kernel_rfl) (by kernel_rfl) (fun _ _ _ h => h) trivial (Or.inl ⟨by rfl, ?yy1_2⟩) ?ry1_2
          case yy1_2 => (intro w hSw; (try dsimp only at hSw); go_simp; try with_reducible rfl)
          try simp only [Act.put, List.setIfInBounds_toArray, List.set_cons_zero, List.set_cons_succ]
          refine region_take 2 (v := ?vy2_3) rfl rfl (by kernel_rfl) (by kernel_rfl) (by kernel_rfl) (fun _ _ _ h => h) trivial (Or.inl ⟨by rfl, ?yy2_3⟩) ?ry2_3
          case yy2_3 => (intro w hSw; (try dsimp only at hSw); go_simp; try with_reducible rfl)
          try simp only [Act.put, List.setIfInBounds_toArray, List.set_cons_zero, List.set_cons_succ]
          refine region_one 3 (by kernel_rfl) rfl (fun K hK => ?_)
          go_simp
          go_at_call 49
          (with_reducible refine (take_rd rb base st.1 st.2 8 _ (HS.out.1.touch2 (hHeld).still2 (fun _ _ h => h)) HRS.out.2).mono ?_)
          rintro e uy_4 ⟨v, rfl, ho8, hrd8, hb8⟩
          rw [← HTK.out.1] at ho8
          rw [← HTK.out.2.1, ← HTK.out.2.2.1] at hrd8
          obtain ⟨ao, co, rfl, q1, q2, q3, q4⟩ := owns_form ho8
          have HV := Lib.hid (And.intro (SlAt.of_owns ho8) (And.intro hrd8 (And.intro (Blk.touch (Blk.tg HS.out.2 hHeld) hb8 (by have := HAP.out; omega)) (And.intro (Touch.then (S := fun k => k = rb) ((hHeld).still2.mono (fun _ _ h => h.elim)) hb8 (fun _ _ h => h)) (fun h : ao = none => (q1 h).1)))))
          clear ho8 hrd8 q1 q2 q3 q4
          have ht := hb8
          have hHeld2 := ((TG.refl uy_4))
          clear hHeld ht
          have hHeld := hHeld2
          clear hHeld2
          refine hK.out _ _ trivial (fun _ => ?_)
          clear hK K
          try simp only [Act.put, List.setIfInBounds_toArray, List.set_cons_zero, List.set_cons_succ]
          refine region_one 4 (by kernel_rfl) rfl (fun K hK => ?_)
          refine step_copy_part rfl (.tmp 42) (.tmp 44) 26 26 rfl 5 Try.underlying26 (by kernel_rfl) n1 28 8 8 rfl ao TK.length co rfl 25 (ints PJ.n ++ bn (List.replicate 16 0)) (bn (List.replicate 8 0)) [] (bys TK) HV.out.2.2.1 HTK.out.2.2.2.2.1 (by rw [bn_len]; rfl) (bys_length _) HTK.out.2.2.2.1 HV.out.2.2.2.2 HV.out.1 (bys_one _) ?_
          intro uy_5 hB9 ht9
          have H9c := Lib.hid (And.intro hB9 ht9)
          clear hB9
          have ht := ht9
          clear hHeld ht
          refine hK.out _ _ trivial (fun _ => ?_)
          clear hK K
          try simp only [Act.put]
          refine wpAnyH_done (by kernel_rfl) ?_ _
          have HE : Hid (Touch (fun _ => False) w uy_5 ∧ Blk uy_5 n2 25 (pkV Pk.zero) ∧ Blk uy_5 n1 25 (pkV (decP zs)) ∧ RdIs uy_5 rb base (decY zs).2.1 (decY zs).2.2) := Lib.hid (by
            obtain ⟨v1, v2, v3, v4, v5⟩ := HV.out
            obtain ⟨b9, t9⟩ := H9c.out
            have hap := HAP.out
            have tA := Touch.then (S := fun k => k = rb ∨ k = n1) (v4.mono (fun _ _ h => Or.inl h)) t9 (fun _ _ h => Or.inr h)
            have hz := HS2.out.2.size
            refine ⟨Touch.then HS2.out.2 tA (fun m hm e => by omega), HS2.out.1.touch tA (by omega), ?_, v2.touch2 t9 (fun k hk e => by omega)⟩
            rw [HTK.out.2.2.2.2.2.2]
            rw [padN_part TK 8 HTK.out.2.2.2.2.2.1 HTK.out.2.2.2.1] at b9
            rw [pkV_split_tag]
            exact b9)
          go_wp2_with fail
          (with_reducible refine (done_rd rb base (decY zs).2.1 (decY zs).2.2 _ HE.out.2.2.2).mono ?_)
          rintro e _ ⟨rfl, rfl⟩
          obtain ⟨q, hq⟩ : ∃ q, (!(decY zs).2.2 && (decY zs).2.1.isEmpty) = q := ⟨_, rfl⟩
          rw [hq]
          have HQ := Lib.hid hq
          clear hq
          cases q
          · have hno : ¬ DecOk zs := fun h => by
              have h1 := HQ.out
              rw [h.1, h.2.1] at h1
              cases h1
            have HNO := Lib.hid hno
            clear hno
            go_wp2_with ((with_reducible refine at_op (.store 25 (.tmp 2) (.tmp 54)) rfl ?_); refine wpList_store_blk rfl 25 (.tmp 2) (.tmp 54) rfl n2 25 (pkV Pk.zero) (pkV Pk.zero) rfl rfl HE.out.2.1 (by kernel_rfl) (by kernel_rfl) (pkV_one _) ?_; intro wz hBz htz hsz; have HF9 := Lib.hid (And.intro hBz htz); clear hBz htz hsz)
            refine bodyPost_ret (results_row_tmp rfl _ _ n2 25 (pkV Pk.zero) _ rfl HF9.out.1 Try.underlying25 rfl (by kernel_rfl)) rfl ⟨by first | rfl | (rw [if_neg HNO.out]; first | rfl | (rw [if_neg HNO.out]; rfl)), ?_⟩
            exact (Touch.then HE.out.1 HF9.out.2 (fun i hi e => by have := HAP.out; omega)).below (Nat.le_refl _) (fun _ _ h => h)
          · go_wp2_with ((with_reducible refine at_op (.load 25 (.tmp 5)) rfl ?_); refine wpList_load_blk_g (by rfl) 25 (.tmp 5) rfl n1 25 (pkV (decP zs)) _ rfl HE.out.2.2.1 Try.underlying25 rfl (by rw [pkV_size (decP_ok zs HZ.out.1)]; first | done | kernel_rfl) ?_)
            (with_reducible refine (wireRight_any (decP zs) (decP_ok zs HZ.out.1) _).mono ?_)
            rintro e w9 ⟨rfl, hb9⟩
            have h9 : Touch (fun _ => False) w w9 ∧ Blk w9 n2 25 (pkV Pk.zero) ∧ Blk w9 n1 25 (pkV (decP zs)) := ⟨HE.out.1.trans (Touch.of_below hb9), HE.out.2.1.touch (Touch.of_below (S := fun _ => False) hb9) (fun h => h), HE.out.2.2.1.touch (Touch.of_below (S := fun _ => False) hb9) (fun h => h)⟩
            have H9 := Lib.hid h9
            clear h9 hb9
            by_cases hR : RightN (decP zs)
            · have hy : DecOk zs := by
                have h1 := HQ.out
                simp at h1
                exact ⟨h1.1, h1.2, hR⟩
              rw [decide_eq_true hR]
              have HY := Lib.hid hy
              clear hy hR
              go_wp2_with (first
                | ((with_reducible refine at_op (.load 25 (.tmp 5)) rfl ?_); refine wpList_load_blk rfl 25 (.tmp 5) rfl n1 25 (pkV (decP zs)) _ rfl H9.out.2.2 Try.underlying25 rfl (by rw [pkV_size (decP_ok zs HZ.out.1)]; first | done | kernel_rfl) ?_)
                | ((with_reducible refine at_op (.store 25 (.tmp 2) (.tmp 55)) rfl ?_); refine wpList_store_blk rfl 25 (.tmp 2) (.tmp 55) rfl n2 25 (pkV Pk.zero) (pkV (decP zs)) rfl rfl H9.out.2.1 (by rw [pkV_size (decP_ok zs HZ.out.1)]; first | done | kernel_rfl) (by rw [pkV_size (decP_ok zs HZ.out.1)]; first | done | kernel_rfl) (pkV_one _) ?_; intro wz hBz htz hsz; have HF9 := Lib.hid (And.intro hBz htz); clear hBz htz hsz))
              refine bodyPost_ret (results_row_tmp rfl _ _ n2 25 (pkV (decP zs)) _ rfl HF9.out.1 Try.underlying25 rfl (by rw [pkV_size (decP_ok zs HZ.out.1)]; first | done | kernel_rfl)) rfl ⟨by first | rfl | (rw [if_pos HY.out]; first | rfl | (rw [if_pos HY.out]; rfl)), ?_⟩
              exact (Touch.then H9.out.1 HF9.out.2 (fun i hi e => by have := HAP.out; omega)).below (Nat.le_refl _) (fun _ _ h => h)
            · have hno : ¬ DecOk zs := fun h => hR h.2.2
              rw [decide_eq_false hR]
              have HNO := Lib.hid hno
              clear hno hR
              go_wp2_with ((with_reducible refine at_op (.store 25 (.tmp 2) (.tmp 54)) rfl ?_); refine wpList_store_blk rfl 25 (.tmp 2) (.tmp 54) rfl n2 25 (pkV Pk.zero) (pkV Pk.zero) rfl rfl H9.out.2.1 (by kernel_rfl) (by kernel_rfl) (pkV_one _) ?_; intro wz hBz htz hsz; have HF9 := Lib.hid (And.intro hBz htz); clear hBz htz hsz)
              refine bodyPost_ret (results_row_tmp rfl _ _ n2 25 (pkV Pk.zero) _ rfl HF9.out.1 Try.underlying25 rfl (by kernel_rfl)) rfl ⟨by first | rfl | (rw [if_neg HNO.out]; first | rfl | (rw [if_neg HNO.out]; rfl)), ?_⟩
              exact (Touch.then H9.out.1 HF9.out.2 (fun i hi e => by have := HAP.out; omega)).below (Nat.le_refl _) (fun _ _ h => h)
      · have hT : taggedN kd = false := by
          have h := HSd.out
          simp [sealedN] at h
          simp [taggedN]
          omega
        have HT := Lib.hid hT
        clear hT c0
        obtain ⟨TK, hTK⟩ : ∃ TK, TK = (rdTake st.1 st.2 16).1 := ⟨_, rfl⟩
        have hx : decX zs = rdTake st.1 st.2 16 := by unfold decX; rw [← HK.out, HSd.out, ← HPJ.out.2.2.2]; rfl
        have hy : decY zs = ([], (rdTake st.1 st.2 16).2) := by unfold decY; rw [← HK.out, HT.out, hx]; rfl
        have HTK : Hid (TK = (rdTake st.1 st.2 16).1 ∧ (decY zs).2.1 = (rdTake st.1 st.2 16).2.1 ∧ (decY zs).2.2 = (rdTake st.1 st.2 16).2.2 ∧ (TK.length = 0 ∨ TK.length = 16) ∧ (ints PJ.n).length = 12 ∧ (∀ z ∈ TK, 0 ≤ z ∧ z < 256) ∧ decP zs = ⟨PJ.n, padN TK 16, List.replicate 8 0⟩) :=
          Lib.hid ⟨hTK, by rw [hy], by rw [hy], by rw [hTK]; exact rdTake_all _ _ 16, by rw [ints_length, HJO.out.hn], by rw [hTK]; exact (rdTake_mem _ _ 16 HRS.out.1).1, by
            unfold decP
            rw [hx, hy, HPJ.out.2.2.1, ← hTK]
            rfl⟩
        clear hTK hx hy
        have HS2 : Hid (Blk wr n2 25 (pkV Pk.zero) ∧ Touch (fun _ => False) w wr) := Lib.hid HS.out.2.2
        have HS : Hid (RdIs wr rb base st.1 st.2 ∧ Blk wr n1 25 (ints PJ.n ++ (bn (List.replicate 16 0) ++ bn (List.replicate 8 0))).toArray) := Lib.hid ⟨HS.out.1, by
          have h := HS.out.2.1
          rw [HPJ.out.2.1] at h
          exact h⟩
        go_wp2_with fail
        refine wp_region_held_drew (S := fun _ => True) (by kernel_rfl) trivial (fun _ => ?_)
        refine anyH_world (R := fun w' : World => TG wr w') ((TG.refl wr).drew) ?_
        intro W0x hHeld
        refine region_take 0 (v := ?vx0_1) rfl rfl (by kernel_rfl) (by kernel_rfl) (by kernel_rfl) (fun _ _ _ h => h) trivial (Or.inl ⟨by rfl, ?yx0_1⟩) ?rx0_1
        case yx0_1 => (intro w hSw; (try dsimp only at hSw); go_simp; try with_reducible rfl)
        try simp only [Act.put, List.setIfInBounds_toArray, List.set_cons_zero, List.set_cons_succ]
        refine region_take 1 (v := ?vx1_2) rfl rfl (by kernel_rfl) (by kernel_rfl) (by kernel_rfl) (fun _ _ _ h => h) trivial (Or.inl ⟨by rfl, ?yx1_2⟩) ?rx1_2
        case yx1_2 => (intro w hSw; (try dsimp only at hSw); go_simp; try with_reducible rfl)
        try simp only [Act.put, List.setIfInBounds_toArray, List.set_cons_zero, List.set_cons_succ]
        refine region_take 2 (v := ?vx2_3) rfl rfl (by kernel_rfl) (by kernel_rfl) (by kernel_rfl) (fun _ _ _ h => h) trivial (Or.inl ⟨by rfl, ?yx2_3⟩) ?rx2_3
        case yx2_3 => (intro w hSw; (try dsimp only at hSw); go_simp; try with_reducible rfl)
        try simp only [Act.put, List.setIfInBounds_toArray, List.set_cons_zero, List.set_cons_succ]
        refine region_one 3 (by kernel_rfl) rfl (fun K hK => ?_)
        go_simp
        go_at_call 49
        (with_reducible refine (take_rd rb base st.1 st.2 16 _ (HS.out.1.touch2 (hHeld).still2 (fun _ _ h => h)) HRS.out.2).mono ?_)
        rintro e ux_4 ⟨v, rfl, ho8, hrd8, hb8⟩
        rw [← HTK.out.1] at ho8
        rw [← HTK.out.2.1, ← HTK.out.2.2.1] at hrd8
        obtain ⟨ao, co, rfl, q1, q2, q3, q4⟩ := owns_form ho8
        have HV := Lib.hid (And.intro (SlAt.of_owns ho8) (And.intro hrd8 (And.intro (Blk.touch (Blk.tg HS.out.2 hHeld) hb8 (by have := HAP.out; omega)) (And.intro (Touch.then (S := fun k => k = rb) ((hHeld).still2.mono (fun _ _ h => h.elim)) hb8 (fun _ _ h => h)) (fun h : ao = none => (q1 h).1)))))
        clear ho8 hrd8 q1 q2 q3 q4
        have ht := hb8
        have hHeld2 := ((TG.refl ux_4))
        clear hHeld ht
        have hHeld := hHeld2
        clear hHeld2
        refine hK.out _ _ trivial (fun _ => ?_)
        clear hK K
        try simp only [Act.put, List.setIfInBounds_toArray, List.set_cons_zero, List.set_cons_succ]
        refine region_one 4 (by kernel_rfl) rfl (fun K hK => ?_)
        refine step_copy_part rfl (.tmp 34) (.tmp 36) 26 26 rfl 5 Try.underlying26 (by kernel_rfl) n1 12 16 16 rfl ao TK.length co rfl 25 (ints PJ.n) (bn (List.replicate 16 0)) (bn (List.replicate 8 0)) (bys TK) HV.out.2.2.1 HTK.out.2.2.2.2.1 (by rw [bn_len]; rfl) (bys_length _) HTK.out.2.2.2.1 HV.out.2.2.2.2 HV.out.1 (bys_one _) ?_
        intro ux_5 hB9 ht9
        have H9c := Lib.hid (And.intro hB9 ht9)
        clear hB9
        have ht := ht9
        clear hHeld ht
        refine hK.out _ _ trivial (fun _ => ?_)
        clear hK K
        try simp only [Act.put]
        refine wpAnyH_done (by kernel_rfl) ?_ _
        have HE : Hid (Touch (fun _ => False) w ux_5 ∧ Blk ux_5 n2 25 (pkV Pk.zero) ∧ Blk ux_5 n1 25 (pkV (decP zs)) ∧ RdIs ux_5 rb base (decY zs).2.1 (decY zs).2.2) := Lib.hid (by
          obtain ⟨v1, v2, v3, v4, v5⟩ := HV.out
          obtain ⟨b9, t9⟩ := H9c.out
          have hap := HAP.out
          have tA := Touch.then (S := fun k => k = rb ∨ k = n1) (v4.mono (fun _ _ h => Or.inl h)) t9 (fun _ _ h => Or.inr h)
          have hz := HS2.out.2.size
          refine ⟨Touch.then HS2.out.2 tA (fun m hm e => by omega), HS2.out.1.touch tA (by omega), ?_, v2.touch2 t9 (fun k hk e => by omega)⟩
          rw [HTK.out.2.2.2.2.2.2]
          rw [padN_part TK 16 HTK.out.2.2.2.2.2.1 HTK.out.2.2.2.1] at b9
          exact b9)
        have c9 : ux_5.cell? ⟨n1, 0, none⟩ = some (.int .i64 kd) := by
          have h := HE.out.2.2.1.num (decP_ok zs HZ.out.1) 0 (by decide)
          rw [HK.out, ← decK_kind zs]
          exact h
        go_wp2_with fail
        (with_reducible refine (tagged_any kd _).mono ?_)
        rintro e _ ⟨rfl, rfl⟩
        rw [HT.out]
        clear c9
        go_wp2_with fail
        (with_reducible refine (done_rd rb base (decY zs).2.1 (decY zs).2.2 _ HE.out.2.2.2).mono ?_)
        rintro e _ ⟨rfl, rfl⟩
        obtain ⟨q, hq⟩ : ∃ q, (!(decY zs).2.2 && (decY zs).2.1.isEmpty) = q := ⟨_, rfl⟩
        rw [hq]
        have HQ := Lib.hid hq
        clear hq
        cases q
        · have hno : ¬ DecOk zs := fun h => by
            have h1 := HQ.out
            rw [h.1, h.2.1] at h1
            cases h1
          have HNO := Lib.hid hno
          clear hno
          go_wp2_with ((with_reducible refine at_op (.store 25 (.tmp 2) (.tmp 54)) rfl ?_); refine wpList_store_blk rfl 25 (.tmp 2) (.tmp 54) rfl n2 25 (pkV Pk.zero) (pkV Pk.zero) rfl rfl HE.out.2.1 (by kernel_rfl) (by kernel_rfl) (pkV_one _) ?_; intro wz hBz htz hsz; have HF9 := Lib.hid (And.intro hBz htz); clear hBz htz hsz)
          refine bodyPost_ret (results_row_tmp rfl _ _ n2 25 (pkV Pk.zero) _ rfl HF9.out.1 Try.underlying25 rfl (by kernel_rfl)) rfl ⟨by first | rfl | (rw [if_neg HNO.out]; first | rfl | (rw [if_neg HNO.out]; rfl)), ?_⟩
          exact (Touch.then HE.out.1 HF9.out.2 (fun i hi e => by have := HAP.out; omega)).below (Nat.le_refl _) (fun _ _ h => h)
        · go_wp2_with ((with_reducible refine at_op (.load 25 (.tmp 5)) rfl ?_); refine wpList_load_blk_g (by rfl) 25 (.tmp 5) rfl n1 25 (pkV (decP zs)) _ rfl HE.out.2.2.1 Try.underlying25 rfl (by rw [pkV_size (decP_ok zs HZ.out.1)]; first | done | kernel_rfl) ?_)
          (with_reducible refine (wireRight_any (decP zs) (decP_ok zs HZ.out.1) _).mono ?_)
          rintro e w9 ⟨rfl, hb9⟩
          have h9 : Touch (fun _ => False) w w9 ∧ Blk w9 n2 25 (pkV Pk.zero) ∧ Blk w9 n1 25 (pkV (decP zs)) := ⟨HE.out.1.trans (Touch.of_below hb9), HE.out.2.1.touch (Touch.of_below (S := fun _ => False) hb9) (fun h => h), HE.out.2.2.1.touch (Touch.of_below (S := fun _ => False) hb9) (fun h => h)⟩
          have H9 := Lib.hid h9
          clear h9 hb9
          by_cases hR : RightN (decP zs)
          · have hy : DecOk zs := by
              have h1 := HQ.out
              simp at h1
              exact ⟨h1.1, h1.2, hR⟩
            rw [decide_eq_true hR]
            have HY := Lib.hid hy
            clear hy hR
            go_wp2_with (first
              | ((with_reducible refine at_op (.load 25 (.tmp 5)) rfl ?_); refine wpList_load_blk rfl 25 (.tmp 5) rfl n1 25 (pkV (decP zs)) _ rfl H9.out.2.2 Try.underlying25 rfl (by rw [pkV_size (decP_ok zs HZ.out.1)]; first | done | kernel_rfl) ?_)
              | ((with_reducible refine at_op (.store 25 (.tmp 2) (.tmp 55)) rfl ?_); refine wpList_store_blk rfl 25 (.tmp 2) (.tmp 55) rfl n2 25 (pkV Pk.zero) (pkV (decP zs)) rfl rfl H9.out.2.1 (by rw [pkV_size (decP_ok zs HZ.out.1)]; first | done | kernel_rfl) (by rw [pkV_size (decP_ok zs HZ.out.1)]; first | done | kernel_rfl) (pkV_one _) ?_; intro wz hBz htz hsz; have HF9 := Lib.hid (And.intro hBz htz); clear hBz htz hsz))
            refine bodyPost_ret (results_row_tmp rfl _ _ n2 25 (pkV (decP zs)) _ rfl HF9.out.1 Try.underlying25 rfl (by rw [pkV_size (decP_ok zs HZ.out.1)]; first | done | kernel_rfl)) rfl ⟨by first | rfl | (rw [if_pos HY.out]; first | rfl | (rw [if_pos HY.out]; rfl)), ?_⟩
            exact (Touch.then H9.out.1 HF9.out.2 (fun i hi e => by have := HAP.out; omega)).below (Nat.le_refl _) (fun _ _ h => h)
          · have hno : ¬ DecOk zs := fun h => hR h.2.2
            rw [decide_eq_false hR]
            have HNO := Lib.hid hno
            clear hno hR
            go_wp2_with ((with_reducible refine at_op (.store 25 (.tmp 2) (.tmp 54)) rfl ?_); refine wpList_store_blk rfl 25 (.tmp 2) (.tmp 54) rfl n2 25 (pkV Pk.zero) (pkV Pk.zero) rfl rfl H9.out.2.1 (by kernel_rfl) (by kernel_rfl) (pkV_one _) ?_; intro wz hBz htz hsz; have HF9 := Lib.hid (And.intro hBz htz); clear hBz htz hsz)
            refine bodyPost_ret (results_row_tmp rfl _ _ n2 25 (pkV Pk.zero) _ rfl HF9.out.1 Try.underlying25 rfl (by kernel_rfl)) rfl ⟨by first | rfl | (rw [if_neg HNO.out]; first | rfl | (rw [if_neg HNO.out]; rfl)), ?_⟩
            exact (Touch.then H9.out.1 HF9.out.2 (fun i hi e => by have := HAP.out; omega)).below (Nat.le_refl _) (fun _ _ h => h)
    · have hjl : j < L.length := by omega
      have hj1 : (j : Int) < L.length := by omega
      have hj0 : (0 : Int) ≤ j := by omega
      have h6 : L.length ≤ 6 := by rw [HL.out]; exact slots_len _
      obtain ⟨⟨i, sz, lo, hi⟩, hs⟩ : ∃ s, (slotsN (decK zs))[j]? = some s := ⟨_, List.getElem?_eq_getElem (by rw [← HL.out]; exact hjl)⟩
      have hso := slots_ok _ _ (List.mem_of_getElem? hs)
      have hi1 : 1 ≤ i := hso.i0
      have hi2 : i < 12 := hso.i1
      have HF := Lib.hid hso.size
      obtain ⟨sb, rfl, hrange⟩ := HI.out.hr.at hs
      have HR := Lib.hid (And.intro hrange hs)
      clear hrange hs hso hq
      have ea := at_enters i hi1 hi2
      obtain ⟨st, hst⟩ : ∃ st, st = decT zs j := ⟨_, rfl⟩
      obtain ⟨P0, hP0⟩ : ∃ P0, P0 = decJ zs j := ⟨_, rfl⟩
      have HST := Lib.hid (And.intro hst hP0)
      have HPO : Hid P0.Ok := Lib.hid (by rw [hP0]; exact decJ_ok _ _)
      have HRS : Hid ((∀ z ∈ st.1, 0 ≤ z ∧ z < 256) ∧ st.1.length ≤ 90000) := Lib.hid (by
        have h := decT_range zs j HZ.out.1
        rw [hst]
        exact ⟨h.1, Nat.le_trans h.2 (by rw [HZ.out.2.1]; exact HZ.out.2.2)⟩)
      clear hst hP0
      go_wp2_with ((with_reducible refine at_op (.load 57 (.tmp 19)) rfl ?_); refine wpList_load_mid rfl 57 (.tmp 19) rfl sb _ rfl [.func (.func (atFn i)) #[] #[], .int .i64 sz, .int .i64 lo, .int .i64 hi] _ HR.out.1 Try.underlying57 rfl (by kernel_rfl) ?_)
      obtain ⟨ws, hws⟩ : ∃ ws, ws = wr.alloc (.cells #[.func (.func (atFn i)) #[] #[], .int .i64 sz, .int .i64 lo, .int .i64 hi] 57) := ⟨_, rfl⟩
      rw [← hws]
      have HS : Hid (Blk ws wr.heap.size 57 #[.func (.func (atFn i)) #[] #[], .int .i64 sz, .int .i64 lo, .int .i64 hi] ∧ Blk ws n1 25 (pkV P0) ∧ Touch (fun _ => False) wr ws ∧ RdIs ws rb base st.1 st.2) := Lib.hid (by
        rw [hws, HST.out.1, HST.out.2]
        exact ⟨Blk.new _ _ _, HI.out.h1.alloc _, (Touch.refl _ _).alloc _, HI.out.rd.touch2 ((Touch.refl (fun _ => False) _).alloc _) (fun _ _ h => h)⟩)
      clear hws
      refine wp_region_held_drew (S := fun _ => True) (by kernel_rfl) trivial (fun _ => ?_)
      refine anyH_world (R := fun w' : World => TG ws w') ((TG.refl ws).drew) ?_
      intro W0q hHeld
      refine region_take 0 (v := ?vq0_1) rfl rfl (by kernel_rfl) (by kernel_rfl) (by kernel_rfl) (fun _ _ _ h => h) trivial (Or.inl ⟨by rfl, ?yq0_1⟩) ?rq0_1
      case yq0_1 => (intro w hSw; (try dsimp only at hSw); go_simp; try with_reducible rfl)
      try simp only [Act.put, List.setIfInBounds_toArray, List.set_cons_zero, List.set_cons_succ]
      refine region_take 3 (v := ?vq3_2) rfl rfl (by kernel_rfl) (by kernel_rfl) (by kernel_rfl) (fun _ _ _ h => h) trivial (Or.inl ⟨by rfl, ?yq3_2⟩) ?rq3_2
      case yq3_2 => (intro w hSw; (try dsimp only at hSw); go_simp; try with_reducible rfl)
      try simp only [Act.put, List.setIfInBounds_toArray, List.set_cons_zero, List.set_cons_succ]
      refine region_take 4 (v := ?vq4_3) rfl rfl (by kernel_rfl) (by kernel_rfl) (by kernel_rfl) (fun _ _ _ h => h) trivial (Or.inl ⟨by rfl, ?yq4_3⟩) ?rq4_3
      case yq4_3 => (intro w hSw; (try dsimp only at hSw); go_simp; try with_reducible rfl)
      try simp only [Act.put, List.setIfInBounds_toArray, List.set_cons_zero, List.set_cons_succ]
      refine region_two 1 5 (by kernel_rfl) rfl rfl (fun K hK => ?_) (fun K hK => ?_)
      · have d := (HS.out.1.tg hHeld).cell 0 rfl
        go_simp
        refine K_world (fun w' : World => Touch (fun _ => False) W0q w') (Touch.refl _ _) ?_
        intro uq_4 hx
        have ht := hx
        have hHeld2 := (((hHeld).still ht))
        clear hHeld ht
        have hHeld := hHeld2
        clear hHeld2
        refine hK.out _ _ trivial (fun _ => ?_)
        clear hK K
        try simp only [Act.put, List.setIfInBounds_toArray, List.set_cons_zero, List.set_cons_succ]
        refine region_two 2 5 (by kernel_rfl) rfl rfl (fun K hK => ?_) (fun K hK => ?_)
        · go_simp
          (with_reducible refine (at_calm i hi1 hi2 n1 _).mono ?_)
          rintro e uq_5 ⟨rfl, hb8⟩
          have ht := hb8
          have hHeld2 := (((hHeld).still ht))
          clear hHeld ht
          have hHeld := hHeld2
          clear hHeld2
          refine hK.out _ _ trivial (fun _ => ?_)
          clear hK K
          try simp only [Act.put, List.setIfInBounds_toArray, List.set_cons_zero, List.set_cons_succ]
          refine region_one 5 (by kernel_rfl) rfl (fun K hK => ?_)
          have d := (HS.out.1.tg hHeld).cell 1 rfl
          go_simp
          refine K_world (fun w' : World => Touch (fun _ => False) uq_5 w') (Touch.refl _ _) ?_
          intro uq_6 hx
          have ht := hx
          have hHeld2 := (((hHeld).still ht))
          clear hHeld ht
          have hHeld := hHeld2
          clear hHeld2
          refine hK.out _ _ trivial (fun _ => ?_)
          clear hK K
          try simp only [Act.put, List.setIfInBounds_toArray, List.set_cons_zero, List.set_cons_succ]
          refine region_one 6 (by kernel_rfl) rfl (fun K hK => ?_)
          go_simp
          go_at_call 48
          (with_reducible refine (num_rd rb base st.1 st.2 sz _ (HS.out.2.2.2.touch2 (hHeld).still2 (fun _ _ h => h)) HRS.out.2 HRS.out.1).mono ?_)
          rintro e uq_7 ⟨rfl, hrd8, hb8⟩
          have HN := Lib.hid (And.intro hrd8 (And.intro ((HS.out.2.1.tg hHeld).touch hb8 (by have := HAP.out; omega)) (Touch.then (S := fun k => k = rb) ((HS.out.2.2.1.trans (hHeld).still2).mono (fun _ _ h => h.elim)) hb8 (fun _ _ h => h))))
          clear hrd8
          have ht := hb8
          have hHeld2 := ((TG.refl uq_7))
          clear hHeld ht
          have hHeld := hHeld2
          clear hHeld2
          refine hK.out _ _ trivial (fun _ => ?_)
          clear hK K
          try simp only [Act.put, List.setIfInBounds_toArray, List.set_cons_zero, List.set_cons_succ]
          refine region_take 7 (v := ?vq7_8) rfl rfl (by kernel_rfl) (by kernel_rfl) (by kernel_rfl) (fun _ _ _ h => h) trivial (Or.inl ⟨by rfl, ?yq7_8⟩) ?rq7_8
          case yq7_8 => (intro w hSw; (try dsimp only at hSw); go_simp; try with_reducible rfl)
          try simp only [Act.put, List.setIfInBounds_toArray, List.set_cons_zero, List.set_cons_succ]
          refine region_one 8 (by kernel_rfl) rfl (fun K hK => ?_)
          have d := HN.out.2.1.num HPO.out i hi2
          have f := HN.out.2.1.frozen i
          go_simp
          refine K_world (fun w' : World => Touch (fun k => k = n1) uq_7 w' ∧ Blk w' n1 25 (pkV { P0 with n := P0.n.set i (numOf (rdTake st.1 st.2 (fitN sz)).1) })) ⟨Touch.setCell (S := fun k => k = n1) (Touch.refl _ _) (p := ⟨n1, i, none⟩) (fun _ => rfl) _, HN.out.2.1.setN HPO.out i hi2 _⟩ ?_
          intro uq_9 hx
          have H8 := Lib.hid hx
          have ht := hx.1
          clear hHeld ht
          refine hK.out _ _ trivial (fun _ => ?_)
          clear hK K
          try simp only [Act.put, List.setIfInBounds_toArray, List.set_cons_zero, List.set_cons_succ]
          refine wpAnyH_done (by kernel_rfl) ?_ _
          clear hx
          go_wp2_with fail
          go_roundw
          case rel =>
            obtain ⟨t8, b8⟩ := H8.out
            obtain ⟨m1, m2, m3⟩ := HN.out
            obtain ⟨i1, i2, i3, i4, i5, i6, i7⟩ := HI.out
            have tA := Touch.then (S := fun k => k = rb ∨ k = n1) (m3.mono (fun _ _ h => Or.inl h)) t8 (fun _ _ h => Or.inr h)
            have hz := i1.size
            refine ⟨j + 1, hjl, by first | rfl | (congr 1; omega) | (congr 1; unfold wrap64; omega), ⟨Touch.then i1 tA (fun m hm e => by omega), i2.touch tA (by omega), ?_, ?_, i5.touch tA (fun y hy e => by have := i6 y hy; omega), i6, i7⟩⟩
            · rw [decJ_succ zs j _ HR.out.2, ← HST.out.1, ← HST.out.2]
              rw [fit_size sz HF.out] at b8
              exact b8
            · rw [decT_succ zs j _ HR.out.2, ← HST.out.1]
              rw [fit_size sz HF.out] at m1
              exact m1.touch2 t8 (fun k hk e => by omega)
          case measure => simp [intOf]; (try unfold wrap64); omega
        · have d := (HS.out.1.tg hHeld).cell 1 rfl
          go_simp
          refine K_world (fun w' : World => Touch (fun _ => False) uq_4 w') (Touch.refl _ _) ?_
          intro uq_10 hx
          have ht := hx
          have hHeld2 := (((hHeld).still ht))
          clear hHeld ht
          have hHeld := hHeld2
          clear hHeld2
          refine hK.out _ _ trivial (fun _ => ?_)
          clear hK K
          try simp only [Act.put, List.setIfInBounds_toArray, List.set_cons_zero, List.set_cons_succ]
          refine region_one 2 (by kernel_rfl) rfl (fun K hK => ?_)
          go_simp
          (with_reducible refine (at_calm i hi1 hi2 n1 _).mono ?_)
          rintro e uq_11 ⟨rfl, hb8⟩
          have ht := hb8
          have hHeld2 := (((hHeld).still ht))
          clear hHeld ht
          have hHeld := hHeld2
          clear hHeld2
          refine hK.out _ _ trivial (fun _ => ?_)
          clear hK K
          try simp only [Act.put, List.setIfInBounds_toArray, List.set_cons_zero, List.set_cons_succ]
          refine region_one 6 (by kernel_rfl) rfl (fun K hK => ?_)
          go_simp
          go_at_call 48
          (with_reducible refine (num_rd rb base st.1 st.2 sz _ (HS.out.2.2.2.touch2 (hHeld).still2 (fun _ _ h => h)) HRS.out.2 HRS.out.1).mono ?_)
          rintro e uq_12 ⟨rfl, hrd8, hb8⟩
          have HN := Lib.hid (And.intro hrd8 (And.intro ((HS.out.2.1.tg hHeld).touch hb8 (by have := HAP.out; omega)) (Touch.then (S := fun k => k = rb) ((HS.out.2.2.1.trans (hHeld).still2).mono (fun _ _ h => h.elim)) hb8 (fun _ _ h => h))))
          clear hrd8
          have ht := hb8
          have hHeld2 := ((TG.refl uq_12))
          clear hHeld ht
          have hHeld := hHeld2
          clear hHeld2
          refine hK.out _ _ trivial (fun _ => ?_)
          clear hK K
          try simp only [Act.put, List.setIfInBounds_toArray, List.set_cons_zero, List.set_cons_succ]
          refine region_take 7 (v := ?vq7_13) rfl rfl (by kernel_rfl) (by kernel_rfl) (by kernel_rfl) (fun _ _ _ h => h) trivial (Or.inl ⟨by rfl, ?yq7_13⟩) ?rq7_13
          case yq7_13 => (intro w hSw; (try dsimp only at hSw); go_simp; try with_reducible rfl)
          try simp only [Act.put, List.setIfInBounds_toArray, List.set_cons_zero, List.set_cons_succ]
          refine region_one 8 (by kernel_rfl) rfl (fun K hK => ?_)
          have d := HN.out.2.1.num HPO.out i hi2
          have f := HN.out.2.1.frozen i
          go_simp
          refine K_world (fun w' : World => Touch (fun k => k = n1) uq_12 w' ∧ Blk w' n1 25 (pkV { P0 with n := P0.n.set i (numOf (rdTake st.1 st.2 (fitN sz)).1) })) ⟨Touch.setCell (S := fun k => k = n1) (Touch.refl _ _) (p := ⟨n1, i, none⟩) (fun _ => rfl) _, HN.out.2.1.setN HPO.out i hi2 _⟩ ?_
          intro uq_14 hx
          have H8 := Lib.hid hx
          have ht := hx.1
          clear hHeld ht
          refine hK.out _ _ trivial (fun _ => ?_)
          clear hK K
          try simp only [Act.put, List.setIfInBounds_toArray, List.set_cons_zero, List.set_cons_succ]
          refine wpAnyH_done (by kernel_rfl) ?_ _
          clear hx
          go_wp2_with fail
          go_roundw
          case rel =>
            obtain ⟨t8, b8⟩ := H8.out
            obtain ⟨m1, m2, m3⟩ := HN.out
            obtain ⟨i1, i2, i3, i4, i5, i6, i7⟩ := HI.out
            have tA := Touch.then (S := fun k => k = rb ∨ k = n1) (m3.mono (fun _ _ h => Or.inl h)) t8 (fun _ _ h => Or.inr h)
            have hz := i1.size
            refine ⟨j + 1, hjl, by first | rfl | (congr 1; omega) | (congr 1; unfold wrap64; omega), ⟨Touch.then i1 tA (fun m hm e => by omega), i2.touch tA (by omega), ?_, ?_, i5.touch tA (fun y hy e => by have := i6 y hy; omega), i6, i7⟩⟩
            · rw [decJ_succ zs j _ HR.out.2, ← HST.out.1, ← HST.out.2]
              rw [fit_size sz HF.out] at b8
              exact b8
            · rw [decT_succ zs j _ HR.out.2, ← HST.out.1]
              rw [fit_size sz HF.out] at m1
              exact m1.touch2 t8 (fun k hk e => by omega)
          case measure => simp [intOf]; (try unfold wrap64); omega
      · have d := (HS.out.1.tg hHeld).cell 1 rfl
        go_simp
        refine K_world (fun w' : World => Touch (fun _ => False) W0q w') (Touch.refl _ _) ?_
        intro uq_15 hx
        have ht := hx
        have hHeld2 := (((hHeld).still ht))
        clear hHeld ht
        have hHeld := hHeld2
        clear hHeld2
        refine hK.out _ _ trivial (fun _ => ?_)
        clear hK K
        try simp only [Act.put, List.setIfInBounds_toArray, List.set_cons_zero, List.set_cons_succ]
        refine region_one 1 (by kernel_rfl) rfl (fun K hK => ?_)
        have d := (HS.out.1.tg hHeld).cell 0 rfl
        go_simp
        refine K_world (fun w' : World => Touch (fun _ => False) uq_15 w') (Touch.refl _ _) ?_
        intro uq_16 hx
        have ht := hx
        have hHeld2 := (((hHeld).still ht))
        clear hHeld ht
        have hHeld := hHeld2
        clear hHeld2
        refine hK.out _ _ trivial (fun _ => ?_)
        clear hK K
        try simp only [Act.put, List.setIfInBounds_toArray, List.set_cons_zero, List.set_cons_succ]
        refine region_one 2 (by kernel_rfl) rfl (fun K hK => ?_)
        go_simp
        (with_reducible refine (at_calm i hi1 hi2 n1 _).mono ?_)
        rintro e uq_17 ⟨rfl, hb8⟩
        have ht := hb8
        have hHeld2 := (((hHeld).still ht))
        clear hHeld ht
        have hHeld := hHeld2
        clear hHeld2
        refine hK.out _ _ trivial (fun _ => ?_)
        clear hK K
        try simp only [Act.put, List.setIfInBounds_toArray, List.set_cons_zero, List.set_cons_succ]
        refine region_one 6 (by kernel_rfl) rfl (fun K hK => ?_)
        go_simp
        go_at_call 48
        (with_reducible refine (num_rd rb base st.1 st.2 sz _ (HS.out.2.2.2.touch2 (hHeld).still2 (fun _ _ h => h)) HRS.out.2 HRS.out.1).mono ?_)
        rintro e uq_18 ⟨rfl, hrd8, hb8⟩
        have HN := Lib.hid (And.intro hrd8 (And.intro ((HS.out.2.1.tg hHeld).touch hb8 (by have := HAP.out; omega)) (Touch.then (S := fun k => k = rb) ((HS.out.2.2.1.trans (hHeld).still2).mono (fun _ _ h => h.elim)) hb8 (fun _ _ h => h))))
        clear hrd8
        have ht := hb8
        have hHeld2 := ((TG.refl uq_18))
        clear hHeld ht
        have hHeld := hHeld2
        clear hHeld2
        refine hK.out _ _ trivial (fun _ => ?_)
        clear hK K
        try simp only [Act.put, List.setIfInBounds_toArray, List.set_cons_zero, List.set_cons_succ]
        refine region_take 7 (v := ?vq7_19) rfl rfl (by kernel_rfl) (by kernel_rfl) (by kernel_rfl) (fun _ _ _ h => h) trivial (Or.inl ⟨by rfl, ?yq7_19⟩) ?rq7_19
        case yq7_19 => (intro w hSw; (try dsimp only at hSw); go_simp; try with_reducible rfl)
        try simp only [Act.put, List.setIfInBounds_toArray, List.set_cons_zero, List.set_cons_succ]
        refine region_one 8 (by kernel_rfl) rfl (fun K hK => ?_)
        have d := HN.out.2.1.num HPO.out i hi2
        have f := HN.out.2.1.frozen i
        go_simp
        refine K_world (fun w' : World => Touch (fun k => k = n1) uq_18 w' ∧ Blk w' n1 25 (pkV { P0 with n := P0.n.set i (numOf (rdTake st.1 st.2 (fitN sz)).1) })) ⟨Touch.setCell (S := fun k => k = n1) (Touch.refl _ _) (p := ⟨n1, i, none⟩) (fun _ => rfl) _, HN.out.2.1.setN HPO.out i hi2 _⟩ ?_
        intro uq_20 hx
        have H8 := Lib.hid hx
        have ht := hx.1
        clear hHeld ht
        refine hK.out _ _ trivial (fun _ => ?_)
        clear hK K
        try simp only [Act.put, List.setIfInBounds_toArray, List.set_cons_zero, List.set_cons_succ]
        refine wpAnyH_done (by kernel_rfl) ?_ _
        clear hx
        go_wp2_with fail
        go_roundw
        case rel =>
          obtain ⟨t8, b8⟩ := H8.out
          obtain ⟨m1, m2, m3⟩ := HN.out
          obtain ⟨i1, i2, i3, i4, i5, i6, i7⟩ := HI.out
          have tA := Touch.then (S := fun k => k = rb ∨ k = n1) (m3.mono (fun _ _ h => Or.inl h)) t8 (fun _ _ h => Or.inr h)
          have hz := i1.size
          refine ⟨j + 1, hjl, by first | rfl | (congr 1; omega) | (congr 1; unfold wrap64; omega), ⟨Touch.then i1 tA (fun m hm e => by omega), i2.touch tA (by omega), ?_, ?_, i5.touch tA (fun y hy e => by have := i6 y hy; omega), i6, i7⟩⟩
          · rw [decJ_succ zs j _ HR.out.2, ← HST.out.1, ← HST.out.2]
            rw [fit_size sz HF.out] at b8
            exact b8
          · rw [decT_succ zs j _ HR.out.2, ← HST.out.1]
            rw [fit_size sz HF.out] at m1
            exact m1.touch2 t8 (fun k hk e => by omega)
        case measure => simp [intOf]; (try unfold wrap64); omega
end Go.Proofs.Ythlkmofemnepbaa
