/-
  THE WALK of tag.Sign (layer 7).
-/
import Derived.Test.YthlkmofemnepbaaRows
import Derived.Test.YthlkmofemnepbaaWSmall
import Derived.Test.YthlkmofemnepbaaTKey
import Derived.Test.YthlkmofemnepbaaWireLaw
namespace Go.Proofs.Ythlkmofemnepbaa
open Go.RowKit

/-- A packet without a tag. -/
def bare0 (p : Pk) : Pk := { p with tag := List.replicate 8 0 }
theorem bare0_ok {p : Pk} (h : p.Ok) : (bare0 p).Ok := h.setTag rfl (fun y hy => by have := List.eq_of_mem_replicate hy; omega)
def MayN (p : Pk) : Prop := taggedN p.kind = true ∧ RightN (bare0 p)
instance (p : Pk) : Decidable (MayN p) := by unfold MayN; infer_instance
def tagOf (key : List Nat) (p : Pk) : List Nat := (hmac key (nats (encN (bare0 p)))).take 8
theorem tagOf_len (key : List Nat) (p : Pk) : (tagOf key p).length = 8 := by rw [tagOf, List.length_take, hmac_len]; rfl
theorem tagOf_lt (key : List Nat) (p : Pk) : ∀ y ∈ tagOf key p, y < 256 := fun y hy => hmac_lt _ _ y (List.mem_of_mem_take hy)
/-- A packet that is signed. -/
def signN (key : List Nat) (p : Pk) : Pk := if MayN p then { p with tag := tagOf key p } else Pk.zero
theorem signN_ok (key : List Nat) {p : Pk} (h : p.Ok) : (signN key p).Ok := by
  unfold signN
  split
  · exact h.setTag (tagOf_len key p) (tagOf_lt key p)
  · exact zero_ok

/-- The first bytes of a row are copied into all of a part of a block. -/
theorem step_copy_first {P : Program} {ops : Array Oper} {o : Oper} {a : Act} {w : World} {K : Act → World → Prop} {Q : Exit → Act → World → Prop} {E : Prop} (hgd : o.guard = none) (d s : Operand) (dT sT : TypeId)
    (ho : o.op = .call { callee := .builtin .copy, args := #[d, s], argTypes := #[dT, sT] }) (elem : TypeId) (hu : P.underlying dT = some (.slice elem)) (hsz : (P.info? elem).map (·.size) = some 1)
    (b off n dCap : Nat) (hd : a.eval d = .slice (some ⟨b, off, none⟩) n dCap) (x : Addr) (m sCap : Nat) (hs : a.eval s = .slice (some x) m sCap) (T : TypeId) (A M B cs : List Value) (hB : Blk w b T (A ++ (M ++ B)).toArray) (hA : A.length = off) (hM : M.length = n)
    (hcs : cs.length = n) (hle : n ≤ m) (hsl : SlAt w (some x) cs) (h1 : ∀ v ∈ cs, v.oneCell' = true)
    (h : ∀ w', Blk w' b T (A ++ (cs ++ B)).toArray → Touch (fun k => k = b) w w' → K (a.put o.dst (goInt n)) w') :
    if Region.wanted o (yielded ops a.tmps) = true then Oper.wp P o a w K Q else E := by
  have hw : Region.wanted o (yielded ops a.tmps) = true := by simp [Region.wanted, hgd]
  rw [if_pos hw]
  subst hA
  have hth := hB.there A.length M.length (by simp [← Nat.add_assoc])
  have hrun := run_copy_cells (P := P) w dT sT o.type elem b A.length n dCap x m sCap cs hu hsz (by rw [hcs]; exact (Nat.min_eq_right hle).symm) (fun j v hj => hsl.at j v hj) (fun j hj => (hth j (by omega)).1) (fun j hj => (hth j (by omega)).2) h1
  unfold Oper.wp
  simp only [execOp, ho, resolve, invoke, builtin, hd, hs, hrun, Result.andThen, Sem.run_bind, Sem.run_pure, List.map_toArray, List.map_cons, List.map_nil]
  have h2 := h (w.setCells b A.length cs) (hB.setCells cs (by omega)) (Touch.setCells cs _ (Touch.refl _ w) (fun _ => rfl))
  rw [← hcs] at h2
  exact h2

set_option maxRecDepth 100000 in
set_option maxHeartbeats 8000000 in
theorem sign_no1 (key : List Nat) (_hk : key.length = 16) (_hkr : ∀ y ∈ key, y < 256) (p : Pk) (hp : p.Ok) (w : World) (hR : ¬ RightN (bare0 p)) :
    Calls Try.prog 35 #[.agg (bn key).toArray, .agg (pkV p)] w fun e w' => e = .returned (.tuple #[.agg (pkV (signN key p)), .bool (decide (MayN p))]) ∧ Below w.heap.size w w' := by
  have hM : ¬ MayN p := fun h => hR h.2
  have HM : Hid (signN key p = Pk.zero ∧ decide (MayN p) = false) := Lib.hid ⟨by unfold signN; rw [if_neg hM], decide_eq_false hM⟩
  have HP := Lib.hid (And.intro hp hR)
  clear hp hR hM
  go_enter Try.func35, Try.ntmps35
  go_wp2_with (first
    | ((with_reducible refine at_op (.store 23 (.tmp 10) (.tmp 9)) rfl ?_); refine wpList_store_tag rfl 23 (.tmp 10) (.tmp 9) rfl (w.heap.size + 1) 25 p (List.replicate 8 0) rfl rfl ((blk_new_at (by simp) rfl).alloc _) HP.out.1 rfl (by kernel_rfl) ?_; intro w1 hB ht hs; have H1 : Hid (Touch (fun _ => False) w w1 ∧ Blk w1 w.heap.size 22 (bn key).toArray ∧ Blk w1 (w.heap.size + 1) 25 (pkV (bare0 p)) ∧ Blk w1 (w.heap.size + 2) 25 (pkV Pk.zero)) := Lib.hid ⟨Touch.then (S := fun _ => False) ((((Touch.refl _ w).alloc _).alloc _).alloc _) ht (fun i hi e => by omega), (((Blk.new w (bn key).toArray 22).alloc _).alloc _).touch ht (by omega), hB, (blk_new_at (by simp) rfl).touch ht (by omega)⟩; clear hB ht hs)
    | ((with_reducible refine at_op (.load 25 (.tmp 3)) rfl ?_); refine wpList_load_blk rfl 25 (.tmp 3) rfl (w.heap.size + 1) 25 (pkV (bare0 p)) _ rfl H1.out.2.2.1 Try.underlying25 rfl (by rw [pkV_size (bare0_ok HP.out.1)]; first | done | kernel_rfl) ?_))
  (with_reducible refine (wireEnc_no (bare0 p) (bare0_ok HP.out.1) HP.out.2 _).mono ?_)
  rintro e w2 ⟨rfl, hb2⟩
  obtain ⟨nz, hnz⟩ : ∃ nz, nz = w.heap.size + 2 := ⟨_, rfl⟩
  rw [← hnz]
  have HZ : Hid (Touch (fun _ => False) w w2 ∧ Blk w2 nz 25 (pkV Pk.zero) ∧ w.heap.size < nz) := Lib.hid ⟨H1.out.1.trans (Touch.of_below hb2), by rw [hnz]; exact H1.out.2.2.2.touch (Touch.of_below (S := fun _ => False) hb2) (fun h => h), by omega⟩
  clear hnz
  clear hb2
  go_wp2_with ((with_reducible refine at_op (.store 25 (.tmp 4) (.tmp 24)) rfl ?_); refine wpList_store_blk rfl 25 (.tmp 4) (.tmp 24) rfl nz 25 (pkV Pk.zero) (pkV Pk.zero) rfl rfl HZ.out.2.1 (by kernel_rfl) (by kernel_rfl) (pkV_one _) ?_; intro wz hB ht hs; have HF9 := Lib.hid (And.intro hB ht); clear hB ht hs)
  refine bodyPost_ret (results_row_tmp rfl _ _ nz 25 (pkV Pk.zero) _ rfl HF9.out.1 Try.underlying25 rfl (by kernel_rfl)) rfl ⟨by rw [HM.out.1, HM.out.2]; rfl, ?_⟩
  exact (Touch.then HZ.out.1 HF9.out.2 (fun i hi e => by have := HZ.out.2.2; omega)).below (Nat.le_refl _) (fun _ _ h => h)

set_option maxRecDepth 100000 in
set_option maxHeartbeats 8000000 in
theorem sign_no2 (key : List Nat) (hk : key.length = 16) (_hkr : ∀ y ∈ key, y < 256) (p : Pk) (hp : p.Ok) (w : World) (hR : RightN (bare0 p)) (hT : taggedN p.kind = false) :
    Calls Try.prog 35 #[.agg (bn key).toArray, .agg (pkV p)] w fun e w' => e = .returned (.tuple #[.agg (pkV (signN key p)), .bool (decide (MayN p))]) ∧ Below w.heap.size w w' := by
  have hM : ¬ MayN p := fun h => by have := h.1; rw [hT] at this; cases this
  have HM : Hid (signN key p = Pk.zero ∧ decide (MayN p) = false) := Lib.hid ⟨by unfold signN; rw [if_neg hM], decide_eq_false hM⟩
  have HP := Lib.hid (And.intro hp (And.intro hR hk))
  obtain ⟨k, hkd⟩ : ∃ k, k = p.kind := ⟨_, rfl⟩
  have HKD : Hid (k = (bare0 p).n.getD 0 0) := Lib.hid hkd
  have HT : Hid (taggedN k = false) := Lib.hid (by rw [hkd]; exact hT)
  obtain ⟨Z, hZ⟩ : ∃ Z, encN (bare0 p) = Z := ⟨_, rfl⟩
  obtain ⟨n, hn⟩ : ∃ n, Z.length = n := ⟨_, rfl⟩
  have HZN := Lib.hid (And.intro hZ hn)
  clear hp hR hM hk hkd hT hZ hn
  go_enter Try.func35, Try.ntmps35
  go_wp2_with (first
    | ((with_reducible refine at_op (.store 23 (.tmp 10) (.tmp 9)) rfl ?_); refine wpList_store_tag rfl 23 (.tmp 10) (.tmp 9) rfl (w.heap.size + 1) 25 p (List.replicate 8 0) rfl rfl ((blk_new_at (by simp) rfl).alloc _) HP.out.1 rfl (by kernel_rfl) ?_; intro w1 hB ht hs; have H1 : Hid (Touch (fun _ => False) w w1 ∧ Blk w1 w.heap.size 22 (bn key).toArray ∧ Blk w1 (w.heap.size + 1) 25 (pkV (bare0 p)) ∧ Blk w1 (w.heap.size + 2) 25 (pkV Pk.zero)) := Lib.hid ⟨Touch.then (S := fun _ => False) ((((Touch.refl _ w).alloc _).alloc _).alloc _) ht (fun i hi e => by omega), (((Blk.new w (bn key).toArray 22).alloc _).alloc _).touch ht (by omega), hB, (blk_new_at (by simp) rfl).touch ht (by omega)⟩; clear hB ht hs)
    | ((with_reducible refine at_op (.load 25 (.tmp 3)) rfl ?_); refine wpList_load_blk rfl 25 (.tmp 3) rfl (w.heap.size + 1) 25 (pkV (bare0 p)) _ rfl H1.out.2.2.1 Try.underlying25 rfl (by rw [pkV_size (bare0_ok HP.out.1)]; first | done | kernel_rfl) ?_))
  (with_reducible refine (enc_lit _ (bare0 p) rfl (bare0_ok HP.out.1) HP.out.2.1 Z n HZN.out.1 HZN.out.2 _).mono ?_)
  rintro e w2 ⟨ab, cb, rfl, ho, hc, hb2⟩
  have H2 : Hid (Touch (fun _ => False) w w2 ∧ Blk w2 w.heap.size 22 (bn key).toArray ∧ Blk w2 (w.heap.size + 1) 25 (pkV (bare0 p)) ∧ Blk w2 (w.heap.size + 2) 25 (pkV Pk.zero) ∧ SlAt w2 ab (bys Z) ∧ (ab = none → cb = 0)) := Lib.hid ⟨H1.out.1.trans (Touch.of_below hb2), H1.out.2.1.touch (Touch.of_below (S := fun _ => False) hb2) (fun h => h), H1.out.2.2.1.touch (Touch.of_below (S := fun _ => False) hb2) (fun h => h), H1.out.2.2.2.touch (Touch.of_below (S := fun _ => False) hb2) (fun h => h), SlAt.of_owns ho, hc⟩
  clear hb2 ho hc
  have c3 : w2.cell? ⟨w.heap.size + 1, 0, none⟩ = some (.int .i64 k) := by rw [HKD.out]; exact H2.out.2.2.1.num (bare0_ok HP.out.1) 0 (by decide)
  go_wp2_with fail
  (with_reducible refine (tagged_any k _).mono ?_)
  rintro e _ ⟨rfl, rfl⟩
  rw [HT.out]
  clear c3
  obtain ⟨nz, hnz⟩ : ∃ nz, nz = w.heap.size + 2 := ⟨_, rfl⟩
  rw [← hnz]
  have HZ : Hid (Touch (fun _ => False) w w2 ∧ Blk w2 nz 25 (pkV Pk.zero) ∧ w.heap.size < nz) := Lib.hid ⟨H2.out.1, by rw [hnz]; exact H2.out.2.2.2.1, by omega⟩
  clear hnz
  go_wp2_with ((with_reducible refine at_op (.store 25 (.tmp 4) (.tmp 24)) rfl ?_); refine wpList_store_blk rfl 25 (.tmp 4) (.tmp 24) rfl nz 25 (pkV Pk.zero) (pkV Pk.zero) rfl rfl HZ.out.2.1 (by kernel_rfl) (by kernel_rfl) (pkV_one _) ?_; intro wz hB ht hs; have HF9 := Lib.hid (And.intro hB ht); clear hB ht hs)
  refine bodyPost_ret (results_row_tmp rfl _ _ nz 25 (pkV Pk.zero) _ rfl HF9.out.1 Try.underlying25 rfl (by kernel_rfl)) rfl ⟨by rw [HM.out.1, HM.out.2]; rfl, ?_⟩
  exact (Touch.then HZ.out.1 HF9.out.2 (fun i hi e => by have := HZ.out.2.2; omega)).below (Nat.le_refl _) (fun _ _ h => h)

set_option maxRecDepth 100000 in
set_option maxHeartbeats 8000000 in
theorem sign_yes (key : List Nat) (hk : key.length = 16) (hkr : ∀ y ∈ key, y < 256) (p : Pk) (hp : p.Ok) (w : World) (hR : RightN (bare0 p)) (hT : taggedN p.kind = true) :
    Calls Try.prog 35 #[.agg (bn key).toArray, .agg (pkV p)] w fun e w' => e = .returned (.tuple #[.agg (pkV (signN key p)), .bool (decide (MayN p))]) ∧ Below w.heap.size w w' := by
  have hM : MayN p := ⟨hT, hR⟩
  have HP := Lib.hid (And.intro hp (And.intro hR (And.intro hk hkr)))
  obtain ⟨k, hkd⟩ : ∃ k, k = p.kind := ⟨_, rfl⟩
  have HKD : Hid (k = (bare0 p).n.getD 0 0) := Lib.hid hkd
  have HT : Hid (taggedN k = true) := Lib.hid (by rw [hkd]; exact hT)
  obtain ⟨Z, hZ⟩ : ∃ Z, encN (bare0 p) = Z := ⟨_, rfl⟩
  obtain ⟨n, hn⟩ : ∃ n, Z.length = n := ⟨_, rfl⟩
  have HZN := Lib.hid (And.intro hZ hn)
  obtain ⟨F, hF⟩ : ∃ F, F = hmac key (nats Z) := ⟨_, rfl⟩
  have hFl : F.length = 32 := by rw [hF]; exact hmac_len _ _
  have HM : Hid (signN key p = { p with tag := F.take 8 } ∧ decide (MayN p) = true) := Lib.hid ⟨by unfold signN; rw [if_pos hM]; unfold tagOf; rw [hZ, ← hF], decide_eq_true hM⟩
  have HFS := Lib.hid (And.intro (show (bn F).toArray.size = 32 by rw [bn_size, hFl]) (bn_all F))
  have h8 : (F.take 8).length = 8 := by rw [List.length_take, hFl]; rfl
  have HLEN : Hid ((ints p.n ++ bn p.sec).length = 28 ∧ (F.take 8).length = 8 ∧ ({ p with tag := F.take 8 } : Pk).Ok) := Lib.hid ⟨by rw [List.length_append, ints_length, bn_len, hp.hn, hp.hs], h8, hp.setTag h8 (fun y hy => by rw [hF] at hy; exact hmac_lt _ _ y (List.mem_of_mem_take hy))⟩
  have hZr : ∀ z ∈ Z, 0 ≤ z ∧ z < 256 := by rw [← hZ]; exact enc_range _ (bare0_ok hp)
  have hn26 : n ≤ 26 := by
    have h1 := size_range p.kind (right_kind (bare0 p) hR)
    have h2 := enc_len (bare0 p) (bare0_ok hp)
    rw [hZ, hn] at h2
    have h3 : (bare0 p).kind = p.kind := rfl
    rw [h3] at h2
    omega
  have HZR : Hid (bys Z = bn (nats Z) ∧ (nats Z).length = n ∧ (∀ y ∈ nats Z, y < 256) ∧ n ≤ 100000) := Lib.hid ⟨(bn_nats hZr).symm, by rw [nats_len]; exact hn, nats_lt hZr, by omega⟩
  have HF := Lib.hid hF
  clear hp hR hM hk hkr hkd hT hZ hn hF hFl h8 hZr hn26
  go_enter Try.func35, Try.ntmps35
  go_wp2_with (first
    | ((with_reducible refine at_op (.store 23 (.tmp 10) (.tmp 9)) rfl ?_); refine wpList_store_tag rfl 23 (.tmp 10) (.tmp 9) rfl (w.heap.size + 1) 25 p (List.replicate 8 0) rfl rfl ((blk_new_at (by simp) rfl).alloc _) HP.out.1 rfl (by kernel_rfl) ?_; intro w1 hB ht hs; have H1 : Hid (Touch (fun _ => False) w w1 ∧ Blk w1 w.heap.size 22 (bn key).toArray ∧ Blk w1 (w.heap.size + 1) 25 (pkV (bare0 p)) ∧ Blk w1 (w.heap.size + 2) 25 (pkV Pk.zero)) := Lib.hid ⟨Touch.then (S := fun _ => False) ((((Touch.refl _ w).alloc _).alloc _).alloc _) ht (fun i hi e => by omega), (((Blk.new w (bn key).toArray 22).alloc _).alloc _).touch ht (by omega), hB, (blk_new_at (by simp) rfl).touch ht (by omega)⟩; clear hB ht hs)
    | ((with_reducible refine at_op (.load 25 (.tmp 3)) rfl ?_); refine wpList_load_blk rfl 25 (.tmp 3) rfl (w.heap.size + 1) 25 (pkV (bare0 p)) _ rfl H1.out.2.2.1 Try.underlying25 rfl (by rw [pkV_size (bare0_ok HP.out.1)]; first | done | kernel_rfl) ?_))
  (with_reducible refine (enc_lit _ (bare0 p) rfl (bare0_ok HP.out.1) HP.out.2.1 Z n HZN.out.1 HZN.out.2 _).mono ?_)
  rintro e w2 ⟨ab, cb, rfl, ho, hc, hb2⟩
  have H2 : Hid (Touch (fun _ => False) w w2 ∧ Blk w2 w.heap.size 22 (bn key).toArray ∧ Blk w2 (w.heap.size + 1) 25 (pkV (bare0 p)) ∧ Blk w2 (w.heap.size + 2) 25 (pkV Pk.zero) ∧ SlAt w2 ab (bys Z) ∧ (ab = none → cb = 0)) := Lib.hid ⟨H1.out.1.trans (Touch.of_below hb2), H1.out.2.1.touch (Touch.of_below (S := fun _ => False) hb2) (fun h => h), H1.out.2.2.1.touch (Touch.of_below (S := fun _ => False) hb2) (fun h => h), H1.out.2.2.2.touch (Touch.of_below (S := fun _ => False) hb2) (fun h => h), SlAt.of_owns ho, hc⟩
  clear hb2 ho hc
  have c3 : w2.cell? ⟨w.heap.size + 1, 0, none⟩ = some (.int .i64 k) := by rw [HKD.out]; exact H2.out.2.2.1.num (bare0_ok HP.out.1) 0 (by decide)
  go_wp2_with fail
  (with_reducible refine (tagged_any k _).mono ?_)
  rintro e _ ⟨rfl, rfl⟩
  rw [HT.out]
  clear c3
  go_wp2_with fail
  (with_reducible refine (macOf_eq (some ⟨w.heap.size, 0, none⟩) 16 16 key _ 1 1 [⟨ab, cb, nats Z⟩] (nats Z) _ HP.out.2.2.1 (by simp [flatP]) rfl ((SlAt.of_blk H2.out.2.1).alloc _) (fun h => by cases h) HP.out.2.2.2 (by decide) ?_ (fun h => by cases h) HZR.out.2.2.1 (by rw [HZR.out.2.1]; exact HZR.out.2.2.2) (by decide)).mono ?_)
  · have h := PartsIn.lay (w := w2) rfl [⟨ab, cb, nats Z⟩] 26 (fun q hq => by
      rw [List.mem_singleton] at hq
      subst hq
      exact ⟨by rw [← HZR.out.1]; exact H2.out.2.2.2.2.1, H2.out.2.2.2.2.2⟩)
    simp only [List.map_cons, List.map_nil, Part.v, HZR.out.2.1] at h
    exact h
  rintro e w3 ⟨rfl, hb3⟩
  rw [← HF.out]
  have H3 : Hid (Touch (fun _ => False) w2 w3) := Lib.hid (((Touch.refl (fun _ => False) w2).alloc _).trans (Touch.of_below hb3))
  clear hb3
  go_wp2_with (refine wpList_store_blk rfl 73 (.tmp 8) (.tmp 28) rfl w3.heap.size 73 _ (bn F).toArray rfl rfl (Blk.new _ _ _) (by rw [HFS.out.1]; first | done | kernel_rfl) (by rw [HFS.out.1]; first | done | kernel_rfl) HFS.out.2 ?_; intro w4 hB4 ht4 hs4)
  obtain ⟨nm, hnm⟩ : ∃ nm, nm = w3.heap.size := ⟨_, rfl⟩
  obtain ⟨n3, hn3⟩ : ∃ n3, n3 = w.heap.size + 1 := ⟨_, rfl⟩
  obtain ⟨nz, hnz⟩ : ∃ nz, nz = w.heap.size + 1 + 1 := ⟨_, rfl⟩
  rw [← hnm, ← hnz, ← hn3]
  have HNS : Hid (n3 = w.heap.size + 1 ∧ nz = w.heap.size + 2) := Lib.hid ⟨hn3, hnz⟩
  have HQ : Hid (Blk w4 nm 73 (bn F).toArray ∧ Blk w4 n3 25 ((ints p.n ++ bn p.sec) ++ (bn (List.replicate 8 0) ++ [])).toArray ∧ Touch (fun _ => False) w w4 ∧ Blk w4 nz 25 (pkV Pk.zero)) := Lib.hid (by
    have t24 : Touch (fun _ => False) w2 w4 := Touch.then (S := fun _ => False) (H3.out.alloc _) ht4 (fun i hi e => by have := H3.out.size; omega)
    refine ⟨by rw [hnm]; exact hB4, ?_, H2.out.1.trans t24, by rw [hnz]; exact H2.out.2.2.2.1.touch t24 (fun h => h)⟩
    have h := H2.out.2.2.1.touch t24 (fun h => h)
    rw [hn3]
    rw [pkV_split_tag] at h
    exact h)
  clear hnm hn3 hnz hB4 ht4 hs4
  refine wp_region_held_drew (S := fun _ => True) (by kernel_rfl) trivial (fun _ => ?_)
  refine anyH_world (R := fun w' : World => TG w4 w') ((TG.refl w4).drew) ?_
  intro W0q hHeld
  refine region_take 0 (v := ?vq0_1) rfl rfl (by kernel_rfl) (by kernel_rfl) (by kernel_rfl) (fun _ _ _ h => h) trivial (Or.inl ⟨by rfl, ?yq0_1⟩) ?rq0_1
  case yq0_1 => (intro w hSw; (try dsimp only at hSw); go_simp; try with_reducible rfl)
  try simp only [Act.put, List.setIfInBounds_toArray, List.set_cons_zero, List.set_cons_succ]
  refine region_take 1 (v := ?vq1_2) rfl rfl (by kernel_rfl) (by kernel_rfl) (by kernel_rfl) (fun _ _ _ h => h) trivial (Or.inl ⟨by rfl, ?yq1_2⟩) ?rq1_2
  case yq1_2 => (intro w hSw; (try dsimp only at hSw); go_simp; try with_reducible rfl)
  try simp only [Act.put, List.setIfInBounds_toArray, List.set_cons_zero, List.set_cons_succ]
  refine region_take 2 (v := ?vq2_3) rfl rfl (by kernel_rfl) (by kernel_rfl) (by kernel_rfl) (fun _ _ _ h => h) trivial (Or.inl ⟨by rfl, ?yq2_3⟩) ?rq2_3
  case yq2_3 => (intro w hSw; (try dsimp only at hSw); go_simp; try with_reducible rfl)
  try simp only [Act.put, List.setIfInBounds_toArray, List.set_cons_zero, List.set_cons_succ]
  refine region_one 3 (by kernel_rfl) rfl (fun K hK => ?_)
  refine step_copy_first rfl (.tmp 30) (.tmp 31) 26 26 rfl 5 Try.underlying26 (by kernel_rfl) n3 28 8 8 rfl ⟨nm, 0, none⟩ 32 32 rfl 25 (ints p.n ++ bn p.sec) (bn (List.replicate 8 0)) [] (bn (F.take 8)) (HQ.out.2.1.tg hHeld) HLEN.out.1 (by rw [bn_len]; rfl) (by rw [bn_len]; exact HLEN.out.2.1) (by decide) (by have h := (SlAt.of_blk (HQ.out.1.tg hHeld)).take 8; rw [bn_take] at h; exact h) (bn_one _) ?_
  intro uq_4 hB9 ht9
  have H9 : Hid (Blk uq_4 n3 25 (pkV { p with tag := F.take 8 }) ∧ Touch (fun _ => False) w uq_4 ∧ Blk uq_4 nz 25 (pkV Pk.zero)) := Lib.hid ⟨by rw [pkV_split_tag]; exact hB9, Touch.then (HQ.out.2.2.1.trans (hHeld).still2) ht9 (fun i hi e => by have := HNS.out; omega), (HQ.out.2.2.2.tg hHeld).touch ht9 (by have := HNS.out; omega)⟩
  clear hB9
  have ht := ht9
  clear hHeld ht
  refine hK.out _ _ trivial (fun _ => ?_)
  clear hK K
  try simp only [Act.put]
  refine wpAnyH_done (by kernel_rfl) ?_ _
  go_wp2_with (first
    | ((with_reducible refine at_op (.load 25 (.tmp 3)) rfl ?_); refine wpList_load_blk rfl 25 (.tmp 3) rfl n3 25 (pkV { p with tag := F.take 8 }) _ rfl H9.out.1 Try.underlying25 rfl (by rw [pkV_size HLEN.out.2.2]; first | done | kernel_rfl) ?_)
    | ((with_reducible refine at_op (.store 25 (.tmp 4) (.tmp 33)) rfl ?_); refine wpList_store_blk rfl 25 (.tmp 4) (.tmp 33) rfl nz 25 (pkV Pk.zero) (pkV { p with tag := F.take 8 }) rfl rfl H9.out.2.2 (by rw [pkV_size HLEN.out.2.2]; first | done | kernel_rfl) (by rw [pkV_size HLEN.out.2.2]; first | done | kernel_rfl) (pkV_one _) ?_; intro wz hB ht hs; have HF9 := Lib.hid (And.intro hB ht); clear hB ht hs))
  refine bodyPost_ret (results_row_tmp rfl _ _ nz 25 (pkV { p with tag := F.take 8 }) _ rfl HF9.out.1 Try.underlying25 rfl (by rw [pkV_size HLEN.out.2.2]; first | done | kernel_rfl)) rfl ⟨by rw [HM.out.1, HM.out.2]; rfl, ?_⟩
  exact (Touch.then H9.out.2.1 HF9.out.2 (fun i hi e => by have := HNS.out; omega)).below (Nat.le_refl _) (fun _ _ h => h)

theorem sign_any (key : List Nat) (hk : key.length = 16) (hkr : ∀ y ∈ key, y < 256) (p : Pk) (hp : p.Ok) (w : World) :
    Calls Try.prog 35 #[.agg (bn key).toArray, .agg (pkV p)] w fun e w' => e = .returned (.tuple #[.agg (pkV (signN key p)), .bool (decide (MayN p))]) ∧ Below w.heap.size w w' := by
  by_cases hR : RightN (bare0 p)
  · cases hT : taggedN p.kind with
    | false => exact sign_no2 key hk hkr p hp w hR hT
    | true => exact sign_yes key hk hkr p hp w hR hT
  · exact sign_no1 key hk hkr p hp w hR
end Go.Proofs.Ythlkmofemnepbaa
