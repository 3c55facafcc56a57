/-
  nightjarlaw07.TagTells: for all inputs the law returns true. No conditions: for every input that can be read.
-/
import Derived.Test.YthlkmofemnepbaaRows
import Derived.Test.YthlkmofemnepbaaTSmall
import Derived.Test.YthlkmofemnepbaaRWireAll
import Derived.Test.YthlkmofemnepbaaRKey
import Derived.Test.YthlkmofemnepbaaGood
import Derived.Test.YthlkmofemnepbaaPkArg
import Derived.Test.YthlkmofemnepbaaArr
import Derived.Test.YthlkmofemnepbaaOpen
namespace Go.Proofs.Ythlkmofemnepbaa
open Go.RowKit

theorem refEnc_lit (V : Array Value) (p : Pk) (hV : V = pkV p) (hp : p.Ok) (hR : RightN p) (zs : List Int) (n : Nat) (hz : encN p = zs) (hn : zs.length = n) (w : World) :
    Calls Try.prog 22 #[.agg V] w fun e w' => ∃ a c, e = .returned (.tuple #[.slice a n c, .int .i64 0]) ∧ w'.ownsRow w.heap.size 5 1 (.slice a n c) n (bys zs) ∧ (a = none → c = 0) ∧ Below w.heap.size w w' := by
  subst hV hz hn
  refine (refEnc_yes p hp hR w).mono ?_
  rintro e w' ⟨⟨v, rfl, ho⟩, hb⟩
  obtain ⟨a, c, rfl, hn, _, _, _⟩ := owns_form ho.own
  exact ⟨a, c, rfl, ho.own, fun h => (hn h).2, hb⟩

set_option maxRecDepth 100000 in
set_option maxHeartbeats 8000000 in
theorem refSign_no1 (key : List Nat) (_hk : key.length = 16) (_hkr : ∀ y ∈ key, y < 256) (p : Pk) (hp : p.Ok) (w : World) (hT : taggedN p.kind = false) :
    Calls Try.prog 36 #[.agg (bn key).toArray, .agg (pkV p)] w fun e w' => e = .returned (.tuple #[.agg (pkV (signN key p)), .bool (decide (MayN p))]) ∧ Below w.heap.size w w' := by
  have hM : ¬ MayN p := fun h => by have := h.1; rw [hT] at this; cases this
  have HM : Hid (signN key p = Pk.zero ∧ decide (MayN p) = false) := Lib.hid ⟨by unfold signN; rw [if_neg hM], decide_eq_false hM⟩
  obtain ⟨k, hkd⟩ : ∃ k, k = p.kind := ⟨_, rfl⟩
  have HT : Hid (taggedN k = false ∧ k = p.n.getD 0 0) := Lib.hid ⟨by rw [hkd]; exact hT, hkd⟩
  have c0 : ∀ o, (((w.alloc (.cells (bn key).toArray 22)).alloc (.cells (pkV p) 25)).alloc o).cell? ⟨w.heap.size + 1, 0, none⟩ = some (.int .i64 k) := fun o => by
    rw [hkd]
    exact ((blk_new_at (w := w.alloc (.cells (bn key).toArray 22)) (by simp) rfl).alloc o).num hp 0 (by decide)
  clear hM hkd hT hp
  go_enter Try.func36, Try.ntmps36
  go_wp2_with fail
  (with_reducible refine (refTagged_any k _).mono ?_)
  rintro e _ ⟨rfl, rfl⟩
  rw [HT.out.1]
  clear c0
  go_wp2_with ((with_reducible refine at_op (.store 25 (.tmp 4) (.tmp 14)) rfl ?_); refine wpList_store_blk rfl 25 (.tmp 4) (.tmp 14) rfl (w.heap.size + 1 + 1) 25 (pkV Pk.zero) (pkV Pk.zero) rfl rfl (blk_new_at (by simp) rfl) (by kernel_rfl) (by kernel_rfl) (pkV_one _) ?_; intro wz hB ht hs; have HF9 := Lib.hid (And.intro hB ht); clear hB ht hs)
  refine bodyPost_ret (results_row_tmp rfl _ _ (w.heap.size + 1 + 1) 25 (pkV Pk.zero) _ rfl HF9.out.1 Try.underlying25 rfl (by kernel_rfl)) rfl ⟨by rw [HM.out.1, HM.out.2]; rfl, ?_⟩
  exact (Touch.then (S := fun _ => False) ((((Touch.refl (fun _ => False) w).alloc _).alloc _).alloc _) HF9.out.2 (fun i hi e => by omega)).below (Nat.le_refl _) (fun _ _ h => h)

set_option maxRecDepth 100000 in
set_option maxHeartbeats 8000000 in
theorem refSign_no2 (key : List Nat) (_hk : key.length = 16) (_hkr : ∀ y ∈ key, y < 256) (p : Pk) (hp : p.Ok) (w : World) (hT : taggedN p.kind = true) (hR : ¬ RightN (bare0 p)) :
    Calls Try.prog 36 #[.agg (bn key).toArray, .agg (pkV p)] w fun e w' => e = .returned (.tuple #[.agg (pkV (signN key p)), .bool (decide (MayN p))]) ∧ Below w.heap.size w w' := by
  have hM : ¬ MayN p := fun h => hR h.2
  have HM : Hid (signN key p = Pk.zero ∧ decide (MayN p) = false) := Lib.hid ⟨by unfold signN; rw [if_neg hM], decide_eq_false hM⟩
  obtain ⟨k, hkd⟩ : ∃ k, k = p.kind := ⟨_, rfl⟩
  have HT : Hid (taggedN k = true ∧ k = p.n.getD 0 0) := Lib.hid ⟨by rw [hkd]; exact hT, hkd⟩
  have c0 : ∀ o, (((w.alloc (.cells (bn key).toArray 22)).alloc (.cells (pkV p) 25)).alloc o).cell? ⟨w.heap.size + 1, 0, none⟩ = some (.int .i64 k) := fun o => by
    rw [hkd]
    exact ((blk_new_at (w := w.alloc (.cells (bn key).toArray 22)) (by simp) rfl).alloc o).num hp 0 (by decide)
  have HP := Lib.hid (And.intro hp hR)
  clear hM hkd hT hp hR
  go_enter Try.func36, Try.ntmps36
  go_wp2_with fail
  (with_reducible refine (refTagged_any k _).mono ?_)
  rintro e _ ⟨rfl, rfl⟩
  rw [HT.out.1]
  clear c0
  go_wp2_with (first
    | ((with_reducible refine at_op (.store 23 (.tmp 16) (.tmp 15)) rfl ?_); refine wpList_store_tag rfl 23 (.tmp 16) (.tmp 15) rfl (w.heap.size + 1) 25 p (List.replicate 8 0) rfl rfl ((blk_new_at (by simp) rfl).alloc _) HP.out.1 rfl (by kernel_rfl) ?_; intro w1 hB ht hs; have H1 : Hid (Touch (fun _ => False) w w1 ∧ Blk w1 w.heap.size 22 (bn key).toArray ∧ Blk w1 (w.heap.size + 1) 25 (pkV (bare0 p)) ∧ Blk w1 (w.heap.size + 2) 25 (pkV Pk.zero)) := Lib.hid ⟨Touch.then (S := fun _ => False) ((((Touch.refl _ w).alloc _).alloc _).alloc _) ht (fun i hi e => by omega), (((Blk.new w (bn key).toArray 22).alloc _).alloc _).touch ht (by omega), hB, (blk_new_at (by simp) rfl).touch ht (by omega)⟩; clear hB ht hs)
    | ((with_reducible refine at_op (.load 25 (.tmp 3)) rfl ?_); refine wpList_load_blk rfl 25 (.tmp 3) rfl (w.heap.size + 1) 25 (pkV (bare0 p)) _ rfl H1.out.2.2.1 Try.underlying25 rfl (by rw [pkV_size (bare0_ok HP.out.1)]; first | done | kernel_rfl) ?_))
  (with_reducible refine (refEnc_no (bare0 p) (bare0_ok HP.out.1) HP.out.2 _).mono ?_)
  rintro e w2 ⟨rfl, hb2⟩
  obtain ⟨nz, hnz⟩ : ∃ nz, nz = w.heap.size + 1 + 1 := ⟨_, rfl⟩
  rw [← hnz]
  have HZ : Hid (Touch (fun _ => False) w w2 ∧ Blk w2 nz 25 (pkV Pk.zero) ∧ w.heap.size < nz) := Lib.hid ⟨H1.out.1.trans (Touch.of_below hb2), by rw [hnz]; exact H1.out.2.2.2.touch (Touch.of_below (S := fun _ => False) hb2) (fun h => h), by omega⟩
  clear hnz hb2
  go_wp2_with ((with_reducible refine at_op (.store 25 (.tmp 4) (.tmp 24)) rfl ?_); refine wpList_store_blk rfl 25 (.tmp 4) (.tmp 24) rfl nz 25 (pkV Pk.zero) (pkV Pk.zero) rfl rfl HZ.out.2.1 (by kernel_rfl) (by kernel_rfl) (pkV_one _) ?_; intro wz hB ht hs; have HF9 := Lib.hid (And.intro hB ht); clear hB ht hs)
  refine bodyPost_ret (results_row_tmp rfl _ _ nz 25 (pkV Pk.zero) _ rfl HF9.out.1 Try.underlying25 rfl (by kernel_rfl)) rfl ⟨by rw [HM.out.1, HM.out.2]; rfl, ?_⟩
  exact (Touch.then HZ.out.1 HF9.out.2 (fun i hi e => by have := HZ.out.2.2; omega)).below (Nat.le_refl _) (fun _ _ h => h)

set_option maxRecDepth 100000 in
set_option maxHeartbeats 8000000 in
theorem refSign_yes (key : List Nat) (hk : key.length = 16) (hkr : ∀ y ∈ key, y < 256) (p : Pk) (hp : p.Ok) (w : World) (hT : taggedN p.kind = true) (hR : RightN (bare0 p)) :
    Calls Try.prog 36 #[.agg (bn key).toArray, .agg (pkV p)] w fun e w' => e = .returned (.tuple #[.agg (pkV (signN key p)), .bool (decide (MayN p))]) ∧ Below w.heap.size w w' := by
  obtain ⟨k, hkd⟩ : ∃ k, k = p.kind := ⟨_, rfl⟩
  have HT : Hid (taggedN k = true ∧ k = p.n.getD 0 0) := Lib.hid ⟨by rw [hkd]; exact hT, hkd⟩
  have c0 : ∀ o, (((w.alloc (.cells (bn key).toArray 22)).alloc (.cells (pkV p) 25)).alloc o).cell? ⟨w.heap.size + 1, 0, none⟩ = some (.int .i64 k) := fun o => by
    rw [hkd]
    exact ((blk_new_at (w := w.alloc (.cells (bn key).toArray 22)) (by simp) rfl).alloc o).num hp 0 (by decide)
  have hM : MayN p := ⟨hT, hR⟩
  have HP := Lib.hid (And.intro hp (And.intro hR (And.intro hk hkr)))
  obtain ⟨Z, hZ⟩ : ∃ Z, encN (bare0 p) = Z := ⟨_, rfl⟩
  obtain ⟨n, hn⟩ : ∃ n, Z.length = n := ⟨_, rfl⟩
  have HZN := Lib.hid (And.intro hZ hn)
  obtain ⟨F, hF⟩ : ∃ F, F = hmac key (nats Z) := ⟨_, rfl⟩
  have hFl : F.length = 32 := by rw [hF]; exact hmac_len _ _
  have HM : Hid (signN key p = { p with tag := F.take 8 } ∧ decide (MayN p) = true) := Lib.hid ⟨by unfold signN; rw [if_pos hM]; unfold tagOf; rw [hZ, ← hF], decide_eq_true hM⟩
  have HFS := Lib.hid (And.intro (show (bn F).toArray.size = 32 by rw [bn_size, hFl]) (bn_all F))
  have h8 : (F.take 8).length = 8 := by rw [List.length_take, hFl]; rfl
  have HLEN : Hid (F.length = 32 ∧ ({ p with tag := F.take 8 } : Pk).Ok) := Lib.hid ⟨hFl, hp.setTag h8 (fun y hy => by rw [hF] at hy; exact hmac_lt _ _ y (List.mem_of_mem_take hy))⟩
  have hZr : ∀ z ∈ Z, 0 ≤ z ∧ z < 256 := by rw [← hZ]; exact enc_range _ (bare0_ok hp)
  have hn26 : n ≤ 26 := by
    have h1 := size_range p.kind (right_kind (bare0 p) hR)
    have h2 := enc_len (bare0 p) (bare0_ok hp)
    rw [hZ, hn] at h2
    have h3 : (bare0 p).kind = p.kind := rfl
    rw [h3] at h2
    omega
  have HZR : Hid (bys Z = bn (nats Z) ∧ (nats Z).length = n ∧ (∀ y ∈ nats Z, y < 256) ∧ n ≤ 100000) := Lib.hid ⟨(bn_nats hZr).symm, by rw [nats_len]; exact hn, nats_lt hZr, by omega⟩
  have HF := Lib.hid hF
  clear hp hR hM hk hkr hkd hT hZ hn hF hFl h8 hZr hn26
  go_enter Try.func36, Try.ntmps36
  go_wp2_with fail
  (with_reducible refine (refTagged_any k _).mono ?_)
  rintro e _ ⟨rfl, rfl⟩
  rw [HT.out.1]
  clear c0
  go_wp2_with (first
    | ((with_reducible refine at_op (.store 23 (.tmp 16) (.tmp 15)) rfl ?_); refine wpList_store_tag rfl 23 (.tmp 16) (.tmp 15) rfl (w.heap.size + 1) 25 p (List.replicate 8 0) rfl rfl ((blk_new_at (by simp) rfl).alloc _) HP.out.1 rfl (by kernel_rfl) ?_; intro w1 hB ht hs; have H1 : Hid (Touch (fun _ => False) w w1 ∧ Blk w1 w.heap.size 22 (bn key).toArray ∧ Blk w1 (w.heap.size + 1) 25 (pkV (bare0 p)) ∧ Blk w1 (w.heap.size + 2) 25 (pkV Pk.zero)) := Lib.hid ⟨Touch.then (S := fun _ => False) ((((Touch.refl _ w).alloc _).alloc _).alloc _) ht (fun i hi e => by omega), (((Blk.new w (bn key).toArray 22).alloc _).alloc _).touch ht (by omega), hB, (blk_new_at (by simp) rfl).touch ht (by omega)⟩; clear hB ht hs)
    | ((with_reducible refine at_op (.load 25 (.tmp 3)) rfl ?_); refine wpList_load_blk rfl 25 (.tmp 3) rfl (w.heap.size + 1) 25 (pkV (bare0 p)) _ rfl H1.out.2.2.1 Try.underlying25 rfl (by rw [pkV_size (bare0_ok HP.out.1)]; first | done | kernel_rfl) ?_))
  (with_reducible refine (refEnc_lit _ (bare0 p) rfl (bare0_ok HP.out.1) HP.out.2.1 Z n HZN.out.1 HZN.out.2 _).mono ?_)
  rintro e w2 ⟨ab, cb, rfl, ho, hc, hb2⟩
  obtain ⟨n2, hn2⟩ : ∃ n2, n2 = w.heap.size := ⟨_, rfl⟩
  obtain ⟨n3, hn3⟩ : ∃ n3, n3 = w.heap.size + 1 := ⟨_, rfl⟩
  obtain ⟨nz, hnz⟩ : ∃ nz, nz = w.heap.size + 1 + 1 := ⟨_, rfl⟩
  rw [← hnz, ← hn3, ← hn2]
  have H2 : Hid (Touch (fun _ => False) w w2 ∧ Blk w2 n2 22 (bn key).toArray ∧ Blk w2 n3 25 (pkV (bare0 p)) ∧ Blk w2 nz 25 (pkV Pk.zero) ∧ SlAt w2 ab (bys Z) ∧ (ab = none → cb = 0) ∧ n2 = w.heap.size ∧ n3 = w.heap.size + 1 ∧ nz = w.heap.size + 2) := Lib.hid ⟨H1.out.1.trans (Touch.of_below hb2), by rw [hn2]; exact H1.out.2.1.touch (Touch.of_below (S := fun _ => False) hb2) (fun h => h), by rw [hn3]; exact H1.out.2.2.1.touch (Touch.of_below (S := fun _ => False) hb2) (fun h => h), by rw [hnz]; exact H1.out.2.2.2.touch (Touch.of_below (S := fun _ => False) hb2) (fun h => h), SlAt.of_owns ho, hc, hn2, hn3, hnz⟩
  clear hb2 ho hc hn2 hn3 hnz
  go_wp2_with fail
  (with_reducible refine (refMacOf_eq (some ⟨n2, 0, none⟩) 16 16 key ab n cb (nats Z) _ HP.out.2.2.1 HZR.out.2.1 (SlAt.of_blk H2.out.2.1) (fun h => by cases h) HP.out.2.2.2 (by decide) (by rw [← HZR.out.1]; exact H2.out.2.2.2.2.1) H2.out.2.2.2.2.2.1 HZR.out.2.2.1 HZR.out.2.2.2).mono ?_)
  rintro e w4 ⟨rfl, hb4⟩
  rw [← HF.out]
  have H4 : Hid (Touch (fun _ => False) w2 w4) := Lib.hid (Touch.of_below hb4)
  clear hb4
  go_wp2_with ((with_reducible refine at_op (.store 73 (.tmp 8) (.tmp 27)) rfl ?_); refine wpList_store_blk rfl 73 (.tmp 8) (.tmp 27) rfl w4.heap.size 73 _ (bn F).toArray rfl rfl (Blk.new _ _ _) (by rw [HFS.out.1]; first | done | kernel_rfl) (by rw [HFS.out.1]; first | done | kernel_rfl) HFS.out.2 ?_; intro w5 hB5 ht5 hs5; have H5 : Hid (Blk w5 w4.heap.size 73 (bn F).toArray ∧ Touch (fun _ => False) w2 w5) := Lib.hid ⟨hB5, Touch.then (S := fun _ => False) (H4.out.alloc _) ht5 (fun i hi e => by have := H4.out.size; omega)⟩; clear hB5 ht5 hs5)
  obtain ⟨n8, hn8⟩ : ∃ n8, n8 = w4.heap.size := ⟨_, rfl⟩
  rw [← hn8]
  have H6 : Hid (Blk w5 n8 73 (bn F).toArray ∧ n3 < n8 ∧ Blk w5 n3 25 (pkV ⟨p.n, p.sec, List.replicate 8 0⟩)) := Lib.hid ⟨by rw [hn8]; exact H5.out.1, by
    rw [hn8]
    have h1 := H2.out.2.2.1.lt
    have h2 := H4.out.size
    omega, H2.out.2.2.1.touch H5.out.2 (fun h => h)⟩
  clear hn8
  go_loopw [9] (fun c W => ∃ i : Nat, i ≤ 8 ∧ c = .int .i64 i ∧ Blk W n3 25 (pkV ⟨p.n, p.sec, F.take i ++ List.replicate (8 - i) 0⟩) ∧ Touch (fun k => k = n3) w5 W) (fun c _ => (8 - intOf c).toNat)
  case atStart => exact ⟨0, Nat.zero_le _, rfl, H6.out.2.2, Touch.refl _ _⟩
  case round =>
    obtain ⟨i, hi, rfl, hB, hT⟩ := hrel
    by_cases hq : i = 8
    · subst hq
      rw [Nat.sub_self, List.replicate_zero, List.append_nil] at hB
      have HE := Lib.hid (And.intro hB hT)
      have HBZ : Hid (Blk wr nz 25 (pkV Pk.zero)) := Lib.hid ((H2.out.2.2.2.1.touch H5.out.2 (fun h => h)).touch hT (by have := H2.out.2.2.2.2.2.2; omega))
      clear hB hT hi
      go_wp2_with (first
        | ((with_reducible refine at_op (.load 25 (.tmp 3)) rfl ?_); refine wpList_load_blk rfl 25 (.tmp 3) rfl n3 25 (pkV { p with tag := F.take 8 }) _ rfl HE.out.1 Try.underlying25 rfl (by rw [pkV_size HLEN.out.2]; first | done | kernel_rfl) ?_)
        | ((with_reducible refine at_op (.store 25 (.tmp 4) (.tmp 38)) rfl ?_); refine wpList_store_blk rfl 25 (.tmp 4) (.tmp 38) rfl nz 25 (pkV Pk.zero) (pkV { p with tag := F.take 8 }) rfl rfl HBZ.out (by rw [pkV_size HLEN.out.2]; first | done | kernel_rfl) (by rw [pkV_size HLEN.out.2]; first | done | kernel_rfl) (pkV_one _) ?_; intro wz hB ht hs; have HF9 := Lib.hid (And.intro hB ht); clear hB ht hs))
      refine bodyPost_ret (results_row_tmp rfl _ _ nz 25 (pkV { p with tag := F.take 8 }) _ rfl HF9.out.1 Try.underlying25 rfl (by rw [pkV_size HLEN.out.2]; first | done | kernel_rfl)) rfl ⟨by rw [HM.out.1, HM.out.2]; rfl, ?_⟩
      have h2 := H2.out.2.2.2.2.2.2
      exact (Touch.then (S := fun _ => False) (Touch.then (S := fun _ => False) (H2.out.1.trans H5.out.2) HE.out.2 (fun i hi e => by omega)) HF9.out.2 (fun i hi e => by omega)).below (Nat.le_refl _) (fun _ _ h => h)
    · have hil : i < 8 := by omega
      have hiI : (i : Int) < 8 := by omega
      have hi0 : (0 : Int) ≤ i := by omega
      have hi32 : (i : Int) < 32 := by omega
      obtain ⟨y, hy⟩ : ∃ y, F[i]? = some y := ⟨_, List.getElem?_eq_getElem (by have := HLEN.out.1; omega)⟩
      have cs := (H6.out.1.touch hT (by have := H6.out.2.1; omega)).cell i (v := .int .u8 (y : Int)) (by simp [bn, bys, natsD, hy])
      have ct : wr.cell? ⟨n3, 28 + i, none⟩ = some (.int .u8 0) := hB.zeroTag HP.out.1.hn HP.out.1.hs hil (by have := HLEN.out.1; omega)
      have fi := hB.frozen (28 + i)
      have HK4 := Lib.hid (And.intro hB (And.intro hT hy))
      clear hB hT hy hq hi
      go_wp2_with fail
      go_roundw
      case rel =>
        obtain ⟨hB, hT, hy⟩ := HK4.out
        refine ⟨i + 1, by omega, by first | rfl | (congr 1; omega) | (congr 1; unfold wrap64; omega), ?_, hT.trans2 (Touch.setCell (S := fun k => k = n3) (Touch.refl _ _) (p := ⟨n3, 28 + i, none⟩) (fun _ => rfl) _)⟩
        have h := hB.setTagAt HP.out.1.hn HP.out.1.hs i y
        rw [take_set F i 8 y hil hy] at h
        exact h
      case measure => simp [intOf]; (try unfold wrap64); omega

theorem refSign_any (key : List Nat) (hk : key.length = 16) (hkr : ∀ y ∈ key, y < 256) (p : Pk) (hp : p.Ok) (w : World) :
    Calls Try.prog 36 #[.agg (bn key).toArray, .agg (pkV p)] w fun e w' => e = .returned (.tuple #[.agg (pkV (signN key p)), .bool (decide (MayN p))]) ∧ Below w.heap.size w w' := by
  cases hT : taggedN p.kind with
  | false => exact refSign_no1 key hk hkr p hp w hT
  | true =>
    by_cases hR : RightN (bare0 p)
    · exact refSign_yes key hk hkr p hp w hT hR
    · exact refSign_no2 key hk hkr p hp w hT hR

set_option maxRecDepth 100000 in
set_option maxHeartbeats 8000000 in
theorem refGood_any (key : List Nat) (hk : key.length = 16) (hkr : ∀ y ∈ key, y < 256) (p : Pk) (hp : p.Ok) (w : World) :
    Calls Try.prog 40 #[.agg (bn key).toArray, .agg (pkV p)] w fun e w' => e = .returned (.bool (decide (GoodN key p))) ∧ Below w.heap.size w w' := by
  obtain ⟨Q, hQ⟩ : ∃ Q, signN key p = Q := ⟨_, rfl⟩
  obtain ⟨b, hb⟩ : ∃ b, decide (MayN p) = b := ⟨_, rfl⟩
  have HQ := Lib.hid (And.intro hQ hb)
  have hQO : Q.Ok := by rw [← hQ]; exact signN_ok key hp
  obtain ⟨r, hr⟩ : ∃ r, decide (Q.n = p.n ∧ Q.sec = p.sec ∧ Q.tag = p.tag) = r := ⟨_, rfl⟩
  have hG : decide (GoodN key p) = (b && r) := by
    rw [← hb, ← hr]
    by_cases hM : MayN p
    · have e : Q = { p with tag := tagOf key p } := by rw [← hQ]; unfold signN; rw [if_pos hM]
      rw [e, decide_eq_true hM, Bool.true_and]
      unfold GoodN
      simp [hM]
    · rw [decide_eq_false hM, Bool.false_and]
      exact decide_eq_false (fun h => hM h.1)
  have HG := Lib.hid hG
  have HE : Hid (∀ w, (binOp .eql 25 (.agg (pkV Q)) (.agg (pkV p))).run Try.prog w = .ok (.bool r) w) := Lib.hid (fun w => run_eql_pk w Q p hQO hp r hr)
  have HP := Lib.hid (And.intro hp (And.intro hk (And.intro hkr hQO)))
  clear hQ hb hQO hr hG hp hk hkr
  go_enter Try.func40, Try.ntmps40
  go_wp2_with (first
    | ((with_reducible refine at_op (.load 22 (.tmp 2)) rfl ?_); refine wpList_load_blk rfl 22 (.tmp 2) rfl w.heap.size 22 (bn key).toArray _ rfl ((Blk.new _ _ _).alloc _) Try.underlying22 rfl (by rw [bn_size, HP.out.2.1]; first | done | kernel_rfl) ?_)
    | ((with_reducible refine at_op (.load 25 (.tmp 3)) rfl ?_); refine wpList_load_blk rfl 25 (.tmp 3) rfl (w.heap.size + 1) 25 (pkV p) _ rfl (blk_new_at (by simp) rfl) Try.underlying25 rfl (by rw [pkV_size HP.out.1]; first | done | kernel_rfl) ?_))
  (with_reducible refine (refSign_any key HP.out.2.1 HP.out.2.2.1 p HP.out.1 _).mono ?_)
  rintro e w1 ⟨rfl, hb1⟩
  rw [HQ.out.1, HQ.out.2]
  obtain ⟨n3, hn3⟩ : ∃ n3, n3 = w.heap.size + 1 := ⟨_, rfl⟩
  rw [← hn3]
  have H1 : Hid (Touch (fun _ => False) w w1 ∧ Blk w1 n3 25 (pkV p)) := Lib.hid ⟨(((Touch.refl _ w).alloc _).alloc _).trans (Touch.of_below hb1), by rw [hn3]; exact (blk_new_at (w := w.alloc (.cells (bn key).toArray 22)) (by simp) rfl).touch (Touch.of_below (S := fun _ => False) hb1) (fun h => h)⟩
  clear hb1 hn3
  cases b
  all_goals
    go_wp2_with (first
      | ((with_reducible refine at_op (.store 25 (.tmp 5) (.tmp 11)) rfl ?_); refine wpList_store_blk rfl 25 (.tmp 5) (.tmp 11) rfl w1.heap.size 25 _ (pkV Q) rfl rfl (Blk.new _ _ _) (by rw [pkV_size HP.out.2.2.2]; first | done | kernel_rfl) (by rw [pkV_size HP.out.2.2.2]; first | done | kernel_rfl) (pkV_one _) ?_; intro w2 hB ht hs; have H2 : Hid (Touch (fun _ => False) w w2 ∧ Blk w2 n3 25 (pkV p) ∧ Blk w2 w1.heap.size 25 (pkV Q)) := Lib.hid ⟨H1.out.1.trans (touch_store ht), H1.out.2.touch (touch_store ht) (fun h => h), hB⟩; clear hB ht hs)
      | ((with_reducible refine at_op (.load 25 (.tmp 5)) rfl ?_); refine wpList_load_blk_g (by rfl) 25 (.tmp 5) rfl w1.heap.size 25 (pkV Q) _ rfl H2.out.2.2 Try.underlying25 rfl (by rw [pkV_size HP.out.2.2.2]; first | done | kernel_rfl) ?_)
      | ((with_reducible refine at_op (.load 25 (.tmp 3)) rfl ?_); refine wpList_load_blk_g (by rfl) 25 (.tmp 3) rfl n3 25 (pkV p) _ rfl H2.out.2.1 Try.underlying25 rfl (by rw [pkV_size HP.out.1]; first | done | kernel_rfl) ?_)
      | ((with_reducible refine at_op (.binOp .eql 25 (.tmp 15) (.tmp 16) 25) rfl ?_); refine wpList_eql_g (by rfl) .eql 25 25 (.tmp 15) (.tmp 16) rfl (pkV Q) (pkV p) rfl rfl (by kernel_rfl) _ (HE.out _) ?_))
    go_ret
    exact ⟨by rw [HG.out]; try rfl, H2.out.1.below (Nat.le_refl _) (fun _ _ h => h)⟩
end Go.Proofs.Ythlkmofemnepbaa
namespace Go.Proofs.Ythlkmofemnepbaa
open Go.ChangeShapes Go.WideShapes Go.ChangeAt Go.RowKit

set_option maxRecDepth 100000 in
set_option maxHeartbeats 8000000 in
theorem tagTells_walk (w : World) (a0 : Option Addr) (l0 c0 : Nat) (z0 : List Int) (h0 : RowIn .u8 w a0 l0 c0 z0) (se : Int) (_w1 : (Lit.int .i64 se).wf = true) (no : Int) (_w2 : (Lit.int .i64 no).wf = true) (key : List Nat) (hk : key.length = 16) (hkr : ∀ y ∈ key, y < 256) (p : Pk) (hp : p.Ok) :
    Calls Try.prog 15 #[.slice a0 l0 c0, .int .i64 se, .int .i64 no, .agg (bn key).toArray, .agg (pkV p)] w fun e w' => e = .returned (.bool true) ∧ Below w.heap.size w w' := by
  have i0 := h0.bytes
  obtain ⟨s, hs⟩ : ∃ b, b = nats z0 := ⟨_, rfl⟩
  rw [← hs] at i0
  clear hs h0 _w1 _w2
  have e0 := i0.hlen
  subst e0
  have HP := Lib.hid (And.intro hp (And.intro hk hkr))
  have HIN := Lib.hid i0
  clear i0
  by_cases hlen : 300 < s.length
  · clear hp hk hkr
    go_enter Try.func15, Try.ntmps15
    go_wp2_with fail
    (with_reducible refine (tagSmall_any _).mono ?_)
    rintro e wa ⟨rfl, hba⟩
    have HA : Hid (Touch (fun _ => False) w wa) := Lib.hid ((((Touch.refl (fun _ => False) w).alloc _).alloc _).trans (Touch.of_below hba))
    clear hba
    go_wp2_with fail
    go_ret
    exact ⟨by first | rfl | simp, HA.out.below (Nat.le_refl _) (fun _ _ h => h)⟩
  · have HS : Hid (s.length ≤ 100000) := Lib.hid (by omega)
    obtain ⟨Q, hQ⟩ : ∃ Q, signN key p = Q := ⟨_, rfl⟩
    obtain ⟨b, hb⟩ : ∃ b, decide (MayN p) = b := ⟨_, rfl⟩
    have HQ : Hid (Q.Ok ∧ signN key p = Q ∧ decide (MayN p) = b) := Lib.hid ⟨by rw [← hQ]; exact signN_ok key hp, hQ, hb⟩
    obtain ⟨g, hg⟩ : ∃ g, decide (GoodN key p) = g := ⟨_, rfl⟩
    have HG := Lib.hid hg
    obtain ⟨M, hM⟩ : ∃ M, keyN s se no = M := ⟨_, rfl⟩
    have HM : Hid (keyN s se no = M ∧ M.length = 16 ∧ ∀ y ∈ M, y < 256) := Lib.hid ⟨hM, by rw [← hM]; exact keyN_len _ _ _, by rw [← hM]; exact keyN_lt _ _ _⟩
    clear hQ hb hg hM hp hk hkr
    go_enter Try.func15, Try.ntmps15
    go_wp2_with fail
    (with_reducible refine (tagSmall_any _).mono ?_)
    rintro e wa ⟨rfl, hba⟩
    obtain ⟨n8, hn8⟩ : ∃ n8, n8 = w.heap.size := ⟨_, rfl⟩
    rw [← hn8]
    obtain ⟨n9, hn9⟩ : ∃ n9, n9 = n8 + 1 := ⟨_, rfl⟩
    (try rw [← hn9])
    have HA : Hid (Touch (fun _ => False) w wa ∧ Blk wa n8 22 (bn key).toArray ∧ Blk wa n9 25 (pkV p)) := Lib.hid ⟨(((Touch.refl (fun _ => False) w).alloc _).alloc _).trans (Touch.of_below hba), by rw [hn8]; exact ((Blk.new w (bn key).toArray 22).alloc _).touch (Touch.of_below (S := fun _ => False) hba) (fun h => h), by rw [hn9, hn8]; exact (blk_new_at (w := w.alloc (.cells (bn key).toArray 22)) (by simp) rfl).touch (Touch.of_below (S := fun _ => False) hba) (fun h => h)⟩
    clear hba hn8 hn9
    go_wp2_with (first
      | ((with_reducible refine at_op (.load 22 (.tmp 8)) rfl ?_); refine wpList_load_blk rfl 22 (.tmp 8) rfl n8 22 (bn key).toArray _ rfl (HA.out.2.1) Try.underlying22 rfl (by rw [bn_size, HP.out.2.1]; first | done | kernel_rfl) ?_)
      | ((with_reducible refine at_op (.load 25 (.tmp 9)) rfl ?_); refine wpList_load_blk rfl 25 (.tmp 9) rfl n9 25 (pkV p) _ rfl (HA.out.2.2) Try.underlying25 rfl (by rw [pkV_size HP.out.1]; first | done | kernel_rfl) ?_))
    (with_reducible refine (sign_any key HP.out.2.1 HP.out.2.2 p HP.out.1 _).mono ?_)
    rintro e wb ⟨rfl, hbb⟩
    rw [HQ.out.2.1, HQ.out.2.2]
    have HB : Hid (Touch (fun _ => False) wa wb) := Lib.hid (Touch.of_below hbb)
    clear hbb
    go_wp2_with (first
      | ((with_reducible refine at_op (.store 25 (.tmp 12) (.tmp 25)) rfl ?_); refine wpList_store_blk rfl 25 (.tmp 12) (.tmp 25) rfl wb.heap.size 25 _ (pkV Q) rfl rfl (Blk.new _ _ _) (by rw [pkV_size HQ.out.1]; first | done | kernel_rfl) (by rw [pkV_size HQ.out.1]; first | done | kernel_rfl) (pkV_one _) ?_; intro wc hB ht hs; have HC : Hid (Touch (fun _ => False) wa wc ∧ Blk wc wb.heap.size 25 (pkV Q)) := Lib.hid (⟨HB.out.trans (touch_store ht), hB⟩); clear hB ht hs)
      | ((with_reducible refine at_op (.load 22 (.tmp 8)) rfl ?_); refine wpList_load_blk rfl 22 (.tmp 8) rfl n8 22 (bn key).toArray _ rfl (HA.out.2.1.touch HC.out.1 (fun h => h)) Try.underlying22 rfl (by rw [bn_size, HP.out.2.1]; first | done | kernel_rfl) ?_)
      | ((with_reducible refine at_op (.load 25 (.tmp 9)) rfl ?_); refine wpList_load_blk rfl 25 (.tmp 9) rfl n9 25 (pkV p) _ rfl (HA.out.2.2.touch HC.out.1 (fun h => h)) Try.underlying25 rfl (by rw [pkV_size HP.out.1]; first | done | kernel_rfl) ?_))
    (with_reducible refine (refSign_any key HP.out.2.1 HP.out.2.2 p HP.out.1 _).mono ?_)
    rintro e wd ⟨rfl, hbd⟩
    rw [HQ.out.2.1, HQ.out.2.2]
    obtain ⟨n12, hn12⟩ : ∃ n12, n12 = wb.heap.size := ⟨_, rfl⟩
    rw [← hn12]
    have HD : Hid (Touch (fun _ => False) wa wd ∧ Blk wd n12 25 (pkV Q)) := Lib.hid ⟨HC.out.1.trans (Touch.of_below hbd), by rw [hn12]; exact HC.out.2.touch (Touch.of_below (S := fun _ => False) hbd) (fun h => h)⟩
    clear hbd hn12 HC HB
    go_wp2_with ((with_reducible refine at_op (.store 25 (.tmp 14) (.tmp 31)) rfl ?_); refine wpList_store_blk rfl 25 (.tmp 14) (.tmp 31) rfl wd.heap.size 25 _ (pkV Q) rfl rfl (Blk.new _ _ _) (by rw [pkV_size HQ.out.1]; first | done | kernel_rfl) (by rw [pkV_size HQ.out.1]; first | done | kernel_rfl) (pkV_one _) ?_; intro wx hB ht hs; have HX : Hid (Touch (fun _ => False) wd wx ∧ Blk wx wd.heap.size 25 (pkV Q)) := Lib.hid (⟨touch_store ht, hB⟩); clear hB ht hs)
    obtain ⟨n14, hn14⟩ : ∃ n14, n14 = wd.heap.size := ⟨_, rfl⟩
    rw [← hn14]
    have HW : Hid (Blk wx n8 22 (bn key).toArray ∧ Blk wx n9 25 (pkV p) ∧ Blk wx n12 25 (pkV Q) ∧ Blk wx n14 25 (pkV Q) ∧ Touch (fun _ => False) w wx) := Lib.hid (by
      have t := HD.out.1.trans HX.out.1
      exact ⟨HA.out.2.1.touch t (fun h => h), HA.out.2.2.touch t (fun h => h), HD.out.2.touch HX.out.1 (fun h => h), by rw [hn14]; exact HX.out.2, HA.out.1.trans t⟩)
    clear hn14 HX HD HA
    refine wp_region_held_drew (S := fun w' : World => TG wx w') (by kernel_rfl) ((TG.refl wx).drew) (fun hHeld => ?_)
    refine anyH_world (R := fun w' : World => TG wx w') hHeld ?_
    clear hHeld
    intro W0q hHeld
    refine region_take 0 (v := ?vq0_1) rfl rfl (by kernel_rfl) (by kernel_rfl) (by kernel_rfl) (fun _ _ _ h => h) hHeld (Or.inl ⟨by rfl, ?yq0_1⟩) ?rq0_1
    case yq0_1 => (intro w hSw; (try dsimp only at hSw); go_simp; try with_reducible rfl)
    try simp only [Act.put, List.setIfInBounds_toArray, List.set_cons_zero, List.set_cons_succ]
    refine region_take 1 (v := ?vq1_2) rfl rfl (by kernel_rfl) (by kernel_rfl) (by kernel_rfl) (fun _ _ _ h => h) hHeld (Or.inl ⟨by rfl, ?yq1_2⟩) ?rq1_2
    case yq1_2 => (intro w hSw; (try dsimp only at hSw); go_simp; try with_reducible rfl)
    try simp only [Act.put, List.setIfInBounds_toArray, List.set_cons_zero, List.set_cons_succ]
    refine region_take 2 (v := ?vq2_3) rfl rfl (by kernel_rfl) (by kernel_rfl) (by kernel_rfl) (fun _ _ _ h => h) hHeld (Or.inl ⟨by rfl, ?yq2_3⟩) ?rq2_3
    case yq2_3 => (intro w hSw; (try dsimp only at hSw); go_simp; try with_reducible rfl)
    try simp only [Act.put, List.setIfInBounds_toArray, List.set_cons_zero, List.set_cons_succ]
    refine region_take 3 (v := ?vq3_4) rfl rfl (by kernel_rfl) (by kernel_rfl) (by kernel_rfl) (fun _ _ _ h => h) hHeld (Or.inl ⟨by rfl, ?yq3_4⟩) ?rq3_4
    case yq3_4 => (intro w hSw; (try dsimp only at hSw); go_simp; try with_reducible rfl)
    try simp only [Act.put, List.setIfInBounds_toArray, List.set_cons_zero, List.set_cons_succ]
    refine region_take 4 (v := ?vq4_5) rfl rfl (by kernel_rfl) (by kernel_rfl) (by kernel_rfl) (fun _ _ _ h => h) hHeld (Or.inl ⟨by rfl, ?yq4_5⟩) ?rq4_5
    case yq4_5 => (intro w hSw; (try dsimp only at hSw); go_simp; try with_reducible rfl)
    try simp only [Act.put, List.setIfInBounds_toArray, List.set_cons_zero, List.set_cons_succ]
    refine region_take 6 (v := ?vq6_6) rfl rfl (by kernel_rfl) (by kernel_rfl) (by kernel_rfl) (fun _ _ _ h => h) hHeld (Or.inl ⟨by rfl, ?yq6_6⟩) ?rq6_6
    case yq6_6 => (intro w hSw; (try dsimp only at hSw); go_simp; try with_reducible rfl)
    try simp only [Act.put, List.setIfInBounds_toArray, List.set_cons_zero, List.set_cons_succ]
    refine region_take 7 (v := ?vq7_7) rfl rfl (by kernel_rfl) (by kernel_rfl) (by kernel_rfl) (fun _ _ _ h => h) hHeld (Or.inl ⟨by rfl, ?yq7_7⟩) ?rq7_7
    case yq7_7 => (intro w hSw; (try dsimp only at hSw); go_simp; try with_reducible rfl)
    try simp only [Act.put, List.setIfInBounds_toArray, List.set_cons_zero, List.set_cons_succ]
    refine region_take 8 (v := ?vq8_8) rfl rfl (by kernel_rfl) (by kernel_rfl) (by kernel_rfl) (fun _ _ _ h => h) hHeld (Or.inl ⟨by rfl, ?yq8_8⟩) ?rq8_8
    case yq8_8 => (intro w hSw; (try dsimp only at hSw); go_simp; try with_reducible rfl)
    try simp only [Act.put, List.setIfInBounds_toArray, List.set_cons_zero, List.set_cons_succ]
    refine region_one 5 (by kernel_rfl) rfl (fun K hK => ?_)
    go_simp
    go_at_call 37
    (with_reducible refine (key_any a0 s.length c0 s se no _ rfl (HIN.out.cells.touch (HW.out.2.2.2.2.trans (hHeld).still2) (fun _ _ _ h => h)) HIN.out.nil HIN.out.lt HS.out).mono ?_)
    rintro e uq_9 ⟨rfl, hb8⟩
    rw [HM.out.1]
    have ht := Touch.of_below (S := fun _ => False) hb8
    refine hK.out _ _ (((hHeld).still ht)) (fun hHeld2 => ?_)
    clear hK K hHeld ht
    have hHeld := hHeld2
    clear hHeld2
    try simp only [Act.put, List.setIfInBounds_toArray, List.set_cons_zero, List.set_cons_succ]
    refine region_one 9 (by kernel_rfl) rfl (fun K hK => ?_)
    go_simp
    go_at_call 38
    (with_reducible refine (refKey_any a0 s.length c0 s se no _ rfl (HIN.out.cells.touch (HW.out.2.2.2.2.trans (hHeld).still2) (fun _ _ _ h => h)) HIN.out.nil HIN.out.lt HS.out).mono ?_)
    rintro e uq_10 ⟨rfl, hb8⟩
    rw [HM.out.1]
    have ht := Touch.of_below (S := fun _ => False) hb8
    refine hK.out _ _ (((hHeld).still ht)) (fun hHeld2 => ?_)
    clear hK K hHeld ht
    have hHeld := hHeld2
    clear hHeld2
    try simp only [Act.put, List.setIfInBounds_toArray, List.set_cons_zero, List.set_cons_succ]
    refine region_take 10 (v := ?vq10_11) rfl rfl (by kernel_rfl) (by kernel_rfl) (by kernel_rfl) (fun _ _ _ h => h) hHeld (Or.inl ⟨by rfl, ?yq10_11⟩) ?rq10_11
    case yq10_11 => (intro w hSw; refine (run_exec_eql w .eql 22 22 (.tmp 38) (.tmp 42) rfl (bn M).toArray (bn M).toArray rfl rfl (by kernel_rfl) true (run_eql16k w M HM.out.2.1 HM.out.2.2)).trans ?_; with_reducible rfl)
    try simp only [Act.put, List.setIfInBounds_toArray, List.set_cons_zero, List.set_cons_succ]
    refine region_take 11 (v := ?vq11_12) rfl rfl (by kernel_rfl) (by kernel_rfl) (by kernel_rfl) (fun _ _ _ h => h) hHeld (Or.inl ⟨by rfl, ?yq11_12⟩) ?rq11_12
    case yq11_12 => (intro w hSw; (try dsimp only at hSw); go_simp; try with_reducible rfl)
    try simp only [Act.put, List.setIfInBounds_toArray, List.set_cons_zero, List.set_cons_succ]
    refine region_take 12 (v := ?vq12_13) rfl rfl (by kernel_rfl) (by kernel_rfl) (by kernel_rfl) (fun _ _ _ h => h) hHeld (Or.inl ⟨by rfl, ?yq12_13⟩) ?rq12_13
    case yq12_13 => (intro w hSw; (try dsimp only at hSw); go_simp; try with_reducible rfl)
    try simp only [Act.put, List.setIfInBounds_toArray, List.set_cons_zero, List.set_cons_succ]
    refine region_take 13 (v := ?vq13_14) rfl rfl (by kernel_rfl) (by kernel_rfl) (by kernel_rfl) (fun _ _ _ h => h) hHeld (Or.inl ⟨by rfl, ?yq13_14⟩) ?rq13_14
    case yq13_14 => (intro w hSw; refine (yields_load_blk 25 (.tmp 12) rfl n12 25 (pkV Q) _ rfl (HW.out.2.2.1.tg hSw) Try.underlying25 rfl (by rw [pkV_size HQ.out.1]; first | done | kernel_rfl)).trans ?_; with_reducible rfl)
    try simp only [Act.put, List.setIfInBounds_toArray, List.set_cons_zero, List.set_cons_succ]
    refine region_take 14 (v := ?vq14_15) rfl rfl (by kernel_rfl) (by kernel_rfl) (by kernel_rfl) (fun _ _ _ h => h) hHeld (Or.inl ⟨by rfl, ?yq14_15⟩) ?rq14_15
    case yq14_15 => (intro w hSw; refine (yields_load_blk 25 (.tmp 14) rfl n14 25 (pkV Q) _ rfl (HW.out.2.2.2.1.tg hSw) Try.underlying25 rfl (by rw [pkV_size HQ.out.1]; first | done | kernel_rfl)).trans ?_; with_reducible rfl)
    try simp only [Act.put, List.setIfInBounds_toArray, List.set_cons_zero, List.set_cons_succ]
    refine region_take 15 (v := ?vq15_16) rfl rfl (by kernel_rfl) (by kernel_rfl) (by kernel_rfl) (fun _ _ _ h => h) hHeld (Or.inl ⟨by rfl, ?yq15_16⟩) ?rq15_16
    case yq15_16 => (intro w hSw; refine (run_exec_eql w .eql 25 25 (.tmp 46) (.tmp 47) rfl (pkV Q) (pkV Q) rfl rfl (by kernel_rfl) true (run_eql_pk w Q Q HQ.out.1 HQ.out.1 true (by simp))).trans ?_; with_reducible rfl)
    try simp only [Act.put, List.setIfInBounds_toArray, List.set_cons_zero, List.set_cons_succ]
    refine region_take 16 (v := ?vq16_17) rfl rfl (by kernel_rfl) (by kernel_rfl) (by kernel_rfl) (fun _ _ _ h => h) hHeld (Or.inl ⟨by rfl, ?yq16_17⟩) ?rq16_17
    case yq16_17 => (intro w hSw; (try dsimp only at hSw); go_simp; try with_reducible rfl)
    try simp only [Act.put, List.setIfInBounds_toArray, List.set_cons_zero, List.set_cons_succ]
    refine region_take 17 (v := ?vq17_18) rfl rfl (by kernel_rfl) (by kernel_rfl) (by kernel_rfl) (fun _ _ _ h => h) hHeld (Or.inl ⟨by rfl, ?yq17_18⟩) ?rq17_18
    case yq17_18 => (intro w hSw; (try dsimp only at hSw); go_simp; try with_reducible rfl)
    try simp only [Act.put, List.setIfInBounds_toArray, List.set_cons_zero, List.set_cons_succ]
    refine region_take 18 (v := ?vq18_19) rfl rfl (by kernel_rfl) (by kernel_rfl) (by kernel_rfl) (fun _ _ _ h => h) hHeld (Or.inl ⟨by rfl, ?yq18_19⟩) ?rq18_19
    case yq18_19 => (intro w hSw; (try dsimp only at hSw); go_simp; try with_reducible rfl)
    try simp only [Act.put, List.setIfInBounds_toArray, List.set_cons_zero, List.set_cons_succ]
    refine region_take 19 (v := ?vq19_20) rfl rfl (by kernel_rfl) (by kernel_rfl) (by kernel_rfl) (fun _ _ _ h => h) hHeld (Or.inl ⟨by rfl, ?yq19_20⟩) ?rq19_20
    case yq19_20 => (intro w hSw; (try dsimp only at hSw); go_simp; try with_reducible rfl)
    try simp only [Act.put, List.setIfInBounds_toArray, List.set_cons_zero, List.set_cons_succ]
    refine region_take 20 (v := ?vq20_21) rfl rfl (by kernel_rfl) (by kernel_rfl) (by kernel_rfl) (fun _ _ _ h => h) hHeld (Or.inl ⟨by rfl, ?yq20_21⟩) ?rq20_21
    case yq20_21 => (intro w hSw; (try dsimp only at hSw); go_simp; try with_reducible rfl)
    try simp only [Act.put, List.setIfInBounds_toArray, List.set_cons_zero, List.set_cons_succ]
    refine region_take 21 (v := ?vq21_22) rfl rfl (by kernel_rfl) (by kernel_rfl) (by kernel_rfl) (fun _ _ _ h => h) hHeld (Or.inl ⟨by rfl, ?yq21_22⟩) ?rq21_22
    case yq21_22 => (intro w hSw; (try dsimp only at hSw); go_simp; try with_reducible rfl)
    try simp only [Act.put, List.setIfInBounds_toArray, List.set_cons_zero, List.set_cons_succ]
    refine region_take 22 (v := ?vq22_23) rfl rfl (by kernel_rfl) (by kernel_rfl) (by kernel_rfl) (fun _ _ _ h => h) hHeld (Or.inl ⟨by rfl, ?yq22_23⟩) ?rq22_23
    case yq22_23 => (intro w hSw; (try dsimp only at hSw); go_simp; try with_reducible rfl)
    try simp only [Act.put, List.setIfInBounds_toArray, List.set_cons_zero, List.set_cons_succ]
    refine region_take 23 (v := ?vq23_24) rfl rfl (by kernel_rfl) (by kernel_rfl) (by kernel_rfl) (fun _ _ _ h => h) hHeld (Or.inl ⟨by rfl, ?yq23_24⟩) ?rq23_24
    case yq23_24 => (intro w hSw; refine (yields_load_blk 22 (.tmp 8) rfl n8 22 (bn key).toArray _ rfl (HW.out.1.tg hSw) Try.underlying22 rfl (by rw [bn_size, HP.out.2.1]; first | done | kernel_rfl)).trans ?_; with_reducible rfl)
    try simp only [Act.put, List.setIfInBounds_toArray, List.set_cons_zero, List.set_cons_succ]
    refine region_take 24 (v := ?vq24_25) rfl rfl (by kernel_rfl) (by kernel_rfl) (by kernel_rfl) (fun _ _ _ h => h) hHeld (Or.inl ⟨by rfl, ?yq24_25⟩) ?rq24_25
    case yq24_25 => (intro w hSw; refine (yields_load_blk 25 (.tmp 9) rfl n9 25 (pkV p) _ rfl (HW.out.2.1.tg hSw) Try.underlying25 rfl (by rw [pkV_size HP.out.1]; first | done | kernel_rfl)).trans ?_; with_reducible rfl)
    try simp only [Act.put, List.setIfInBounds_toArray, List.set_cons_zero, List.set_cons_succ]
    refine region_take 26 (v := ?vq26_26) rfl rfl (by kernel_rfl) (by kernel_rfl) (by kernel_rfl) (fun _ _ _ h => h) hHeld (Or.inl ⟨by rfl, ?yq26_26⟩) ?rq26_26
    case yq26_26 => (intro w hSw; refine (yields_load_blk 22 (.tmp 8) rfl n8 22 (bn key).toArray _ rfl (HW.out.1.tg hSw) Try.underlying22 rfl (by rw [bn_size, HP.out.2.1]; first | done | kernel_rfl)).trans ?_; with_reducible rfl)
    try simp only [Act.put, List.setIfInBounds_toArray, List.set_cons_zero, List.set_cons_succ]
    refine region_take 27 (v := ?vq27_27) rfl rfl (by kernel_rfl) (by kernel_rfl) (by kernel_rfl) (fun _ _ _ h => h) hHeld (Or.inl ⟨by rfl, ?yq27_27⟩) ?rq27_27
    case yq27_27 => (intro w hSw; refine (yields_load_blk 25 (.tmp 9) rfl n9 25 (pkV p) _ rfl (HW.out.2.1.tg hSw) Try.underlying25 rfl (by rw [pkV_size HP.out.1]; first | done | kernel_rfl)).trans ?_; with_reducible rfl)
    try simp only [Act.put, List.setIfInBounds_toArray, List.set_cons_zero, List.set_cons_succ]
    refine region_one 25 (by kernel_rfl) rfl (fun K hK => ?_)
    go_simp
    go_at_call 39
    (with_reducible refine (good_any key HP.out.2.1 HP.out.2.2 p HP.out.1 _).mono ?_)
    rintro e uq_28 ⟨rfl, hb8⟩
    rw [HG.out]
    have ht := Touch.of_below (S := fun _ => False) hb8
    refine hK.out _ _ (((hHeld).still ht)) (fun hHeld2 => ?_)
    clear hK K hHeld ht
    have hHeld := hHeld2
    clear hHeld2
    try simp only [Act.put, List.setIfInBounds_toArray, List.set_cons_zero, List.set_cons_succ]
    refine region_one 28 (by kernel_rfl) rfl (fun K hK => ?_)
    go_simp
    go_at_call 40
    (with_reducible refine (refGood_any key HP.out.2.1 HP.out.2.2 p HP.out.1 _).mono ?_)
    rintro e uq_29 ⟨rfl, hb8⟩
    rw [HG.out]
    have ht := Touch.of_below (S := fun _ => False) hb8
    refine hK.out _ _ (((hHeld).still ht)) (fun hHeld2 => ?_)
    clear hK K hHeld ht
    have hHeld := hHeld2
    clear hHeld2
    try simp only [Act.put, List.setIfInBounds_toArray, List.set_cons_zero, List.set_cons_succ]
    refine region_take 29 (v := ?vq29_30) rfl rfl (by kernel_rfl) (by kernel_rfl) (by kernel_rfl) (fun _ _ _ h => h) hHeld (Or.inl ⟨by rfl, ?yq29_30⟩) ?rq29_30
    case yq29_30 => (intro w hSw; (try dsimp only at hSw); go_simp; try with_reducible rfl)
    try simp only [Act.put, List.setIfInBounds_toArray, List.set_cons_zero, List.set_cons_succ]
    refine region_take 30 (v := ?vq30_31) rfl rfl (by kernel_rfl) (by kernel_rfl) (by kernel_rfl) (fun _ _ _ h => h) hHeld (Or.inl ⟨by rfl, ?yq30_31⟩) ?rq30_31
    case yq30_31 => (intro w hSw; (try dsimp only at hSw); go_simp; try with_reducible rfl)
    try simp only [Act.put, List.setIfInBounds_toArray, List.set_cons_zero, List.set_cons_succ]
    refine region_take 31 (v := ?vq31_32) rfl rfl (by kernel_rfl) (by kernel_rfl) (by kernel_rfl) (fun _ _ _ h => h) hHeld (Or.inl ⟨by rfl, ?yq31_32⟩) ?rq31_32
    case yq31_32 => (intro w hSw; (try dsimp only at hSw); go_simp; try with_reducible rfl)
    try simp only [Act.put, List.setIfInBounds_toArray, List.set_cons_zero, List.set_cons_succ]
    refine wpAnyH_done (by kernel_rfl) ?_ _
    have HT := Lib.hid (HW.out.2.2.2.2.trans (hHeld).still2)
    go_wp2_with fail
    go_ret
    exact ⟨by first | rfl | simp, HT.out.below (Nat.le_refl _) (fun _ _ h => h)⟩

/-! ### the row's step, and the row -/
theorem tagTells_own : ownKnob Try.prog.godebug = none := by kernel_rfl
theorem tagTells_laidOut : laidOutB Try.prog = true := by kernel_rfl

set_option linter.unusedVariables false in
set_option maxRecDepth 100000 in
theorem tagTells_lifted (os : Os) (started : os.Started) (H : Type) (enc : TypeId × Value → H) :
    ReturnsInHanded {} Try.checked os 15 .any (Rows.tagTellsSpec.pre6 enc Try.prog Try.f15 Rows.tagTellsRow.domain false) (Rows.tagTellsSpec.post enc Try.prog Try.f15 false true false false) := by
  refine returnsInHanded_of_change (C := Try.checked) tagTells_own started (by kernel_rfl) Try.func15
    (ChangeSpec.witness6 (enc := enc) (C := Try.checked) false ⟨#[], #[.slice none 0 0, .int .i64 0, .int .i64 0, .agg #[.int .u8 0, .int .u8 0, .int .u8 0, .int .u8 0, .int .u8 0, .int .u8 0, .int .u8 0, .int .u8 0, .int .u8 0, .int .u8 0, .int .u8 0, .int .u8 0, .int .u8 0, .int .u8 0, .int .u8 0, .int .u8 0], .agg #[.int .i64 0, .int .i64 0, .int .i64 0, .int .i64 0, .int .i64 0, .int .i64 0, .int .i64 0, .int .i64 0, .int .i64 0, .int .i64 0, .int .i64 0, .int .i64 0, .int .u8 0, .int .u8 0, .int .u8 0, .int .u8 0, .int .u8 0, .int .u8 0, .int .u8 0, .int .u8 0, .int .u8 0, .int .u8 0, .int .u8 0, .int .u8 0, .int .u8 0, .int .u8 0, .int .u8 0, .int .u8 0, .int .u8 0, .int .u8 0, .int .u8 0, .int .u8 0, .int .u8 0, .int .u8 0, .int .u8 0, .int .u8 0]], []⟩ 8 (by kernel_rfl) (by kernel_rfl) (by kernel_rfl) (by kernel_rfl)) ?_
  intro W base args ds gs before hval0 hW hcnd _
  have hval : ∀ (j : Nat) t v, Try.f15.params[j]? = some t → args[j]? = some v → Value.okWide Try.prog W .any base t v := hval0
  have hW' := hW
  obtain ⟨p, q, hA0, hV, rfl, hfz, hnd⟩ := hW
  have hA : DataW.TrodAll enc Try.prog W 0 (fun _ => true) true Try.f15.params.toList args.toList ds p := hA0
  rw [Try.params15] at hA hval
  obtain ⟨v0, vs0, d0, ds0, p0, q0, hargs, rfl, rfl, h0, r0⟩ := trodAll_cons hA
  obtain ⟨v1, vs1, d1, ds1, p1, q1, rfl, rfl, rfl, h1, r1⟩ := trodAll_cons r0
  obtain ⟨v2, vs2, d2, ds2, p2, q2, rfl, rfl, rfl, h2, r2⟩ := trodAll_cons r1
  obtain ⟨v3, vs3, d3, ds3, p3, q3, rfl, rfl, rfl, h3, r3⟩ := trodAll_cons r2
  obtain ⟨v4, vs4, d4, ds4, p4, q4, rfl, rfl, rfl, h4, r4⟩ := trodAll_cons r3
  obtain ⟨rfl, rfl, rfl⟩ := trodAll_nil r4
  obtain rfl : args = #[v0, v1, v2, v3, v4] := by cases args; simp_all
  obtain ⟨rfl, rfl⟩ := trodVars_none hV
  have k0 := h0
  have lt0 : ∀ x ∈ p0, x.block < W.heap.size := by obtain ⟨m, hm⟩ := k0; exact DataW.trod_lt m _ _ _ hm
  obtain ⟨a0, len0, cap0, rfl⟩ := okWide_slice Try.underlying26 (hval 0 26 v0 rfl rfl)
  obtain ⟨z0, w0⟩ := row_of (k := .u8) Try.underlying26 Try.underlying5 (by kernel_rfl) h0
  obtain ⟨a1, rfl, rfl, rfl, w1⟩ := open_int Try.underlying3 (hval 1 3 v1 rfl rfl) h1
  obtain ⟨a2, rfl, rfl, rfl, w2⟩ := open_int Try.underlying3 (hval 2 3 v2 rfl rfl) h2
  have k3 := h3
  have lt3 : ∀ x ∈ p3, x.block < W.heap.size := by obtain ⟨m, hm⟩ := k3; exact DataW.trod_lt m _ _ _ hm
  have o3 := hval 3 22 v3 rfl rfl
  obtain ⟨a3, len3, lt83, rfl⟩ := array_of Try.underlying22 Try.underlying5 (by kernel_rfl) (by kernel_rfl) o3 h3
  have k4 := h4
  have lt4 : ∀ x ∈ p4, x.block < W.heap.size := by obtain ⟨m, hm⟩ := k4; exact DataW.trod_lt m _ _ _ hm
  have o4 := hval 4 25 v4 rfl rfl
  obtain ⟨a4, ok4, rfl⟩ := pk_of o4 h4
  clear hA0 hval0
  refine (tagTells_walk W a0 len0 cap0 z0 w0 a1 w1 a2 w2 a3 len3 lt83 a4 ok4).mono fun e W' ⟨he, bel⟩ => ?_
  subst he
  exact ⟨_, rfl, _, _, _, [], _, [], hW', trodAll_mk1 (shut_bool Try.underlying4 _), (trodAll_cons_mk (Below.trod tagTells_laidOut (by kernel_rfl) (of_decide_eq_true (by kernel_rfl)) k0 bel lt0) (trodAll_cons_mk (shut_int Try.underlying3 w1) (trodAll_cons_mk (shut_int Try.underlying3 w2) (trodAll_cons_mk (Below.trod tagTells_laidOut (by kernel_rfl) (of_decide_eq_true (by kernel_rfl)) k3 bel lt3) (trodAll_cons_mk (Below.trod tagTells_laidOut (by kernel_rfl) (of_decide_eq_true (by kernel_rfl)) k4 bel lt4) trodAll_mk0))))), rfl, bel.frame _, fun h => by cases h⟩

theorem tagTells_over : Rows.tagTellsRow.holds Try.pinned (OpenSpec.ofChange Rows.tagTellsSpec) :=
  OpenClaim.holds_of_wide 15 Try.f15 rfl rfl rfl rfl rfl rfl rfl ⟨rfl, rfl, rfl, rfl, rfl⟩ rfl rfl rfl rfl rfl (by kernel_rfl) Try.func15 (by kernel_rfl)
    (of_decide_eq_true (by kernel_rfl)) (by unfold Func.isWrapper; first | (rw [if_pos (by decide +kernel)]; kernel_rfl) | (rw [if_neg (by decide +kernel)]; exact ⟨rfl, rfl⟩))
    (fun os started H enc _ => tagTells_lifted os started H enc)

/-- THE STATEMENT. -/
theorem tagTells_proved : Rows.TagTellsSaid := tagTells_over
#print axioms tagTells_proved
end Go.Proofs.Ythlkmofemnepbaa
