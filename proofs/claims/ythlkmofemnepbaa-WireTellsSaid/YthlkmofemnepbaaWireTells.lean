/-
  nightjarlaw05.WireTells: for all inputs the law returns true. No conditions: for every input that can be read.
-/
import Derived.Test.YthlkmofemnepbaaRows
import Derived.Test.YthlkmofemnepbaaWSmall
import Derived.Test.YthlkmofemnepbaaWireLaw
import Derived.Test.YthlkmofemnepbaaPkArg
import Derived.Test.YthlkmofemnepbaaOpen
import Derived.Test.YthlkmofemnepbaaSlices
import Derived.Test.YthlkmofemnepbaaRWireAll
namespace Go.Proofs.Ythlkmofemnepbaa
open Go.ChangeShapes Go.WideShapes Go.ChangeAt Go.RowKit

theorem touch_eq {a b : World} (h : a = b) : Touch (fun _ => False) a b := by subst h; exact Touch.refl _ _
/-- A packet's bytes, or none. -/
def bytesN (p : Pk) : List Int := if RightN p then encN p else []
def errN (p : Pk) : Int := if RightN p then 0 else 1
theorem encBoth {f : FuncId} (p : Pk) (w : World) (ZE : List Int) (m : Nat) (er : Int) (hZ : bytesN p = ZE) (hm : ZE.length = m) (he : errN p = er)
    (hy : RightN p → Calls Try.prog f #[.agg (pkV p)] w fun e w' => (∃ v, e = .returned (.tuple #[v, .int .i64 0]) ∧ OwnBy w' w.heap.size v (encN p)) ∧ Below w.heap.size w w')
    (hn : ¬ RightN p → Calls Try.prog f #[.agg (pkV p)] w fun e w' => e = .returned (.tuple #[.slice none 0 0, .int .i64 1]) ∧ Below w.heap.size w w') :
    Calls Try.prog f #[.agg (pkV p)] w fun e w' => ∃ a c, e = .returned (.tuple #[.slice a m c, .int .i64 er]) ∧ SlAt w' a (bys ZE) ∧ Below w.heap.size w w' := by
  subst hZ hm he
  by_cases h : RightN p
  · refine (hy h).mono ?_
    rintro e w' ⟨⟨v, rfl, ho⟩, hb⟩
    unfold bytesN errN
    rw [if_pos h, if_pos h]
    obtain ⟨a, c, rfl, -, -, -, -⟩ := owns_form ho.own
    exact ⟨a, c, rfl, SlAt.of_owns ho.own, hb⟩
  · refine (hn h).mono ?_
    rintro e w' ⟨rfl, hb⟩
    unfold bytesN errN
    rw [if_neg h, if_neg h]
    exact ⟨none, 0, rfl, rfl, hb⟩

set_option maxRecDepth 100000 in
set_option maxHeartbeats 8000000 in
theorem wireTells_walk (w : World) (p : Pk) (hp : p.Ok) (a1 : Option Addr) (l1 c1 : Nat) (z1 : List Int) (h1 : RowIn .u8 w a1 l1 c1 z1) (kd : Int) (_wk : (Lit.int .i64 kd).wf = true) :
    Calls Try.prog 3 #[.agg (pkV p), .slice a1 l1 c1, .int .i64 kd] w fun e w' => e = .returned (.bool true) ∧ Below w.heap.size w w' := by
  have hl := h1.hlen
  obtain ⟨rb, hrb⟩ : ∃ b, decide (RightN p) = b := ⟨_, rfl⟩
  have HP := Lib.hid (And.intro hp hrb)
  clear hp hrb
  by_cases hk : 200 < l1
  · clear hl h1
    go_enter Try.func3, Try.ntmps3
    go_wp2_with fail
    (with_reducible refine (wireSmall_any _).mono ?_)
    rintro e wa ⟨rfl, hba⟩
    have HA : Hid (Touch (fun _ => False) w wa) := Lib.hid (((Touch.refl (fun _ => False) w).alloc _).trans (Touch.of_below hba))
    clear hba
    go_wp2_with fail
    go_ret
    exact ⟨by first | rfl | simp, HA.out.below (Nat.le_refl _) (fun _ _ h => h)⟩
  · have HZ : Hid (z1.length = l1 ∧ (∀ z ∈ z1, 0 ≤ z ∧ z < 256) ∧ l1 ≤ 90000) := Lib.hid ⟨hl, h1.range, by omega⟩
    have HS : Hid (SlAt w a1 (bys z1) ∧ (a1 = none → c1 = 0)) := Lib.hid ⟨h1.bys, h1.nil⟩
    clear h1 hl
    obtain ⟨ZE, hZE⟩ : ∃ Z, bytesN p = Z := ⟨_, rfl⟩
    obtain ⟨m, hm⟩ : ∃ m, ZE.length = m := ⟨_, rfl⟩
    obtain ⟨er, her⟩ : ∃ er, errN p = er := ⟨_, rfl⟩
    have HZE := Lib.hid (And.intro hZE (And.intro hm her))
    clear hZE hm her
    obtain ⟨Q, hQ⟩ : ∃ Q, (if DecOk z1 then decP z1 else Pk.zero) = Q := ⟨_, rfl⟩
    obtain ⟨ed, hed⟩ : ∃ ed : Int, (if DecOk z1 then (0 : Int) else 2) = ed := ⟨_, rfl⟩
    have HQ : Hid (Q.Ok ∧ (if DecOk z1 then decP z1 else Pk.zero) = Q ∧ (if DecOk z1 then (0 : Int) else 2) = ed) := Lib.hid ⟨by
      rw [← hQ]
      split
      · exact decP_ok z1 HZ.out.2.1
      · exact zero_ok, hQ, hed⟩
    clear hQ hed
    obtain ⟨tg, htg⟩ : ∃ t, taggedN kd = t := ⟨_, rfl⟩
    have HTG := Lib.hid htg
    clear htg
    go_enter Try.func3, Try.ntmps3
    go_wp2_with fail
    (with_reducible refine (wireSmall_any _).mono ?_)
    rintro e wa ⟨rfl, hba⟩
    obtain ⟨n0, hn0⟩ : ∃ n0, n0 = w.heap.size := ⟨_, rfl⟩
    rw [← hn0]
    have HA : Hid (Touch (fun _ => False) w wa ∧ Blk wa n0 25 (pkV p)) := Lib.hid ⟨((Touch.refl (fun _ => False) w).alloc _).trans (Touch.of_below hba), by rw [hn0]; exact (Blk.new w (pkV p) 25).touch (Touch.of_below (S := fun _ => False) hba) (fun h => h)⟩
    clear hba hn0
    go_wp2_with ((with_reducible refine at_op (.load 25 (.tmp 3)) rfl ?_); refine wpList_load_blk rfl 25 (.tmp 3) rfl n0 25 (pkV p) _ rfl (HA.out.2) Try.underlying25 rfl (by rw [pkV_size HP.out.1]; first | done | kernel_rfl) ?_)
    (with_reducible refine (encBoth p _ ZE m er HZE.out.1 HZE.out.2.1 HZE.out.2.2 (fun h => wireEnc_yes p HP.out.1 h _) (fun h => wireEnc_no p HP.out.1 h _)).mono ?_)
    rintro e wb ⟨aE, cE, rfl, hsE, hbb⟩
    have HB : Hid (Touch (fun _ => False) w wb ∧ Blk wb n0 25 (pkV p) ∧ SlAt wb aE (bys ZE)) := Lib.hid ⟨HA.out.1.trans (Touch.of_below hbb), HA.out.2.touch (Touch.of_below (S := fun _ => False) hbb) (fun h => h), hsE⟩
    clear hsE hbb
    go_wp2_with ((with_reducible refine at_op (.load 25 (.tmp 3)) rfl ?_); refine wpList_load_blk rfl 25 (.tmp 3) rfl n0 25 (pkV p) _ rfl (HB.out.2.1) Try.underlying25 rfl (by rw [pkV_size HP.out.1]; first | done | kernel_rfl) ?_)
    (with_reducible refine (encBoth p _ ZE m er HZE.out.1 HZE.out.2.1 HZE.out.2.2 (fun h => refEnc_yes p HP.out.1 h _) (fun h => refEnc_no p HP.out.1 h _)).mono ?_)
    rintro e wc ⟨aD, cD, rfl, hsD, hbc⟩
    have HC : Hid (Touch (fun _ => False) w wc ∧ Blk wc n0 25 (pkV p) ∧ SlAt wc aE (bys ZE) ∧ SlAt wc aD (bys ZE)) := Lib.hid ⟨HB.out.1.trans (Touch.of_below hbc), HB.out.2.1.touch (Touch.of_below (S := fun _ => False) hbc) (fun h => h), HB.out.2.2.touch (Touch.of_below (S := fun _ => False) hbc) (fun _ _ _ h => h), hsD⟩
    clear hsD hbc
    go_wp2_with fail
    (with_reducible refine (wireDec_any a1 l1 c1 z1 _ HZ.out.1 (HS.out.1.touch HC.out.1 (fun _ _ _ h => h)) HS.out.2 HZ.out.2.2 HZ.out.2.1).mono ?_)
    rintro e wd ⟨rfl, hbd⟩
    rw [HQ.out.2.1, HQ.out.2.2]
    have HD : Hid (Touch (fun _ => False) wc wd) := Lib.hid (Touch.of_below hbd)
    clear hbd
    go_wp2_with ((with_reducible refine at_op (.store 25 (.tmp 12) (.tmp 34)) rfl ?_); refine wpList_store_blk rfl 25 (.tmp 12) (.tmp 34) rfl wd.heap.size 25 _ (pkV Q) rfl rfl (Blk.new _ _ _) (by rw [pkV_size HQ.out.1]; first | done | kernel_rfl) (by rw [pkV_size HQ.out.1]; first | done | kernel_rfl) (pkV_one _) ?_; intro we hB ht hs; have HE : Hid (Touch (fun _ => False) wc we ∧ Blk we wd.heap.size 25 (pkV Q)) := Lib.hid (⟨HD.out.trans (touch_store ht), hB⟩); clear hB ht hs)
    (with_reducible refine (refDec_any a1 l1 c1 z1 _ HZ.out.1 (HS.out.1.touch (HC.out.1.trans HE.out.1) (fun _ _ _ h => h)) HS.out.2 HZ.out.2.2 HZ.out.2.1).mono ?_)
    rintro e wf ⟨rfl, hbf⟩
    rw [HQ.out.2.1, HQ.out.2.2]
    obtain ⟨nf, hnf⟩ : ∃ nf, nf = wd.heap.size := ⟨_, rfl⟩
    rw [← hnf]
    have HF : Hid (Touch (fun _ => False) wc wf ∧ Blk wf nf 25 (pkV Q)) := Lib.hid ⟨HE.out.1.trans (Touch.of_below hbf), by rw [hnf]; exact HE.out.2.touch (Touch.of_below (S := fun _ => False) hbf) (fun h => h)⟩
    clear hbf hnf HE HD
    go_wp2_with ((with_reducible refine at_op (.store 25 (.tmp 14) (.tmp 39)) rfl ?_); refine wpList_store_blk rfl 25 (.tmp 14) (.tmp 39) rfl wf.heap.size 25 _ (pkV Q) rfl rfl (Blk.new _ _ _) (by rw [pkV_size HQ.out.1]; first | done | kernel_rfl) (by rw [pkV_size HQ.out.1]; first | done | kernel_rfl) (pkV_one _) ?_; intro wx hB ht hs; have HX : Hid (Touch (fun _ => False) wf wx ∧ Blk wx wf.heap.size 25 (pkV Q)) := Lib.hid (⟨touch_store ht, hB⟩); clear hB ht hs)
    obtain ⟨nh, hnh⟩ : ∃ nh, nh = wf.heap.size := ⟨_, rfl⟩
    rw [← hnh]
    have HW : Hid (Blk wx n0 25 (pkV p) ∧ SlAt wx aE (bys ZE) ∧ SlAt wx aD (bys ZE) ∧ Blk wx nf 25 (pkV Q) ∧ Blk wx nh 25 (pkV Q) ∧ Touch (fun _ => False) w wx) := Lib.hid (by
      have t := HF.out.1.trans HX.out.1
      exact ⟨HC.out.2.1.touch t (fun h => h), HC.out.2.2.1.touch t (fun _ _ _ h => h), HC.out.2.2.2.touch t (fun _ _ _ h => h), HF.out.2.touch HX.out.1 (fun h => h), by rw [hnh]; exact HX.out.2, HC.out.1.trans t⟩)
    clear hnh HX HF HC HB HA HS
    refine wp_region_held_drew (S := fun w' : World => TG wx w') (by kernel_rfl) ((TG.refl wx).drew) (fun hHeld => ?_)
    refine anyH_world (R := fun w' : World => TG wx w') hHeld ?_
    clear hHeld
    intro W0q hHeld
    refine region_take 0 (v := ?vq0_1) rfl rfl (by kernel_rfl) (by kernel_rfl) (by kernel_rfl) (fun _ _ _ h => h) hHeld (Or.inl ⟨by rfl, ?yq0_1⟩) ?rq0_1
    case yq0_1 => (intro w hSw; (try dsimp only at hSw); go_simp; try with_reducible rfl)
    try simp only [Act.put, List.setIfInBounds_toArray, List.set_cons_zero, List.set_cons_succ]
    refine region_take 1 (v := ?vq1_2) rfl rfl (by kernel_rfl) (by kernel_rfl) (by kernel_rfl) (fun _ _ _ h => h) hHeld (Or.inl ⟨by rfl, ?yq1_2⟩) ?rq1_2
    case yq1_2 => (intro w hSw; (try dsimp only at hSw); go_simp; try with_reducible rfl)
    try simp only [Act.put, List.setIfInBounds_toArray, List.set_cons_zero, List.set_cons_succ]
    refine region_take 2 (v := ?vq2_3) rfl rfl (by kernel_rfl) (by kernel_rfl) (by kernel_rfl) (fun _ _ _ h => h) hHeld (Or.inl ⟨by rfl, ?yq2_3⟩) ?rq2_3
    case yq2_3 => (intro w hSw; refine (yields_load_blk 25 (.tmp 3) rfl n0 25 (pkV p) _ rfl (HW.out.1.tg hSw) Try.underlying25 rfl (by rw [pkV_size HP.out.1]; first | done | kernel_rfl)).trans ?_; with_reducible rfl)
    try simp only [Act.put, List.setIfInBounds_toArray, List.set_cons_zero, List.set_cons_succ]
    refine region_take 4 (v := ?vq4_4) rfl rfl (by kernel_rfl) (by kernel_rfl) (by kernel_rfl) (fun _ _ _ h => h) hHeld (Or.inl ⟨by rfl, ?yq4_4⟩) ?rq4_4
    case yq4_4 => (intro w hSw; refine (yields_load_blk 25 (.tmp 3) rfl n0 25 (pkV p) _ rfl (HW.out.1.tg hSw) Try.underlying25 rfl (by rw [pkV_size HP.out.1]; first | done | kernel_rfl)).trans ?_; with_reducible rfl)
    try simp only [Act.put, List.setIfInBounds_toArray, List.set_cons_zero, List.set_cons_succ]
    refine region_one 3 (by kernel_rfl) rfl (fun K hK => ?_)
    go_simp
    go_at_call 25
    (with_reducible refine (wireRight_any p HP.out.1 _).mono ?_)
    rintro e uq_5 ⟨rfl, hb8⟩
    rw [HP.out.2]
    have ht := Touch.of_below (S := fun _ => False) hb8
    refine hK.out _ _ (((hHeld).still ht)) (fun hHeld2 => ?_)
    clear hK K hHeld ht
    have hHeld := hHeld2
    clear hHeld2
    try simp only [Act.put, List.setIfInBounds_toArray, List.set_cons_zero, List.set_cons_succ]
    refine region_one 5 (by kernel_rfl) rfl (fun K hK => ?_)
    go_simp
    go_at_call 26
    (with_reducible refine (refRight_any p HP.out.1 _).mono ?_)
    rintro e uq_6 ⟨rfl, hb8⟩
    rw [HP.out.2]
    have ht := Touch.of_below (S := fun _ => False) hb8
    refine hK.out _ _ (((hHeld).still ht)) (fun hHeld2 => ?_)
    clear hK K hHeld ht
    have hHeld := hHeld2
    clear hHeld2
    try simp only [Act.put, List.setIfInBounds_toArray, List.set_cons_zero, List.set_cons_succ]
    refine region_take 6 (v := ?vq6_7) rfl rfl (by kernel_rfl) (by kernel_rfl) (by kernel_rfl) (fun _ _ _ h => h) hHeld (Or.inl ⟨by rfl, ?yq6_7⟩) ?rq6_7
    case yq6_7 => (intro w hSw; (try dsimp only at hSw); go_simp; try with_reducible rfl)
    try simp only [Act.put, List.setIfInBounds_toArray, List.set_cons_zero, List.set_cons_succ]
    refine region_take 7 (v := ?vq7_8) rfl rfl (by kernel_rfl) (by kernel_rfl) (by kernel_rfl) (fun _ _ _ h => h) hHeld (Or.inl ⟨by rfl, ?yq7_8⟩) ?rq7_8
    case yq7_8 => (intro w hSw; (try dsimp only at hSw); go_simp; try with_reducible rfl)
    try simp only [Act.put, List.setIfInBounds_toArray, List.set_cons_zero, List.set_cons_succ]
    refine region_take 8 (v := ?vq8_9) rfl rfl (by kernel_rfl) (by kernel_rfl) (by kernel_rfl) (fun _ _ _ h => h) hHeld (Or.inl ⟨by rfl, ?yq8_9⟩) ?rq8_9
    case yq8_9 => (intro w hSw; (try dsimp only at hSw); go_simp; try with_reducible rfl)
    try simp only [Act.put, List.setIfInBounds_toArray, List.set_cons_zero, List.set_cons_succ]
    refine region_take 9 (v := ?vq9_10) rfl rfl (by kernel_rfl) (by kernel_rfl) (by kernel_rfl) (fun _ _ _ h => h) hHeld (Or.inl ⟨by rfl, ?yq9_10⟩) ?rq9_10
    case yq9_10 => (intro w hSw; (try dsimp only at hSw); go_simp; try with_reducible rfl)
    try simp only [Act.put, List.setIfInBounds_toArray, List.set_cons_zero, List.set_cons_succ]
    refine region_take 10 (v := ?vq10_11) rfl rfl (by kernel_rfl) (by kernel_rfl) (by kernel_rfl) (fun _ _ _ h => h) hHeld (Or.inl ⟨by rfl, ?yq10_11⟩) ?rq10_11
    case yq10_11 => (intro w hSw; refine (yields_str 26 9 5 (.tmp 50) rfl Try.underlying26 Try.underlying5 Try.underlying9 _ m _ ZE rfl HZE.out.2.1 (HW.out.2.1.tg hSw)).trans ?_; with_reducible rfl)
    try simp only [Act.put, List.setIfInBounds_toArray, List.set_cons_zero, List.set_cons_succ]
    refine region_take 11 (v := ?vq11_12) rfl rfl (by kernel_rfl) (by kernel_rfl) (by kernel_rfl) (fun _ _ _ h => h) hHeld (Or.inl ⟨by rfl, ?yq11_12⟩) ?rq11_12
    case yq11_12 => (intro w hSw; (try dsimp only at hSw); go_simp; try with_reducible rfl)
    try simp only [Act.put, List.setIfInBounds_toArray, List.set_cons_zero, List.set_cons_succ]
    refine region_take 12 (v := ?vq12_13) rfl rfl (by kernel_rfl) (by kernel_rfl) (by kernel_rfl) (fun _ _ _ h => h) hHeld (Or.inl ⟨by rfl, ?yq12_13⟩) ?rq12_13
    case yq12_13 => (intro w hSw; refine (yields_str 26 9 5 (.tmp 52) rfl Try.underlying26 Try.underlying5 Try.underlying9 _ m _ ZE rfl HZE.out.2.1 (HW.out.2.2.1.tg hSw)).trans ?_; with_reducible rfl)
    try simp only [Act.put, List.setIfInBounds_toArray, List.set_cons_zero, List.set_cons_succ]
    refine region_take 13 (v := ?vq13_14) rfl rfl (by kernel_rfl) (by kernel_rfl) (by kernel_rfl) (fun _ _ _ h => h) hHeld (Or.inl ⟨by rfl, ?yq13_14⟩) ?rq13_14
    case yq13_14 => (intro w hSw; (try dsimp only at hSw); go_simp; try with_reducible rfl)
    try simp only [Act.put, List.setIfInBounds_toArray, List.set_cons_zero, List.set_cons_succ]
    refine region_take 14 (v := ?vq14_15) rfl rfl (by kernel_rfl) (by kernel_rfl) (by kernel_rfl) (fun _ _ _ h => h) hHeld (Or.inl ⟨by rfl, ?yq14_15⟩) ?rq14_15
    case yq14_15 => (intro w hSw; (try dsimp only at hSw); go_simp; try with_reducible rfl)
    try simp only [Act.put, List.setIfInBounds_toArray, List.set_cons_zero, List.set_cons_succ]
    refine region_take 15 (v := ?vq15_16) rfl rfl (by kernel_rfl) (by kernel_rfl) (by kernel_rfl) (fun _ _ _ h => h) hHeld (Or.inl ⟨by rfl, ?yq15_16⟩) ?rq15_16
    case yq15_16 => (intro w hSw; (try dsimp only at hSw); go_simp; try with_reducible rfl)
    try simp only [Act.put, List.setIfInBounds_toArray, List.set_cons_zero, List.set_cons_succ]
    refine region_take 16 (v := ?vq16_17) rfl rfl (by kernel_rfl) (by kernel_rfl) (by kernel_rfl) (fun _ _ _ h => h) hHeld (Or.inl ⟨by rfl, ?yq16_17⟩) ?rq16_17
    case yq16_17 => (intro w hSw; (try dsimp only at hSw); go_simp; try with_reducible rfl)
    try simp only [Act.put, List.setIfInBounds_toArray, List.set_cons_zero, List.set_cons_succ]
    refine region_take 17 (v := ?vq17_18) rfl rfl (by kernel_rfl) (by kernel_rfl) (by kernel_rfl) (fun _ _ _ h => h) hHeld (Or.inl ⟨by rfl, ?yq17_18⟩) ?rq17_18
    case yq17_18 => (intro w hSw; (try dsimp only at hSw); go_simp; try with_reducible rfl)
    try simp only [Act.put, List.setIfInBounds_toArray, List.set_cons_zero, List.set_cons_succ]
    refine region_take 18 (v := ?vq18_19) rfl rfl (by kernel_rfl) (by kernel_rfl) (by kernel_rfl) (fun _ _ _ h => h) hHeld (Or.inl ⟨by rfl, ?yq18_19⟩) ?rq18_19
    case yq18_19 => (intro w hSw; (try dsimp only at hSw); go_simp; try with_reducible rfl)
    try simp only [Act.put, List.setIfInBounds_toArray, List.set_cons_zero, List.set_cons_succ]
    refine region_take 19 (v := ?vq19_20) rfl rfl (by kernel_rfl) (by kernel_rfl) (by kernel_rfl) (fun _ _ _ h => h) hHeld (Or.inl ⟨by rfl, ?yq19_20⟩) ?rq19_20
    case yq19_20 => (intro w hSw; (try dsimp only at hSw); go_simp; try with_reducible rfl)
    try simp only [Act.put, List.setIfInBounds_toArray, List.set_cons_zero, List.set_cons_succ]
    refine region_take 20 (v := ?vq20_21) rfl rfl (by kernel_rfl) (by kernel_rfl) (by kernel_rfl) (fun _ _ _ h => h) hHeld (Or.inl ⟨by rfl, ?yq20_21⟩) ?rq20_21
    case yq20_21 => (intro w hSw; (try dsimp only at hSw); go_simp; try with_reducible rfl)
    try simp only [Act.put, List.setIfInBounds_toArray, List.set_cons_zero, List.set_cons_succ]
    refine region_take 21 (v := ?vq21_22) rfl rfl (by kernel_rfl) (by kernel_rfl) (by kernel_rfl) (fun _ _ _ h => h) hHeld (Or.inl ⟨by rfl, ?yq21_22⟩) ?rq21_22
    case yq21_22 => (intro w hSw; refine (yields_load_blk 25 (.tmp 12) rfl nf 25 (pkV Q) _ rfl (HW.out.2.2.2.1.tg hSw) Try.underlying25 rfl (by rw [pkV_size HQ.out.1]; first | done | kernel_rfl)).trans ?_; with_reducible rfl)
    try simp only [Act.put, List.setIfInBounds_toArray, List.set_cons_zero, List.set_cons_succ]
    refine region_take 22 (v := ?vq22_23) rfl rfl (by kernel_rfl) (by kernel_rfl) (by kernel_rfl) (fun _ _ _ h => h) hHeld (Or.inl ⟨by rfl, ?yq22_23⟩) ?rq22_23
    case yq22_23 => (intro w hSw; refine (yields_load_blk 25 (.tmp 14) rfl nh 25 (pkV Q) _ rfl (HW.out.2.2.2.2.1.tg hSw) Try.underlying25 rfl (by rw [pkV_size HQ.out.1]; first | done | kernel_rfl)).trans ?_; with_reducible rfl)
    try simp only [Act.put, List.setIfInBounds_toArray, List.set_cons_zero, List.set_cons_succ]
    refine region_take 23 (v := ?vq23_24) rfl rfl (by kernel_rfl) (by kernel_rfl) (by kernel_rfl) (fun _ _ _ h => h) hHeld (Or.inl ⟨by rfl, ?yq23_24⟩) ?rq23_24
    case yq23_24 => (intro w hSw; refine (run_exec_eql w .eql 25 25 (.tmp 62) (.tmp 63) rfl (pkV Q) (pkV Q) rfl rfl (by kernel_rfl) true (run_eql_pk w Q Q HQ.out.1 HQ.out.1 true (by simp))).trans ?_; with_reducible rfl)
    try simp only [Act.put, List.setIfInBounds_toArray, List.set_cons_zero, List.set_cons_succ]
    refine region_take 24 (v := ?vq24_25) rfl rfl (by kernel_rfl) (by kernel_rfl) (by kernel_rfl) (fun _ _ _ h => h) hHeld (Or.inl ⟨by rfl, ?yq24_25⟩) ?rq24_25
    case yq24_25 => (intro w hSw; (try dsimp only at hSw); go_simp; try with_reducible rfl)
    try simp only [Act.put, List.setIfInBounds_toArray, List.set_cons_zero, List.set_cons_succ]
    refine region_take 25 (v := ?vq25_26) rfl rfl (by kernel_rfl) (by kernel_rfl) (by kernel_rfl) (fun _ _ _ h => h) hHeld (Or.inl ⟨by rfl, ?yq25_26⟩) ?rq25_26
    case yq25_26 => (intro w hSw; (try dsimp only at hSw); go_simp; try with_reducible rfl)
    try simp only [Act.put, List.setIfInBounds_toArray, List.set_cons_zero, List.set_cons_succ]
    refine region_take 26 (v := ?vq26_27) rfl rfl (by kernel_rfl) (by kernel_rfl) (by kernel_rfl) (fun _ _ _ h => h) hHeld (Or.inl ⟨by rfl, ?yq26_27⟩) ?rq26_27
    case yq26_27 => (intro w hSw; (try dsimp only at hSw); go_simp; try with_reducible rfl)
    try simp only [Act.put, List.setIfInBounds_toArray, List.set_cons_zero, List.set_cons_succ]
    refine region_take 27 (v := ?vq27_28) rfl rfl (by kernel_rfl) (by kernel_rfl) (by kernel_rfl) (fun _ _ _ h => h) hHeld (Or.inl ⟨by rfl, ?yq27_28⟩) ?rq27_28
    case yq27_28 => (intro w hSw; (try dsimp only at hSw); go_simp; try with_reducible rfl)
    try simp only [Act.put, List.setIfInBounds_toArray, List.set_cons_zero, List.set_cons_succ]
    refine region_take 28 (v := ?vq28_29) rfl rfl (by kernel_rfl) (by kernel_rfl) (by kernel_rfl) (fun _ _ _ h => h) hHeld (Or.inl ⟨by rfl, ?yq28_29⟩) ?rq28_29
    case yq28_29 => (intro w hSw; (try dsimp only at hSw); go_simp; try with_reducible rfl)
    try simp only [Act.put, List.setIfInBounds_toArray, List.set_cons_zero, List.set_cons_succ]
    refine region_take 29 (v := ?vq29_30) rfl rfl (by kernel_rfl) (by kernel_rfl) (by kernel_rfl) (fun _ _ _ h => h) hHeld (Or.inl ⟨by rfl, ?yq29_30⟩) ?rq29_30
    case yq29_30 => (intro w hSw; (try dsimp only at hSw); go_simp; try with_reducible rfl)
    try simp only [Act.put, List.setIfInBounds_toArray, List.set_cons_zero, List.set_cons_succ]
    refine region_take 30 (v := ?vq30_31) rfl rfl (by kernel_rfl) (by kernel_rfl) (by kernel_rfl) (fun _ _ _ h => h) hHeld (Or.inl ⟨by rfl, ?yq30_31⟩) ?rq30_31
    case yq30_31 => (intro w hSw; (try dsimp only at hSw); go_simp; try with_reducible rfl)
    try simp only [Act.put, List.setIfInBounds_toArray, List.set_cons_zero, List.set_cons_succ]
    refine region_take 31 (v := ?vq31_32) rfl rfl (by kernel_rfl) (by kernel_rfl) (by kernel_rfl) (fun _ _ _ h => h) hHeld (Or.inl ⟨by rfl, ?yq31_32⟩) ?rq31_32
    case yq31_32 => (intro w hSw; (try dsimp only at hSw); go_simp; try with_reducible rfl)
    try simp only [Act.put, List.setIfInBounds_toArray, List.set_cons_zero, List.set_cons_succ]
    refine region_take 33 (v := ?vq33_33) rfl rfl (by kernel_rfl) (by kernel_rfl) (by kernel_rfl) (fun _ _ _ h => h) hHeld (Or.inl ⟨by rfl, ?yq33_33⟩) ?rq33_33
    case yq33_33 => (intro w hSw; (try dsimp only at hSw); go_simp; try with_reducible rfl)
    try simp only [Act.put, List.setIfInBounds_toArray, List.set_cons_zero, List.set_cons_succ]
    refine region_one 32 (by kernel_rfl) rfl (fun K hK => ?_)
    go_simp
    go_at_call 27
    (with_reducible refine (tagged_any kd _).mono ?_)
    rintro e uq_34 ⟨rfl, hx8⟩
    rw [HTG.out]
    have ht := touch_eq hx8
    refine hK.out _ _ (((hHeld).still ht)) (fun hHeld2 => ?_)
    clear hK K hHeld ht
    have hHeld := hHeld2
    clear hHeld2
    try simp only [Act.put, List.setIfInBounds_toArray, List.set_cons_zero, List.set_cons_succ]
    refine region_one 34 (by kernel_rfl) rfl (fun K hK => ?_)
    go_simp
    go_at_call 28
    (with_reducible refine (refTagged_any kd _).mono ?_)
    rintro e uq_35 ⟨rfl, hx8⟩
    rw [HTG.out]
    have ht := touch_eq hx8
    refine hK.out _ _ (((hHeld).still ht)) (fun hHeld2 => ?_)
    clear hK K hHeld ht
    have hHeld := hHeld2
    clear hHeld2
    try simp only [Act.put, List.setIfInBounds_toArray, List.set_cons_zero, List.set_cons_succ]
    refine region_take 35 (v := ?vq35_36) rfl rfl (by kernel_rfl) (by kernel_rfl) (by kernel_rfl) (fun _ _ _ h => h) hHeld (Or.inl ⟨by rfl, ?yq35_36⟩) ?rq35_36
    case yq35_36 => (intro w hSw; (try dsimp only at hSw); go_simp; try with_reducible rfl)
    try simp only [Act.put, List.setIfInBounds_toArray, List.set_cons_zero, List.set_cons_succ]
    refine region_take 36 (v := ?vq36_37) rfl rfl (by kernel_rfl) (by kernel_rfl) (by kernel_rfl) (fun _ _ _ h => h) hHeld (Or.inl ⟨by rfl, ?yq36_37⟩) ?rq36_37
    case yq36_37 => (intro w hSw; (try dsimp only at hSw); go_simp; try with_reducible rfl)
    try simp only [Act.put, List.setIfInBounds_toArray, List.set_cons_zero, List.set_cons_succ]
    refine region_take 37 (v := ?vq37_38) rfl rfl (by kernel_rfl) (by kernel_rfl) (by kernel_rfl) (fun _ _ _ h => h) hHeld (Or.inl ⟨by rfl, ?yq37_38⟩) ?rq37_38
    case yq37_38 => (intro w hSw; (try dsimp only at hSw); go_simp; try with_reducible rfl)
    try simp only [Act.put, List.setIfInBounds_toArray, List.set_cons_zero, List.set_cons_succ]
    refine wpAnyH_done (by kernel_rfl) ?_ _
    have HT := Lib.hid (HW.out.2.2.2.2.2.trans (hHeld).still2)
    go_wp2_with fail
    go_ret
    exact ⟨by first | rfl | simp, HT.out.below (Nat.le_refl _) (fun _ _ h => h)⟩

/-! ### the row's step, and the row -/
theorem wireTells_own : ownKnob Try.prog.godebug = none := by kernel_rfl
theorem wireTells_laidOut : laidOutB Try.prog = true := by kernel_rfl

set_option linter.unusedVariables false in
set_option maxRecDepth 100000 in
theorem wireTells_lifted (os : Os) (started : os.Started) (H : Type) (enc : TypeId × Value → H) :
    ReturnsInHanded {} Try.checked os 3 .any (Rows.wireTellsSpec.pre6 enc Try.prog Try.f3 Rows.wireTellsRow.domain false) (Rows.wireTellsSpec.post enc Try.prog Try.f3 false true false false) := by
  refine returnsInHanded_of_change (C := Try.checked) wireTells_own started (by kernel_rfl) Try.func3
    (ChangeSpec.witness6 (enc := enc) (C := Try.checked) false ⟨#[], #[.agg #[.int .i64 0, .int .i64 0, .int .i64 0, .int .i64 0, .int .i64 0, .int .i64 0, .int .i64 0, .int .i64 0, .int .i64 0, .int .i64 0, .int .i64 0, .int .i64 0, .int .u8 0, .int .u8 0, .int .u8 0, .int .u8 0, .int .u8 0, .int .u8 0, .int .u8 0, .int .u8 0, .int .u8 0, .int .u8 0, .int .u8 0, .int .u8 0, .int .u8 0, .int .u8 0, .int .u8 0, .int .u8 0, .int .u8 0, .int .u8 0, .int .u8 0, .int .u8 0, .int .u8 0, .int .u8 0, .int .u8 0, .int .u8 0], .slice none 0 0, .int .i64 0], []⟩ 8 (by kernel_rfl) (by kernel_rfl) (by kernel_rfl) (by kernel_rfl)) ?_
  intro W base args ds gs before hval0 hW hcnd _
  have hval : ∀ (j : Nat) t v, Try.f3.params[j]? = some t → args[j]? = some v → Value.okWide Try.prog W .any base t v := hval0
  have hW' := hW
  obtain ⟨p, q, hA0, hV, rfl, hfz, hnd⟩ := hW
  have hA : DataW.TrodAll enc Try.prog W 0 (fun _ => true) true Try.f3.params.toList args.toList ds p := hA0
  rw [Try.params3] at hA hval
  obtain ⟨v0, vs0, d0, ds0, p0, q0, hargs, rfl, rfl, h0, r0⟩ := trodAll_cons hA
  obtain ⟨v1, vs1, d1, ds1, p1, q1, rfl, rfl, rfl, h1, r1⟩ := trodAll_cons r0
  obtain ⟨v2, vs2, d2, ds2, p2, q2, rfl, rfl, rfl, h2, r2⟩ := trodAll_cons r1
  obtain ⟨rfl, rfl, rfl⟩ := trodAll_nil r2
  obtain rfl : args = #[v0, v1, v2] := by cases args; simp_all
  obtain ⟨rfl, rfl⟩ := trodVars_none hV
  have k0 := h0
  have lt0 : ∀ x ∈ p0, x.block < W.heap.size := by obtain ⟨m, hm⟩ := k0; exact DataW.trod_lt m _ _ _ hm
  have o0 := hval 0 25 v0 rfl rfl
  obtain ⟨a0, ok0, rfl⟩ := pk_of o0 h0
  have k1 := h1
  have lt1 : ∀ x ∈ p1, x.block < W.heap.size := by obtain ⟨m, hm⟩ := k1; exact DataW.trod_lt m _ _ _ hm
  obtain ⟨a1, len1, cap1, rfl⟩ := okWide_slice Try.underlying26 (hval 1 26 v1 rfl rfl)
  obtain ⟨z1, w1⟩ := row_of (k := .u8) Try.underlying26 Try.underlying5 (by kernel_rfl) h1
  obtain ⟨a2, rfl, rfl, rfl, w2⟩ := open_int Try.underlying3 (hval 2 3 v2 rfl rfl) h2
  clear hA0 hval0
  refine (wireTells_walk W a0 ok0 a1 len1 cap1 z1 w1 a2 w2).mono fun e W' ⟨he, bel⟩ => ?_
  subst he
  exact ⟨_, rfl, _, _, _, [], _, [], hW', trodAll_mk1 (shut_bool Try.underlying4 _), (trodAll_cons_mk (Below.trod wireTells_laidOut (by kernel_rfl) (of_decide_eq_true (by kernel_rfl)) k0 bel lt0) (trodAll_cons_mk (Below.trod wireTells_laidOut (by kernel_rfl) (of_decide_eq_true (by kernel_rfl)) k1 bel lt1) (trodAll_cons_mk (shut_int Try.underlying3 w2) trodAll_mk0))), rfl, bel.frame _, fun h => by cases h⟩

theorem wireTells_over : Rows.wireTellsRow.holds Try.pinned (OpenSpec.ofChange Rows.wireTellsSpec) :=
  OpenClaim.holds_of_wide 3 Try.f3 rfl rfl rfl rfl rfl rfl rfl ⟨rfl, rfl, rfl, rfl, rfl⟩ rfl rfl rfl rfl rfl (by kernel_rfl) Try.func3 (by kernel_rfl)
    (of_decide_eq_true (by kernel_rfl)) (by unfold Func.isWrapper; first | (rw [if_pos (by decide +kernel)]; kernel_rfl) | (rw [if_neg (by decide +kernel)]; exact ⟨rfl, rfl⟩))
    (fun os started H enc _ => wireTells_lifted os started H enc)

/-- THE STATEMENT. -/
theorem wireTells_proved : Rows.WireTellsSaid := wireTells_over
#print axioms wireTells_proved
end Go.Proofs.Ythlkmofemnepbaa
