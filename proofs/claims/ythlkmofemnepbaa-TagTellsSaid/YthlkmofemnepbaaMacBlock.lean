/-
  THE WALK of mac.block (layer 3).
-/
import Derived.Test.YthlkmofemnepbaaRows
import Derived.Test.YthlkmofemnepbaaMacPlain
import Derived.Laws.CopyOwn
namespace Go.Proofs.Ythlkmofemnepbaa
open Go.RowKit

theorem splice_key (k : List Nat) : splice (bn (List.replicate 64 0)) 0 (bn k) = bn (k ++ List.replicate (64 - k.length) 0) := by
  unfold splice
  rw [bn_append, List.take_zero, List.nil_append, Nat.zero_add, bn_len, bn_drop, List.drop_replicate]

set_option maxRecDepth 100000 in
set_option maxHeartbeats 4000000 in
theorem macBlock_any (a : Option Addr) (cap : Nat) (key : List Nat) (bt : Nat) (w : World) (hs : SlAt w a (bn key)) (hc : a = none → cap = 0) (hr : ∀ y ∈ key, y < 256) (hn : key.length ≤ 100000) (hb : bt < 256) :
    Calls Try.prog 79 #[.slice a key.length cap, .int .u8 bt] w (Made 5 (bn (macBlock key bt)) w) := by
  obtain ⟨i0, hi, hz0, hz1, hz2⟩ := info_parts Try.info5
  have HH := Lib.hid (And.intro hs (And.intro hc hr))
  clear hs hc hr
  by_cases h64 : 64 < key.length
  · go_enter Try.func79, Try.ntmps79
    go_wp2_with (at_make; refine wpList_make_full _ rfl _ _ 26 rfl w.heap.size 5 i0 (.int .u8 0) 1 Try.underlying26 hi hz0 hz1 .i64 .i64 _ _ 64 rfl rfl rfl rfl (by rw [hz2]; omega) (by unfold maxLen; omega) (Nat.le_refl _) ?_; intro w1 hown hgrow; have H1 := Lib.hid (And.intro hown hgrow); clear hown hgrow)
    have t1 : Touch (fun _ => False) w w1 := (Touch.refl _ w).grown H1.out.2 (fun k h => by cases h)
    have hs1 : SlAt w1 a (bn key) := HH.out.1.touch t1 (fun _ _ _ h => h)
    (with_reducible refine (sum_eq _ 1 1 [⟨a, cap, key⟩] key _ ?_ (by simp [flatP]) rfl HH.out.2.2 (by omega) (by decide)).mono ?_)
    · refine PartsIn.lay rfl [⟨a, cap, key⟩] _ (fun p hp => ?_)
      rw [List.mem_singleton] at hp
      subst hp
      exact ⟨hs1, HH.out.2.1⟩
    rintro e w2 ⟨rfl, hb2⟩
    obtain ⟨k, hk⟩ : ∃ k, k = sha key := ⟨_, rfl⟩
    rw [← hk]
    have hkl : k.length = 32 := by rw [hk]; exact sha_len _
    have hkr : ∀ y ∈ k, y < 256 := by rw [hk]; exact sha_lt _
    have hkm : macKey key = k ++ List.replicate 32 0 := by unfold macKey; simp [h64, ← hk, hkl]
    have HK := Lib.hid (And.intro hkl (And.intro (show (bn k).toArray.size = 32 by rw [bn_size, hkl]) (And.intro (bn_all k) (And.intro hkr hkm))))
    have H2 := Lib.hid (And.intro t1 hb2)
    clear hk hkl hkr hkm t1 hs1 hb2
    go_wp2_with (first
      | (refine wpList_copy_splice rfl (.tmp 16) (.tmp 17) 26 26 rfl 5 Try.underlying26 (by kernel_rfl) _ _ _ _ _ _ rfl rfl w.heap.size 0 (bn (List.replicate 64 0)) 5 HB3.out.1 (bn k) (by rw [bn_len, HK.out.1]; rfl) (fun _ => ⟨rfl, _, rfl, HB3.out.2.1.at⟩) (by rw [bn_len, bn_len, HK.out.1]; decide) (bn_one k) w.heap.size w HB3.out.2.2 (Nat.le_refl _) ?_; intro w4 hB4 hb4)
      | (refine wpList_store_blk rfl 73 (.tmp 6) (.tmp 14) rfl w2.heap.size 73 _ (bn k).toArray rfl rfl (Blk.new _ _ _) (by rw [HK.out.2.1]; first | done | kernel_rfl) (by rw [HK.out.2.1]; first | done | kernel_rfl) HK.out.2.2.1 ?_
         intro w3 hB3 ht3 hs3
         have hg1 := owns_blk (xs := bn (List.replicate 64 0)) (by have h := H1.out.1; rw [Nat.mul_one] at h; have e := toList_madeCells_one (.int .u8 0) 64; simp only [Value.cells] at h; rw [e] at h; exact h)
         have hlt := hg1.lt
         have hz2' := H2.out.2.size
         have hg3 : Blk w3 w.heap.size 5 (bn (List.replicate 64 0)).toArray := (((hg1.alloc _).touch (Touch.of_below (S := fun _ => False) H2.out.2) (fun h => h)).alloc _).touch ht3 (fun e => by simp at hz2'; omega)
         have hb3 : Below w.heap.size w w3 := (Touch.then (S := fun _ => False) ((((H2.out.1).alloc _).trans (Touch.of_below H2.out.2)).alloc _) ht3 (fun i hi e => by simp at hz2'; omega)).below (Nat.le_refl _) (fun _ _ h => h)
         have HB3 := Lib.hid (And.intro hg3 (And.intro (SlAt.of_blk hB3) hb3))
         clear hB3 ht3 hs3 hg1 hlt hz2' hg3 hb3))
    have HM : Hid (Blk w4 w.heap.size 5 (bn (macKey key)).toArray ∧ Below w.heap.size w w4) := Lib.hid ⟨by
      have h := hB4.out
      rw [splice_key, HK.out.1] at h
      rw [HK.out.2.2.2.2]
      exact h, hb4⟩
    clear hB4 hb4
    obtain ⟨m, hm⟩ : ∃ m, m = macKey key := ⟨_, rfl⟩
    have hml : m.length = 64 := by rw [hm]; exact macKey_len key
    have hmr : ∀ y ∈ m, y < 256 := by rw [hm]; exact macKey_lt key HH.out.2.2
    rw [← hm] at HM
    have HMM := Lib.hid (And.intro hm (And.intro hml hmr))
    clear hm hml hmr
    go_loopw [21] (fun c wz => ∃ (i : Nat) (ys : List Nat), i ≤ 64 ∧ c = .int .i64 i ∧ ys.length = 64 ∧ (∀ j, j < i → ys[j]? = m[j]?.map (· ^^^ bt)) ∧ (∀ j, i ≤ j → ys[j]? = m[j]?) ∧ Blk wz w.heap.size 5 (bn ys).toArray ∧ Below w.heap.size w wz) (fun c _ => (64 - intOf c).toNat)
    case atStart => exact ⟨0, m, Nat.zero_le _, rfl, HMM.out.2.1, fun j hj => absurd hj (Nat.not_lt_zero _), fun _ _ => rfl, HM.out.1, HM.out.2⟩
    case round =>
      obtain ⟨i, ys, hi64, rfl, hyl, hy1, hy2, hB, hbel⟩ := hrel
      by_cases hq : i = 64
      · subst hq
        have hy : ys = macBlock key bt := by
          unfold macBlock
          rw [← HMM.out.1]
          refine List.ext_getElem? fun l => ?_
          rw [List.getElem?_map]
          by_cases hl : l < 64
          · exact hy1 l hl
          · have := HMM.out.2.1
            rw [List.getElem?_eq_none (by omega), List.getElem?_eq_none (l := m) (by omega)]
            rfl
        have HE := Lib.hid (And.intro hy (And.intro hyl (And.intro hB hbel)))
        clear hy hyl hy1 hy2 hB hbel
        go_wp2_with fail
        go_ret
        have hz : (bn (macBlock key bt)).length = 64 := by rw [bn_len, ← HE.out.1, HE.out.2.1]
        refine ⟨_, rfl, ⟨by rw [Nat.mul_one], .inr ⟨w.heap.size, 64, (bn ys).toArray, by rw [hz]; rfl, Nat.le_refl _, HE.out.2.2.1, by rw [hz]; exact Nat.le_refl _, by unfold maxLen; omega, by rw [bn_size, HE.out.2.1], ?_⟩⟩, HE.out.2.2.2⟩
        rw [hz, HE.out.1]
        exact List.take_of_length_le (by simp [hz])
      · have hil : i < 64 := by omega
        have hiI : (i : Int) < 64 := by omega
        obtain ⟨y, hy⟩ : ∃ y, m[i]? = some y := ⟨_, List.getElem?_eq_getElem (by have := HMM.out.2.1; omega)⟩
        have hyr := HMM.out.2.2 y (List.mem_of_getElem? hy)
        have hyi : ys[i]? = some y := by rw [hy2 i (Nat.le_refl _), hy]
        have ci := hB.cell i (v := .int .u8 (y : Int)) (by simp [bn, bys, natsD, hyi])
        have fi := hB.frozen i
        have hx := xor_u8 y bt hyr hb
        obtain ⟨z, hz⟩ : ∃ z, z = y ^^^ bt := ⟨_, rfl⟩
        rw [← hz] at hx
        have HK2 := Lib.hid (And.intro hyl (And.intro hy1 (And.intro hy2 (And.intro hB (And.intro hbel (And.intro hy hz))))))
        clear hyl hy1 hy2 hB hbel hy hyi hz
        go_wp2_with fail
        go_roundw
        case rel =>
          obtain ⟨hyl, hy1, hy2, hB, hbel, hy, hz⟩ := HK2.out
          refine ⟨i + 1, ys.set i z, by omega, by first | rfl | (congr 1; omega), by simp [hyl], ?_, ?_, hB.set_bn i _ z rfl, (Touch.setCell (S := fun k => w.heap.size ≤ k) (Touch.of_below hbel) (p := ⟨w.heap.size, i, none⟩) (fun _ => Nat.le_refl _) _).below (Nat.le_refl _) (fun k hk h => by omega)⟩
          · intro j hj
            by_cases e : i = j
            · subst e
              rw [List.getElem?_set_self (by omega), hy, hz]
              rfl
            · rw [List.getElem?_set_ne e]
              exact hy1 j (by omega)
          · intro j hj
            rw [List.getElem?_set_ne (by omega)]
            exact hy2 j (by omega)
        case measure => simp [intOf]; omega
  · go_enter Try.func79, Try.ntmps79
    go_wp2_with (first
      | (refine wpList_copy_splice rfl (.tmp 16) (.tmp 17) 26 26 rfl 5 Try.underlying26 (by kernel_rfl) _ _ _ _ _ _ rfl rfl w.heap.size 0 (bn (List.replicate 64 0)) 5 HB3.out.1 (bn key) (by rw [bn_len]; exact (Nat.min_eq_left (by omega)).symm) (fun hp => ⟨rfl, HB3.out.2.2.2 hp⟩) (by rw [bn_len, bn_len]; simp; omega) (bn_one key) w.heap.size w HB3.out.2.2.1 (Nat.le_refl _) ?_; intro w4 hB4 hb4)
      | (at_make
         refine wpList_make_full _ rfl _ _ 26 rfl w.heap.size 5 i0 (.int .u8 0) 1 Try.underlying26 hi hz0 hz1 .i64 .i64 _ _ 64 rfl rfl rfl rfl (by rw [hz2]; omega) (by unfold maxLen; omega) (Nat.le_refl _) ?_
         intro w1 hown hgrow
         have t1 : Touch (fun _ => False) w w1 := (Touch.refl _ w).grown hgrow (fun k h => by cases h)
         have hs1 : SlAt w1 a (bn key) := HH.out.1.touch t1 (fun _ _ _ h => h)
         have hg1 := owns_blk (xs := bn (List.replicate 64 0)) (by have h := hown; rw [Nat.mul_one] at h; have e := toList_madeCells_one (.int .u8 0) 64; simp only [Value.cells] at h; rw [e] at h; exact h)
         have hps : 0 < (bn key).length → ∃ ad, a = some ad ∧ ∀ j v, (bn key)[j]? = some v → w1.cell? (ad.add j) = some v := fun hp => (by
           cases a with
           | none => have h0 : bn key = [] := hs1; rw [h0] at hp; simp at hp
           | some x => exact ⟨x, rfl, hs1.at⟩)
         have HB3 := Lib.hid (And.intro hg1 (And.intro hs1 (And.intro (t1.below (Nat.le_refl _) (fun _ _ h => h)) hps)))
         clear hown hgrow t1 hs1 hg1 hps))
    have HM : Hid (Blk w4 w.heap.size 5 (bn (macKey key)).toArray ∧ Below w.heap.size w w4) := Lib.hid ⟨by
      have h := hB4.out
      rw [splice_key] at h
      have e : macKey key = key ++ List.replicate (64 - key.length) 0 := by unfold macKey; simp [h64]
      rw [e]
      exact h, hb4⟩
    clear hB4 hb4
    obtain ⟨m, hm⟩ : ∃ m, m = macKey key := ⟨_, rfl⟩
    have hml : m.length = 64 := by rw [hm]; exact macKey_len key
    have hmr : ∀ y ∈ m, y < 256 := by rw [hm]; exact macKey_lt key HH.out.2.2
    rw [← hm] at HM
    have HMM := Lib.hid (And.intro hm (And.intro hml hmr))
    clear hm hml hmr
    go_loopw [21] (fun c wz => ∃ (i : Nat) (ys : List Nat), i ≤ 64 ∧ c = .int .i64 i ∧ ys.length = 64 ∧ (∀ j, j < i → ys[j]? = m[j]?.map (· ^^^ bt)) ∧ (∀ j, i ≤ j → ys[j]? = m[j]?) ∧ Blk wz w.heap.size 5 (bn ys).toArray ∧ Below w.heap.size w wz) (fun c _ => (64 - intOf c).toNat)
    case atStart => exact ⟨0, m, Nat.zero_le _, rfl, HMM.out.2.1, fun j hj => absurd hj (Nat.not_lt_zero _), fun _ _ => rfl, HM.out.1, HM.out.2⟩
    case round =>
      obtain ⟨i, ys, hi64, rfl, hyl, hy1, hy2, hB, hbel⟩ := hrel
      by_cases hq : i = 64
      · subst hq
        have hy : ys = macBlock key bt := by
          unfold macBlock
          rw [← HMM.out.1]
          refine List.ext_getElem? fun l => ?_
          rw [List.getElem?_map]
          by_cases hl : l < 64
          · exact hy1 l hl
          · have := HMM.out.2.1
            rw [List.getElem?_eq_none (by omega), List.getElem?_eq_none (l := m) (by omega)]
            rfl
        have HE := Lib.hid (And.intro hy (And.intro hyl (And.intro hB hbel)))
        clear hy hyl hy1 hy2 hB hbel
        go_wp2_with fail
        go_ret
        have hz : (bn (macBlock key bt)).length = 64 := by rw [bn_len, ← HE.out.1, HE.out.2.1]
        refine ⟨_, rfl, ⟨by rw [Nat.mul_one], .inr ⟨w.heap.size, 64, (bn ys).toArray, by rw [hz]; rfl, Nat.le_refl _, HE.out.2.2.1, by rw [hz]; exact Nat.le_refl _, by unfold maxLen; omega, by rw [bn_size, HE.out.2.1], ?_⟩⟩, HE.out.2.2.2⟩
        rw [hz, HE.out.1]
        exact List.take_of_length_le (by simp [hz])
      · have hil : i < 64 := by omega
        have hiI : (i : Int) < 64 := by omega
        obtain ⟨y, hy⟩ : ∃ y, m[i]? = some y := ⟨_, List.getElem?_eq_getElem (by have := HMM.out.2.1; omega)⟩
        have hyr := HMM.out.2.2 y (List.mem_of_getElem? hy)
        have hyi : ys[i]? = some y := by rw [hy2 i (Nat.le_refl _), hy]
        have ci := hB.cell i (v := .int .u8 (y : Int)) (by simp [bn, bys, natsD, hyi])
        have fi := hB.frozen i
        have hx := xor_u8 y bt hyr hb
        obtain ⟨z, hz⟩ : ∃ z, z = y ^^^ bt := ⟨_, rfl⟩
        rw [← hz] at hx
        have HK2 := Lib.hid (And.intro hyl (And.intro hy1 (And.intro hy2 (And.intro hB (And.intro hbel (And.intro hy hz))))))
        clear hyl hy1 hy2 hB hbel hy hyi hz
        go_wp2_with fail
        go_roundw
        case rel =>
          obtain ⟨hyl, hy1, hy2, hB, hbel, hy, hz⟩ := HK2.out
          refine ⟨i + 1, ys.set i z, by omega, by first | rfl | (congr 1; omega), by simp [hyl], ?_, ?_, hB.set_bn i _ z rfl, (Touch.setCell (S := fun k => w.heap.size ≤ k) (Touch.of_below hbel) (p := ⟨w.heap.size, i, none⟩) (fun _ => Nat.le_refl _) _).below (Nat.le_refl _) (fun k hk h => by omega)⟩
          · intro j hj
            by_cases e : i = j
            · subst e
              rw [List.getElem?_set_self (by omega), hy, hz]
              rfl
            · rw [List.getElem?_set_ne e]
              exact hy1 j (by omega)
          · intro j hj
            rw [List.getElem?_set_ne (by omega)]
            exact hy2 j (by omega)
        case measure => simp [intOf]; omega
end Go.Proofs.Ythlkmofemnepbaa
