/-
  THE WALKS of the document's block and Of (layer 3).
-/
import Derived.Test.YthlkmofemnepbaaRows
import Derived.Test.YthlkmofemnepbaaMacOf
import Derived.Test.YthlkmofemnepbaaMacEqual
namespace Go.Proofs.Ythlkmofemnepbaa
open Go.RowKit

theorem macKey_at (key k : List Nat) (hk : k = if 64 < key.length then sha key else key) (hkl : k.length ≤ 64) (i : Nat) (hi : i < 64) : (macKey key)[i]? = some (k.getD i 0) := by
  unfold macKey
  rw [← hk]
  by_cases h : i < k.length
  · rw [List.getElem?_append_left h, List.getD_eq_getElem?_getD, List.getElem?_eq_getElem h]; rfl
  · rw [List.getElem?_append_right (by omega), List.getElem?_replicate, if_pos (by omega), List.getD_eq_getElem?_getD, List.getElem?_eq_none (by omega)]; rfl

set_option maxRecDepth 100000 in
theorem refSum_eq (a : Option Addr) (n cap : Nat) (b : List Nat) (w : World) (hs : SlAt w a (bn b)) (hc : a = none → cap = 0) (hr : ∀ y ∈ b, y < 256) (hl : b.length = n) (hn : n ≤ 1000000) :
    Calls Try.prog 80 #[.slice a n cap] w fun e w' => e = .returned (.agg (bn (sha b)).toArray) ∧ Touch (fun _ => False) w w' := by
  subst hl
  exact refSum_any a cap b w hs hc hr hn

set_option maxRecDepth 100000 in
set_option maxHeartbeats 4000000 in
theorem refKeyBlock_any (a : Option Addr) (cap : Nat) (key : List Nat) (bt : Nat) (w : World) (hs : SlAt w a (bn key)) (hc : a = none → cap = 0) (hr : ∀ y ∈ key, y < 256) (hn : key.length ≤ 100000) (hb : bt < 256) :
    Calls Try.prog 81 #[.slice a key.length cap, .int .u8 bt] w (Made 5 (bn (macBlock key bt)) w) := by
  obtain ⟨i0, hi, hz0, hz1, hz2⟩ := info_parts Try.info5
  have hsv : SlAt (w.alloc (.cells #[] 5)) a (bn key) := hs.alloc _
  have HH := Lib.hid (And.intro hc hr)
  clear hs hc hr
  by_cases h64 : 64 < key.length
  · go_enter Try.func81, Try.ntmps81
    go_wp2_with (at_builtin; refine wpList_append_any rfl (.tmp 10) (.tmp 11) 26 rfl w.heap.size 5 i0 (.int .u8 0) 1 Try.underlying26 hi hz0 hz1 hz2 rfl _ 0 [] rfl (World.ownsRow_made w #[] 0 (Nat.le_refl _) (Nat.zero_le _) rfl) a key.length cap (bn key) rfl (bn_len _) hsv HH.out.1 (bn_one _) (by unfold maxLen; omega) (by omega) (by simp) ?_; intro v1 w1 ho1 hg1 _; have hb1 : Below w.heap.size w w1 := ((Below.refl _ _).alloc (Nat.le_refl _) _).grown hg1 (by simp) (fun k hk => by cases hk; exact Nat.le_refl _); (try simp only [Nat.zero_add, List.nil_append] at ho1); obtain ⟨a1, c1, rfl, ha1, hl1, hm1, _⟩ := owns_form ho1; have H1 := Lib.hid (And.intro ho1 (And.intro hb1 (And.intro (fun h => (ha1 h).2) hm1))); clear ho1 hg1 hb1 ha1 hm1)
    (with_reducible refine (refSum_any a1 c1 key w1 (SlAt.of_owns H1.out.1) H1.out.2.2.1 HH.out.2 (by omega)).mono ?_)
    rintro e w2 ⟨rfl, ht2⟩
    obtain ⟨k, hk⟩ : ∃ k, k = sha key := ⟨_, rfl⟩
    rw [← hk]
    have hkl : k.length = 32 := by rw [hk]; exact sha_len _
    have hkr : ∀ y ∈ k, y < 256 := by rw [hk]; exact sha_lt _
    have hki : k = if 64 < key.length then sha key else key := by rw [if_pos h64]; exact hk
    have HKI := Lib.hid (And.intro hki (And.intro hkl hkr))
    have HK0 := Lib.hid (And.intro hkl (And.intro (show (bn k).toArray.size = 32 by rw [bn_size, hkl]) (bn_all k)))
    have H2 := Lib.hid ht2
    have hb2 := (H1.out.2.1.trans (ht2.below H1.out.2.1.size (fun _ _ h => h)))
    have HB2 := Lib.hid hb2
    clear hk ht2 hb2 hsv hki hkl hkr
    go_wp2_with (first
      | (at_builtin; refine wpList_append_any rfl (.tmp 18) (.tmp 19) 26 rfl w3.heap.size 5 i0 (.int .u8 0) 1 Try.underlying26 hi hz0 hz1 hz2 rfl _ 0 [] rfl (World.ownsRow_made w3 #[] 0 (Nat.le_refl _) (Nat.zero_le _) rfl) _ 32 32 (bn k) rfl (by rw [bn_len, HK0.out.1]) (H3.out.1.alloc _) (fun h => by cases h) (bn_one _) (by unfold maxLen; omega) (by omega) (by simp) ?_; intro v4 w4 ho4 hg4 _; have hb4 : Below w3.heap.size w3 w4 := ((Below.refl _ _).alloc (Nat.le_refl _) _).grown hg4 (by simp) (fun k hk => by cases hk; exact Nat.le_refl _); (try simp only [Nat.zero_add, List.nil_append] at ho4); obtain ⟨a5, c5, rfl, ha5, hl5, hm5, _⟩ := owns_form ho4; have H4 := Lib.hid (And.intro (SlAt.of_owns ho4) (And.intro (H3.out.2.trans (hb4.mono H3.out.2.size)) hm5)); clear ho4 hg4 hb4 ha5 hm5)
      | (refine wpList_store_blk rfl 73 (.tmp 6) (.tmp 17) rfl w2.heap.size 73 _ (bn k).toArray rfl rfl (Blk.new _ _ _) (by rw [HK0.out.2.1]; first | done | kernel_rfl) (by rw [HK0.out.2.1]; first | done | kernel_rfl) HK0.out.2.2 ?_; intro w3 hB3 ht3 hs3; have H3 := Lib.hid (And.intro (SlAt.of_blk hB3) ((Touch.then (S := fun k => w.heap.size ≤ k) ((Touch.of_below HB2.out).alloc _) ht3 (fun i hi e => by have := HB2.out.size; omega)).below (Nat.le_refl _) (fun k hk h => by omega))); clear hB3 ht3 hs3))
    have HM := Lib.hid (And.intro H4.out.1 (And.intro H4.out.2.1 (And.intro HKI.out.1 (And.intro (show k.length ≤ 64 by rw [HKI.out.2.1]; decide) HKI.out.2.2))))
    have HN5 : Hid (k.length = 32) := Lib.hid HKI.out.2.1
    go_loopw [7, 8] (fun s c wz => ∃ i : Nat, i ≤ 64 ∧ c = .int .i64 i ∧ wz.ownsRow w4.heap.size 5 1 s i (bn ((macBlock key bt).take i)) ∧ Below w4.heap.size w4 wz) (fun _ c _ => (64 - intOf c).toNat)
    case atStart => exact ⟨0, Nat.zero_le _, rfl, World.ownsRow_nil _ _ _ _, Below.refl _ _⟩
    case round =>
      obtain ⟨i, hi64, rfl, ho, hbel⟩ := hrel
      have hsl := HM.out.1.touch (Touch.of_below (S := fun _ => False) hbel) (fun _ _ _ h => h)
      have HR := Lib.hid (And.intro ho (And.intro hbel hsl))
      clear ho hbel hsl
      by_cases hq : i = 64
      · subst hq
        go_wp2_with fail
        go_ret
        refine ⟨_, rfl, ?_, HM.out.2.1.trans (HR.out.2.1.mono HM.out.2.1.size)⟩
        have h := owns_mono HR.out.1 HM.out.2.1.size
        rw [List.take_of_length_le (by rw [macBlock_len]; exact Nat.le_refl _)] at h
        rw [bn_len, macBlock_len]
        exact h
      · have hil : i < 64 := by omega
        have hiI : (i : Int) < 64 := by omega
        have hat : (macBlock key bt)[i]? = some (k.getD i 0 ^^^ bt) := by
          unfold macBlock
          rw [List.getElem?_map, macKey_at key k HM.out.2.2.1 HM.out.2.2.2.1 i hil]
          rfl
        obtain ⟨y, hy⟩ : ∃ y, y = k.getD i 0 := ⟨_, rfl⟩
        obtain ⟨z, hz⟩ : ∃ z, z = y ^^^ bt := ⟨_, rfl⟩
        have hyr : y < 256 := by
          rw [hy, List.getD_eq_getElem?_getD]
          cases h : k[i]? with
          | none => exact (by decide : (0 : Nat) < 256)
          | some u => exact HM.out.2.2.2.2 u (List.mem_of_getElem? h)
        rw [← hy, ← hz] at hat
        have e1 := xor_u8 y bt hyr hb
        rw [← hz] at e1
        have htk := take_snoc2 hat
        have HZ := Lib.hid (And.intro htk HR.out.2.1.size)
        clear hz hat htk
        by_cases hik : i < 32
        · have hikI : (i : Int) < (32 : Nat) := by omega
          try simp only [Int.cast_ofNat_Int] at hikI
          have hki : k[i]? = some y := by rw [hy, List.getD_eq_getElem?_getD, List.getElem?_eq_getElem (by rw [HN5.out]; exact hik)]; rfl
          obtain ⟨b5, o5, rfl, c5i⟩ := HR.out.2.2.get (bn_at hki)
          clear hy hki
          go_wp2_with (at_builtin; refine wpList_append_one rfl (.tmp 33) (.tmp 37) 26 rfl w4.heap.size 5 i0 (.int .u8 0) 1 Try.underlying26 hi hz0 hz1 hz2 rfl _ _ _ rfl (HR.out.1.alloc _) _ _ rfl (by simp; rfl) rfl (by unfold maxLen; omega) (by omega) (by have := HZ.out.2; simp; omega) ?_; intro v7 w7 ho7 hg7; have H7 := Lib.hid (And.intro ho7 hg7); clear ho7 hg7)
          go_roundw
          case rel =>
            refine ⟨i + 1, by omega, by first | rfl | (congr 1; omega), ?_, ?_⟩
            · have h := H7.out.1
              try rw [e1] at h
              rw [HZ.out.1, bn_append]
              exact h
            · exact (HR.out.2.1.alloc HZ.out.2 _).grown H7.out.2 (by have := HZ.out.2; simp; omega) (fun q hq => by
                obtain ⟨x, cp, hv, _, _, _, hx⟩ := owns_form HR.out.1
                have hq : u7.ownBlock = some q := hq
                rw [hv] at hq
                cases x with
                | none => cases hq
                | some y => cases hq; exact (hx y rfl).1)
          case measure => simp [intOf]; omega
        · have hikI : ((32 : Nat) : Int) ≤ i := by omega
          try simp only [Int.cast_ofNat_Int] at hikI
          have hy0 : y = 0 := by rw [hy, List.getD_eq_getElem?_getD, List.getElem?_eq_none (by rw [HN5.out]; omega)]; rfl
          subst hy0
          have e1 : bits .xor .u8 0 (bt : Int) = (z : Int) := e1
          clear hy
          go_wp2_with (at_builtin; refine wpList_append_one rfl (.tmp 33) (.tmp 37) 26 rfl w4.heap.size 5 i0 (.int .u8 0) 1 Try.underlying26 hi hz0 hz1 hz2 rfl _ _ _ rfl (HR.out.1.alloc _) _ _ rfl (by simp; rfl) rfl (by unfold maxLen; omega) (by omega) (by have := HZ.out.2; simp; omega) ?_; intro v7 w7 ho7 hg7; have H7 := Lib.hid (And.intro ho7 hg7); clear ho7 hg7)
          go_roundw
          case rel =>
            refine ⟨i + 1, by omega, by first | rfl | (congr 1; omega), ?_, ?_⟩
            · have h := H7.out.1
              try rw [e1] at h
              rw [HZ.out.1, bn_append]
              exact h
            · exact (HR.out.2.1.alloc HZ.out.2 _).grown H7.out.2 (by have := HZ.out.2; simp; omega) (fun q hq => by
                obtain ⟨x, cp, hv, _, _, _, hx⟩ := owns_form HR.out.1
                have hq : u7.ownBlock = some q := hq
                rw [hv] at hq
                cases x with
                | none => cases hq
                | some y => cases hq; exact (hx y rfl).1)
          case measure => simp [intOf]; omega
  · go_enter Try.func81, Try.ntmps81
    go_wp2_with (at_builtin; refine wpList_append_any rfl (.tmp 10) (.tmp 11) 26 rfl w.heap.size 5 i0 (.int .u8 0) 1 Try.underlying26 hi hz0 hz1 hz2 rfl _ 0 [] rfl (World.ownsRow_made w #[] 0 (Nat.le_refl _) (Nat.zero_le _) rfl) a key.length cap (bn key) rfl (bn_len _) hsv HH.out.1 (bn_one _) (by unfold maxLen; omega) (by omega) (by simp) ?_; intro v1 w4 ho1 hg1 _; have hb1 : Below w.heap.size w w4 := ((Below.refl _ _).alloc (Nat.le_refl _) _).grown hg1 (by simp) (fun k hk => by cases hk; exact Nat.le_refl _); (try simp only [Nat.zero_add, List.nil_append] at ho1); obtain ⟨a5, c5, rfl, ha1, hl5, hm1, _⟩ := owns_form ho1; have H1 := Lib.hid (And.intro ho1 (And.intro hb1 hm1)); clear ho1 hg1 hb1 ha1 hm1)
    obtain ⟨k, hk⟩ : ∃ k, k = key := ⟨_, rfl⟩
    have hki : k = if 64 < key.length then sha key else key := by rw [if_neg h64]; exact hk
    have HM := Lib.hid (And.intro (show SlAt w4 a5 (bn k) by rw [hk]; exact SlAt.of_owns H1.out.1) (And.intro H1.out.2.1 (And.intro hki (And.intro (show k.length ≤ 64 by rw [hk]; omega) (show ∀ y ∈ k, y < 256 by rw [hk]; exact HH.out.2)))))
    have HN5 : Hid (k.length = key.length) := Lib.hid (by rw [hk])
    clear hki hk hsv
    go_loopw [7, 8] (fun s c wz => ∃ i : Nat, i ≤ 64 ∧ c = .int .i64 i ∧ wz.ownsRow w4.heap.size 5 1 s i (bn ((macBlock key bt).take i)) ∧ Below w4.heap.size w4 wz) (fun _ c _ => (64 - intOf c).toNat)
    case atStart => exact ⟨0, Nat.zero_le _, rfl, World.ownsRow_nil _ _ _ _, Below.refl _ _⟩
    case round =>
      obtain ⟨i, hi64, rfl, ho, hbel⟩ := hrel
      have hsl := HM.out.1.touch (Touch.of_below (S := fun _ => False) hbel) (fun _ _ _ h => h)
      have HR := Lib.hid (And.intro ho (And.intro hbel hsl))
      clear ho hbel hsl
      by_cases hq : i = 64
      · subst hq
        go_wp2_with fail
        go_ret
        refine ⟨_, rfl, ?_, HM.out.2.1.trans (HR.out.2.1.mono HM.out.2.1.size)⟩
        have h := owns_mono HR.out.1 HM.out.2.1.size
        rw [List.take_of_length_le (by rw [macBlock_len]; exact Nat.le_refl _)] at h
        rw [bn_len, macBlock_len]
        exact h
      · have hil : i < 64 := by omega
        have hiI : (i : Int) < 64 := by omega
        have hat : (macBlock key bt)[i]? = some (k.getD i 0 ^^^ bt) := by
          unfold macBlock
          rw [List.getElem?_map, macKey_at key k HM.out.2.2.1 HM.out.2.2.2.1 i hil]
          rfl
        obtain ⟨y, hy⟩ : ∃ y, y = k.getD i 0 := ⟨_, rfl⟩
        obtain ⟨z, hz⟩ : ∃ z, z = y ^^^ bt := ⟨_, rfl⟩
        have hyr : y < 256 := by
          rw [hy, List.getD_eq_getElem?_getD]
          cases h : k[i]? with
          | none => exact (by decide : (0 : Nat) < 256)
          | some u => exact HM.out.2.2.2.2 u (List.mem_of_getElem? h)
        rw [← hy, ← hz] at hat
        have e1 := xor_u8 y bt hyr hb
        rw [← hz] at e1
        have htk := take_snoc2 hat
        have HZ := Lib.hid (And.intro htk HR.out.2.1.size)
        clear hz hat htk
        by_cases hik : i < key.length
        · have hikI : (i : Int) < (key.length : Nat) := by omega
          try simp only [Int.cast_ofNat_Int] at hikI
          have hki : k[i]? = some y := by rw [hy, List.getD_eq_getElem?_getD, List.getElem?_eq_getElem (by rw [HN5.out]; exact hik)]; rfl
          obtain ⟨b5, o5, rfl, c5i⟩ := HR.out.2.2.get (bn_at hki)
          clear hy hki
          go_wp2_with (at_builtin; refine wpList_append_one rfl (.tmp 33) (.tmp 37) 26 rfl w4.heap.size 5 i0 (.int .u8 0) 1 Try.underlying26 hi hz0 hz1 hz2 rfl _ _ _ rfl (HR.out.1.alloc _) _ _ rfl (by simp; rfl) rfl (by unfold maxLen; omega) (by omega) (by have := HZ.out.2; simp; omega) ?_; intro v7 w7 ho7 hg7; have H7 := Lib.hid (And.intro ho7 hg7); clear ho7 hg7)
          go_roundw
          case rel =>
            refine ⟨i + 1, by omega, by first | rfl | (congr 1; omega), ?_, ?_⟩
            · have h := H7.out.1
              try rw [e1] at h
              rw [HZ.out.1, bn_append]
              exact h
            · exact (HR.out.2.1.alloc HZ.out.2 _).grown H7.out.2 (by have := HZ.out.2; simp; omega) (fun q hq => by
                obtain ⟨x, cp, hv, _, _, _, hx⟩ := owns_form HR.out.1
                have hq : u7.ownBlock = some q := hq
                rw [hv] at hq
                cases x with
                | none => cases hq
                | some y => cases hq; exact (hx y rfl).1)
          case measure => simp [intOf]; omega
        · have hikI : ((key.length : Nat) : Int) ≤ i := by omega
          try simp only [Int.cast_ofNat_Int] at hikI
          have hy0 : y = 0 := by rw [hy, List.getD_eq_getElem?_getD, List.getElem?_eq_none (by rw [HN5.out]; omega)]; rfl
          subst hy0
          have e1 : bits .xor .u8 0 (bt : Int) = (z : Int) := e1
          clear hy
          go_wp2_with (at_builtin; refine wpList_append_one rfl (.tmp 33) (.tmp 37) 26 rfl w4.heap.size 5 i0 (.int .u8 0) 1 Try.underlying26 hi hz0 hz1 hz2 rfl _ _ _ rfl (HR.out.1.alloc _) _ _ rfl (by simp; rfl) rfl (by unfold maxLen; omega) (by omega) (by have := HZ.out.2; simp; omega) ?_; intro v7 w7 ho7 hg7; have H7 := Lib.hid (And.intro ho7 hg7); clear ho7 hg7)
          go_roundw
          case rel =>
            refine ⟨i + 1, by omega, by first | rfl | (congr 1; omega), ?_, ?_⟩
            · have h := H7.out.1
              try rw [e1] at h
              rw [HZ.out.1, bn_append]
              exact h
            · exact (HR.out.2.1.alloc HZ.out.2 _).grown H7.out.2 (by have := HZ.out.2; simp; omega) (fun q hq => by
                obtain ⟨x, cp, hv, _, _, _, hx⟩ := owns_form HR.out.1
                have hq : u7.ownBlock = some q := hq
                rw [hv] at hq
                cases x with
                | none => cases hq
                | some y => cases hq; exact (hx y rfl).1)
          case measure => simp [intOf]; omega

set_option maxRecDepth 100000 in
theorem refKeyBlock_int (a : Option Addr) (cap : Nat) (key : List Nat) (n : Int) (bt : Nat) (hbt : n = bt) (w : World) (hs : SlAt w a (bn key)) (hc : a = none → cap = 0) (hr : ∀ y ∈ key, y < 256) (hn : key.length ≤ 100000) (hb : bt < 256) :
    Calls Try.prog 81 #[.slice a key.length cap, .int .u8 n] w (Made 5 (bn (macBlock key bt)) w) := by
  subst hbt
  exact refKeyBlock_any a cap key bt w hs hc hr hn hb

set_option maxRecDepth 100000 in
set_option maxHeartbeats 4000000 in
theorem refMacOf_any (a : Option Addr) (cap : Nat) (key : List Nat) (ab : Option Addr) (cb : Nat) (b : List Nat) (w : World) (hs : SlAt w a (bn key)) (hc : a = none → cap = 0) (hr : ∀ y ∈ key, y < 256) (hn : key.length ≤ 100000)
    (hsb : SlAt w ab (bn b)) (hcb : ab = none → cb = 0) (hrb : ∀ y ∈ b, y < 256) (hnb : b.length ≤ 100000) :
    Calls Try.prog 58 #[.slice a key.length cap, .slice ab b.length cb] w fun e w' => e = .returned (.agg (bn (hmac key b)).toArray) ∧ Below w.heap.size w w' := by
  obtain ⟨i0, hi, hz0, hz1, hz2⟩ := info_parts Try.info5
  have HH := Lib.hid (And.intro hs (And.intro hc (And.intro hr (And.intro hsb (And.intro hcb hrb)))))
  clear hs hc hr hsb hcb hrb
  go_enter Try.func58, Try.ntmps58
  go_wp2_with fail
  (with_reducible refine (refKeyBlock_int a cap key 54 54 rfl _ (HH.out.1.touch ((Touch.refl (fun _ => False) w).alloc _) (fun _ _ _ h => h)) HH.out.2.1 HH.out.2.2.1 hn (by decide)).mono ?_)
  rintro e w1 ⟨v1, rfl, ho1, hb1⟩
  rw [bn_len, macBlock_len] at ho1
  have ht1 : Touch (fun _ => False) w w1 := ((Touch.refl _ w).alloc _).trans (Touch.of_below hb1)
  have ho1' := owns_mono ho1 (show w.heap.size ≤ (w.alloc _).heap.size by simp)
  have H1 := Lib.hid (And.intro ho1 (And.intro ht1 (And.intro ((Blk.new w (bn (List.replicate 32 0)).toArray 73).touch (Touch.of_below (S := fun _ => False) hb1) (fun h => h)) (And.intro (HH.out.2.2.2.1.touch ht1 (fun _ _ _ h => h)) hb1.size))))
  clear ho1 hb1 ht1 ho1'
  go_wp2_with (at_builtin; refine wpList_append_any rfl (.tmp 7) (.tmp 8) 26 rfl (w.alloc (.cells (bn (List.replicate 32 0)).toArray 73)).heap.size 5 i0 (.int .u8 0) 1 Try.underlying26 hi hz0 hz1 hz2 rfl _ 64 (bn (macBlock key 54)) rfl H1.out.1 ab b.length cb (bn b) rfl (bn_len _) H1.out.2.2.2.1 HH.out.2.2.2.2.1 (bn_one _) (by unfold maxLen; omega) (by omega) H1.out.2.2.2.2 ?_; intro v2 w2 ho2 hg2 _; obtain ⟨a2, c2, rfl, hn2, _, _, _⟩ := owns_form ho2; have H2 := Lib.hid (And.intro ho2 (And.intro hg2 (fun h => (hn2 h).2))); clear ho2 hg2 hn2)
  have hT2 : Touch (fun k => w.heap.size + 1 ≤ k) w1 w2 := (Touch.refl _ _).grown H2.out.2.1 (fun k hk _ => by
    obtain ⟨x, cp, hv, _, _, _, hx⟩ := owns_form H1.out.1
    have hk : v1.ownBlock = some k := hk
    rw [hv] at hk
    cases x with
    | none => cases hk
    | some y => cases hk; have := (hx y rfl).1; simpa using this)
  have hrf : ∀ y ∈ macBlock key 54 ++ b, y < 256 := fun y hy => by
    rcases List.mem_append.1 hy with h | h
    · exact macBlock_lt key 54 HH.out.2.2.1 (by decide) y h
    · exact HH.out.2.2.2.2.2 y h
  (with_reducible refine (refSum_eq a2 (64 + b.length) c2 (macBlock key 54 ++ b) w2 (by rw [bn_append]; exact SlAt.of_owns H2.out.1) H2.out.2.2 hrf (by rw [List.length_append, macBlock_len]) (by omega)).mono ?_)
  rintro e w3 ⟨rfl, ht3⟩
  obtain ⟨D, hD⟩ : ∃ D, D = sha (macBlock key 54 ++ b) := ⟨_, rfl⟩
  rw [← hD]
  have hDl : D.length = 32 := by rw [hD]; exact sha_len _
  have hDr : ∀ y ∈ D, y < 256 := by rw [hD]; exact sha_lt _
  obtain ⟨F, hF⟩ : ∃ F, F = sha (macBlock key 92 ++ D) := ⟨_, rfl⟩
  have HF := Lib.hid hF
  have HF2 : Hid (hmac key b = F) := Lib.hid (by rw [hF, hD]; rfl)
  have HFS := Lib.hid (And.intro (show (bn F).toArray.size = 32 by rw [bn_size, hF, sha_len]) (bn_all F))
  have HD := Lib.hid (And.intro hDl (And.intro (show (bn D).toArray.size = 32 by rw [bn_size, hDl]) (bn_all D)))
  have HR2 : Hid (∀ y ∈ macBlock key 92 ++ D, y < 256) := Lib.hid (fun y hy => by
    rcases List.mem_append.1 hy with h | h
    · exact macBlock_lt key 92 HH.out.2.2.1 (by decide) y h
    · exact hDr y h)
  have H3 := Lib.hid (And.intro hT2 ht3)
  clear hD hDl hDr hF hrf ht3 hT2
  go_wp2_with (refine wpList_store_blk rfl 73 (.tmp 5) (.tmp 10) rfl w3.heap.size 73 _ (bn D).toArray rfl rfl (Blk.new _ _ _) (by rw [HD.out.2.1]; first | done | kernel_rfl) (by rw [HD.out.2.1]; first | done | kernel_rfl) HD.out.2.2 ?_; intro w6 hB6 ht6 hs6)
  obtain ⟨n5, hn5⟩ : ∃ n5, n5 = w3.heap.size := ⟨_, rfl⟩
  rw [← hn5]
  have ht13 : Touch (fun k => w.heap.size + 1 ≤ k) w1 w3 := Touch.then (S := fun k => w.heap.size + 1 ≤ k) (S' := fun _ => False) H3.out.1 H3.out.2 (fun _ _ h => h.elim)
  have hlt1 := H1.out.2.2.1.lt
  have ht16 : Touch (fun k => w.heap.size + 1 ≤ k) w1 w6 := Touch.then (ht13.alloc _) ht6 (fun i hi e => by have := ht13.size; omega)
  have ht06 : Touch (fun _ => False) w w6 := Touch.then (S := fun _ => False) H1.out.2.1 ht16 (fun i hi e => by omega)
  have HK6 : Hid (SlAt w6 a (bn key) ∧ Blk w6 n5 73 (bn D).toArray ∧ Blk w6 w.heap.size 73 (bn (List.replicate 32 0)).toArray ∧ Touch (fun _ => False) w w6) := Lib.hid ⟨HH.out.1.touch ht06 (fun _ _ _ h => h), by rw [hn5]; exact hB6, H1.out.2.2.1.touch ht16 (by omega), ht06⟩
  clear ht13 hlt1 ht16 ht06 hB6 ht6 hs6 hn5
  go_wp2_with fail
  refine wp_region_held_drew (S := fun _ => True) (by kernel_rfl) (trivial) (fun hHeld => ?_)
  refine region_take 0 (v := ?vq0_1) rfl rfl (by kernel_rfl) (by kernel_rfl) (by kernel_rfl) (fun _ _ _ h => h) hHeld (Or.inl ⟨by rfl, ?yq0_1⟩) ?rq0_1
  case yq0_1 => (intro w hSw; (try dsimp only at hSw); go_simp; try with_reducible rfl)
  try simp only [Act.put, List.setIfInBounds_toArray, List.set_cons_zero, List.set_cons_succ]
  refine region_take 2 (v := ?vq2_2) rfl rfl (by kernel_rfl) (by kernel_rfl) (by kernel_rfl) (fun _ _ _ h => h) hHeld (Or.inl ⟨by rfl, ?yq2_2⟩) ?rq2_2
  case yq2_2 => (intro w hSw; (try dsimp only at hSw); go_simp; try with_reducible rfl)
  try simp only [Act.put, List.setIfInBounds_toArray, List.set_cons_zero, List.set_cons_succ]
  refine region_one 1 (by kernel_rfl) rfl (fun K hK => ?_)
  go_simp
  go_at_call 81
  (with_reducible refine (refKeyBlock_int a cap key 92 92 rfl _ (HK6.out.1.touch ((Touch.refl (fun _ => False) w6).drew) (fun _ _ _ h => h)) HH.out.2.1 HH.out.2.2.1 hn (by decide)).mono ?_)
  rintro e u1 ⟨v7, rfl, ho7, hb7⟩
  rw [bn_len, macBlock_len] at ho7
  have H7 := Lib.hid (And.intro ho7 (((Touch.refl (fun _ => False) w6).drew).trans (Touch.of_below hb7)))
  have hz7 := hb7.size
  clear ho7 hb7
  refine hK.out _ _ (trivial) (fun hHeld2 => ?_)
  clear hK K hHeld
  have hHeld := hHeld2
  clear hHeld2
  try simp only [Act.put, List.setIfInBounds_toArray, List.set_cons_zero, List.set_cons_succ]
  refine region_one 3 (by kernel_rfl) rfl (fun K hK => ?_)
  refine step_append_any rfl (.tmp 12) (.tmp 13) 26 rfl w6.heap.size 5 i0 (.int .u8 0) 1 Try.underlying26 hi hz0 hz1 hz2 rfl _ 64 (bn (macBlock key 92)) rfl H7.out.1 (some ⟨n5, 0, none⟩) 32 32 (bn D) rfl (by rw [bn_len, HD.out.1]) (SlAt.of_blk (HK6.out.2.1.touch H7.out.2 (fun h => h))) (fun h => by cases h) (bn_one D) (by unfold maxLen; omega) (by omega) hz7 ?_
  intro v8 u2 ho8 hg8 _
  obtain ⟨a8, c8, rfl, hn8, _, _, _⟩ := owns_form ho8
  have hT8 : Touch (fun k => w6.heap.size ≤ k) u1 u2 := (Touch.refl _ _).grown hg8 (fun k hk _ => by
    obtain ⟨x, cp, hv, _, _, _, hx⟩ := owns_form H7.out.1
    have hk : (Value.ownBlock v7) = some k := hk
    rw [hv] at hk
    cases x with
    | none => cases hk
    | some y => cases hk; exact (hx y rfl).1)
  have H8 := Lib.hid (And.intro (SlAt.of_owns ho8) (And.intro (Touch.then (S := fun k => w6.heap.size ≤ k) (H7.out.2.mono (fun _ _ h => h.elim)) hT8 (fun _ _ h => h)) (fun h => (hn8 h).2)))
  clear ho8 hg8 hT8 hn8
  refine hK.out _ _ (trivial) (fun hHeld2 => ?_)
  clear hK K hHeld
  have hHeld := hHeld2
  clear hHeld2
  try simp only [Act.put, List.setIfInBounds_toArray, List.set_cons_zero, List.set_cons_succ]
  refine region_one 4 (by kernel_rfl) rfl (fun K hK => ?_)
  go_simp
  go_at_call 80
  (with_reducible refine (refSum_eq a8 96 c8 (macBlock key 92 ++ D) _ (by rw [bn_append]; exact H8.out.1) H8.out.2.2 HR2.out (by rw [List.length_append, macBlock_len, HD.out.1]) (by decide)).mono ?_)
  rintro e u3 ⟨rfl, hb9⟩
  have H9 := Lib.hid (Touch.then (S := fun k => w6.heap.size ≤ k) (S' := fun _ => False) H8.out.2.1 hb9 (fun _ _ h => h.elim))
  clear hb9
  rw [← HF.out]
  refine hK.out _ _ (trivial) (fun hHeld2 => ?_)
  clear hK K hHeld
  have hHeld := hHeld2
  clear hHeld2
  try simp only [Act.put, List.setIfInBounds_toArray, List.set_cons_zero, List.set_cons_succ]
  refine region_one 5 (by kernel_rfl) rfl (fun K hK => ?_)
  refine step_store_blk rfl 73 (.tmp 4) (.tmp 15) rfl w.heap.size 73 _ (bn F).toArray rfl rfl (HK6.out.2.2.1.touch H9.out (by have := HK6.out.2.2.1.lt; omega)) (by rw [HFS.out.1]; first | done | kernel_rfl) (by rw [HFS.out.1]; first | done | kernel_rfl) HFS.out.2 ?_
  intro w9 hB9 ht9 hs9
  have H10 := Lib.hid (And.intro hB9 ht9)
  clear hB9 ht9 hs9
  refine hK.out _ _ (trivial) (fun hHeld2 => ?_)
  clear hK K hHeld
  have hHeld := hHeld2
  clear hHeld2
  try simp only [Act.put]
  refine wpAnyH_done (by kernel_rfl) ?_ _
  go_wp2_with fail
  refine bodyPost_ret (results_cell_row rfl _ _ w.heap.size 73 (bn F).toArray (0, 0) _ rfl H10.out.1 Try.underlying73 rfl (by rw [HFS.out.1]; first | done | kernel_rfl)) rfl ⟨by rw [HF2.out], ?_⟩
  exact (Touch.then (S := fun k => w.heap.size ≤ k) (Touch.then (S := fun k => w.heap.size ≤ k) (HK6.out.2.2.2.mono (fun _ _ h => h.elim)) H9.out (fun i hi e => by have := HK6.out.2.2.2.size; omega)) H10.out.2 (fun i hi e => by omega)).below (Nat.le_refl _) (fun k hk h => by omega)
end Go.Proofs.Ythlkmofemnepbaa
