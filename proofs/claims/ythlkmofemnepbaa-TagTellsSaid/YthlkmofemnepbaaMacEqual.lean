/-
  THE WALKS of mac.Equal and the document's Equal (layer 3).
-/
import Derived.Test.YthlkmofemnepbaaRows
import Derived.Test.YthlkmofemnepbaaMacPlain
import Derived.Test.YthlkmofemnepbaaStr
namespace Go.Proofs.Ythlkmofemnepbaa
open Go.RowKit

theorem bn_at {b : List Nat} {k y : Nat} (h : b[k]? = some y) : (bn b)[k]? = some (.int .u8 (y : Int)) := by simp [bn, bys, natsD, h]

set_option maxRecDepth 100000 in
set_option maxHeartbeats 4000000 in
theorem macEqual_any (a : Option Addr) (ca : Nat) (x : List Nat) (b : Option Addr) (cb : Nat) (y : List Nat) (w : World) (hx : SlAt w a (bn x)) (hy : SlAt w b (bn y)) (hxr : ∀ z ∈ x, z < 256) (hyr : ∀ z ∈ y, z < 256) (hxl : x.length ≤ 9223372036854775807) (hyl : y.length ≤ 9223372036854775807) :
    Calls Try.prog 60 #[.slice a x.length ca, .slice b y.length cb] w fun e w' => e = .returned (.bool (decide (x = y))) ∧ Touch (fun _ => False) w w' := by
  have HH := Lib.hid (And.intro hx (And.intro hy (And.intro hxr hyr)))
  clear hx hy hxr hyr
  by_cases hl : x.length = y.length
  · have hlb : ((x.length : Int) != (y.length : Int)) = false := by simp [hl]
    have HL := Lib.hid hl
    clear hl
    go_enter Try.func60, Try.ntmps60
    go_wp2_with fail
    clear hlb
    go_loopw [5, 14] (fun s c wz => ∃ k acc : Nat, k ≤ x.length ∧ c = .int .i64 k ∧ s = .int .u8 acc ∧ acc < 256 ∧ (acc = 0 ↔ ∀ j, j < k → x[j]? = y[j]?) ∧ Touch (fun _ => False) w wz) (fun _ c _ => x.length - (intOf c).toNat)
    case atStart => exact ⟨0, 0, Nat.zero_le _, rfl, rfl, by decide, ⟨fun _ j hj => absurd hj (Nat.not_lt_zero _), fun _ => rfl⟩, Touch.refl _ _⟩
    case round =>
      obtain ⟨k, acc, hk, rfl, rfl, hacc, hiff, ht⟩ := hrel
      have HT := Lib.hid (And.intro hiff ht)
      clear hiff ht
      by_cases hq : k < x.length
      · obtain ⟨u, hu⟩ : ∃ u, x[k]? = some u := ⟨_, List.getElem?_eq_getElem hq⟩
        obtain ⟨v, hv⟩ : ∃ v, y[k]? = some v := ⟨_, List.getElem?_eq_getElem (by have := HL.out; omega)⟩
        have lu := HH.out.2.2.1 u (List.mem_of_getElem? hu)
        have lv := HH.out.2.2.2 v (List.mem_of_getElem? hv)
        obtain ⟨ba, oa, rfl, c1⟩ := (HH.out.1.touch HT.out.2 (fun _ _ _ h => h)).get (bn_at hu)
        obtain ⟨bb, ob, rfl, c2⟩ := (HH.out.2.1.touch HT.out.2 (fun _ _ _ h => h)).get (bn_at hv)
        have hqy : (k : Int) < y.length := by have := HL.out; omega
        have e1 := xor_u8 u v lu lv
        obtain ⟨d, hd⟩ : ∃ d, d = u ^^^ v := ⟨_, rfl⟩
        have ld : d < 256 := by rw [hd]; exact xor_byte lu lv
        rw [← hd] at e1
        have e2 := or_u8 acc d hacc ld
        obtain ⟨n, hn⟩ : ∃ n, n = acc ||| d := ⟨_, rfl⟩
        rw [← hn] at e2
        have HK := Lib.hid (And.intro hu (And.intro hv (And.intro hd hn)))
        clear hu hv hd hn
        go_wp2_with fail
        go_quiet (fail)
        go_wp2_with fail
        try rw [e1]
        try rw [e2]
        go_roundw
        case rel =>
          obtain ⟨hu, hv, hd, hn⟩ := HK.out
          refine ⟨k + 1, n, by omega, by first | rfl | (congr 1; omega), rfl, by rw [hn]; exact Nat.or_lt_two_pow (n := 8) hacc ld, ?_, HT.out.2.drewN _⟩
          rw [hn, or_zero_iff, hd, xor_zero_iff, HT.out.1]
          constructor
          · rintro ⟨h1, h2⟩ j hj
            by_cases e : j = k
            · subst e; rw [hu, hv, h2]
            · exact h1 j (by omega)
          · intro h
            exact ⟨fun j hj => h j (by omega), by have := h k (by omega); rw [hu, hv] at this; exact Option.some.inj this⟩
        case measure => simp [intOf]; omega
      · have hke : k = x.length := by omega
        subst hke
        go_wp2_with fail
        go_ret
        have h1 := HT.out.1
        have h2 : ((acc : Int) = 0) ↔ x = y := by
          have : ((acc : Int) = 0) ↔ acc = 0 := by omega
          rw [this, h1]
          constructor
          · intro h
            refine List.ext_getElem? fun j => ?_
            by_cases hj : j < x.length
            · exact h j hj
            · rw [List.getElem?_eq_none (by omega), List.getElem?_eq_none (by have := HL.out; omega)]
          · rintro rfl j _; rfl
        have hb : ((acc : Int) == 0) = decide (x = y) := by
          rw [Bool.eq_iff_iff]
          simp only [decide_eq_true_eq, beq_iff_eq]
          exact h2
        exact ⟨by rw [← hb]; rfl, HT.out.2⟩
  · have hlb : ((x.length : Int) != (y.length : Int)) = true := by simp; omega
    have hne : decide (x = y) = false := by
      rw [decide_eq_false_iff_not]
      rintro rfl
      exact hl rfl
    rw [hne]
    clear hl hne
    go_enter Try.func60, Try.ntmps60
    go_wp2_with fail
    go_ret
    exact ⟨rfl, Touch.refl _ _⟩

theorem str_eq_bytes (x y : List Nat) (hx : ∀ z ∈ x, z < 256) (hy : ∀ z ∈ y, z < 256) : ((strOfNums (natsD x)).toList == (strOfNums (natsD y)).toList) = decide (x = y) := by
  rw [Bool.eq_iff_iff]
  simp only [decide_eq_true_eq, beq_iff_eq]
  constructor
  · intro h
    have hr : ∀ b : List Nat, (∀ z ∈ b, z < 256) → ∀ z ∈ natsD b, 0 ≤ z ∧ z < 256 := fun b hb z hz => by
      unfold natsD at hz
      rw [List.mem_map] at hz
      obtain ⟨q, hq, rfl⟩ := hz
      have := hb q hq
      omega
    have hs : strOfNums (natsD x) = strOfNums (natsD y) := by
      have e : ∀ s t : ByteArray, s.toList = t.toList → s = t := fun s t h => by
        have hd : s.data.toList = t.data.toList := by rw [← ByteArray.toList_eq, ← ByteArray.toList_eq]; exact h
        exact ByteArray.ext (Array.ext' hd)
      exact e _ _ h
    have e := str_inj (hr x hx) (hr y hy) hs
    unfold natsD at e
    exact List.map_inj_right (fun a b e => by omega) |>.1 e
  · rintro rfl; rfl

end Go.Proofs.Ythlkmofemnepbaa
