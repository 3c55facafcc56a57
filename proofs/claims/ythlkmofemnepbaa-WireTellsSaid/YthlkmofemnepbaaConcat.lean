/-
  THE WALKS of slices.Grow (of nil) and slices.Concat at []byte.
-/
import Derived.Test.YthlkmofemnepbaaRows
import Derived.Test.YthlkmofemnepbaaDigestSchedule
import Derived.Test.YthlkmofemnepbaaInfo
import Derived.Lib.AppendZerosOnto
import Derived.WalkSpells
namespace Go.Proofs.Ythlkmofemnepbaa
open Go.RowKit


/-- One of the parts that are handed in: a slice of bytes. -/
structure Part where
  a : Option Addr
  cap : Nat
  bs : List Nat
def Part.v (p : Part) : Value := .slice p.a p.bs.length p.cap
def bn (bs : List Nat) : List Value := bys (natsD bs)
theorem bn_len (bs : List Nat) : (bn bs).length = bs.length := by simp [bn, natsD]
theorem bn_append (x y : List Nat) : bn (x ++ y) = bn x ++ bn y := by simp [bn, natsD, bys]
theorem bn_one (bs : List Nat) : ∀ u ∈ bn bs, u.oneCell' = true := bys_one _
def flatP (L : List Part) : List Nat := L.flatMap (·.bs)
theorem flatP_take (L : List Part) {k : Nat} (h : k < L.length) : flatP (L.take (k + 1)) = flatP (L.take k) ++ (L[k]'h).bs := by
  rw [List.take_succ_eq_append_getElem h]
  simp only [flatP, List.flatMap_append, List.flatMap_cons, List.flatMap_nil, List.append_nil]
theorem flatP_take_le (L : List Part) (k : Nat) : (flatP (L.take k)).length ≤ (flatP L).length := by
  have : flatP L = flatP (L.take k) ++ flatP (L.drop k) := by
    rw [flatP, flatP, flatP, ← List.flatMap_append, List.take_append_drop]
  rw [this]
  simp
structure PartsIn (w : World) (a : Option Addr) (L : List Part) : Prop where
  cells : SlAt w a (L.map Part.v)
  each : ∀ p ∈ L, SlAt w p.a (bn p.bs) ∧ (p.a = none → p.cap = 0)

theorem PartsIn.touch {w w' : World} {a : Option Addr} {L : List Part} (h : PartsIn w a L) {S : Nat → Prop} (ht : Touch S w w') (ha : ∀ x, a = some x → L ≠ [] → ¬ S x.block) (hp : ∀ p ∈ L, ∀ x, p.a = some x → p.bs ≠ [] → ¬ S x.block) : PartsIn w' a L :=
  ⟨h.cells.touch ht (fun x hx hn => ha x hx (by simpa using hn)), fun p hm => ⟨(h.each p hm).1.touch ht (fun x hx hn => hp p hm x hx (fun e => hn (by rw [e]; rfl))), (h.each p hm).2⟩⟩

set_option maxHeartbeats 1000000 in
set_option maxRecDepth 100000 in
theorem grow_any (n : Nat) (hn : n ≤ 1000000000) (w : World) : Calls Try.prog 86 #[.slice none 0 0, .int .i64 n] w (Made 5 [] w) := by
  obtain ⟨i0, hi, hz0, hz1, hz2⟩ := info_parts Try.info5
  by_cases h0 : n = 0
  · subst h0
    go_enter Try.func86, Try.ntmps86
    go_wp2
    go_ret
    exact ⟨_, rfl, World.ownsRow_nil w _ _ _, Below.refl _ _⟩
  · have hpos : (0 : Int) < n := by omega
    have hold : (Builtin.firstCells i0.size 0 (.slice none 0 0)).run Try.prog w.drew = .ok ([] : List Value).toArray w.drew := run_firstCells_none w.drew i0.size 0 0 0
    have hsz : 0 < i0.size := by omega
    have hgf := growslice_fits (need := n) (old := 0) (bytes := i0.bytes) (by omega) (by rw [hz2]; omega)
    have hrz : ∀ ty, (Builtin.append_ #[26, 3] ty #[.slice none 0 0, .int .i64 (n : Int)]).run Try.prog w =
        .ok (.slice (some ⟨w.heap.size, 0, none⟩) n (grownCap w n 0 5)) (w.drew.alloc (.cells (Builtin.zeroCells (Value.int .u8 0).cells n ++ Builtin.zeroCells (Value.int .u8 0).cells (grownCap w n 0 5 - n)) 5)) := fun ty => by
      have h := Lib.run_append_grow_zeros (P := Try.prog) w 26 3 ty 5 i0 (.int .u8 0) .i64 .i64 Try.underlying26 Try.underlying3 hi hz0 none 0 0 [] hold n (by omega) hsz (by omega) (by omega) (by rw [hz2]; omega) (by rw [Nat.zero_add]; exact hgf)
      simpa using h
    have hge : n ≤ grownCap w n 0 5 := grownCap_ge w _ _ _
    have hle := grownCap_le_maxLen w n 0 5 (by unfold maxLen; omega)
    obtain ⟨G, hG⟩ : ∃ G, G = grownCap w n 0 5 := ⟨_, rfl⟩
    rw [← hG] at hrz hge hle
    have hG63 : G ≤ 9223372036854775807 := by unfold maxLen at hle; omega
    have HL := Lib.hid hle
    clear hold hG hsz hgf hle
    go_enter Try.func86, Try.ntmps86
    go_wp2_with (at_builtin; refine Lib.wpList_append_run _ rfl _ _ _ _ rfl _ _ rfl rfl _ _ (hrz _) ?_)
    go_ret
    refine ⟨_, rfl, ⟨rfl, .inr ⟨w.heap.size, G, _, rfl, Nat.le_refl _, heap_alloc_new _ _, Nat.zero_le _, HL.out, ?_, rfl⟩⟩, ?_⟩
    · simp [Builtin.zeroCells]
      omega
    · exact (Below.refl w.heap.size w).drew.alloc (Nat.le_refl _) _

set_option maxHeartbeats 1000000 in
set_option maxRecDepth 100000 in
theorem concat_any (a : Option Addr) (cap : Nat) (L : List Part) (w : World) (hp : PartsIn w a L) (hn : (flatP L).length ≤ 1000000000) (hm : L.length ≤ 1000000) :
    Calls Try.prog 82 #[.slice a L.length cap] w (Made 5 (bn (flatP L)) w) := by
  obtain ⟨i0, hi, hz0, hz1, hz2⟩ := info_parts Try.info5
  have HP := Lib.hid (And.intro hp hn)
  clear hp hn
  go_enter Try.func82, Try.ntmps82
  go_wp2_with fail
  go_loopw [3, 11] (fun s c wz => ∃ k : Nat, k ≤ L.length ∧ c = .int .i64 k ∧ s = .int .i64 (flatP (L.take k)).length ∧ w = wz) (fun _ c _ => L.length - (intOf c).toNat)
  case atStart => exact ⟨0, Nat.zero_le _, rfl, rfl, rfl⟩
  case round =>
    obtain ⟨k, hk, rfl, rfl, rfl⟩ := hrel
    by_cases hq : k < L.length
    · have hat : (L.map Part.v)[k]? = some (L[k]'hq).v := by rw [List.getElem?_map, List.getElem?_eq_getElem hq]; rfl
      obtain ⟨b, o, rfl, hc⟩ := HP.out.1.cells.get hat
      have hsum : (flatP (L.take k)).length + (L[k]'hq).bs.length = (flatP (L.take (k + 1))).length := by rw [flatP_take L hq, List.length_append]
      have hle := flatP_take_le L (k + 1)
      have hle1 : (flatP (L.take (k + 1))).length ≤ 1000000000 := Nat.le_trans hle HP.out.2
      obtain ⟨n1, hn1⟩ : ∃ n1, n1 = (flatP (L.take k)).length := ⟨_, rfl⟩
      obtain ⟨n2, hn2⟩ : ∃ n2, n2 = (flatP (L.take (k + 1))).length := ⟨_, rfl⟩
      obtain ⟨p, hpk⟩ : ∃ p, p = L[k]'hq := ⟨_, rfl⟩
      rw [← hn1, ← hn2, ← hpk] at hsum
      rw [← hpk] at hc
      rw [← hn2] at hle1
      have HN := Lib.hid (And.intro hn2 hsum)
      have hle0 : n1 + p.bs.length ≤ 1000000000 := by omega
      rw [← hn1]
      unfold Part.v at hc
      clear hn1 hn2 hpk hsum hle hat
      go_wp2_with fail
      go_round
      case rel => exact ⟨k + 1, by omega, by first | rfl | (congr 1; omega), by rw [← HN.out.1, ← HN.out.2]; rfl, trivial⟩
      case measure => simp [intOf]; omega
    · have hke : k = L.length := by omega
      subst hke
      have hfl : flatP (L.take L.length) = flatP L := by rw [List.take_length]
      go_wp2_with fail
      (with_reducible refine (grow_any (flatP L).length HP.out.2 _).mono ?_)
      rintro e w1 ⟨v1, rfl, ho1, hb1⟩
      have H1 := Lib.hid (And.intro ho1 hb1)
      clear ho1 hb1
      go_wp2_with fail
      go_loopw [6, 27] (fun s c wz => ∃ k : Nat, k ≤ L.length ∧ c = .int .i64 k ∧ wz.ownsRow w.heap.size 5 1 s (flatP (L.take k)).length (bn (flatP (L.take k))) ∧ Below w.heap.size w wz) (fun _ c _ => L.length - (intOf c).toNat)
      case atStart => exact ⟨0, Nat.zero_le _, rfl, H1.out.1, H1.out.2⟩
      case round =>
        obtain ⟨k, hk, rfl, ho, hb⟩ := hrel
        have HO := Lib.hid (And.intro ho hb)
        clear ho hb
        by_cases hq : k < L.length
        · have hat : (L.map Part.v)[k]? = some (L[k]'hq).v := by rw [List.getElem?_map, List.getElem?_eq_getElem hq]; rfl
          have hpw := HP.out.1.touch (Touch.of_below (S := fun _ => False) HO.out.2) (fun _ _ _ h => h) (fun _ _ _ _ _ h => h)
          obtain ⟨b, o, rfl, hc⟩ := hpw.cells.get hat
          have hpe := hpw.each _ (List.getElem_mem hq)
          have htk := flatP_take L hq
          have hle := flatP_take_le L (k + 1)
          obtain ⟨p, hpk⟩ : ∃ p, p = L[k]'hq := ⟨_, rfl⟩
          rw [← hpk] at hc hpe htk
          have hlen : (flatP (L.take k)).length + p.bs.length = (flatP (L.take (k + 1))).length := by rw [htk, List.length_append]
          have h63 : (flatP (L.take k)).length + p.bs.length ≤ 1000000000 := by have := HP.out.2; omega
          have HN := Lib.hid (And.intro htk (And.intro hlen (And.intro hpe (And.intro h63 HO.out.2.size))))
          unfold Part.v at hc
          clear htk hle hpk hat hpw hpe hlen h63
          go_wp2_with (at_builtin; refine wpList_append_any rfl (.tmp 31) (.tmp 32) 26 rfl w.heap.size 5 i0 (.int .u8 0) 1 Try.underlying26 hi hz0 hz1 hz2 rfl _ _ _ rfl HO.out.1 p.a p.bs.length p.cap (bn p.bs) rfl (bn_len _) HN.out.2.2.1.1 HN.out.2.2.1.2 (bn_one _) (by have := HN.out.2.2.2.1; unfold maxLen; omega) (by have := HN.out.2.2.2.1; omega) HN.out.2.2.2.2 ?_; intro v2 w2 ho2 hg2 hn2; have H2 := Lib.hid (And.intro ho2 hg2); clear ho2 hg2 hn2)
          go_roundw
          case rel =>
            refine ⟨k + 1, by omega, by first | rfl | (congr 1; omega), ?_, ?_⟩
            · have h := H2.out.1
              rw [HN.out.2.1, ← bn_append, ← HN.out.1] at h
              exact h
            · exact HO.out.2.grown H2.out.2 (by have := HO.out.2.size; omega) (fun q hq => by
                obtain ⟨x, cp, hv, _, _, _, hx⟩ := owns_form HO.out.1
                have hq : u6.ownBlock = some q := hq
                rw [hv] at hq
                cases x with
                | none => cases hq
                | some y => cases hq; exact (hx y rfl).1)
          case measure => simp [intOf]; omega
        · have hke : k = L.length := by omega
          subst hke
          go_wp2_with fail
          go_ret
          refine ⟨_, rfl, ?_, HO.out.2⟩
          have h := HO.out.1
          rw [List.take_length] at h
          rw [bn_len]
          exact h
end Go.Proofs.Ythlkmofemnepbaa
