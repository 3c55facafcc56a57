/-
  THE WALK of digest.Sum (layer 2).
-/
import Derived.Test.YthlkmofemnepbaaRows
import Derived.Test.YthlkmofemnepbaaDigestBlock
import Derived.Test.YthlkmofemnepbaaConcat
namespace Go.Proofs.Ythlkmofemnepbaa
open Go.RowKit

theorem flatMap_word (st : List Nat) : ∀ (j r x : Nat), r < 4 → st[j]? = some x → (st.flatMap wordBytes)[4 * j + r]? = some (x / 2 ^ (24 - 8 * r) % 256) := by
  induction st with
  | nil => intro j r x _ h; simp at h
  | cons s st ih =>
    intro j r x hr h
    have e : (s :: st).flatMap wordBytes = (s / 16777216 % 256) :: (s / 65536 % 256) :: (s / 256 % 256) :: (s % 256) :: st.flatMap wordBytes := by simp [wordBytes]
    rw [e]
    cases j with
    | zero =>
      simp at h
      subst h
      match r, hr with
      | 0, _ => rfl
      | 1, _ => rfl
      | 2, _ => rfl
      | 3, _ => simp
    | succ j =>
      have := ih j r x hr (by simpa using h)
      rw [show 4 * (j + 1) + r = 4 * j + r + 1 + 1 + 1 + 1 by omega]
      simpa using this
theorem flatMap_word_len (st : List Nat) : (st.flatMap wordBytes).length = 4 * st.length := by
  induction st with
  | nil => rfl
  | cons s st ih => simp [wordBytes, ih]; omega

theorem shaRounds_len (ks : List Nat) : ∀ (s xs : List Nat), s.length = 8 → (shaRounds s ks xs).length = 8 := by
  induction ks with
  | nil => intro s xs h; simpa [shaRounds] using h
  | cons k ks ih => intro s xs h; cases xs with | nil => simpa [shaRounds] using h | cons x xs => exact ih _ xs (shaRound_len s k x h)
theorem shaBlock_len (s b : List Nat) (h : s.length = 8) : (shaBlock s b).length = 8 := by
  unfold shaBlock
  rw [List.length_zipWith, shaRounds_len _ _ _ h, h]; rfl
theorem shaBlock_lt (s b : List Nat) : ∀ x ∈ shaBlock s b, x < 4294967296 := by
  intro x hx
  unfold shaBlock at hx
  obtain ⟨j, hj⟩ := List.mem_iff_getElem?.1 hx
  rw [List.getElem?_zipWith] at hj
  split at hj
  · cases hj
    exact Nat.mod_lt _ (by decide)
  · cases hj
theorem shaBlocks_len (n : Nat) : ∀ s b : List Nat, s.length = 8 → (shaBlocks n s b).length = 8 := by
  induction n with
  | zero => intro s b h; exact h
  | succ n ih => intro s b h; exact ih _ _ (shaBlock_len s _ h)
theorem sha_len (b : List Nat) : (sha b).length = 32 := by
  unfold sha
  rw [flatMap_word_len, shaBlocks_len _ _ _ rfl]
theorem padded_len (b : List Nat) : (padded b).length = b.length + 1 + padZeros b.length + 8 := by
  simp [padded, lenBytes]
  omega
theorem padded_mod (b : List Nat) : (padded b).length % 64 = 0 := by
  rw [padded_len]
  unfold padZeros
  omega

def lenOf : Value → Nat
  | .slice _ n _ => n
  | _ => 0

/-- What Sum holds while it lays bytes: xs, in a row of its own. -/
structure SumSt (w wz : World) (s : Value) (n : Nat) (xs : List Nat) : Prop where
  row : wz.ownsRow (w.heap.size + 1) 5 1 s n (bn xs)
  bel : Below w.heap.size w wz
  out : Blk wz w.heap.size 73 (bn (List.replicate 32 0)).toArray
  size : w.heap.size + 1 ≤ wz.heap.size

theorem SumSt.form {w wz : World} {s : Value} {n : Nat} {xs : List Nat} (h : SumSt w wz s n xs) : ∃ a c, s = .slice a n c ∧ n ≤ c ∧ c ≤ maxLen := by
  obtain ⟨a, c, rfl, _, h1, h2, _⟩ := owns_form h.row
  exact ⟨a, c, rfl, h1, h2⟩

theorem SumSt.grow {w wz w2 : World} {s v : Value} {n : Nat} {xs : List Nat} (h : SumSt w wz s n xs) {o : Obj} {u : Value} (y : Nat) (hu : u = .int .u8 (y : Int))
    (ho : w2.ownsRow (w.heap.size + 1) 5 1 v (n + 1) (bn xs ++ [u])) (hg : (wz.alloc o).grownBy w2 s.ownBlock) : SumSt w w2 v (n + 1) (xs ++ [y]) := by
  subst hu
  have hq : ∀ q, s.ownBlock = some q → w.heap.size + 1 ≤ q := fun q hq => by
    obtain ⟨x, cp, hv, _, _, _, hx⟩ := owns_form h.row
    rw [hv] at hq
    cases x with
    | none => cases hq
    | some y => cases hq; exact (hx y rfl).1
  have hs := h.size
  have ht : Touch (fun k => w.heap.size + 1 ≤ k) wz w2 := ((Touch.refl _ _).alloc o).grown hg (fun k hk _ => hq k hk)
  refine ⟨by rw [bn_append]; exact ho, ?_, h.out.touch ht (by omega), by have := ht.size; omega⟩
  exact h.bel.trans (ht.below (by omega) (fun k hk h => by omega))

theorem SumSt.last {w wz : World} {v : Value} {n n' : Nat} {B l : List Nat} {y y' : Nat} (h : SumSt w wz v n (B ++ (l ++ [y]))) (e : y = y') (hn : n = n') : SumSt w wz v n' (B ++ (l ++ [y'])) := by
  subst e; subst hn; exact h

theorem lenBytes_take (n j : Nat) (h : j < 8) : (lenBytes n).take (j + 1) = (lenBytes n).take j ++ [n * 8 / 2 ^ (8 * (7 - j)) % 256] := by
  rw [List.take_succ_eq_append_getElem (by simp [lenBytes]; omega)]
  simp [lenBytes]

theorem Blk.set_bn {w : World} {b : Nat} {T : TypeId} {ys : List Nat} (h : Blk w b T (bn ys).toArray) (i : Nat) (E : Int) (N : Nat) (e : E = (N : Int)) : Blk (w.setCell ⟨b, i, none⟩ (.int .u8 E)) b T (bn (ys.set i N)).toArray := by
  subst e
  have h := h.set i (.int .u8 (N : Int))
  have e : (bn ys).toArray.setIfInBounds i (.int .u8 (N : Int)) = (bn (ys.set i N)).toArray := by simp [bn, bys, natsD, List.map_set]
  rw [e] at h
  exact h

set_option maxRecDepth 100000 in
set_option maxHeartbeats 4000000 in
theorem sum_any (a : Option Addr) (cap : Nat) (L : List Part) (w : World) (hp : PartsIn w a L) (hr : ∀ y ∈ flatP L, y < 256) (hn : (flatP L).length ≤ 1000000) (hm : L.length ≤ 1000000) :
    Calls Try.prog 78 #[.slice a L.length cap] w fun e w' => e = .returned (.agg (bn (sha (flatP L))).toArray) ∧ Below w.heap.size w w' := by
  obtain ⟨i0, hi, hz0, hz1, hz2⟩ := info_parts Try.info5
  have HP := Lib.hid (And.intro hp hr)
  clear hp hr
  go_enter Try.func78, Try.ntmps78
  go_wp2_with fail
  (with_reducible refine (concat_any a cap L _ (HP.out.1.touch ((Touch.refl (fun _ => False) w).alloc _) (fun _ _ _ h => h) (fun _ _ _ _ _ h => h)) (by omega) hm).mono ?_)
  rintro e w1 ⟨v1, rfl, ho1, hb1⟩
  rw [bn_len] at ho1
  obtain ⟨b, hb⟩ : ∃ b, b = flatP L := ⟨_, rfl⟩
  rw [← hb] at ho1 hn HP
  have ho1' : w1.ownsRow (w.heap.size + 1) 5 1 v1 b.length (bn b) := by simpa using ho1
  have bel1 : Below w.heap.size w w1 := ((Below.refl w.heap.size w).alloc (Nat.le_refl _) _).trans (hb1.mono (by simp))
  have hout1 : Blk w1 w.heap.size 73 (bn (List.replicate 32 0)).toArray := (Blk.new w _ _).touch (Touch.of_below (S := fun _ => False) hb1) (fun h => h)
  have hws1 : w.heap.size + 1 ≤ w1.heap.size := by have := hb1.size; simpa using this
  have hS1 : SumSt w w1 v1 b.length b := ⟨ho1', bel1, hout1, hws1⟩
  obtain ⟨a1, c1, rfl, -, -⟩ := hS1.form
  have HB := Lib.hid hb
  have H1 := Lib.hid hS1
  clear ho1 ho1' hb1 bel1 hb hout1 hws1 hS1
  go_wp2_with (at_builtin; refine wpList_append_one rfl (.tmp 14) (.tmp 15) 26 rfl (w.heap.size + 1) 5 i0 (.int .u8 0) 1 Try.underlying26 hi hz0 hz1 hz2 rfl _ _ _ rfl (H1.out.row.alloc _) _ _ rfl (by simp; rfl) rfl (by unfold maxLen; omega) (by omega) (by have := H1.out.size; simp; omega) ?_; intro v2 w2 ho2 hg2)
  have H2 : Hid (SumSt w w2 v2 (b.length + 1) (b ++ [128])) := Lib.hid (H1.out.grow 128 rfl ho2 hg2)
  clear ho2 hg2
  obtain ⟨pz, hpz⟩ : ∃ pz, pz = padZeros b.length := ⟨_, rfl⟩
  have hpz64 : pz < 64 := by rw [hpz]; unfold padZeros; omega
  have hpm : ∀ z, z ≤ pz → ((b.length + 1 + z) % 64 = 56 ↔ z = pz) := fun z hz => by rw [hpz] at hz ⊢; unfold padZeros at hz ⊢; omega
  have HZ := Lib.hid (And.intro hpz hpm)
  clear hpz hpm
  go_loopw [3] (fun s wz => ∃ z : Nat, z ≤ pz ∧ SumSt w wz s (b.length + 1 + z) (b ++ 128 :: List.replicate z 0)) (fun s _ => 64 + b.length + 1 - lenOf s)
  case atStart => exact ⟨0, Nat.zero_le _, H2.out⟩
  case round =>
    obtain ⟨z, hz, hS⟩ := hrel
    obtain ⟨a3, c3, rfl, hc3, hm3⟩ := hS.form
    have HS := Lib.hid (And.intro hS hm3)
    clear hS hm3
    by_cases hq : z = pz
    · have ht : (((b.length : Int) + 1 + (z : Int)) % 64 != 56) = false := by
        have := (HZ.out.2 z hz).2 hq
        have e : ((b.length : Int) + 1 + (z : Int)) % 64 = 56 := by omega
        rw [e]; rfl
      subst hq
      go_wp2_with fail
      have hlb : b.length + 1 + z ≤ 2000000 := by omega
      have H5 : Hid (SumSt w wr (.slice a3 (b.length + 1 + z) c3) (b.length + 1 + z) (b ++ 128 :: List.replicate z 0)) := Lib.hid HS.out.1
      obtain ⟨B0, hB0⟩ : ∃ B0, B0 = b ++ 128 :: List.replicate z 0 := ⟨_, rfl⟩
      rw [← hB0] at H5
      have HB0 := Lib.hid hB0
      clear hB0
      go_loopw [3, 5] (fun s c wz => ∃ (j : Nat) (q : Int), j ≤ 8 ∧ q = 7 - (j : Int) ∧ c = .int .i64 q ∧ SumSt w wz s (b.length + 1 + z + j) (B0 ++ (lenBytes b.length).take j)) (fun _ c _ => (intOf c + 1).toNat)
      case atStart => exact ⟨0, 7, Nat.zero_le _, rfl, rfl, by simpa using H5.out⟩
      case round =>
        obtain ⟨j, q, hj, hqj, rfl, hS⟩ := hrel
        obtain ⟨a6, c6, rfl, hc6, hm6⟩ := hS.form
        have H6 := Lib.hid (And.intro hS hm6)
        clear hS hm6
        by_cases hj8 : j = 8
        · subst hj8
          obtain rfl : q = -1 := by omega
          have hPd : B0 ++ (lenBytes b.length).take 8 = padded b := by
            rw [HB0.out, HZ.out.1, List.take_of_length_le (by simp [lenBytes])]
            simp [padded]
          have hlen : b.length + 1 + z + 8 = (padded b).length := by rw [padded_len, HZ.out.1]
          have hmod := padded_mod b
          obtain ⟨nb, hnb⟩ : ∃ nb, (padded b).length = 64 * nb := ⟨(padded b).length / 64, by omega⟩
          have hrP : ∀ y ∈ padded b, y < 256 := by
            intro y hy
            unfold padded at hy
            rcases List.mem_append.1 hy with h | h
            · exact HP.out.2 y h
            · rcases List.mem_cons.1 h with rfl | h
              · omega
              · rcases List.mem_append.1 h with h | h
                · rw [List.eq_of_mem_replicate h]; omega
                · unfold lenBytes at h
                  rw [List.mem_map] at h
                  obtain ⟨i, _, rfl⟩ := h
                  exact Nat.mod_lt _ (by decide)
          obtain ⟨P, hP⟩ : ∃ P, P = padded b := ⟨_, rfl⟩
          rw [← hP] at hPd hlen hnb hrP
          have hnbl : nb ≤ 40000 := by omega
          have hbn : b.length + 1 + z + 8 = 64 * nb := by omega
          have h8 := H6.out
          rw [hPd, hbn] at h8
          have H8 := Lib.hid h8
          have hcI : 64 * (nb : Int) ≤ c6 := by have := h8.1.form; obtain ⟨_, _, e, h1, _⟩ := this; injection e with _ _ e3; subst e3; omega
          have e8 : ((b.length + 1 + z + 8 : Nat)) = 64 * nb := hbn
          rw [hbn]
          have HPP := Lib.hid (And.intro hP (And.intro hnb (And.intro hrP hbn)))
          clear hPd hlen hmod hnb hrP hP hbn h8 H6 e8 hc6
          go_wp2_with (refine wpList_store_blk rfl 93 (.tmp 6) (.tmp 36) rfl wr.heap.size 93 _ (u32s shaH0).toArray rfl rfl (Blk.new _ _ _) (by kernel_rfl) (by kernel_rfl) (by kernel_rfl) ?_; intro w9 hB9 ht9 hs9)
          simp only [Act.put]
          have hw9 : Touch (fun k => wr.heap.size ≤ k) wr w9 := Touch.then ((Touch.refl _ _).alloc _) ht9 (fun i hi e => by omega)
          have hx9 := H8.out.1
          obtain ⟨xa, hxa⟩ : ∃ xa, xa = a6 := ⟨_, rfl⟩
          have hsl9 : SlAt w9 a6 (bn P) := (SlAt.of_owns hx9.row).touch hw9 (fun y hy hn => by
            obtain ⟨b0, o0, e0, hc0⟩ : ∃ b0 o0, a6 = some ⟨b0, o0, none⟩ ∧ b0 < wr.heap.size := by
              have hs := SlAt.of_owns hx9.row
              rw [hy] at hs
              obtain ⟨yb, yo, ys⟩ := y
              have := hs.lt hn
              have h0 := owns_form hx9.row
              obtain ⟨x', cp', hv', _, _, _, hx'⟩ := h0
              injection hv' with e1 _ _
              rw [hy] at e1
              have := (hx' ⟨yb, yo, ys⟩ e1.symm).2.2
              simp at this
              subst this
              exact ⟨yb, yo, hy, by assumption⟩
            rw [hy] at e0
            cases e0
            simp
            omega)
          have hxb : ∀ y, a6 = some y → bn P ≠ [] → y.block ≠ wr.heap.size ∧ w.heap.size + 1 ≤ y.block := fun y hy hne => by
            have hs := SlAt.of_owns hx9.row
            rw [hy] at hs
            have h1 := hs.lt hne
            obtain ⟨x', cp', hv', _, _, _, hx'⟩ := owns_form hx9.row
            injection hv' with e1 _ _
            rw [hy] at e1
            exact ⟨by omega, (hx' y e1.symm).1⟩
          have H9 := Lib.hid (And.intro hB9 (And.intro hw9 (And.intro hsl9 hxb)))
          clear hB9 hw9 hx9 hxa hsl9 hxb xa ht9 hs9
          obtain ⟨w8, rfl⟩ : ∃ w8, w8 = wr := ⟨wr, rfl⟩
          go_loopw [3] (fun s wz => ∃ (j : Nat) (st : List Nat) (x : Option Addr) (c : Nat), j ≤ nb ∧ s = .slice x (64 * (nb - j)) c ∧ 64 * (nb - j) ≤ c ∧ c ≤ maxLen ∧ SlAt wz x (bn (P.drop (64 * j))) ∧ (∀ y, x = some y → bn (P.drop (64 * j)) ≠ [] → y.block ≠ w8.heap.size ∧ w.heap.size + 1 ≤ y.block) ∧ st.length = 8 ∧ (∀ y ∈ st, y < 4294967296) ∧ shaBlocks (nb - j) st (P.drop (64 * j)) = shaBlocks nb shaH0 P ∧ Blk wz w8.heap.size 93 (u32s st).toArray ∧ Touch (fun k => w8.heap.size ≤ k) w8 wz) (fun s _ => lenOf s)
          case atStart =>
            refine ⟨0, shaH0, a6, c6, Nat.zero_le _, by simp, by omega, H8.out.2, H9.out.2.2.1, H9.out.2.2.2, rfl, by decide, rfl, H9.out.1, H9.out.2.1⟩
          case round =>
            obtain ⟨j, st, x, c, hj, rfl, hc, hcm, hsl, hxb, hst, hstr, hsb, hB, ht⟩ := hrel
            have HR := Lib.hid (And.intro hsl (And.intro hxb (And.intro hst (And.intro hstr (And.intro hsb (And.intro hB (And.intro ht hcm)))))))
            clear hsl hxb hst hstr hsb hB ht hcm
            by_cases hqj : j = nb
            · subst hqj
              have e0 : 64 * (j - j) = 0 := by omega
              rw [e0]
              clear e0
              go_wp2_with fail
              obtain ⟨hsl, hxb, hst, hstr, hsb, hB, ht, hcm⟩ := HR.out
              have hD : st.flatMap wordBytes = sha b := by
                unfold sha
                rw [← HPP.out.1, show P.length / 64 = j by rw [HPP.out.2.1]; omega, ← hsb]
                simp [shaBlocks]
              have hw8 : w.heap.size + 1 ≤ w8.heap.size := H8.out.1.size
              have ht0 : Touch (fun k => w.heap.size ≤ k) w wr := Touch.then (Touch.of_below H8.out.1.bel) ht (fun i hi e => by omega)
              have hO : Blk wr w.heap.size 73 (bn (List.replicate 32 0)).toArray := H8.out.1.out.touch ht (by omega)
              have HQ := Lib.hid (And.intro hst (And.intro hstr (And.intro hD (And.intro hB (And.intro ht0 hO)))))
              clear hsl hxb hst hstr hsb hB ht hcm hD ht0 hO HR
              go_loopw [45] (fun s wz => ∃ (i : Nat) (ys : List Nat), i ≤ 32 ∧ s = .int .i64 i ∧ ys.length = 32 ∧ (∀ l, l < i → ys[l]? = (st.flatMap wordBytes)[l]?) ∧ Blk wz w.heap.size 73 (bn ys).toArray ∧ Blk wz w8.heap.size 93 (u32s st).toArray ∧ Touch (fun k => w.heap.size ≤ k) w wz) (fun s _ => (32 - intOf s).toNat)
              case atStart => exact ⟨0, List.replicate 32 0, Nat.zero_le _, rfl, by simp, fun l hl => absurd hl (Nat.not_lt_zero _), HQ.out.2.2.2.2.2, HQ.out.2.2.2.1, HQ.out.2.2.2.2.1⟩
              case round =>
                obtain ⟨i, ys, hi32, rfl, hyl, hy1, hB, hBs, ht⟩ := hrel
                by_cases hq32 : i = 32
                · subst hq32
                  have hy : ys = sha b := by
                    rw [← HQ.out.2.2.1]
                    refine List.ext_getElem? fun l => ?_
                    by_cases hl : l < 32
                    · exact hy1 l hl
                    · rw [List.getElem?_eq_none (by omega), List.getElem?_eq_none (by rw [flatMap_word_len, HQ.out.1]; omega)]
                  have hz : (bn ys).toArray.size = 32 := by simp [bn_len, hyl]
                  have h1 : (bn ys).toArray.all (·.oneCell') = true := by
                    rw [Array.all_eq_true]
                    intro k hk
                    exact bn_one ys _ (by simp)
                  have HE := Lib.hid (And.intro hy (And.intro hB (And.intro ht (And.intro hz h1))))
                  clear hyl hy1 hB hBs ht hz h1 hy
                  go_wp2_with (first
                    | (refine wpList_load_blk rfl 73 (.tmp 2) rfl w.heap.size 73 (bn ys).toArray _ rfl (HE.out.2.1) Try.underlying73 rfl (by rw [HE.out.2.2.2.1]; first | done | kernel_rfl) ?_)
                    | (refine wpList_store_blk rfl 73 (.tmp 2) (.tmp 61) rfl w.heap.size 73 _ (bn ys).toArray rfl rfl (HE.out.2.1) (by rw [HE.out.2.2.2.1]; first | done | kernel_rfl) rfl HE.out.2.2.2.2 ?_; intro w11 hB11 ht11 hs11))
                  rw [← HB.out]
                  refine bodyPost_ret (results_cell_row rfl _ _ w.heap.size 73 (bn ys).toArray (0, 0) _ rfl hB11 Try.underlying73 rfl (by rw [HE.out.2.2.2.1]; first | done | kernel_rfl)) rfl ⟨by rw [HE.out.1], ?_⟩
                  exact (Touch.then HE.out.2.2.1 ht11 (fun i hi e => by omega)).below (Nat.le_refl _) (fun k hk h => by omega)
                · have hil : i < 32 := by omega
                  obtain ⟨q, hq⟩ : ∃ q, q = i / 4 := ⟨_, rfl⟩
                  obtain ⟨r, hr⟩ : ∃ r, r = i % 4 := ⟨_, rfl⟩
                  have hr4 : r < 4 := by omega
                  have hq8 : q < 8 := by omega
                  have hqI : (q : Int) < 8 := by omega
                  have kq : (i : Int) / 4 = (q : Int) := by omega
                  have kr : (i : Int) % 4 = (r : Int) := by omega
                  obtain ⟨x, hx⟩ : ∃ x, st[q]? = some x := ⟨_, List.getElem?_eq_getElem (by have := HQ.out.1; omega)⟩
                  have hxl := HQ.out.2.1 x (List.mem_of_getElem? hx)
                  have cq := hBs.cell q (u32s_at st hx)
                  have fi := hB.frozen i
                  obtain ⟨yi, hyi⟩ : ∃ yi, ys[i]? = some yi := ⟨_, List.getElem?_eq_getElem (by omega)⟩
                  have ci := hB.cell i (v := .int .u8 (yi : Int)) (by simp [bn, bys, natsD, hyi])
                  have hD := flatMap_word st q r x hr4 hx
                  have e4 : 4 * q + r = i := by omega
                  rw [e4] at hD
                  obtain ⟨N, hN⟩ : ∃ N, N = x / 2 ^ (24 - 8 * r) % 256 := ⟨_, rfl⟩
                  rw [← hN] at hD
                  have HK := Lib.hid (And.intro hyl (And.intro hy1 (And.intro hB (And.intro hBs (And.intro ht (And.intro hD (And.intro hq hN)))))))
                  clear hN
                  clear hyl hy1 hB hBs ht hD hq hx e4 hyi hr
                  obtain rfl | rfl | rfl | rfl : r = 0 ∨ r = 1 ∨ r = 2 ∨ r = 3 := by omega
                  all_goals
                    go_wp2_with fail
                    go_roundw
                    case rel =>
                      obtain ⟨hyl, hy1, hB, hBs, ht, hD, hq, hN⟩ := HK.out
                      simp only [Nat.reduceMul, Nat.reduceSub, Nat.reducePow, Nat.div_one] at hN
                      refine ⟨i + 1, ys.set i N, by omega, by first | rfl | (congr 1; omega), by simp [hyl], ?_, hB.set_bn i _ N (by omega), hBs.set_ne (a := ⟨w.heap.size, i, none⟩) (by have := H8.out.1.size; simp; omega) _, Touch.setCell ht (p := ⟨w.heap.size, i, none⟩) (fun _ => Nat.le_refl _) _⟩
                      intro l hl
                      by_cases e : i = l
                      · subst e
                        rw [List.getElem?_set_self (by omega), hD]
                      · rw [List.getElem?_set_ne e]
                        exact hy1 l (by omega)
                    case measure => simp [intOf]; omega
            · have hjn : j < nb := by omega
              obtain ⟨m, hmm⟩ : ∃ m, nb - j = m + 1 := ⟨nb - j - 1, by omega⟩
              rw [hmm] at hc ⊢
              have hPl : (P.drop (64 * j)).length = 64 * (m + 1) := by rw [List.length_drop, HPP.out.2.1]; omega
              obtain ⟨y0, hy0⟩ : ∃ y0, (bn (P.drop (64 * j)))[0]? = some y0 := ⟨_, List.getElem?_eq_getElem (by rw [bn_len]; omega)⟩
              obtain ⟨xb, xo, rfl, -⟩ := HR.out.1.get hy0
              have hc64 : (64 : Int) ≤ c := by omega
              have HM := Lib.hid (And.intro hmm (And.intro hPl hy0))
              clear hmm hPl hy0
              have hgt : (0 : Int) < 64 * ((m : Int) + 1) := by omega
              go_wp2_with fail
              (with_reducible refine (block_any w8.heap.size 93 st (some ⟨xb, xo, none⟩) c ((P.drop (64 * j)).take 64) wr HR.out.2.2.1 HR.out.2.2.2.1 HR.out.2.2.2.2.2.1 (by rw [List.length_take, HM.out.2.1]; omega) (fun y hy => HPP.out.2.2.1 y (List.mem_of_mem_drop (List.mem_of_mem_take hy))) (by have h := HR.out.1.take 64; rw [show (bn (P.drop (64 * j))).take 64 = bys (natsD ((P.drop (64 * j)).take 64)) by simp [bn, bys, natsD]] at h; exact h) (by omega)).mono ?_)
              rintro e w10 ⟨rfl, hB10, ht10⟩
              have H10 := Lib.hid (And.intro hB10 ht10)
              clear hB10 ht10
              have hfin : ∃ x' c', (64 * (nb - (j + 1)) ≤ c' ∧ c' ≤ maxLen ∧ SlAt w10 x' (bn (P.drop (64 * (j + 1)))) ∧ (∀ y, x' = some y → bn (P.drop (64 * (j + 1))) ≠ [] → y.block ≠ w8.heap.size ∧ w.heap.size + 1 ≤ y.block)) ∧ ((c = 64 ∧ x' = some ⟨xb, xo, none⟩ ∧ m = 0 ∧ c' = 0) ∨ (¬ c = 64 ∧ x' = some ⟨xb, xo + 64, none⟩ ∧ c' = c - 64)) := by
                obtain ⟨hmm, hPl, hy0⟩ := HM.out
                have hdd : P.drop (64 * (j + 1)) = (P.drop (64 * j)).drop 64 := by rw [List.drop_drop]; congr 1
                have hbd : bn (P.drop (64 * (j + 1))) = (bn (P.drop (64 * j))).drop 64 := by rw [hdd]; simp [bn, bys, natsD]
                have hne : bn (P.drop (64 * j)) ≠ [] := by intro e; rw [e] at hy0; simp at hy0
                have hxq := HR.out.2.1 _ rfl hne
                have hsl := HR.out.1.touch H10.out.2 (fun y hy _ => by cases hy; exact hxq.1)
                by_cases hcq : c = 64
                · have hm0 : m = 0 := by omega
                  refine ⟨_, 0, ⟨by omega, Nat.zero_le _, ?_, ?_⟩, .inl ⟨hcq, rfl, hm0, rfl⟩⟩
                  · have e : bn (P.drop (64 * (j + 1))) = [] := by rw [hbd]; exact List.drop_eq_nil_of_le (by rw [bn_len]; omega)
                    rw [e]
                    exact SlAt.nil _ _
                  · intro y hy _
                    cases hy
                    exact hxq
                · refine ⟨_, c - 64, ⟨by omega, by have := HR.out.2.2.2.2.2.2.2; omega, ?_, ?_⟩, .inr ⟨hcq, rfl, rfl⟩⟩
                  · rw [hbd]
                    exact hsl.drop 64
                  · intro y hy _
                    cases hy
                    exact hxq
              obtain ⟨x', c', hF, hcase⟩ := hfin
              have HF := Lib.hid hF
              have HX := Lib.hid (And.intro (rfl : True = True) hcase)
              clear hF
              rcases hcase with ⟨hcq, e1, e2, e3⟩ | ⟨hcq, e1, e2⟩
              · subst hcq e2
                have HE := Lib.hid (And.intro e1 e3)
                clear e1 e3
                go_wp2_with fail
                go_roundw
                case rel =>
                  obtain ⟨h1, h2, h3, h4⟩ := HF.out
                  refine ⟨j + 1, shaBlock st ((P.drop (64 * j)).take 64), x', c', by omega, ?_, h1, h2, h3, h4, shaBlock_len _ _ HR.out.2.2.1, shaBlock_lt _ _, ?_, H10.out.1, ?_⟩
                  · rw [HE.out.1, HE.out.2, show 64 * (nb - (j + 1)) = 0 by have := HM.out.1; omega]
                  · rw [← HR.out.2.2.2.2.1, HM.out.1, show nb - (j + 1) = 0 by have := HM.out.1; omega]
                    simp only [shaBlocks]
                  · exact Touch.then HR.out.2.2.2.2.2.2.1 H10.out.2 (fun i hi e => by omega)
                case measure => simp [lenOf]
              · have HE := Lib.hid (And.intro e1 e2)
                clear e1 e2
                go_wp2_with fail
                go_roundw
                case rel =>
                  obtain ⟨h1, h2, h3, h4⟩ := HF.out
                  refine ⟨j + 1, shaBlock st ((P.drop (64 * j)).take 64), x', c', by omega, ?_, h1, h2, h3, h4, shaBlock_len _ _ HR.out.2.2.1, shaBlock_lt _ _, ?_, H10.out.1, ?_⟩
                  · rw [HE.out.1, HE.out.2, show 64 * (nb - (j + 1)) = 64 * (m + 1) - 64 by have := HM.out.1; omega]
                  · rw [← HR.out.2.2.2.2.1, HM.out.1, show nb - (j + 1) = m by have := HM.out.1; omega]
                    simp only [shaBlocks]
                    rw [List.drop_drop]
                    congr 1
                  · exact Touch.then HR.out.2.2.2.2.2.2.1 H10.out.2 (fun i hi e => by omega)
                case measure => simp [lenOf]; omega
        · have hjl : j < 8 := by omega
          have htk := lenBytes_take b.length j hjl
          obtain ⟨k, hk7, rfl⟩ : ∃ k : Nat, j = 7 - k ∧ q = (k : Int) := ⟨7 - j, by omega, by omega⟩
          have hk8 : k ≤ 7 := by omega
          have hkj : 8 * (7 - j) = 8 * k := by omega
          rw [hkj] at htk
          have HK := Lib.hid (And.intro htk (And.intro hk7 hqj))
          clear htk hk7 hkj hqj
          obtain rfl | rfl | rfl | rfl | rfl | rfl | rfl | rfl : k = 0 ∨ k = 1 ∨ k = 2 ∨ k = 3 ∨ k = 4 ∨ k = 5 ∨ k = 6 ∨ k = 7 := by omega
          all_goals
            go_wp2_with (at_builtin; refine wpList_append_one rfl (.tmp 28) (.tmp 34) 26 rfl (w.heap.size + 1) 5 i0 (.int .u8 0) 1 Try.underlying26 hi hz0 hz1 hz2 rfl _ _ _ rfl (H6.out.1.row.alloc _) _ _ rfl (by simp; rfl) rfl (by unfold maxLen; omega) (by omega) (by have := H6.out.1.size; simp; omega) ?_; intro v7 w7 ho7 hg7)
            have H7 := Lib.hid (H6.out.1.grow _ (by rfl) ho7 hg7)
            clear ho7 hg7
            go_roundw
            case rel =>
              refine ⟨j + 1, _, by omega, ?_, rfl, ?_⟩
              · have := HK.out.2.1
                omega
              · have h := H7.out
                rw [List.append_assoc] at h
                rw [HK.out.1]
                refine h.last ?_ rfl
                simp only [Nat.reduceMul, Nat.reducePow, show Int.natAbs 256 = 256 from rfl, Nat.div_one]
                try omega
            case measure => simp [intOf]
    · have ht : (((b.length : Int) + 1 + (z : Int)) % 64 != 56) = true := by
        have h1 : ¬ (b.length + 1 + z) % 64 = 56 := fun e => hq ((HZ.out.2 z hz).1 e)
        have e : ¬ ((b.length : Int) + 1 + (z : Int)) % 64 = 56 := by omega
        simp [e]
      go_wp2_with (at_builtin; refine wpList_append_one rfl (.tmp 21) (.tmp 22) 26 rfl (w.heap.size + 1) 5 i0 (.int .u8 0) 1 Try.underlying26 hi hz0 hz1 hz2 rfl _ _ _ rfl (HS.out.1.row.alloc _) _ _ rfl (by simp; rfl) rfl (by unfold maxLen; omega) (by omega) (by have := HS.out.1.size; simp; omega) ?_; intro v4 w4 ho4 hg4)
      have H4 : Hid (SumSt w w4 v4 (b.length + 1 + z + 1) ((b ++ 128 :: List.replicate z 0) ++ [0])) := Lib.hid (HS.out.1.grow 0 rfl ho4 hg4)
      clear ho4 hg4
      go_roundw
      case rel =>
        refine ⟨z + 1, by omega, ?_⟩
        have h := H4.out
        rw [List.append_assoc, List.cons_append, ← List.replicate_succ'] at h
        exact h
      case measure =>
        obtain ⟨a5, c5, rfl, -, -⟩ := H4.out.form
        simp [lenOf]
        omega
end Go.Proofs.Ythlkmofemnepbaa
