/-
  THE WALK of digest.schedule (layer 2).
-/
import Derived.Test.YthlkmofemnepbaaRows
import Derived.Test.YthlkmofemnepbaaDigest
import Derived.Test.YthlkmofemnepbaaDigestPlain2
import Derived.Test.YthlkmofemnepbaaRegion
namespace Go.Proofs.Ythlkmofemnepbaa
open Go.RowKit

def natsD (ys : List Nat) : List Int := ys.map fun (y : Nat) => (y : Int)
def u32s (ws : List Nat) : List Value := ws.map fun (x : Nat) => Value.int .u32 (x : Int)
theorem u32s_at (ws : List Nat) {i x : Nat} (h : ws[i]? = some x) : (u32s ws).toArray[i]? = some (.int .u32 (x : Int)) := by simp [u32s, h]
theorem u32s_set (ws : List Nat) (i x : Nat) : (u32s ws).toArray.setIfInBounds i (.int .u32 (x : Int)) = (u32s (ws.set i x)).toArray := by simp [u32s, List.map_set]

/-- The first k bytes of word i, as a number. -/
def partWord (bs : List Nat) (i : Nat) : Nat → Nat
  | 0 => 0
  | k + 1 => partWord bs i k * 256 + bs.getD (4 * i + k) 0

theorem partWord_lt (bs : List Nat) (hr : ∀ y ∈ bs, y < 256) (i k : Nat) : partWord bs i k < 256 ^ k := by
  induction k with
  | zero => simp [partWord]
  | succ k ih =>
    have hb : bs.getD (4 * i + k) 0 < 256 := by
      rw [List.getD_eq_getElem?_getD]
      cases h : bs[4 * i + k]? with
      | none => simp
      | some y => simp; exact hr y (List.mem_of_getElem? h)
    simp only [partWord, Nat.pow_succ]
    omega

theorem right_int (x : Nat) (n : Int) (k : Nat) (hn : n = k) (hx : x < 4294967296) (h1 : 1 ≤ k) (h2 : k ≤ 31) (w : World) : Calls Try.prog 89 #[.int .u32 x, .int .i64 n] w fun e w' => e = .returned (.int .u32 (rotr x k)) ∧ Touch (fun _ => False) w w' := by
  subst hn
  exact right_any x k hx h1 h2 w

theorem xor_u32 (a b : Nat) (ha : a < 4294967296) (hb : b < 4294967296) : bits .xor .u32 (a : Int) (b : Int) = ((a ^^^ b : Nat) : Int) := by
  have h1 : (BitVec.ofInt 32 (a : Int)).toNat = a := by rw [BitVec.ofInt_natCast, BitVec.toNat_ofNat]; exact Nat.mod_eq_of_lt (by omega)
  have h2 : (BitVec.ofInt 32 (b : Int)).toNat = b := by rw [BitVec.ofInt_natCast, BitVec.toNat_ofNat]; exact Nat.mod_eq_of_lt (by omega)
  have h3 : a ^^^ b < 2 ^ 32 := Nat.xor_lt_two_pow (by omega) (by omega)
  show IntKind.u32.wrap ((BitVec.ofInt 32 (a : Int) ^^^ BitVec.ofInt 32 (b : Int)).toNat : Int) = _
  rw [BitVec.toNat_xor, h1, h2]
  simp [IntKind.wrap, IntKind.bits, IntKind.signed]
  omega

theorem and_u32 (a b : Nat) (ha : a < 4294967296) (hb : b < 4294967296) : bits .and .u32 (a : Int) (b : Int) = ((a &&& b : Nat) : Int) := by
  have h1 : (BitVec.ofInt 32 (a : Int)).toNat = a := by rw [BitVec.ofInt_natCast, BitVec.toNat_ofNat]; exact Nat.mod_eq_of_lt (by omega)
  have h2 : (BitVec.ofInt 32 (b : Int)).toNat = b := by rw [BitVec.ofInt_natCast, BitVec.toNat_ofNat]; exact Nat.mod_eq_of_lt (by omega)
  have h3 : a &&& b < 2 ^ 32 := Nat.and_lt_two_pow _ (by omega)
  show IntKind.u32.wrap ((BitVec.ofInt 32 (a : Int) &&& BitVec.ofInt 32 (b : Int)).toNat : Int) = _
  rw [BitVec.toNat_and, h1, h2]
  simp [IntKind.wrap, IntKind.bits, IntKind.signed]
  omega

theorem wrap_u32 (a b : Nat) : IntKind.u32.wrap ((a : Int) + (b : Int)) = (((a + b) % 4294967296 : Nat) : Int) := by
  simp [IntKind.wrap, IntKind.bits, IntKind.signed]

theorem rotr_lt (x n : Nat) : rotr x n < 4294967296 := Nat.mod_lt _ (by decide)
theorem xor_lt {a b : Nat} (ha : a < 4294967296) (hb : b < 4294967296) : a ^^^ b < 4294967296 := Nat.xor_lt_two_pow (n := 32) ha hb
theorem or_lt {a b : Nat} (ha : a < 4294967296) (hb : b < 4294967296) : a ||| b < 4294967296 := Nat.or_lt_two_pow (n := 32) ha hb
theorem and_lt {a b : Nat} (hb : b < 4294967296) : a &&& b < 4294967296 := Nat.and_lt_two_pow (n := 32) a hb

theorem sig_u32 (x m n k : Nat) (q : Int) (hx : x < 4294967296) (hq : q = ((x / k : Nat) : Int)) : bits .xor .u32 (bits .xor .u32 ((rotr x m : Nat) : Int) ((rotr x n : Nat) : Int)) q = ((rotr x m ^^^ rotr x n ^^^ (x / k) : Nat) : Int) := by
  subst hq
  have h : x / k < 4294967296 := Nat.lt_of_le_of_lt (Nat.div_le_self _ _) hx
  rw [xor_u32 _ _ (rotr_lt _ _) (rotr_lt _ _), xor_u32 _ _ (xor_lt (rotr_lt _ _) (rotr_lt _ _)) h]

theorem or_byte32 (x c : Nat) (hx : x < 16777216) (hc : c < 256) : bits .or .u32 ((x : Int) * 256) (c : Int) = ((x * 256 + c : Nat) : Int) := by
  have h := or_u32 (x * 256) c (by omega) (by omega)
  have h3 : x * 256 ||| c = x * 256 + c := by
    have := Nat.two_pow_add_eq_or_of_lt (i := 8) hc x
    rw [Nat.mul_comm]
    exact this.symm
  rw [h3] at h
  rw [← h]
  congr 1

theorem set_same (ws : List Nat) (i : Nat) (h : ws[i]? = some 0) : ws.set i 0 = ws := by
  refine List.ext_getElem? fun j => ?_
  by_cases e : i = j
  · subst e
    have hl := (List.getElem?_eq_some_iff.1 h).1
    rw [List.getElem?_set_self hl, h]
  · rw [List.getElem?_set_ne e]

set_option maxRecDepth 100000 in
set_option maxHeartbeats 2000000 in
theorem schedule_any (a : Option Addr) (cap : Nat) (bs : List Nat) (w : World) (hl : bs.length = 64) (hr : ∀ y ∈ bs, y < 256) (hs : SlAt w a (bys (natsD bs))) (hc : 64 ≤ cap) :
    Calls Try.prog 88 #[.slice a 64 cap] w fun e w' => e = .returned (.agg (u32s (schedule bs)).toArray) ∧ Below w.heap.size w w' := by
  have HH := Lib.hid (And.intro hl (And.intro hr hs))
  have hcI : (64 : Int) ≤ cap := by omega
  clear hl hr hs
  go_enter Try.func88, Try.ntmps88
  go_wp2_with fail
  go_loopw [9] (fun c wz => ∃ (i : Nat) (ws : List Nat), i ≤ 16 ∧ c = .int .i64 i ∧ ws.length = 64 ∧ (∀ (j x : Nat), ws[j]? = some x → x < 4294967296) ∧ (∀ j : Nat, j < i → ws[j]? = some (partWord bs j 4)) ∧ (∀ j : Nat, i ≤ j → j < 64 → ws[j]? = some 0) ∧ Blk wz w.heap.size 98 (u32s ws).toArray ∧ Below w.heap.size w wz) (fun c _ => (16 - (match c with | .int _ q => q | _ => 0)).toNat)
  case atStart =>
    refine ⟨0, List.replicate 64 0, Nat.zero_le _, rfl, rfl, ?_, fun j hj => absurd hj (Nat.not_lt_zero _), fun j _ hj => by rw [List.getElem?_replicate, if_pos hj], Blk.new _ _ _, (Below.refl _ _).alloc (Nat.le_refl _) _⟩
    intro j x h
    have := List.eq_of_mem_replicate (List.mem_of_getElem? h)
    omega
  case round =>
    obtain ⟨i, ws, hi, rfl, hwl, hwr, hw1, hw0, hB, hb⟩ := hrel
    by_cases hq : i = 16
    · subst hq
      have hwords := words16_spec 16 bs HH.out.1
      have hwp : ∀ j, j < 16 → (words16 16 bs)[j]? = some (partWord bs j 4) := fun j hj => by
        rw [hwords.2 j hj]
        simp [partWord, word4]
      have HB := Lib.hid (And.intro hwl (And.intro hwr (And.intro hw1 (And.intro hB (And.intro hb (And.intro hwords.1 hwp))))))
      clear hwl hwr hw1 hw0 hB hb hwords hwp
      go_wp2_with fail
      go_loopw [6] (fun c wz => ∃ (i : Nat) (ws : List Nat), 16 ≤ i ∧ i ≤ 64 ∧ c = .int .i64 i ∧ ws.length = 64 ∧ (∀ (j x : Nat), ws[j]? = some x → x < 4294967296) ∧ ws.take i = growW (i - 16) (words16 16 bs) ∧ Blk wz w.heap.size 98 (u32s ws).toArray ∧ Below w.heap.size w wz) (fun c _ => (64 - intOf c).toNat)
      case atStart =>
        obtain ⟨hwl, hwr, hw1, hB, hb, hl, hwp⟩ := HB.out
        refine ⟨16, ws, Nat.le_refl _, by decide, rfl, hwl, hwr, ?_, hB, hb⟩
        refine List.ext_getElem? fun j => ?_
        show (ws.take 16)[j]? = (words16 16 bs)[j]?
        by_cases hj : j < 16
        · rw [List.getElem?_take_of_lt hj, hw1 j hj, hwp j hj]
        · rw [List.getElem?_eq_none (by simp; omega), List.getElem?_eq_none (by omega)]
      case round =>
        obtain ⟨i, ws, hi1, hi2, rfl, hwl, hwr, hwt, hB, hb⟩ := hrel
        by_cases hq6 : i = 64
        · subst hq6
          have HE : Hid ((u32s ws).toArray = (u32s (schedule bs)).toArray) := Lib.hid (by
            rw [schedule_grow, ← hwt, List.take_of_length_le (by omega)])
          have hz : (u32s ws).toArray.size = 64 := by simp [u32s, hwl]
          have HQ := Lib.hid (And.intro hwl (And.intro hwr (And.intro hB (And.intro hb hz))))
          have h1 : (u32s ws).toArray.all (·.oneCell') = true := by
            rw [Array.all_eq_true]
            intro k hk
            simp [u32s, Value.oneCell']
          have H1 := Lib.hid h1
          clear hwl hwr hwt hB hb h1 hz
          go_wp2_with (first
            | (refine wpList_load_blk rfl 98 (.tmp 2) rfl w.heap.size 98 (u32s ws).toArray _ rfl (HQ.out.2.2.1) Try.underlying98 rfl (by rw [HQ.out.2.2.2.2]; kernel_rfl) ?_)
            | (refine wpList_store_blk rfl 98 (.tmp 2) (.tmp 76) rfl w.heap.size 98 _ (u32s ws).toArray rfl rfl (HQ.out.2.2.1) (by rw [HQ.out.2.2.2.2]; kernel_rfl) rfl H1.out ?_; intro w1 hB1 ht1 hs1))
          rw [← HE.out]
          refine bodyPost_ret (results_cell_row rfl _ _ w.heap.size 98 (u32s ws).toArray (0, 0) _ rfl hB1 Try.underlying98 rfl (by rw [HQ.out.2.2.2.2]; kernel_rfl)) rfl ⟨rfl, ?_⟩
          exact (Touch.then (S := fun k => w.heap.size ≤ k) (Touch.of_below HQ.out.2.2.2.1) ht1 (fun i hi e => by omega)).below (Nat.le_refl _) (fun k hk h => by omega)
        · have hil : i < 64 := by omega
          have hiI : (i : Int) < 64 := by omega
          have getw : ∀ j, j < 64 → ∃ x, ws[j]? = some x ∧ x < 4294967296 := fun j hj => ⟨ws[j]'(by omega), List.getElem?_eq_getElem (by omega), hwr j _ (List.getElem?_eq_getElem (by omega))⟩
          obtain ⟨x15, e15, l15⟩ := getw (i - 15) (by omega)
          obtain ⟨x2, e2, l2⟩ := getw (i - 2) (by omega)
          obtain ⟨x16, e16, l16⟩ := getw (i - 16) (by omega)
          obtain ⟨x7, e7, l7⟩ := getw (i - 7) (by omega)
          have c15 := hB.cell (i - 15) (u32s_at ws e15)
          have c2 := hB.cell (i - 2) (u32s_at ws e2)
          have c16 := hB.cell (i - 16) (u32s_at ws e16)
          have c7 := hB.cell (i - 7) (u32s_at ws e7)
          have kw15 : IntKind.i64.wrap ((i : Int) - 15) = ((i - 15 : Nat) : Int) := by simp [IntKind.wrap, IntKind.bits, IntKind.signed]; split <;> omega
          have kw2 : IntKind.i64.wrap ((i : Int) - 2) = ((i - 2 : Nat) : Int) := by simp [IntKind.wrap, IntKind.bits, IntKind.signed]; split <;> omega
          have kw16 : IntKind.i64.wrap ((i : Int) - 16) = ((i - 16 : Nat) : Int) := by simp [IntKind.wrap, IntKind.bits, IntKind.signed]; split <;> omega
          have kw7 : IntKind.i64.wrap ((i : Int) - 7) = ((i - 7 : Nat) : Int) := by simp [IntKind.wrap, IntKind.bits, IntKind.signed]; split <;> omega
          have b15 : ((i - 15 : Nat) : Int) < 64 := by omega
          have b2 : ((i - 2 : Nat) : Int) < 64 := by omega
          have b16 : ((i - 16 : Nat) : Int) < 64 := by omega
          have b7 : ((i - 7 : Nat) : Int) < 64 := by omega
          obtain ⟨i15, h15⟩ : ∃ i15, i - 15 = i15 := ⟨_, rfl⟩
          obtain ⟨i2, h2⟩ : ∃ i2, i - 2 = i2 := ⟨_, rfl⟩
          obtain ⟨i16, h16⟩ : ∃ i16, i - 16 = i16 := ⟨_, rfl⟩
          obtain ⟨i7, h7⟩ : ∃ i7, i - 7 = i7 := ⟨_, rfl⟩
          rw [h15] at c15 kw15 b15
          rw [h2] at c2 kw2 b2
          rw [h16] at c16 kw16 b16
          rw [h7] at c7 kw7 b7
          have HQ := Lib.hid (And.intro hwl (And.intro hwr (And.intro hwt (And.intro hB (And.intro hb (And.intro e15 (And.intro e2 (And.intro e16 (And.intro e7 (And.intro h15 (And.intro h2 (And.intro h16 h7))))))))))))
          clear hwl hwr hwt hB hb e15 e2 e16 e7 h15 h2 h16 h7 getw
          go_wp2_with fail
          go_quiet (fail)
          go_wp2_with fail
          obtain ⟨W0, hW0⟩ : ∃ W0, W0 = wr.drewN nq := ⟨_, rfl⟩
          have hC : ∀ W, Touch (fun _ => False) W0 W → W.cell? ⟨w.heap.size, i16, none⟩ = some (.int .u32 (x16 : Int)) ∧ W.cell? ⟨w.heap.size, i7, none⟩ = some (.int .u32 (x7 : Int)) := fun W hW => by
            have t : Touch (fun _ => False) wr W := (by rw [hW0] at hW; exact ((Touch.refl _ _).drewN nq).trans hW)
            have hB := HQ.out.2.2.2.1.touch t (fun h => h)
            exact ⟨hB.cell i16 (u32s_at ws (by rw [← HQ.out.2.2.2.2.2.2.2.2.2.2.2.1]; exact HQ.out.2.2.2.2.2.2.2.1)), hB.cell i7 (u32s_at ws (by rw [← HQ.out.2.2.2.2.2.2.2.2.2.2.2.2]; exact HQ.out.2.2.2.2.2.2.2.2.1))⟩
          rw [← hW0]
          have HBW : Hid (Blk W0 w.heap.size 98 (u32s ws).toArray) := Lib.hid (by rw [hW0]; exact HQ.out.2.2.2.1.drewN nq)
          have HC := Lib.hid hC
          have HW0 := Lib.hid hW0
          clear hC hW0
          refine wp_region_held_drew (S := fun w' : World => w'.cell? ⟨w.heap.size, i16, none⟩ = some (.int .u32 (x16 : Int)) ∧ w'.cell? ⟨w.heap.size, i7, none⟩ = some (.int .u32 (x7 : Int))) (by kernel_rfl) (HC.out _ ((Touch.refl _ _).drew)) (fun hHeld => ?_)
          refine region_take 0 (v := ?vs0) rfl rfl (by kernel_rfl) (by kernel_rfl) (by kernel_rfl) (fun _ _ _ h => h) hHeld (Or.inl ⟨by rfl, ?ys0⟩) ?rs0
          case ys0 => (intro w hSw; (try dsimp only at hSw); go_simp; try with_reducible rfl)
          try simp only [Act.put, List.setIfInBounds_toArray, List.set_cons_zero, List.set_cons_succ]
          refine region_take 1 (v := ?vs1) rfl rfl (by kernel_rfl) (by kernel_rfl) (by kernel_rfl) (fun _ _ _ h => h) hHeld (Or.inl ⟨by rfl, ?ys1⟩) ?rs1
          case ys1 => (intro w hSw; (try dsimp only at hSw); go_simp; try with_reducible rfl)
          try simp only [Act.put, List.setIfInBounds_toArray, List.set_cons_zero, List.set_cons_succ]
          refine region_take 2 (v := ?vs2) rfl rfl (by kernel_rfl) (by kernel_rfl) (by kernel_rfl) (fun _ _ _ h => h) hHeld (Or.inl ⟨by rfl, ?ys2⟩) ?rs2
          case ys2 => (intro w hSw; (try dsimp only at hSw); go_simp; try with_reducible rfl)
          try simp only [Act.put, List.setIfInBounds_toArray, List.set_cons_zero, List.set_cons_succ]
          refine region_take 3 (v := ?vs3) rfl rfl (by kernel_rfl) (by kernel_rfl) (by kernel_rfl) (fun _ _ _ h => h) hHeld (Or.inl ⟨by rfl, ?ys3⟩) ?rs3
          case ys3 => (intro w hSw; (try dsimp only at hSw); go_simp; try with_reducible rfl)
          try simp only [Act.put, List.setIfInBounds_toArray, List.set_cons_zero, List.set_cons_succ]
          refine region_take 4 (v := ?vs4) rfl rfl (by kernel_rfl) (by kernel_rfl) (by kernel_rfl) (fun _ _ _ h => h) hHeld (Or.inl ⟨by rfl, ?ys4⟩) ?rs4
          case ys4 => (intro w hSw; (try dsimp only at hSw); go_simp; try with_reducible rfl)
          try simp only [Act.put, List.setIfInBounds_toArray, List.set_cons_zero, List.set_cons_succ]
          refine region_take 5 (v := ?vs5) rfl rfl (by kernel_rfl) (by kernel_rfl) (by kernel_rfl) (fun _ _ _ h => h) hHeld (Or.inl ⟨by rfl, ?ys5⟩) ?rs5
          case ys5 => (intro w hSw; (try dsimp only at hSw); go_simp; try with_reducible rfl)
          try simp only [Act.put, List.setIfInBounds_toArray, List.set_cons_zero, List.set_cons_succ]
          refine region_take 6 (v := ?vs6) rfl rfl (by kernel_rfl) (by kernel_rfl) (by kernel_rfl) (fun _ _ _ h => h) hHeld (Or.inl ⟨by rfl, ?ys6⟩) ?rs6
          case ys6 => (intro w hSw; (try dsimp only at hSw); go_simp; try with_reducible rfl)
          try simp only [Act.put, List.setIfInBounds_toArray, List.set_cons_zero, List.set_cons_succ]
          refine region_take 7 (v := ?vs7) rfl rfl (by kernel_rfl) (by kernel_rfl) (by kernel_rfl) (fun _ _ _ h => h) hHeld (Or.inl ⟨by rfl, ?ys7⟩) ?rs7
          case ys7 => (intro w hSw; (try dsimp only at hSw); go_simp; try with_reducible rfl)
          try simp only [Act.put, List.setIfInBounds_toArray, List.set_cons_zero, List.set_cons_succ]
          refine region_take 8 (v := ?vs8) rfl rfl (by kernel_rfl) (by kernel_rfl) (by kernel_rfl) (fun _ _ _ h => h) hHeld (Or.inl ⟨by rfl, ?ys8⟩) ?rs8
          case ys8 => (intro w hSw; (try dsimp only at hSw); go_simp; try with_reducible rfl)
          try simp only [Act.put, List.setIfInBounds_toArray, List.set_cons_zero, List.set_cons_succ]
          refine region_take 9 (v := ?vs9) rfl rfl (by kernel_rfl) (by kernel_rfl) (by kernel_rfl) (fun _ _ _ h => h) hHeld (Or.inl ⟨by rfl, ?ys9⟩) ?rs9
          case ys9 => (intro w hSw; (try dsimp only at hSw); go_simp; try with_reducible rfl)
          try simp only [Act.put, List.setIfInBounds_toArray, List.set_cons_zero, List.set_cons_succ]
          refine region_take 10 (v := ?vs10) rfl rfl (by kernel_rfl) (by kernel_rfl) (by kernel_rfl) (fun _ _ _ h => h) hHeld (Or.inl ⟨by rfl, ?ys10⟩) ?rs10
          case ys10 => (intro w hSw; (try dsimp only at hSw); go_simp; try with_reducible rfl)
          try simp only [Act.put, List.setIfInBounds_toArray, List.set_cons_zero, List.set_cons_succ]
          refine region_take 12 (v := ?vs12) rfl rfl (by kernel_rfl) (by kernel_rfl) (by kernel_rfl) (fun _ _ _ h => h) hHeld (Or.inl ⟨by rfl, ?ys12⟩) ?rs12
          case ys12 => (intro w hSw; (try dsimp only at hSw); go_simp; try with_reducible rfl)
          try simp only [Act.put, List.setIfInBounds_toArray, List.set_cons_zero, List.set_cons_succ]
          refine region_take 15 (v := ?vs15) rfl rfl (by kernel_rfl) (by kernel_rfl) (by kernel_rfl) (fun _ _ _ h => h) hHeld (Or.inl ⟨by rfl, ?ys15⟩) ?rs15
          case ys15 => (intro w hSw; (try dsimp only at hSw); go_simp; try with_reducible rfl)
          try simp only [Act.put, List.setIfInBounds_toArray, List.set_cons_zero, List.set_cons_succ]
          refine region_take 16 (v := ?vs16) rfl rfl (by kernel_rfl) (by kernel_rfl) (by kernel_rfl) (fun _ _ _ h => h) hHeld (Or.inl ⟨by rfl, ?ys16⟩) ?rs16
          case ys16 => (intro w hSw; (try dsimp only at hSw); go_simp; try with_reducible rfl)
          try simp only [Act.put, List.setIfInBounds_toArray, List.set_cons_zero, List.set_cons_succ]
          refine region_take 19 (v := ?vs19) rfl rfl (by kernel_rfl) (by kernel_rfl) (by kernel_rfl) (fun _ _ _ h => h) hHeld (Or.inl ⟨by rfl, ?ys19⟩) ?rs19
          case ys19 => (intro w hSw; (try dsimp only at hSw); go_simp; try with_reducible rfl)
          try simp only [Act.put, List.setIfInBounds_toArray, List.set_cons_zero, List.set_cons_succ]
          refine region_take 21 (v := ?vs21) rfl rfl (by kernel_rfl) (by kernel_rfl) (by kernel_rfl) (fun _ _ _ h => h) hHeld (Or.inl ⟨by rfl, ?ys21⟩) ?rs21
          case ys21 => (intro w hSw; (try dsimp only at hSw); go_simp; try with_reducible rfl)
          try simp only [Act.put, List.setIfInBounds_toArray, List.set_cons_zero, List.set_cons_succ]
          refine region_take 24 (v := ?vs24) rfl rfl (by kernel_rfl) (by kernel_rfl) (by kernel_rfl) (fun _ _ _ h => h) hHeld (Or.inl ⟨by rfl, ?ys24⟩) ?rs24
          case ys24 => (intro w hSw; (try dsimp only at hSw); go_simp; try with_reducible rfl)
          try simp only [Act.put, List.setIfInBounds_toArray, List.set_cons_zero, List.set_cons_succ]
          refine region_take 25 (v := ?vs25) rfl rfl (by kernel_rfl) (by kernel_rfl) (by kernel_rfl) (fun _ _ _ h => h) hHeld (Or.inl ⟨by rfl, ?ys25⟩) ?rs25
          case ys25 => (intro w hSw; (try dsimp only at hSw); go_simp; try with_reducible rfl)
          try simp only [Act.put, List.setIfInBounds_toArray, List.set_cons_zero, List.set_cons_succ]
          refine region_one 11 (by kernel_rfl) rfl (fun K hK => ?_)
          go_simp
          go_at_call 89
          (with_reducible refine (right_int x15 7 7 rfl l15 (by decide) (by decide) _).mono ?_)
          rintro e u1 ⟨rfl, hb1⟩
          have t1 := Lib.hid (((Touch.refl (fun _ => False) W0).drew).trans hb1)
          clear hb1
          refine hK.out _ _ (HC.out _ t1.out) (fun _ => ?_)
          clear hK K hHeld
          have hHeld : (fun w' : World => w'.cell? ⟨w.heap.size, i16, none⟩ = some (.int .u32 (x16 : Int)) ∧ w'.cell? ⟨w.heap.size, i7, none⟩ = some (.int .u32 (x7 : Int))) _ := HC.out _ t1.out
          try simp only [Act.put, List.setIfInBounds_toArray, List.set_cons_zero, List.set_cons_succ]
          refine region_one 13 (by kernel_rfl) rfl (fun K hK => ?_)
          go_simp
          go_at_call 89
          (with_reducible refine (right_int x15 18 18 rfl l15 (by decide) (by decide) _).mono ?_)
          rintro e u2 ⟨rfl, hb2⟩
          have t2 := Lib.hid (t1.out.trans hb2)
          clear hb2
          refine hK.out _ _ (HC.out _ t2.out) (fun _ => ?_)
          clear hK K hHeld
          have hHeld : (fun w' : World => w'.cell? ⟨w.heap.size, i16, none⟩ = some (.int .u32 (x16 : Int)) ∧ w'.cell? ⟨w.heap.size, i7, none⟩ = some (.int .u32 (x7 : Int))) _ := HC.out _ t2.out
          try simp only [Act.put, List.setIfInBounds_toArray, List.set_cons_zero, List.set_cons_succ]
          refine region_take 14 (v := ?vs14) rfl rfl (by kernel_rfl) (by kernel_rfl) (by kernel_rfl) (fun _ _ _ h => h) hHeld (Or.inl ⟨by rfl, ?ys14⟩) ?rs14
          case ys14 => (intro w hSw; (try dsimp only at hSw); go_simp; try with_reducible rfl)
          try simp only [Act.put, List.setIfInBounds_toArray, List.set_cons_zero, List.set_cons_succ]
          refine region_take 17 (v := ?vs17) rfl rfl (by kernel_rfl) (by kernel_rfl) (by kernel_rfl) (fun _ _ _ h => h) hHeld (Or.inl ⟨by rfl, ?ys17⟩) ?rs17
          case ys17 => (intro w hSw; (try dsimp only at hSw); go_simp; try with_reducible rfl)
          try simp only [Act.put, List.setIfInBounds_toArray, List.set_cons_zero, List.set_cons_succ]
          refine region_take 18 (v := ?vs18) rfl rfl (by kernel_rfl) (by kernel_rfl) (by kernel_rfl) (fun _ _ _ h => h) hHeld (Or.inl ⟨by rfl, ?ys18⟩) ?rs18
          case ys18 => (intro w hSw; (try dsimp only at hSw); go_simp; try with_reducible rfl)
          try simp only [Act.put, List.setIfInBounds_toArray, List.set_cons_zero, List.set_cons_succ]
          refine region_one 20 (by kernel_rfl) rfl (fun K hK => ?_)
          go_simp
          go_at_call 89
          (with_reducible refine (right_int x2 17 17 rfl l2 (by decide) (by decide) _).mono ?_)
          rintro e u3 ⟨rfl, hb3⟩
          have t3 := Lib.hid (t2.out.trans hb3)
          clear hb3
          refine hK.out _ _ (HC.out _ t3.out) (fun _ => ?_)
          clear hK K hHeld
          have hHeld : (fun w' : World => w'.cell? ⟨w.heap.size, i16, none⟩ = some (.int .u32 (x16 : Int)) ∧ w'.cell? ⟨w.heap.size, i7, none⟩ = some (.int .u32 (x7 : Int))) _ := HC.out _ t3.out
          try simp only [Act.put, List.setIfInBounds_toArray, List.set_cons_zero, List.set_cons_succ]
          refine region_one 22 (by kernel_rfl) rfl (fun K hK => ?_)
          go_simp
          go_at_call 89
          (with_reducible refine (right_int x2 19 19 rfl l2 (by decide) (by decide) _).mono ?_)
          rintro e u4 ⟨rfl, hb4⟩
          have t4 := Lib.hid (t3.out.trans hb4)
          clear hb4
          refine hK.out _ _ (HC.out _ t4.out) (fun _ => ?_)
          clear hK K hHeld
          have hHeld : (fun w' : World => w'.cell? ⟨w.heap.size, i16, none⟩ = some (.int .u32 (x16 : Int)) ∧ w'.cell? ⟨w.heap.size, i7, none⟩ = some (.int .u32 (x7 : Int))) _ := HC.out _ t4.out
          try simp only [Act.put, List.setIfInBounds_toArray, List.set_cons_zero, List.set_cons_succ]
          refine region_take 23 (v := ?vs23) rfl rfl (by kernel_rfl) (by kernel_rfl) (by kernel_rfl) (fun _ _ _ h => h) hHeld (Or.inl ⟨by rfl, ?ys23⟩) ?rs23
          case ys23 => (intro w hSw; (try dsimp only at hSw); go_simp; try with_reducible rfl)
          try simp only [Act.put, List.setIfInBounds_toArray, List.set_cons_zero, List.set_cons_succ]
          refine region_take 26 (v := ?vs26) rfl rfl (by kernel_rfl) (by kernel_rfl) (by kernel_rfl) (fun _ _ _ h => h) hHeld (Or.inl ⟨by rfl, ?ys26⟩) ?rs26
          case ys26 => (intro w hSw; (try dsimp only at hSw); go_simp; try with_reducible rfl)
          try simp only [Act.put, List.setIfInBounds_toArray, List.set_cons_zero, List.set_cons_succ]
          refine region_take 27 (v := ?vs27) rfl rfl (by kernel_rfl) (by kernel_rfl) (by kernel_rfl) (fun _ _ _ h => h) hHeld (Or.inl ⟨by rfl, ?ys27⟩) ?rs27
          case ys27 => (intro w hSw; (try dsimp only at hSw); go_simp; try with_reducible rfl)
          try simp only [Act.put, List.setIfInBounds_toArray, List.set_cons_zero, List.set_cons_succ]
          refine region_take 28 (v := ?vs28) rfl rfl (by kernel_rfl) (by kernel_rfl) (by kernel_rfl) (fun _ _ _ h => h) hHeld (Or.inl ⟨by rfl, ?ys28⟩) ?rs28
          case ys28 => (intro w hSw; (try dsimp only at hSw); go_simp; try with_reducible rfl)
          try simp only [Act.put, List.setIfInBounds_toArray, List.set_cons_zero, List.set_cons_succ]
          refine region_one 29 (by kernel_rfl) rfl (fun K hK => ?_)
          have hB4 := (HBW.out).touch t4.out (fun h => h)
          obtain ⟨xi, ei⟩ : ∃ xi, ws[i]? = some xi := ⟨_, List.getElem?_eq_getElem (by have := HQ.out.1; omega)⟩
          have cI := hB4.cell i (u32s_at ws ei)
          have fI := hB4.frozen i
          have HB4 := Lib.hid hB4
          clear hB4
          go_simp
          refine hK.out _ _ (⟨(HB4.out.set i _).cell i16 (by rw [Array.getElem?_setIfInBounds_ne (by have := HQ.out.2.2.2.2.2.2.2.2.2.2.2.1; omega)]; exact u32s_at ws (by rw [← HQ.out.2.2.2.2.2.2.2.2.2.2.2.1]; exact HQ.out.2.2.2.2.2.2.2.1)), (HB4.out.set i _).cell i7 (by rw [Array.getElem?_setIfInBounds_ne (by have := HQ.out.2.2.2.2.2.2.2.2.2.2.2.2; omega)]; exact u32s_at ws (by rw [← HQ.out.2.2.2.2.2.2.2.2.2.2.2.2]; exact HQ.out.2.2.2.2.2.2.2.2.1))⟩) (fun _ => ?_)
          clear hK K hHeld
          try simp only [Act.put, List.setIfInBounds_toArray, List.set_cons_zero, List.set_cons_succ]
          refine wpAnyH_done (by kernel_rfl) ?_ _
          have hv : IntKind.u32.wrap (IntKind.u32.wrap (IntKind.u32.wrap ((x16 : Int) + x7) + bits .xor .u32 (bits .xor .u32 ((rotr x15 7 : Nat) : Int) ((rotr x15 18 : Nat) : Int)) ((x15 : Int) / 8)) + bits .xor .u32 (bits .xor .u32 ((rotr x2 17 : Nat) : Int) ((rotr x2 19 : Nat) : Int)) ((x2 : Int) / 1024)) = ((nextFwd (ws.take i) : Nat) : Int) := by
            obtain ⟨hwl, hwr, hwt, hB, hb, e15, e2, e16, e7, h15, h2, h16, h7⟩ := HQ.out
            rw [sig_u32 x15 7 18 8 _ l15 (by omega), sig_u32 x2 17 19 1024 _ l2 (by omega), wrap_u32, wrap_u32, wrap_u32]
            have hl : (ws.take i).length = i := by simp; omega
            have gt : ∀ j x, j < i → ws[j]? = some x → (ws.take i).getD j 0 = x := fun j x hj h => by
              rw [List.getD_eq_getElem?_getD, List.getElem?_take_of_lt hj, h]; rfl
            rw [nextFwd_eq _ (by omega), hl, gt (i - 16) x16 (by omega) e16, gt (i - 7) x7 (by omega) e7, gt (i - 15) x15 (by omega) e15, gt (i - 2) x2 (by omega) e2]
            unfold sig0 sig1 M32
            rw [show x15 >>> 3 = x15 / 8 from Nat.shiftRight_eq_div_pow _ _, show x2 >>> 10 = x2 / 1024 from Nat.shiftRight_eq_div_pow _ _]
            omega
          rw [hv]
          obtain ⟨nx, hnx⟩ : ∃ nx, nextFwd (ws.take i) = nx := ⟨_, rfl⟩
          rw [hnx]
          have HN := Lib.hid (And.intro hnx t4.out)
          clear hnx hv
          go_wp2_with fail
          go_roundw
          case rel =>
            obtain ⟨hwl, hwr, hwt, hB, hb, e15, e2, e16, e7, h15, h2, h16, h7⟩ := HQ.out
            repeat apply Exists.intro
            refine ⟨?_, rfl⟩
            refine ⟨i + 1, ws.set i nx, by omega, by omega, by first | rfl | (congr 1; omega), by simp [hwl], ?_, ?_, ?_, ?_⟩
            · intro j x h
              by_cases e : i = j
              · subst e
                rw [List.getElem?_set_self (by omega)] at h
                cases h
                rw [← HN.out.1]
                exact Nat.mod_lt _ (by decide)
              · rw [List.getElem?_set_ne e] at h
                exact hwr j x h
            · rw [show i + 1 - 16 = i - 16 + 1 by omega, growW_succ, ← hwt, HN.out.1]
              refine List.ext_getElem? fun j => ?_
              have hl : (ws.take i).length = i := by simp; omega
              by_cases e : j < i
              · rw [List.getElem?_take_of_lt (by omega), List.getElem?_set_ne (by omega), List.getElem?_append_left (by omega), List.getElem?_take_of_lt e]
              · by_cases e' : j = i
                · subst e'
                  rw [List.getElem?_take_of_lt (by omega), List.getElem?_set_self (by omega), List.getElem?_append_right (by omega), hl]
                  simp
                · rw [List.getElem?_eq_none (by simp; omega), List.getElem?_eq_none (by simp; omega)]
            · have h := HB4.out.set i (.int .u32 (nx : Int))
              rw [u32s_set] at h
              exact h
            · have ht : Touch (fun k => w.heap.size ≤ k) w u4 := Touch.then (S' := fun _ => False) (Touch.of_below hb) (by have := HN.out.2; rw [HW0.out] at this; exact ((Touch.refl _ _).drewN nq).trans this) (fun _ _ h => h.elim)
              exact (Touch.setCell ht (p := ⟨w.heap.size, i, none⟩) (fun _ => Nat.le_refl _) _).below (Nat.le_refl _) (fun k hk h => by omega)
          case measure => simp [intOf]; omega
    · have hil : i < 16 := by omega
      have hiI : (i : Int) < 16 := by omega
      have kw1 : IntKind.i64.wrap (4 * (i : Int)) = 4 * (i : Int) := by simp [IntKind.wrap, IntKind.bits, IntKind.signed]; split <;> omega
      have kw2 : IntKind.i64.wrap (4 * (i : Int) + 4) = 4 * (i : Int) + 4 := by simp [IntKind.wrap, IntKind.bits, IntKind.signed]; split <;> omega
      have kb1 : (0 : Int) ≤ 4 * (i : Int) := by omega
      have kb2 : (4 * (i : Int)) ≤ 4 * (i : Int) + 4 := by omega
      have kb3 : (4 * (i : Int) + 4) ≤ cap := by omega
      have kn1 : (4 * (i : Int)).toNat = 4 * i := by omega
      have kn2 : (4 * (i : Int) + 4).toNat = 4 * i + 4 := by omega
      have kn3 : 4 * i + 4 - 4 * i = 4 := by omega
      have kc : ¬ cap = 4 * i := by omega
      have HB := Lib.hid (And.intro hwl (And.intro hwr (And.intro hw1 (And.intro hw0 (And.intro hB hb)))))
      clear hwl hwr hw1 hw0 hB hb
      go_wp2_with fail
      go_loopw [20] (fun c wz => ∃ k : Nat, k ≤ 4 ∧ c = .int .i64 k ∧ Blk wz w.heap.size 98 (u32s (ws.set i (partWord bs i k))).toArray ∧ Below w.heap.size w wz) (fun c _ => (4 - (match c with | .int _ q => q | _ => 0)).toNat)
      case atStart =>
        refine ⟨0, Nat.zero_le _, rfl, ?_, HB.out.2.2.2.2.2⟩
        rw [show partWord bs i 0 = 0 from rfl, set_same ws i (HB.out.2.2.2.1 i (Nat.le_refl _) (by omega))]
        exact HB.out.2.2.2.2.1
      case round =>
        obtain ⟨k, hk, rfl, hB, hb⟩ := hrel
        by_cases hq4 : k = 4
        · subst hq4
          have HB2 := Lib.hid (And.intro hB hb)
          clear hB hb
          go_wp2_with fail
          go_roundw
          case rel =>
            obtain ⟨hwl, hwr, hw1, hw0, _, _⟩ := HB.out
            have hp := partWord_lt bs HH.out.2.1 i 4
            refine ⟨i + 1, ws.set i (partWord bs i 4), by omega, by first | rfl | (congr 1; omega), by simp [hwl], ?_, ?_, ?_, HB2.out.1, HB2.out.2⟩
            · intro j x h
              by_cases e : i = j
              · subst e
                rw [List.getElem?_set_self (by omega)] at h
                cases h
                omega
              · rw [List.getElem?_set_ne e] at h
                exact hwr j x h
            · intro j hj
              by_cases e : i = j
              · subst e
                rw [List.getElem?_set_self (by omega)]
              · rw [List.getElem?_set_ne e]
                exact hw1 j (by omega)
            · intro j h1 h2
              rw [List.getElem?_set_ne (by omega)]
              exact hw0 j (by omega) h2
          case measure => simp; omega
        · have hkl : k < 4 := by omega
          have hkI : (k : Int) < 4 := by omega
          obtain ⟨y, hy⟩ : ∃ y, bs[4 * i + k]? = some y := ⟨_, List.getElem?_eq_getElem (by have := HH.out.1; omega)⟩
          have hy2 := HH.out.2.1 y (List.mem_of_getElem? hy)
          have hg : bs.getD (4 * i + k) 0 = y := by rw [List.getD_eq_getElem?_getD, hy]; rfl
          obtain ⟨b, o, rfl, hcell⟩ := (HH.out.2.2.touch (Touch.of_below (S := fun _ => False) hb) (fun _ _ _ h => h)).get (k := 4 * i + k) (u := .int .u8 y) (by simp [bys, natsD, hy])
          rw [← Nat.add_assoc] at hcell
          have hp := partWord_lt bs HH.out.2.1 i k
          have hp3 : (256 : Nat) ^ k ≤ 256 ^ 3 := Nat.pow_le_pow_right (by decide) (by omega)
          have hnx : partWord bs i (k + 1) = partWord bs i k * 256 + y := by rw [← hg]; rfl
          obtain ⟨pk, hpk⟩ : ∃ pk, partWord bs i k = pk := ⟨_, rfl⟩
          rw [hpk] at hB hp hnx
          have hwl := HB.out.1
          have hx := hB.cell i (v := .int .u32 (pk : Int)) (u32s_at _ (by rw [List.getElem?_set_self (by omega)]))
          have hf := hB.frozen i
          have hpl : pk < 16777216 := by omega
          have kw3 : IntKind.u32.wrap ((pk : Int) * 256) = (pk : Int) * 256 := by simp [IntKind.wrap, IntKind.bits, IntKind.signed]; omega
          have kw4 : IntKind.u32.wrap (y : Int) = (y : Int) := by simp [IntKind.wrap, IntKind.bits, IntKind.signed]; omega
          have kw5 : (pk : Int) * 256 % 4294967296 = (pk : Int) * 256 := by omega
          obtain ⟨pn, hpn⟩ : ∃ pn, pk * 256 + y = pn := ⟨_, rfl⟩
          have ho := or_byte32 pk y hpl hy2
          rw [hpn] at ho hnx
          have HK := Lib.hid (And.intro hB (And.intro hb (And.intro hnx hpk)))
          clear hB hb hy hg hp hp3 hnx hpk hpn hwl
          go_wp2_with fail
          go_roundw
          case rel =>
            refine ⟨k + 1, hkl, by first | rfl | (congr 1; omega), ?_, ?_⟩
            · have h := HK.out.1.set i (.int .u32 (pn : Int))
              rw [u32s_set, List.set_set] at h
              rw [HK.out.2.2.1]
              exact h
            · exact (Touch.setCell (S := fun k => w.heap.size ≤ k) (Touch.of_below HK.out.2.1) (p := ⟨w.heap.size, i, none⟩) (fun _ => Nat.le_refl _) _).below (Nat.le_refl _) (fun k hk h => by omega)
          case measure => simp; omega
end Go.Proofs.Ythlkmofemnepbaa
