/-
  THE WALKS of package digest (layer 2): right; and the document's turn.
-/
import Derived.Test.YthlkmofemnepbaaRows
import Derived.Test.YthlkmofemnepbaaKit
import Derived.Test.YthlkmofemnepbaaDigestPlain
import Derived.WalkSpells
namespace Go.Proofs.Ythlkmofemnepbaa
open Go.RowKit

theorem shr_u32 {P : Program} (x n : Nat) (hn : n ≤ 32) (w : World) : (Op.shift BinOp.shr IntKind.u32 (x : Int) IntKind.i64 (n : Int)).run P w = .ok (.int .u32 ((x >>> n : Nat) : Int)) w := by
  have h1 : ¬ ((n : Int) < 0) := by omega
  have h2 : min ((n : Int).toNat) 32 = n := by simp; omega
  simp only [Op.shift, if_neg h1, IntKind.bits, h2]
  rw [Nat.shiftRight_eq_div_pow]
  simp [Sem.run_pure]
  exact Int.fdiv_eq_ediv_of_nonneg _ (Int.le_of_lt (Int.pow_pos (by decide)))

theorem shl_u32 {P : Program} (x n : Nat) (hn : n ≤ 32) (w : World) : (Op.shift BinOp.shl IntKind.u32 (x : Int) IntKind.i64 (n : Int)).run P w = .ok (.int .u32 ((x <<< n % 4294967296 : Nat) : Int)) w := by
  have h1 : ¬ ((n : Int) < 0) := by omega
  have h2 : min ((n : Int).toNat) 32 = n := by simp; omega
  simp only [Op.shift, if_neg h1, IntKind.bits, h2]
  rw [Nat.shiftLeft_eq]
  simp [Sem.run_pure, IntKind.wrap, IntKind.bits, IntKind.signed]

theorem or_u32 (a b : Nat) (ha : a < 4294967296) (hb : b < 4294967296) : bits .or .u32 (a : Int) (b : Int) = ((a ||| b : Nat) : Int) := by
  have h1 : (BitVec.ofInt 32 (a : Int)).toNat = a := by rw [BitVec.ofInt_natCast, BitVec.toNat_ofNat]; exact Nat.mod_eq_of_lt (by omega)
  have h2 : (BitVec.ofInt 32 (b : Int)).toNat = b := by rw [BitVec.ofInt_natCast, BitVec.toNat_ofNat]; exact Nat.mod_eq_of_lt (by omega)
  have h3 : a ||| b < 2 ^ 32 := Nat.or_lt_two_pow (by omega) (by omega)
  show IntKind.u32.wrap ((BitVec.ofInt 32 (a : Int) ||| BitVec.ofInt 32 (b : Int)).toNat : Int) = _
  rw [BitVec.toNat_or, h1, h2]
  simp [IntKind.wrap, IntKind.bits, IntKind.signed]
  omega

theorem rotr_eq (x n : Nat) (hx : x < 4294967296) : rotr x n = x >>> n ||| x <<< (32 - n) % 4294967296 := by
  unfold rotr M32
  have e : ∀ y : Nat, y % 4294967296 = y % 2 ^ 32 := fun y => rfl
  rw [e, e, Nat.or_mod_two_pow]
  congr 1
  exact Nat.mod_eq_of_lt (Nat.lt_of_le_of_lt (Nat.shiftRight_le x n) (by omega))

set_option maxRecDepth 100000 in
theorem right_any (x n : Nat) (hx : x < 4294967296) (h1 : 1 ≤ n) (h2 : n ≤ 31) (w : World) : Calls Try.prog 89 #[.int .u32 x, .int .i64 n] w fun e w' => e = .returned (.int .u32 (rotr x n)) ∧ Touch (fun _ => False) w w' := by
  have sr := fun (w : World) => shr_u32 (P := Try.prog) x n (by omega) w
  obtain ⟨m, hm⟩ : ∃ m, m = 32 - n := ⟨_, rfl⟩
  have sl := fun (w : World) => shl_u32 (P := Try.prog) x m (by omega) w
  have kw : IntKind.i64.wrap (32 - (n : Int)) = (m : Int) := by
    have : (32 - (n : Int)) = (m : Int) := by omega
    rw [this]
    simp [IntKind.wrap, IntKind.bits, IntKind.signed]
    split <;> omega
  obtain ⟨p, hp⟩ : ∃ p, p = x >>> n := ⟨_, rfl⟩
  obtain ⟨q, hq⟩ : ∃ q, q = x <<< m % 4294967296 := ⟨_, rfl⟩
  have e := rotr_eq x n hx
  rw [← hm, ← hp, ← hq] at e
  have pl : p < 4294967296 := by rw [hp]; exact Nat.lt_of_le_of_lt (Nat.shiftRight_le x n) hx
  have ql : q < 4294967296 := by rw [hq]; exact Nat.mod_lt _ (by decide)
  have ho := or_u32 p q pl ql
  rw [e]
  rw [← hp] at sr
  rw [← hq] at sl
  have hm32 : m ≤ 32 := by omega
  have e1 : (x : Int) / 2 ^ n = (p : Int) := by rw [hp, Nat.shiftRight_eq_div_pow]; simp
  have e2 : (x : Int) * 2 ^ m % 4294967296 = (q : Int) := by rw [hq, Nat.shiftLeft_eq]; simp
  have HE := Lib.hid (And.intro e1 (And.intro e2 ho))
  clear e hp hq hm e1 e2 ho sr sl
  have hn0 : ¬ (n : Int) < 0 := by omega
  go_enter Try.func89, Try.ntmps89
  go_wp2
  go_quiet (fail)
  go_wp2
  go_ret
  refine ⟨?_, (Touch.refl _ _).drewN _⟩
  have h := HE.out
  rw [← h.2.2, ← h.1, ← h.2.1]
  rfl

set_option maxRecDepth 100000 in
theorem turn_any (x n : Nat) (hx : x < 4294967296) (h1 : 1 ≤ n) (h2 : n ≤ 31) (w : World) : Calls Try.prog 92 #[.int .u32 x, .int .i64 n] w fun e w' => e = .returned (.int .u32 (rotr x n)) ∧ Touch (fun _ => False) w w' := by
  have sr := fun (w : World) => shr_u32 (P := Try.prog) x n (by omega) w
  obtain ⟨m, hm⟩ : ∃ m, m = 32 - n := ⟨_, rfl⟩
  have sl := fun (w : World) => shl_u32 (P := Try.prog) x m (by omega) w
  have kw : IntKind.i64.wrap (32 - (n : Int)) = (m : Int) := by
    have : (32 - (n : Int)) = (m : Int) := by omega
    rw [this]
    simp [IntKind.wrap, IntKind.bits, IntKind.signed]
    split <;> omega
  obtain ⟨p, hp⟩ : ∃ p, p = x >>> n := ⟨_, rfl⟩
  obtain ⟨q, hq⟩ : ∃ q, q = x <<< m % 4294967296 := ⟨_, rfl⟩
  have e := rotr_eq x n hx
  rw [← hm, ← hp, ← hq] at e
  have pl : p < 4294967296 := by rw [hp]; exact Nat.lt_of_le_of_lt (Nat.shiftRight_le x n) hx
  have ql : q < 4294967296 := by rw [hq]; exact Nat.mod_lt _ (by decide)
  have ho := or_u32 p q pl ql
  rw [e]
  rw [← hp] at sr
  rw [← hq] at sl
  have hm32 : m ≤ 32 := by omega
  have e1 : (x : Int) / 2 ^ n = (p : Int) := by rw [hp, Nat.shiftRight_eq_div_pow]; simp
  have e2 : (x : Int) * 2 ^ m % 4294967296 = (q : Int) := by rw [hq, Nat.shiftLeft_eq]; simp
  have HE := Lib.hid (And.intro e1 (And.intro e2 ho))
  clear e hp hq hm e1 e2 ho sr sl
  have hn0 : ¬ (n : Int) < 0 := by omega
  go_enter Try.func92, Try.ntmps92
  go_wp2
  go_quiet (fail)
  go_wp2
  go_ret
  refine ⟨?_, (Touch.refl _ _).drewN _⟩
  have h := HE.out
  rw [← h.2.2, ← h.1, ← h.2.1]
  rfl

def shaKC : Array Value := #[.int .u32 1116352408, .int .u32 1899447441, .int .u32 3049323471, .int .u32 3921009573, .int .u32 961987163, .int .u32 1508970993, .int .u32 2453635748, .int .u32 2870763221, .int .u32 3624381080, .int .u32 310598401, .int .u32 607225278, .int .u32 1426881987, .int .u32 1925078388, .int .u32 2162078206, .int .u32 2614888103, .int .u32 3248222580, .int .u32 3835390401, .int .u32 4022224774, .int .u32 264347078, .int .u32 604807628, .int .u32 770255983, .int .u32 1249150122, .int .u32 1555081692, .int .u32 1996064986, .int .u32 2554220882, .int .u32 2821834349, .int .u32 2952996808, .int .u32 3210313671, .int .u32 3336571891, .int .u32 3584528711, .int .u32 113926993, .int .u32 338241895, .int .u32 666307205, .int .u32 773529912, .int .u32 1294757372, .int .u32 1396182291, .int .u32 1695183700, .int .u32 1986661051, .int .u32 2177026350, .int .u32 2456956037, .int .u32 2730485921, .int .u32 2820302411, .int .u32 3259730800, .int .u32 3345764771, .int .u32 3516065817, .int .u32 3600352804, .int .u32 4094571909, .int .u32 275423344, .int .u32 430227734, .int .u32 506948616, .int .u32 659060556, .int .u32 883997877, .int .u32 958139571, .int .u32 1322822218, .int .u32 1537002063, .int .u32 1747873779, .int .u32 1955562222, .int .u32 2024104815, .int .u32 2227730452, .int .u32 2361852424, .int .u32 2428436474, .int .u32 2756734187, .int .u32 3204031479, .int .u32 3329325298]

set_option maxRecDepth 100000 in
theorem constants_any (w : World) : Calls Try.prog 87 #[] w fun e w' => e = .returned (.agg shaKC) ∧ Touch (fun _ => False) w w' := by
  go_enter Try.func87, Try.ntmps87
  go_wp2_with (first
    | (refine wpList_val (o := ⟨some 1, _, _, _, _, _⟩) rfl (.agg shaKC) (by kernel_rfl) ?_)
    | (refine wpList_store_blk rfl 98 (.tmp 0) (.tmp 1) rfl w.heap.size 98 _ shaKC rfl rfl (Blk.new _ _ _) (by kernel_rfl) (by kernel_rfl) (by kernel_rfl) ?_; intro w1 hB ht hs))
  refine bodyPost_ret (results_cell_row rfl _ _ w.heap.size 98 shaKC (0, 0) _ rfl hB Try.underlying98 rfl (by kernel_rfl)) rfl ⟨rfl, ?_⟩
  exact Touch.then (S' := fun k => k = w.heap.size) ((Touch.refl _ _).alloc _) ht (fun i hi e => by omega)
end Go.Proofs.Ythlkmofemnepbaa
