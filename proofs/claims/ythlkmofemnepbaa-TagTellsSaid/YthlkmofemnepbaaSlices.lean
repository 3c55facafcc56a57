/-
  SLICES OF A SLICE under one name for their address; what operations yield in a region that draws its order. It speaks of no program.
-/
import Derived.Test.YthlkmofemnepbaaKit
import Derived.Test.YthlkmofemnepbaaStr
namespace Go.Proofs.Ythlkmofemnepbaa
open Go.RowKit

/-- Where s[l:] begins: behind an array's end the address stays. -/
def slAd (a : Option Addr) (c l : Nat) : Option Addr := if c = l then a else a.map (·.add l)
theorem slAd_none {a : Option Addr} {c l : Nat} (h : slAd a c l = none) : a = none := by
  unfold slAd at h
  split at h
  · exact h
  · simpa using h
theorem slAd_block {a : Option Addr} {c l : Nat} {x : Addr} (h : slAd a c l = some x) : ∃ y, a = some y ∧ y.block = x.block := by
  unfold slAd at h
  split at h
  · exact ⟨x, h, rfl⟩
  · rw [Option.map_eq_some_iff] at h
    obtain ⟨y, h1, h2⟩ := h
    refine ⟨y, h1, ?_⟩
    rw [← h2]
    unfold Addr.add
    split <;> rfl
theorem SlAt.from {w : World} {a : Option Addr} {cs : List Value} (h : SlAt w a cs) {l c : Nat} (hc : cs.length ≤ c) : SlAt w (slAd a c l) (cs.drop l) := h.sliced hc

section
variable {P : Program} {w : World} {t e : TypeId} {i0 : TypeInfo} {a : Option Addr} {n c l h : Nat}

theorem run_bound {x : Nat} {y : Nat} {code : BoundsCode} (hx : x ≤ y) : (Instr.sliceBound (.int .i64 (x : Int)) y code).run P w = .ok x w := by
  have : (0 : Int) ≤ x ∧ (x : Int) ≤ y := by omega
  simp [Instr.sliceBound, asIntOf, hx]

theorem run_slice_lh (hu : P.underlying t = some (.slice e)) (hi : P.info? e = some i0) (hs : P.cellsOf e = 1) (hl : l ≤ h) (hh : h ≤ c) :
    (Instr.sliceAt t (.slice a n c) (some (.int .i64 (l : Int))) (some (.int .i64 (h : Int))) none).run P w = .ok (.slice (slAd a c l) (h - l) (c - l)) w := by
  simp [Instr.sliceAt, Instr.slice, run_underlying hu, Instr.sliceBounds, run_bound hh, run_bound hl, run_sizeOf w hi, hs, slAd]
theorem run_slice_h (hu : P.underlying t = some (.slice e)) (hi : P.info? e = some i0) (hs : P.cellsOf e = 1) (hh : h ≤ c) :
    (Instr.sliceAt t (.slice a n c) none (some (.int .i64 (h : Int))) none).run P w = .ok (.slice (slAd a c 0) h c) w := by
  simp [Instr.sliceAt, Instr.slice, run_underlying hu, Instr.sliceBounds, run_bound hh, run_sizeOf w hi, hs, slAd]
theorem run_slice_l (hu : P.underlying t = some (.slice e)) (hi : P.info? e = some i0) (hs : P.cellsOf e = 1) (hl : l ≤ n) :
    (Instr.sliceAt t (.slice a n c) (some (.int .i64 (l : Int))) none none).run P w = .ok (.slice (slAd a c l) (n - l) (c - l)) w := by
  simp [Instr.sliceAt, Instr.slice, run_underlying hu, Instr.sliceBounds, run_bound hl, run_sizeOf w hi, hs, slAd]
end

section
variable {P : Program} {o : Oper} {a : Act} {w : World}
theorem yields_slice (ty : TypeId) (x : Operand) (lo hi : Option Operand) (ho : o.op = .slice ty x lo hi none) {v : Value} (vx : Value) (vl vh : Option Value) (hx : a.eval x = vx) (hlo : lo.map a.eval = vl) (hhi : hi.map a.eval = vh)
    (hr : (Instr.sliceAt ty vx vl vh none).run P w = .ok v w) : (execOp a.eval o).run P w = .ok (.value v) w := by
  subst hx hlo hhi
  unfold execOp
  simp only [ho, Option.map_none, Sem.run_bind, hr, Result.andThen_ok, Sem.run_pure]
theorem yields_load_blk (ty : TypeId) (x : Operand) (ho : o.op = .load ty x) (b : Nat) (T : TypeId) (c : Array Value) (d : TypeDesc) (hx : a.eval x = .pointer (some ⟨b, 0, none⟩)) (hB : Blk w b T c) (hu : P.underlying ty = some d) (hd : (match d with | .struct _ | .array _ _ => true | _ => false) = true) (hi : (P.info? ty).map (·.size) = some c.size) :
    (execOp a.eval o).run P w = .ok (.value (.agg c)) w := by
  unfold execOp
  simp only [ho, hx, Instr.loadAt, Instr.sureAddr, Sem.run_bind, Sem.run_pure, Result.andThen_ok, run_loadVar_row w b T ty c (0, 0) d hB hu hd hi]
theorem yields_str (src dst e : TypeId) (x : Operand) (ho : o.op = .convert src dst x) (hs : P.underlying src = some (.slice e)) (he : P.underlying e = some (.int .u8)) (hd : P.underlying dst = some .string)
    (ad : Option Addr) (len cap : Nat) (xs : List Int) (hx : a.eval x = .slice ad len cap) (hl : xs.length = len) (h : SlAt w ad (bys xs)) : (execOp a.eval o).run P w = .ok (.value (.string (strOfNums xs))) w := by
  unfold execOp
  simp only [ho, hx, Sem.run_bind, run_str w src dst e hs he hd ad len cap xs hl h, Result.andThen_ok, Sem.run_pure]
end
end Go.Proofs.Ythlkmofemnepbaa
