/-
  AN ARRAY OF BYTES THAT CAME IN.
-/
import Derived.Test.YthlkmofemnepbaaRows
import Derived.Test.YthlkmofemnepbaaDigestLib
namespace Go.Proofs.Ythlkmofemnepbaa
open Go.ChangeShapes Go.WideShapes Go.ChangeAt Go.RowKit

theorem okWide_array {P : Program} {w : World} {r : Reach} {base : Nat} {t : TypeId} {v : Value} {n : Nat} {e : TypeId} (ht : P.underlying t = some (.array n e)) (h : Value.okWide P w r base t v) : ∃ cs, v = .agg cs ∧ cs.size = P.cellsOf t := by
  simp only [Value.okWide, ht] at h
  obtain ⟨cs, h1, h2, _⟩ := h
  exact ⟨cs, h1, h2⟩

theorem take_one {α : Type} {l : List α} {i : Nat} {x : α} (h : (l.drop i).take 1 = [x]) : l[i]? = some x := by
  have h2 := congrArg (fun l => l[0]?) h
  simpa using h2

theorem bn_of_each (n : Nat) (cs : List Value) (hl : cs.length = n) (each : ∀ i, i < n → ∃ y : Nat, cs[i]? = some (.int .u8 (y : Int)) ∧ y < 256) : ∃ c : List Nat, c.length = n ∧ (∀ y ∈ c, y < 256) ∧ cs = bn c := by
  obtain ⟨y, hy⟩ := Go.Deep.choose_lt each
  refine ⟨(List.range n).map y, by simp, fun z hz => ?_, ?_⟩
  · rw [List.mem_map] at hz
    obtain ⟨i, hi, rfl⟩ := hz
    rw [List.mem_range] at hi
    exact (hy i hi).2
  · refine List.ext_getElem? fun i => ?_
    by_cases hi : i < n
    · rw [(hy i hi).1]
      simp [bn, bys, natsD, hi]
    · rw [List.getElem?_eq_none (by omega), List.getElem?_eq_none (by simp [bn_len]; omega)]

theorem cells_bytes {H : Type} {P : Program} {enc : TypeId × Value → H} {w : World} {base : Nat} {spare : Nat → Bool} {held : Bool} {fuel : Nat} {t e : TypeId} {n : Nat} {cs : List Value} {x : DataW H × List MemPlace}
    (ht : P.underlying t = some (.array n e)) (he : P.underlying e = some (.int .u8)) (ce : P.cellsOf e = 1) (ct : P.cellsOf t = n) (h : DataW.trod enc P w base spare held fuel t cs = some x) :
    ∃ c : List Nat, c.length = n ∧ (∀ y ∈ c, y < 256) ∧ cs = bn c := by
  obtain ⟨xs, m, rfl, rfl, hl, hn, hx⟩ := DataW.trod_array ht h
  rw [ct] at hl
  refine bn_of_each n cs hl fun i hi => ?_
  have h1 := hx i hi
  rw [ce, Nat.mul_one, List.getElem?_eq_getElem (by omega)] at h1
  obtain ⟨k, hk, _, hw⟩ := DataW.trod_int he h1
  have hb := bounds_u8 hw
  refine ⟨k.toNat, ?_, by omega⟩
  rw [take_one hk]
  congr 2
  omega

/-- An array of bytes, as an argument. -/
theorem array_of {H : Type} {P : Program} {enc : TypeId × Value → H} {w w' : World} {r : Reach} {base base' : Nat} {spare : Nat → Bool} {held : Bool} {t e : TypeId} {n : Nat} {v : Value} {d : DataW H} {p : List MemPlace}
    (ht : P.underlying t = some (.array n e)) (he : P.underlying e = some (.int .u8)) (ce : P.cellsOf e = 1) (ct : P.cellsOf t = n) (o : Value.okWide P w' r base' t v) (h : DataW.Trod enc P w base spare held t v d p) :
    ∃ c : List Nat, c.length = n ∧ (∀ y ∈ c, y < 256) ∧ v = .agg (bn c).toArray := by
  obtain ⟨cs, rfl, _⟩ := okWide_array ht o
  obtain ⟨fuel, hf⟩ := h
  obtain ⟨c, h1, h2, h3⟩ := cells_bytes ht he ce ct hf
  refine ⟨c, h1, h2, ?_⟩
  have h4 : cs.toList = bn c := h3
  rw [← h4]
end Go.Proofs.Ythlkmofemnepbaa
