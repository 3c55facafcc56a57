/-
  A PACKET THAT CAME IN.
-/
import Derived.Test.YthlkmofemnepbaaRows
import Derived.Test.YthlkmofemnepbaaPk
import Derived.Test.YthlkmofemnepbaaArr
namespace Go.Proofs.Ythlkmofemnepbaa
open Go.ChangeShapes Go.WideShapes Go.ChangeAt Go.RowKit

theorem ints_of_each (n : Nat) (cs : List Value) (hl : cs.length = n) (each : ∀ i, i < n → ∃ y : Int, cs[i]? = some (.int .i64 y)) : ∃ c : List Int, c.length = n ∧ cs = ints c := by
  obtain ⟨y, hy⟩ := Go.Deep.choose_lt each
  refine ⟨(List.range n).map y, by simp, ?_⟩
  refine List.ext_getElem? fun i => ?_
  by_cases hi : i < n
  · rw [hy i hi]
    simp [ints, hi]
  · rw [List.getElem?_eq_none (by omega), List.getElem?_eq_none (by simp; omega)]

set_option maxRecDepth 100000 in
theorem pk_of {H : Type} {enc : TypeId × Value → H} {w w' : World} {r : Reach} {base base' : Nat} {spare : Nat → Bool} {held : Bool} {v : Value} {d : DataW H} {p : List MemPlace}
    (o : Value.okWide Try.prog w' r base' 25 v) (h : DataW.Trod enc Try.prog w base spare held 25 v d p) : ∃ q : Pk, q.Ok ∧ v = .agg (pkV q) := by
  obtain ⟨cs, rfl, hsz⟩ := okWide_struct Try.underlying25 o
  have hsz36 : cs.size = 36 := by rw [hsz]; kernel_rfl
  clear hsz o
  obtain ⟨fuel, hf⟩ := h
  obtain ⟨l, hl⟩ : ∃ l, l = cs.toList := ⟨_, rfl⟩
  have hll : l.length = 36 := by rw [hl]; simpa using hsz36
  have hf2 : DataW.trod enc Try.prog w base spare held fuel 25 l = some (d, p) := by rw [hl]; exact hf
  obtain ⟨xs, m, _, _, _, hxl, hx⟩ := DataW.trod_struct Try.underlying25 hf2
  have hxl2 : xs.length = 14 := hxl
  have c3 : Try.prog.cellsOf 3 = 1 := by kernel_rfl
  have c22 : Try.prog.cellsOf 22 = 16 := by kernel_rfl
  have c23 : Try.prog.cellsOf 23 = 8 := by kernel_rfl
  have int_at : ∀ (i : Nat) (f : Field), i < 14 → f.type = 3 → f.offset = i → DataW.trod enc Try.prog w base spare held m f.type ((l.drop f.offset).take (Try.prog.cellsOf f.type)) = xs[i]? → ∃ y : Int, l[i]? = some (.int .i64 y) := by
    intro i f hi h1 h2 h3
    rw [h1, h2, c3, List.getElem?_eq_getElem (by omega)] at h3
    obtain ⟨y, hy, _, _⟩ := DataW.trod_int Try.underlying3 h3
    exact ⟨y, take_one hy⟩
  have each : ∀ i, i < 12 → ∃ y : Int, l[i]? = some (.int .i64 y) := by
    intro i hi
    obtain rfl | rfl | rfl | rfl | rfl | rfl | rfl | rfl | rfl | rfl | rfl | rfl : i = 0 ∨ i = 1 ∨ i = 2 ∨ i = 3 ∨ i = 4 ∨ i = 5 ∨ i = 6 ∨ i = 7 ∨ i = 8 ∨ i = 9 ∨ i = 10 ∨ i = 11 := by omega
    all_goals exact int_at _ _ (by decide) rfl rfl (hx _ _ rfl)
  have hs := hx 12 _ rfl
  have ht := hx 13 _ rfl
  rw [List.getElem?_eq_getElem (by omega)] at hs ht
  obtain ⟨s, s1, s2, s3⟩ := cells_bytes Try.underlying22 Try.underlying5 (by kernel_rfl) c22 hs
  obtain ⟨t, t1, t2, t3⟩ := cells_bytes Try.underlying23 Try.underlying5 (by kernel_rfl) c23 ht
  have s4 : (l.drop 12).take 16 = bn s := by rw [← s3]; exact congrArg (fun n => (l.drop 12).take n) c22.symm
  have t4 : (l.drop 28).take 8 = bn t := by rw [← t3]; exact congrArg (fun n => (l.drop 28).take n) c23.symm
  obtain ⟨n, n1, n2⟩ := ints_of_each 12 (l.take 12) (by simp [hll]) (fun i hi => by
    obtain ⟨y, hy⟩ := each i hi
    exact ⟨y, by rw [List.getElem?_take_of_lt hi]; exact hy⟩)
  refine ⟨⟨n, s, t⟩, ⟨n1, s1, t1, s2, t2⟩, ?_⟩
  have e : l = ints n ++ (bn s ++ bn t) := by
    rw [← n2, ← s4, ← t4]
    have h1 : l.drop 28 = (l.drop 12).drop 16 := by rw [List.drop_drop]
    have h2 : (l.drop 28).take 8 = l.drop 28 := List.take_of_length_le (by simp [hll])
    rw [h2, h1, List.take_append_drop, List.take_append_drop]
  show Value.agg cs = .agg (ints n ++ (bn s ++ bn t)).toArray
  rw [← e, hl]
end Go.Proofs.Ythlkmofemnepbaa
