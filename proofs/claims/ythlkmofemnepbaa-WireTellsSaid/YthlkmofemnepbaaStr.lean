/-
  'string(b)' OF A SLICE OF BYTES WHOSE CELLS ARE KNOWN; strings of numbers.
-/
import Derived.Test.YthlkmofemnepbaaRows
import Derived.Test.YthlkmofemnepbaaKit
import Derived.Laws.BytesArg
import Derived.Lib.SlBytesConst
import Derived.WalkSpells
namespace Go.Proofs.Ythlkmofemnepbaa
open Go.RowKit

theorem run_str {P : Program} (w : World) (src dst e : TypeId) (hs : P.underlying src = some (.slice e)) (he : P.underlying e = some (.int .u8)) (hd : P.underlying dst = some .string)
    (a : Option Addr) (len cap : Nat) (xs : List Int) (hl : xs.length = len) (h : SlAt w a (bys xs)) :
    (convert src dst (.slice a len cap)).run P w = .ok (.string (strOfNums xs)) w := by
  subst hl
  cases a with
  | none =>
    have h0 : bys xs = [] := h
    obtain rfl : xs = [] := by cases xs with | nil => rfl | cons _ _ => simp [bys] at h0
    rw [run_convert_bytes_nil w src e hs he _ _ dst hd]
    rfl
  | some x =>
    obtain ⟨b, o, s⟩ := x
    cases s with
    | none => exact run_convert_bytes_arg w src e hs he b o _ cap xs rfl (fun i hi => (h i _ (bys_at xs hi)).2) dst hd
    | some s =>
      obtain rfl : xs = [] := by
        cases xs with
        | nil => rfl
        | cons z l =>
          have := (h 0 (.int .u8 z) rfl).1
          cases this
      rw [run_convert_bytes_string w src dst e _ _ cap hs he hd]
      have hq := run_loadCells_list (P := P) w ⟨b, o, some s⟩ [] (fun j v hj => by simp at hj)
      rw [run_bytesToString w ⟨b, o, some s⟩ _ cap [] (by simpa using hq)]
      simp [strOfNums]
      rfl

theorem str_inj {xs ys : List Int} (hx : ∀ z ∈ xs, 0 ≤ z ∧ z < 256) (hy : ∀ z ∈ ys, 0 ≤ z ∧ z < 256) (h : strOfNums xs = strOfNums ys) : xs = ys := by
  have hd : (strOfNums xs).data.toList = (strOfNums ys).data.toList := by rw [h]
  rw [strOfNums_data, strOfNums_data] at hd
  have hl : xs.length = ys.length := by simpa using congrArg List.length hd
  refine List.ext_getElem hl fun i h1 h2 => ?_
  have e := congrArg (fun l => l[i]?) hd
  simp only [List.getElem?_map, List.getElem?_eq_getElem h1, List.getElem?_eq_getElem h2, Option.map_some, Option.some.injEq] at e
  have a1 := hx _ (List.getElem_mem h1)
  have a2 := hy _ (List.getElem_mem h2)
  have e2 := congrArg UInt8.toNat e
  simp only [UInt8.toNat_ofNat'] at e2
  omega

theorem str_append (xs ys : List Int) : strOfNums (xs ++ ys) = strOfNums xs ++ strOfNums ys := by
  apply ByteArray.ext
  simp [strOfNums]
end Go.Proofs.Ythlkmofemnepbaa
