/-
  A REGION THAT DRAWS ITS ORDER, WALKED BY HAND: what is held of the world may be made to say more behind each call. It speaks of no program.
-/
import Derived.Test.YthlkmofemnepbaaKit
import Derived.Deep.RegionHeld3
namespace Go.Proofs.Ythlkmofemnepbaa
open Go.RowKit

section
variable {P : Program} {Q : Exit → Act → World → Prop} {S S' : World → Prop} {l : List Oper}

/-- What is held may say more from here on. -/
theorem region_more (hs : ∀ w, S' w → S w) : ∀ (fuel : Nat) (listed : Array Bool) (a : Act) (w : World), wpAnyH P .any l.toArray Q S' fuel listed a w → wpAnyH P .any l.toArray Q S fuel listed a w
  | 0, _, _, _, h => h
  | fuel + 1, _, _, _, h => ⟨h.1, fun i hi => wpOp_mono (fun a' w' h' => ⟨hs _ h'.1, region_more hs fuel _ a' w' h'.2⟩) (h.2 i hi)⟩

/-- Operation i is taken first. -/
theorem region_take (i : Nat) {oi : Oper} {d : Option Tmp} {v : Value} {fuel : Nat} {listed : Array Bool} {a : Act} {w : World} (hi : l[i]? = some oi) (hd : oi.dst = d)
    (hs : Region.noSelect l.toArray = true) (hf : Region.free .any l.toArray listed i = true) (hr : (Region.ready .any l.toArray listed).contains i = true)
    (hQ : ∀ c a w, Q (.panic c) (a.put d v) w → Q (.panic c) a w) (hS : S w) (hy : YieldsIf P l.toArray S oi v a)
    (h : wpAnyH P .any l.toArray Q S fuel (listed.setIfInBounds i true) (a.put d v) w) : wpAnyH P .any l.toArray Q S (fuel + 1) listed a w := by
  subst hd
  exact wpAnyH_take (by simpa using hi) hs hf hr hQ hy hS h

/-- Operation i alone may come up. -/
theorem region_one (i : Nat) {o : Oper} {fuel : Nat} {listed : Array Bool} {a : Act} {w : World} (hr : Region.ready .any l.toArray listed = [i]) (ho : l[i]? = some o)
    (h : ∀ K' : Act → World → Prop, Shut (∀ a w, S w → (S w → wpAnyH P .any l.toArray Q S fuel (listed.setIfInBounds i true) a w) → K' a w) → if Region.wanted o (yielded l.toArray a.tmps) = true then Oper.wp P o a w K' Q else K' (a.put o.dst undef) w) :
    wpAnyH P .any l.toArray Q S (fuel + 1) listed a w :=
  wpAnyH_ready hr (by simp) (AllReadyH.cons (by simpa using ho) h AllReadyH.nil)
end
end Go.Proofs.Ythlkmofemnepbaa
