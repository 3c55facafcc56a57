/-
  A REGION THAT DRAWS ITS ORDER, WALKED BY HAND: where more than one operation may come up; the world under a new name. It speaks of no program.
-/
import Derived.Test.YthlkmofemnepbaaRegion
namespace Go.Proofs.Ythlkmofemnepbaa
open Go.RowKit

section
variable {P : Program} {Q : Exit → Act → World → Prop} {S : World → Prop} {l : List Oper}
/-- One of two operations may come up. -/
theorem region_two (i j : Nat) {oi oj : Oper} {fuel : Nat} {listed : Array Bool} {a : Act} {w : World} (hr : Region.ready .any l.toArray listed = [i, j]) (ho : l[i]? = some oi) (ho' : l[j]? = some oj)
    (h : ∀ K' : Act → World → Prop, Shut (∀ a w, S w → (S w → wpAnyH P .any l.toArray Q S fuel (listed.setIfInBounds i true) a w) → K' a w) → if Region.wanted oi (yielded l.toArray a.tmps) = true then Oper.wp P oi a w K' Q else K' (a.put oi.dst undef) w)
    (h' : ∀ K' : Act → World → Prop, Shut (∀ a w, S w → (S w → wpAnyH P .any l.toArray Q S fuel (listed.setIfInBounds j true) a w) → K' a w) → if Region.wanted oj (yielded l.toArray a.tmps) = true then Oper.wp P oj a w K' Q else K' (a.put oj.dst undef) w) :
    wpAnyH P .any l.toArray Q S (fuel + 1) listed a w :=
  wpAnyH_ready hr (by simp) (AllReadyH.cons (by simpa using ho) h (AllReadyH.cons (by simpa using ho') h' AllReadyH.nil))
/-- One of three. -/
theorem region_three (i j k : Nat) {oi oj ok : Oper} {fuel : Nat} {listed : Array Bool} {a : Act} {w : World} (hr : Region.ready .any l.toArray listed = [i, j, k]) (ho : l[i]? = some oi) (ho' : l[j]? = some oj) (ho'' : l[k]? = some ok)
    (h : ∀ K' : Act → World → Prop, Shut (∀ a w, S w → (S w → wpAnyH P .any l.toArray Q S fuel (listed.setIfInBounds i true) a w) → K' a w) → if Region.wanted oi (yielded l.toArray a.tmps) = true then Oper.wp P oi a w K' Q else K' (a.put oi.dst undef) w)
    (h' : ∀ K' : Act → World → Prop, Shut (∀ a w, S w → (S w → wpAnyH P .any l.toArray Q S fuel (listed.setIfInBounds j true) a w) → K' a w) → if Region.wanted oj (yielded l.toArray a.tmps) = true then Oper.wp P oj a w K' Q else K' (a.put oj.dst undef) w)
    (h'' : ∀ K' : Act → World → Prop, Shut (∀ a w, S w → (S w → wpAnyH P .any l.toArray Q S fuel (listed.setIfInBounds k true) a w) → K' a w) → if Region.wanted ok (yielded l.toArray a.tmps) = true then Oper.wp P ok a w K' Q else K' (a.put ok.dst undef) w) :
    wpAnyH P .any l.toArray Q S (fuel + 1) listed a w :=
  wpAnyH_ready hr (by simp) (AllReadyH.cons (by simpa using ho) h (AllReadyH.cons (by simpa using ho') h' (AllReadyH.cons (by simpa using ho'') h'' AllReadyH.nil)))
/-- The world under a new name: of it only what is held is known from here on. -/
theorem anyH_world {R : World → Prop} {fuel : Nat} {listed : Array Bool} {a : Act} {w : World} (hR : R w) (h : ∀ w', R w' → wpAnyH P .any l.toArray Q S fuel listed a w') : wpAnyH P .any l.toArray Q S fuel listed a w := h w hR
end
theorem K_world {K : Act → World → Prop} {a : Act} {w : World} (R : World → Prop) (hR : R w) (h : ∀ w', R w' → K a w') : K a w := h w hR
end Go.Proofs.Ythlkmofemnepbaa
