/-
  WHAT WAS THERE AT ONE WORLD IS THERE LATER: only blocks that are newer may have turned. It speaks of no program.
-/
import Derived.Test.YthlkmofemnepbaaKit
import Derived.Test.YthlkmofemnepbaaConcat
import Derived.Test.YthlkmofemnepbaaRegionTwo
namespace Go.Proofs.Ythlkmofemnepbaa
open Go.RowKit

/-- Since the world u only what was made behind it may have turned. -/
def TG (u w : World) : Prop := Touch (fun k => u.heap.size ≤ k) u w
theorem TG.refl (u : World) : TG u u := Touch.refl _ _
theorem TG.drew {u w : World} (h : TG u w) : TG u w.drew := Touch.drew h
theorem TG.size {u w : World} (h : TG u w) : u.heap.size ≤ w.heap.size := Touch.size h
theorem TG.next {u w w' : World} {C : Nat → Prop} (h : TG u w) (t : Touch C w w') (hC : ∀ i, C i → u.heap.size ≤ i) : TG u w' := Touch.then h t (fun i _ hi => hC i hi)
theorem TG.still {u w w' : World} (h : TG u w) (t : Touch (fun _ => False) w w') : TG u w' := h.next t (fun _ h => h.elim)
theorem TG.still2 {u w : World} (h : TG u w) : Touch (fun _ => False) u w := ⟨h.os, h.tape, h.output, Touch.size h, fun k hk _ => h.block k hk (by omega)⟩
theorem TG.of_still {u w : World} (t : Touch (fun _ => False) u w) : TG u w := t.mono (fun _ _ h => h.elim)
theorem TG.trans {u v w : World} (h : TG u v) (t : TG v w) : TG u w := h.still t.still2
theorem Blk.tg {u w : World} {b : Nat} {T : TypeId} {c : Array Value} (h : Blk u b T c) (t : TG u w) : Blk w b T c := h.touch t.still2 (fun h => h)
theorem SlAt.tg {u w : World} {a : Option Addr} {cs : List Value} (h : SlAt u a cs) (t : TG u w) : SlAt w a cs := h.touch t.still2 (fun _ _ _ h => h)
theorem PartsIn.tg {u w : World} {a : Option Addr} {L : List Part} (h : PartsIn u a L) (t : TG u w) : PartsIn w a L := h.touch t.still2 (fun _ _ _ h => h) (fun _ _ _ _ _ h => h)
theorem owns_tg {u w : World} {base : Nat} {e : TypeId} {size : Nat} {v : Value} {n : Nat} {xs : List Value} (h : u.ownsRow base e size v n xs) (t : TG u w) : w.ownsRow base e size v n xs := owns_touch h t.still2 (fun _ _ h => h)
end Go.Proofs.Ythlkmofemnepbaa
