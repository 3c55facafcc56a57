/-
  THE WALK over nightjarlaw03.small: the small case comes out right.
-/
import Derived.Test.YthlkmofemnepbaaRows
import Derived.Test.YthlkmofemnepbaaMacOf
import Derived.Test.YthlkmofemnepbaaMacEqual
import Derived.Test.YthlkmofemnepbaaSlices
namespace Go.Proofs.Ythlkmofemnepbaa
open Go.RowKit

theorem slat_none (w : World) : SlAt w none (bn []) := rfl

set_option maxRecDepth 100000 in
theorem macOf_eq (a : Option Addr) (nk cap : Nat) (key : List Nat) (ap : Option Addr) (n cp : Nat) (L : List Part) (b : List Nat) (w : World) (hk : key.length = nk) (hb : flatP L = b) (hl : L.length = n) (hs : SlAt w a (bn key)) (hc : a = none → cap = 0) (hr : ∀ y ∈ key, y < 256) (hn : nk ≤ 100000)
    (hp : PartsIn w ap L) (hpc : ap = none → cp = 0) (hpr : ∀ y ∈ b, y < 256) (hpn : b.length ≤ 100000) (hm : n ≤ 1000) :
    Calls Try.prog 56 #[.slice a nk cap, .slice ap n cp] w fun e w' => e = .returned (.agg (bn (hmac key b)).toArray) ∧ Below w.heap.size w w' := by
  subst hk hb hl
  exact macOf_any a cap key ap cp L w hs hc hr hn hp hpc hpr hpn hm

set_option maxRecDepth 100000 in
theorem macEqual_eq (r : Bool) (a : Option Addr) (n ca : Nat) (x : List Nat) (b : Option Addr) (m cb : Nat) (y : List Nat) (w : World) (hr : decide (x = y) = r) (hn : x.length = n) (hm : y.length = m) (hx : SlAt w a (bn x)) (hy : SlAt w b (bn y)) (hxr : ∀ z ∈ x, z < 256) (hyr : ∀ z ∈ y, z < 256) (hnl : n ≤ 9223372036854775807) (hml : m ≤ 9223372036854775807) :
    Calls Try.prog 60 #[.slice a n ca, .slice b m cb] w fun e w' => e = .returned (.bool r) ∧ Touch (fun _ => False) w w' := by
  subst hn hm hr
  exact macEqual_any a ca x b cb y w hx hy hxr hyr hnl hml

end Go.Proofs.Ythlkmofemnepbaa
