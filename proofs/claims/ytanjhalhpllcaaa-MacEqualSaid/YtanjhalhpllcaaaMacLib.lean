/-
  What the laws of digests by a key share.
-/
import Derived.Test.YtanjhalhpllcaaaRows
import Derived.Test.YtanjhalhpllcaaaDigestLib
import Derived.Test.YtanjhalhpllcaaaMacSmall
import Derived.Test.YtanjhalhpllcaaaRegionTwo
namespace Go.Proofs.Ytanjhalhpllcaaa
open Go.RowKit

theorem run_eql_same (w : World) (D : List Nat) (hl : D.length = 32) (hr : ∀ y ∈ D, y < 256) : (binOp .eql 24 (.agg (bn D).toArray) (.agg (bn D).toArray)).run Try.prog w = .ok (.bool true) w := by
  obtain ⟨i0, hi, hz0, hz1, hz2⟩ := info_parts Try.info5
  have h := run_eql_bn (P := Try.prog) w 24 5 32 Try.underlying24 Try.underlying5 (fun w => by rw [run_sizeOf w hi]; rfl) D D hl hl hr hr
  rw [h]
  simp

end Go.Proofs.Ytanjhalhpllcaaa
