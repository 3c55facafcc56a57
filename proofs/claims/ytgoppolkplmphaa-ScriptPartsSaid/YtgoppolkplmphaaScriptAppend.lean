/-
  AN APPEND OF ACTS, as a step of a region (layer 26).
-/
import Derived.Test.YtgoppolkplmphaaRows
import Derived.Test.YtgoppolkplmphaaScriptPlain
import Derived.Test.YtgoppolkplmphaaRegion
namespace Go.Proofs.Ytgoppolkplmphaa
open Go.RowKit

section
variable {P : Program} {Q : Exit → Act → World → Prop} {S : World → Prop} {l : List Oper}
/-- One of two operations may come up. -/
theorem region_two (i j : Nat) {oi oj : Oper} {fuel : Nat} {listed : Array Bool} {a : Act} {w : World} (hr : Region.ready .any l.toArray listed = [i, j]) (ho : l[i]? = some oi) (ho' : l[j]? = some oj)
    (h : ∀ K' : Act → World → Prop, Shut (∀ a w, S w → (S w → wpAnyH P .any l.toArray Q S fuel (listed.setIfInBounds i true) a w) → K' a w) → if Region.wanted oi (yielded l.toArray a.tmps) = true then Oper.wp P oi a w K' Q else K' (a.put oi.dst undef) w)
    (h' : ∀ K' : Act → World → Prop, Shut (∀ a w, S w → (S w → wpAnyH P .any l.toArray Q S fuel (listed.setIfInBounds j true) a w) → K' a w) → if Region.wanted oj (yielded l.toArray a.tmps) = true then Oper.wp P oj a w K' Q else K' (a.put oj.dst undef) w) :
    wpAnyH P .any l.toArray Q S (fuel + 1) listed a w :=
  wpAnyH_ready hr (by simp) (AllReadyH.cons (by simpa using ho) h (AllReadyH.cons (by simpa using ho') h' AllReadyH.nil))
end

theorem rowCells_lenP (R : ActRow) : (rowCells R).length = R.length * 8 := by
  induction R with
  | nil => rfl
  | cons q R ih =>
    have h : rowCells (q :: R) = actCells q ++ rowCells R := by simp [rowCells]
    rw [h, List.length_append, ih]
    simp [actCells]
    omega

theorem rowCells_one (R : ActRow) : ∀ u ∈ rowCells R, u.oneCell' = true := by
  intro u hu
  unfold rowCells at hu
  rw [List.mem_flatMap] at hu
  obtain ⟨q, _, h⟩ := hu
  exact act_one q u h

theorem step_append_acts {ops : Array Oper} {o : Oper} {a : Act} {w : World} {K : Act → World → Prop} {Q : Exit → Act → World → Prop} {E : Prop} (hg : o.guard = none) (s x : Operand)
    (ho : o.op = .call { callee := .builtin .append, args := #[s, x], argTypes := #[47, 47] })
    (base : Nat) (v : Value) (R : ActRow) (hs : a.eval s = v) (hown : ActsOwn w base v R) (ao : Option Addr) (m c : Nat) (R2 : ActRow) (hx : a.eval x = .slice ao m c) (hm : R2.length = m) (h2 : ActsOwn w base (.slice ao m c) R2)
    (hn : R.length + m ≤ 90000) (hbase : base ≤ w.heap.size)
    (h : ∀ v' w', ActsOwn w' base v' (R ++ R2) → w.grownBy w' v.ownBlock → K (a.put o.dst v') w') :
    if Region.wanted o (yielded ops a.tmps) = true then Oper.wp Try.prog o a w K Q else E := by
  obtain ⟨i0, hi, hz0, hz1, hz2⟩ := info_parts Try.info55
  have fin : ∀ v' w', w'.ownsRow base 55 8 v' (R.length + m) (rowCells R ++ rowCells R2) → w.grownBy w' v.ownBlock → ActsOwn w' base v' (R ++ R2) := fun v' w' k1 k2 => by
    have t : Touch (fun k => v.ownBlock = some k) w w' := (Touch.refl _ _).grown k2 (fun k hk _ => hk)
    refine ⟨?_, fun q hq => ?_⟩
    · have e : rowCells (R ++ R2) = rowCells R ++ rowCells R2 := by simp [rowCells]
      rw [e, List.length_append, hm]
      exact k1
    · rcases List.mem_append.1 hq with hq | hq
      · exact owns_touch (hown.bytes q hq) t (fun k hk e => owns_apart hown.row (hown.bytes q hq) (by decide) k e hk)
      · exact owns_touch (h2.bytes q hq) t (fun k hk e => owns_apart hown.row (h2.bytes q hq) (by decide) k e hk)
  cases ao with
  | some ad =>
    have hr := RowAt.of_owns h2
    exact step_append_own hg s x 47 ho base 55 i0 (.agg #[.int .i64 0, .int .i64 0, .int .i64 0, .int .i64 0, .int .i64 0, .int .i64 0, .int .i64 0, .slice none 0 0]) 8 80 Try.underlying47 hi hz0 hz1 hz2 (by rfl) (by decide) v R.length (rowCells R) hs hown.row ad m c (rowCells R2) hx (by rw [rowCells_lenP, hm]) hr.cells.at (rowCells_one R2) (by unfold maxLen; omega) (by omega) hbase (fun v' w' k1 k2 _ => h v' w' (fin v' w' k1 k2) k2)
  | none =>
    obtain ⟨_, _, e, h0, _⟩ := owns_form h2.row
    simp only [Value.slice.injEq] at e
    obtain ⟨ea, em, ec⟩ := e
    obtain ⟨hm0, hc0⟩ := h0 ea.symm
    have hR2 : R2 = [] := List.eq_nil_of_length_eq_zero hm0
    have hm1 : m = 0 := by omega
    have hc1 : c = 0 := by omega
    subst hR2 hm1 hc1
    rw [if_pos (by simp [Region.wanted, hg])]
    have hr := run_append_owned_none (P := Try.prog) (w := w) base 47 o.type 55 i0 8 Try.underlying47 hi v R.length (rowCells R) hown.row
    unfold Oper.wp execOp
    simp only [ho, resolve, invoke, builtin, Sem.run_bind, Sem.run_pure, Result.andThen_ok, List.map_toArray, List.map_cons, List.map_nil, hs, hx, hr]
    exact h v w (by simpa using hown) (World.grownBy.refl _ _)
end Go.Proofs.Ytgoppolkplmphaa
