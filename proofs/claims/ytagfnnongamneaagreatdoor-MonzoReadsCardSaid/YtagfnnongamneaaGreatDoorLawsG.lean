/- MonzoLaws: the walk. -/
import Derived.Test.YtagfnnongamneaaGreatDoorGH
import Derived.Test.YtagfnnongamneaaGreatDoorGD
import Derived.Test.YtagfnnongamneaaGreatDoorGG
namespace Go.Proofs.YtagfnnongamneaaGreatDoor
open Go.RowKit Go.Lib

theorem rat_eql1 (w : World) : (binOp .eql 39 (.agg #[.string ⟨#[49]⟩, .string ⟨#[49]⟩]) (.agg #[.string ⟨#[49]⟩, .string ⟨#[49]⟩])).run Tryz.prog w = .ok (.bool true) w := by kernel_rfl


theorem same_eq {xv yv : Value} {x y : List Int} {w : World} (hx : IsRow w w.heap.size xv x) (hy : IsRow w w.heap.size yv y) (h : x = y) :
    Calls Tryz.prog 40 #[xv, yv] w fun e w' => e = .returned (.bool true) ∧ Below w.heap.size w w' := by
  have := same_any xv yv x y w hx hy
  rw [show sameB x y = true by unfold sameB; simpa using h] at this
  exact this

/-- The fraction of the interval of 1. -/
theorem fraction_one {pv xv : Value} {p x : List Int} {w : World} (hS : Std w) (hp : IsRow w w.heap.size pv p) (hx : IsRow w w.heap.size xv x) (h0 : primeErr p = 0) (hz : x = zeros p.length) :
    Calls Tryz.prog 109 #[pv, xv] w fun e w' => e = .returned (.tuple #[.agg #[.string ⟨#[49]⟩, .string ⟨#[49]⟩], .int .i64 0]) ∧ Below w.heap.size w w' := by
  subst hz
  have h := fraction_any pv xv p _ w hS hp hx ((SmallRow.zeros (p := p) (m := 0) (by omega)).chk h0 (by omega))
  rw [(num_zeros p p.length).1, (num_zeros p p.length).2, d1] at h
  exact h

end Go.Proofs.YtagfnnongamneaaGreatDoor
