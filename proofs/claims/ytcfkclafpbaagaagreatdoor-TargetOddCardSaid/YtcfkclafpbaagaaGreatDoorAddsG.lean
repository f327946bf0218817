/- MonzoAdds: the walk. -/
import Derived.Test.YtcfkclafpbaagaaGreatDoorAddsPG
import Derived.Test.YtcfkclafpbaagaaGreatDoorLawsG
namespace Go.Proofs.YtcfkclafpbaagaaGreatDoor
open Go.RowKit Go.Lib

theorem IsRow.at_ {w : World} {B n c j : Nat} {A : Option Addr} {x : List Int} (h : IsRow w B (.slice A n c) x) (hj : j < n) : ∃ ad, A = some ad ∧ ad.block < B ∧ w.cell? (ad.add j) = some (.int .i64 (x[j]?.getD 0)) := by
  obtain ⟨A', c', e, _, _, hr⟩ := h
  injection e with e1 e2 e3
  subst e1 e2 e3
  exact hr.i_at hj

theorem div_bound (m : Int) (h : 1 ≤ m ∧ m ≤ 9) : 0 ≤ 1000 / m ∧ 1000 / m ≤ 1000 := by
  have hv : m = 1 ∨ m = 2 ∨ m = 3 ∨ m = 4 ∨ m = 5 ∨ m = 6 ∨ m = 7 ∨ m = 8 ∨ m = 9 := by omega
  rcases hv with rfl | rfl | rfl | rfl | rfl | rfl | rfl | rfl | rfl <;> decide

/-- What Power returned: a slice and an error. -/
def PowOut (p x : List Int) (k : Int) (w : World) (A : Option Addr) (n c : Nat) (h : Int) : Prop :=
  (chkAll p [timesTo x (clampK k) x.length] = 0 ∧ h = 0 ∧ n = x.length ∧ IsRow w w.heap.size (.slice A n c) (timesTo x (clampK k) x.length)) ∨ (chkAll p [timesTo x (clampK k) x.length] ≠ 0 ∧ h = 4 ∧ n = 0)
theorem powOut {p x : List Int} {k : Int} {e : Ending} {w : World} (h : ResPost p (timesTo x (clampK k) x.length) e w) : ∃ A n c hh, e = .returned (.tuple #[.slice A n c, .int .i64 hh]) ∧ Box (PowOut p x k w A n c hh) := by
  rcases h with ⟨h0, v, rfl, hv⟩ | ⟨h0, rfl⟩
  · obtain ⟨A, c, rfl⟩ := hv.shape
    exact ⟨A, _, c, 0, rfl, ⟨.inl ⟨h0, rfl, timesTo_len _ _ _, hv⟩⟩⟩
  · exact ⟨_, _, _, 4, rfl, ⟨.inr ⟨h0, rfl, rfl⟩⟩⟩

end Go.Proofs.YtcfkclafpbaagaaGreatDoor
