/- Arguments that came in, opened: slices of rows, with their capacity. -/
import Derived.Test.YteenfcmnmenigaaGreatDoorArgRowsG
namespace Go.Proofs.YteenfcmnmenigaaGreatDoor
open Go.ChangeShapes Go.WideShapes Go.ChangeAt Go.RowKit

/-- A slice of rows that came in, and its capacity. -/
def RowsArgC (w : World) (v : Value) (l : List (List Int)) : Prop := ∃ A c, v = .slice A l.length c ∧ l.length ≤ c ∧ c ≤ maxLen ∧ RowsAt w w.heap.size A l

section
variable {H : Type} {enc : TypeId × Value → H} {W : World} {held : Bool} {base : Nat} {d : DataW H} {ps : List MemPlace} {v : Value} {r : Reach}

set_option maxRecDepth 100000 in
theorem arg_rowsC (hv : Value.okWide Tryz.prog W r base 24 v) (h : DataW.Trod enc Tryz.prog W 0 (fun _ => true) held 24 v d ps) :
    ∃ l : List (List Int), RowsArgC W v l := by
  obtain ⟨l, A, c, rfl, hlm, hr⟩ := arg_rows hv h
  obtain ⟨fuel, hf⟩ := h
  rcases Go.Deep.open_slice Tryz.underlying24 hf with ⟨e, _⟩ | ⟨a, len, cap, m, n, D, Pl, e, _, hl, hm, hmm, _, hi⟩
  · simp [Value.cells] at e
    obtain ⟨_, h2, h3⟩ := e
    exact ⟨l, A, c, rfl, by rw [h2]; exact Nat.zero_le _, by rw [h3]; exact Nat.zero_le _, hr⟩
  · simp [Value.cells] at e
    obtain ⟨_, h2, h3⟩ := e
    exact ⟨l, A, c, rfl, by omega, by omega, hr⟩
end

end Go.Proofs.YteenfcmnmenigaaGreatDoor
