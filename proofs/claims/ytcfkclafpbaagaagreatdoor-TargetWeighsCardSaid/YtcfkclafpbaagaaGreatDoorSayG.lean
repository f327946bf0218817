/- Contracts of the string functions that parsing uses, in lists of bytes. -/
import Derived.Test.YtcfkclafpbaagaaGreatDoorShelf2
import Derived.Test.YtcfkclafpbaagaaGreatDoorGC
import Derived.Test.YtcfkclafpbaagaaGreatDoorGE
namespace Go.Proofs.YtcfkclafpbaagaaGreatDoor
open Go.RowKit Go.Lib

/-- The library's variable of the search in texts holds an int. -/
def LenIs (w : World) : Prop := ∃ m, w.cell? ⟨5, 0, Option.none⟩ = some (.int .i64 m)
theorem LenIs.below {w w' : World} (h : LenIs w) (hb : Below w.heap.size w w') : LenIs w' := by
  obtain ⟨m, hm⟩ := h
  exact ⟨m, (hb.cell (cell_lt hm)).trans hm⟩

end Go.Proofs.YtcfkclafpbaagaaGreatDoor
