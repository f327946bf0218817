/- ChordParses returns true for every input (the card: with the library's variables as the program's text lays them). -/
import Derived.Test.YteenfcmnmenigaaGreatDoorParses39FrameG
import Derived.Test.YteenfcmnmenigaaGreatDoorParses39G
namespace Go.Proofs.YteenfcmnmenigaaGreatDoor
open Go.ChangeShapes Go.WideShapes Go.ChangeAt Go.RowKit

theorem parses39_all : Parses39Walk := parses39_walk

theorem parses39_plain (f : FuncId) (fn : Func) (hf : Tryz.pinned.checked.prog.funcNamed "schisma/schismalaw39.ChordParses" = some f) (hfn : Tryz.pinned.checked.prog.funcs[f]? = some fn) :
    true = Tryz.pinned.checked.prog.looks [] ∧ ∀ (j : Nat) t, fn.params[j]? = some t → Tryz.pinned.checked.prog.wantsStandIn t = false := by
  obtain rfl : f = 5 := Option.some.inj ((show Tryz.prog.funcNamed "schisma/schismalaw39.ChordParses" = some 5 by kernel_rfl).symm.trans hf) |>.symm
  obtain rfl : fn = Tryz.f5 := (Option.some.inj (Tryz.func5.symm.trans hfn)).symm
  refine ⟨by kernel_rfl, fun j t ht => ?_⟩
  rw [Tryz.params5] at ht
  have hm := Array.mem_of_getElem? ht
  have h1 : t = 23 ∨ t = 9 := by simpa using hm
  rcases h1 with rfl | rfl
  · exact (show Tryz.prog.wantsStandIn 23 = false by kernel_rfl)
  · exact (show Tryz.prog.wantsStandIn 9 = false by kernel_rfl)

theorem parses39_card : Rows.ChordParsesCardSaid :=
  Claim7.holds_tied_plain_at .later [] _ _ _ _ (parses39_said parses39_all) (fun _ h => by cases h) (by kernel_rfl) (fun _ h => by cases h) chordParses_row_tie rfl ⟨rfl, rfl⟩ (by kernel_rfl) rfl parses39_plain (by kernel_rfl)

end Go.Proofs.YteenfcmnmenigaaGreatDoor
