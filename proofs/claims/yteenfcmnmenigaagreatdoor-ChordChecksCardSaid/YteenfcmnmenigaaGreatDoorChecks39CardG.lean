/- ChordChecks returns true for every input (the card: with the library's variables as the program's text lays them). -/
import Derived.Test.YteenfcmnmenigaaGreatDoorChecks39FrameG
import Derived.Test.YteenfcmnmenigaaGreatDoorChecks39G
namespace Go.Proofs.YteenfcmnmenigaaGreatDoor
open Go.ChangeShapes Go.WideShapes Go.ChangeAt Go.RowKit

theorem checks39_all : Checks39Walk := checks39_walk

theorem checks39_plain (f : FuncId) (fn : Func) (hf : Tryz.pinned.checked.prog.funcNamed "schisma/schismalaw39.ChordChecks" = some f) (hfn : Tryz.pinned.checked.prog.funcs[f]? = some fn) :
    true = Tryz.pinned.checked.prog.looks [] ∧ ∀ (j : Nat) t, fn.params[j]? = some t → Tryz.pinned.checked.prog.wantsStandIn t = false := by
  obtain rfl : f = 6 := Option.some.inj ((show Tryz.prog.funcNamed "schisma/schismalaw39.ChordChecks" = some 6 by kernel_rfl).symm.trans hf) |>.symm
  obtain rfl : fn = Tryz.f6 := (Option.some.inj (Tryz.func6.symm.trans hfn)).symm
  refine ⟨by kernel_rfl, fun j t ht => ?_⟩
  rw [Tryz.params6] at ht
  have hm := Array.mem_of_getElem? ht
  have h1 : t = 23 ∨ t = 24 := by simpa using hm
  rcases h1 with rfl | rfl
  · exact (show Tryz.prog.wantsStandIn 23 = false by kernel_rfl)
  · exact (show Tryz.prog.wantsStandIn 24 = false by kernel_rfl)

theorem checks39_card : Rows.ChordChecksCardSaid :=
  Claim7.holds_tied_plain_at .later [] _ _ _ _ (checks39_said checks39_all) (fun _ h => by cases h) (by kernel_rfl) (fun _ h => by cases h) chordChecks_row_tie rfl ⟨rfl, rfl⟩ (by kernel_rfl) rfl checks39_plain (by kernel_rfl)

end Go.Proofs.YteenfcmnmenigaaGreatDoor
