/- MonzoLong returns true for every input (the card: with the library's variables as the program's text lays them). -/
import Derived.Test.YtkoemgemnklmdaaGreatDoorLongFrameG
import Derived.Test.YtkoemgemnklmdaaGreatDoorLongG
namespace Go.Proofs.YtkoemgemnklmdaaGreatDoor
open Go.ChangeShapes Go.WideShapes Go.ChangeAt Go.RowKit

theorem long_all : LongWalk := long_walk

theorem long_plain (f : FuncId) (fn : Func) (hf : Tryz.pinned.checked.prog.funcNamed "schisma/schismalaw12.MonzoLong" = some f) (hfn : Tryz.pinned.checked.prog.funcs[f]? = some fn) :
    true = Tryz.pinned.checked.prog.looks [] ∧ ∀ (j : Nat) t, fn.params[j]? = some t → Tryz.pinned.checked.prog.wantsStandIn t = false := by
  obtain rfl : f = 6 := Option.some.inj ((show Tryz.prog.funcNamed "schisma/schismalaw12.MonzoLong" = some 6 by kernel_rfl).symm.trans hf) |>.symm
  obtain rfl : fn = Tryz.f6 := (Option.some.inj (Tryz.func6.symm.trans hfn)).symm
  refine ⟨by kernel_rfl, fun j t ht => ?_⟩
  rw [Tryz.params6] at ht
  have hm := Array.mem_of_getElem? ht
  have h1 : t = 59 := by simpa using hm
  subst h1
  exact (show Tryz.prog.wantsStandIn 59 = false by kernel_rfl)

theorem long_card : Rows.MonzoLongCardSaid :=
  Claim7.holds_tied_plain_at .later [] _ _ _ _ (long_said long_all) (fun _ h => by cases h) (by kernel_rfl) (fun _ h => by cases h) monzoLong_row_tie rfl ⟨rfl, rfl⟩ (by kernel_rfl) rfl long_plain (by kernel_rfl)

end Go.Proofs.YtkoemgemnklmdaaGreatDoor
