/- MonzoOf returns true for every input (the card: with the library's variables as the program's text lays them). -/
import Derived.Test.YtkoemgemnklmdaaGreatDoorOfLFrameG
import Derived.Test.YtkoemgemnklmdaaGreatDoorOfLG
namespace Go.Proofs.YtkoemgemnklmdaaGreatDoor
open Go.ChangeShapes Go.WideShapes Go.ChangeAt Go.RowKit

theorem ofL_all : OfLWalk := ofL_walk

theorem ofL_plain (f : FuncId) (fn : Func) (hf : Tryz.pinned.checked.prog.funcNamed "schisma/schismalaw12.MonzoOf" = some f) (hfn : Tryz.pinned.checked.prog.funcs[f]? = some fn) :
    true = Tryz.pinned.checked.prog.looks [] ∧ ∀ (j : Nat) t, fn.params[j]? = some t → Tryz.pinned.checked.prog.wantsStandIn t = false := by
  obtain rfl : f = 4 := Option.some.inj ((show Tryz.prog.funcNamed "schisma/schismalaw12.MonzoOf" = some 4 by kernel_rfl).symm.trans hf) |>.symm
  obtain rfl : fn = Tryz.f4 := (Option.some.inj (Tryz.func4.symm.trans hfn)).symm
  refine ⟨by kernel_rfl, fun j t ht => ?_⟩
  rw [Tryz.params4] at ht
  have hm := Array.mem_of_getElem? ht
  have h1 : t = 5 ∨ t = 38 := by simpa using hm
  rcases h1 with rfl | rfl
  · exact (show Tryz.prog.wantsStandIn 5 = false by kernel_rfl)
  · exact (show Tryz.prog.wantsStandIn 38 = false by kernel_rfl)

theorem ofL_card : Rows.MonzoOfCardSaid :=
  Claim7.holds_tied_plain_at .later [] _ _ _ _ (ofL_said ofL_all) (fun _ h => by cases h) (by kernel_rfl) (fun _ h => by cases h) monzoOf_row_tie rfl ⟨rfl, rfl⟩ (by kernel_rfl) rfl ofL_plain (by kernel_rfl)

end Go.Proofs.YtkoemgemnklmdaaGreatDoor
