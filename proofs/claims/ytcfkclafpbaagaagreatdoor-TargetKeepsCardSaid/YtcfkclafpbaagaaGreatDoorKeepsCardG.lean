/- TargetKeeps returns true for every input (the card: with the library's variables as the program's text lays them). -/
import Derived.Test.YtcfkclafpbaagaaGreatDoorKeepsFrameG
import Derived.Test.YtcfkclafpbaagaaGreatDoorKeepsG
namespace Go.Proofs.YtcfkclafpbaagaaGreatDoor
open Go.ChangeShapes Go.WideShapes Go.ChangeAt Go.RowKit

theorem keeps_all : KeepsWalk := keeps_walk

theorem keeps_plain (f : FuncId) (fn : Func) (hf : Tryz.pinned.checked.prog.funcNamed "schisma/schismalaw29.TargetKeeps" = some f) (hfn : Tryz.pinned.checked.prog.funcs[f]? = some fn) :
    true = Tryz.pinned.checked.prog.looks [] ∧ ∀ (j : Nat) t, fn.params[j]? = some t → Tryz.pinned.checked.prog.wantsStandIn t = false := by
  obtain rfl : f = 5 := Option.some.inj ((show Tryz.prog.funcNamed "schisma/schismalaw29.TargetKeeps" = some 5 by kernel_rfl).symm.trans hf) |>.symm
  obtain rfl : fn = Tryz.f5 := (Option.some.inj (Tryz.func5.symm.trans hfn)).symm
  refine ⟨by kernel_rfl, fun j t ht => ?_⟩
  rw [Tryz.params5] at ht
  have hm := Array.mem_of_getElem? ht
  have h1 : t = 5 ∨ t = 22 := by simpa using hm
  rcases h1 with rfl | rfl
  · exact (show Tryz.prog.wantsStandIn 5 = false by kernel_rfl)
  · exact (show Tryz.prog.wantsStandIn 22 = false by kernel_rfl)

theorem keeps_card : Rows.TargetKeepsCardSaid :=
  Claim7.holds_tied_plain_at .later [] _ _ _ _ (keeps_said keeps_all) (fun _ h => by cases h) (by kernel_rfl) (fun _ h => by cases h) targetKeeps_row_tie rfl ⟨rfl, rfl⟩ (by kernel_rfl) rfl keeps_plain (by kernel_rfl)

end Go.Proofs.YtcfkclafpbaagaaGreatDoor
