/- TargetOdd returns true for every input (the card: with the library's variables as the program's text lays them). -/
import Derived.Test.YtcfkclafpbaagaaGreatDoorOddsFrameG
import Derived.Test.YtcfkclafpbaagaaGreatDoorOddsG
namespace Go.Proofs.YtcfkclafpbaagaaGreatDoor
open Go.ChangeShapes Go.WideShapes Go.ChangeAt Go.RowKit

theorem odds_all : OddsWalk := odds_walk

theorem odds_plain (f : FuncId) (fn : Func) (hf : Tryz.pinned.checked.prog.funcNamed "schisma/schismalaw29.TargetOdd" = some f) (hfn : Tryz.pinned.checked.prog.funcs[f]? = some fn) :
    true = Tryz.pinned.checked.prog.looks [] ∧ ∀ (j : Nat) t, fn.params[j]? = some t → Tryz.pinned.checked.prog.wantsStandIn t = false := by
  obtain rfl : f = 6 := Option.some.inj ((show Tryz.prog.funcNamed "schisma/schismalaw29.TargetOdd" = some 6 by kernel_rfl).symm.trans hf) |>.symm
  obtain rfl : fn = Tryz.f6 := (Option.some.inj (Tryz.func6.symm.trans hfn)).symm
  refine ⟨by kernel_rfl, fun j t ht => ?_⟩
  rw [Tryz.params6] at ht
  have hm := Array.mem_of_getElem? ht
  have h1 : t = 25 ∨ t = 3 := by simpa using hm
  rcases h1 with rfl | rfl
  · exact (show Tryz.prog.wantsStandIn 25 = false by kernel_rfl)
  · exact (show Tryz.prog.wantsStandIn 3 = false by kernel_rfl)

theorem odds_card : Rows.TargetOddCardSaid :=
  Claim7.holds_tied_plain_at .later [] _ _ _ _ (odds_said odds_all) (fun _ h => by cases h) (by kernel_rfl) (fun _ h => by cases h) targetOdd_row_tie rfl ⟨rfl, rfl⟩ (by kernel_rfl) rfl odds_plain (by kernel_rfl)

end Go.Proofs.YtcfkclafpbaagaaGreatDoor
