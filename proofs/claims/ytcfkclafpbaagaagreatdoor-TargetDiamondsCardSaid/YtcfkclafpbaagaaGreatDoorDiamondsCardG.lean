/- TargetDiamonds returns true for every input (the card: with the library's variables as the program's text lays them). -/
import Derived.Test.YtcfkclafpbaagaaGreatDoorDiamondsFrameG
import Derived.Test.YtcfkclafpbaagaaGreatDoorDiamondsG
namespace Go.Proofs.YtcfkclafpbaagaaGreatDoor
open Go.ChangeShapes Go.WideShapes Go.ChangeAt Go.RowKit

theorem diamonds_all : DiamondsWalk := diamonds_walk

theorem diamonds_plain (f : FuncId) (fn : Func) (hf : Tryz.pinned.checked.prog.funcNamed "schisma/schismalaw29.TargetDiamonds" = some f) (hfn : Tryz.pinned.checked.prog.funcs[f]? = some fn) :
    true = Tryz.pinned.checked.prog.looks [] ∧ ∀ (j : Nat) t, fn.params[j]? = some t → Tryz.pinned.checked.prog.wantsStandIn t = false := by
  obtain rfl : f = 7 := Option.some.inj ((show Tryz.prog.funcNamed "schisma/schismalaw29.TargetDiamonds" = some 7 by kernel_rfl).symm.trans hf) |>.symm
  obtain rfl : fn = Tryz.f7 := (Option.some.inj (Tryz.func7.symm.trans hfn)).symm
  refine ⟨by kernel_rfl, fun j t ht => ?_⟩
  rw [Tryz.params7] at ht
  have hm := Array.mem_of_getElem? ht
  have h1 : t = 5 ∨ t = 24 := by simpa using hm
  rcases h1 with rfl | rfl
  · exact (show Tryz.prog.wantsStandIn 5 = false by kernel_rfl)
  · exact (show Tryz.prog.wantsStandIn 24 = false by kernel_rfl)

theorem diamonds_card : Rows.TargetDiamondsCardSaid :=
  Claim7.holds_tied_plain_at .later [] _ _ _ _ (diamonds_said diamonds_all) (fun _ h => by cases h) (by kernel_rfl) (fun _ h => by cases h) targetDiamonds_row_tie rfl ⟨rfl, rfl⟩ (by kernel_rfl) rfl diamonds_plain (by kernel_rfl)

end Go.Proofs.YtcfkclafpbaagaaGreatDoor
