/- TargetWeighs returns true for every input (the card: with the library's variables as the program's text lays them). -/
import Derived.Test.YtcfkclafpbaagaaGreatDoorWeighsFrameG
import Derived.Test.YtcfkclafpbaagaaGreatDoorWeighsG
namespace Go.Proofs.YtcfkclafpbaagaaGreatDoor
open Go.ChangeShapes Go.WideShapes Go.ChangeAt Go.RowKit

theorem weighs_all : WeighsWalk := weighs_walk

theorem weighs_plain (f : FuncId) (fn : Func) (hf : Tryz.pinned.checked.prog.funcNamed "schisma/schismalaw29.TargetWeighs" = some f) (hfn : Tryz.pinned.checked.prog.funcs[f]? = some fn) :
    true = Tryz.pinned.checked.prog.looks [] ∧ ∀ (j : Nat) t, fn.params[j]? = some t → Tryz.pinned.checked.prog.wantsStandIn t = false := by
  obtain rfl : f = 10 := Option.some.inj ((show Tryz.prog.funcNamed "schisma/schismalaw29.TargetWeighs" = some 10 by kernel_rfl).symm.trans hf) |>.symm
  obtain rfl : fn = Tryz.f10 := (Option.some.inj (Tryz.func10.symm.trans hfn)).symm
  refine ⟨by kernel_rfl, fun j t ht => ?_⟩
  rw [Tryz.params10] at ht
  have hm := Array.mem_of_getElem? ht
  have h1 : t = 5 ∨ t = 22 ∨ t = 3 := by simpa using hm
  rcases h1 with rfl | rfl | rfl
  · exact (show Tryz.prog.wantsStandIn 5 = false by kernel_rfl)
  · exact (show Tryz.prog.wantsStandIn 22 = false by kernel_rfl)
  · exact (show Tryz.prog.wantsStandIn 3 = false by kernel_rfl)

theorem weighs_card : Rows.TargetWeighsCardSaid :=
  Claim7.holds_tied_plain_at .later [] _ _ _ _ (weighs_said weighs_all) (fun _ h => by cases h) (by kernel_rfl) (fun _ h => by cases h) targetWeighs_row_tie rfl ⟨rfl, rfl⟩ (by kernel_rfl) rfl weighs_plain (by kernel_rfl)

end Go.Proofs.YtcfkclafpbaagaaGreatDoor
