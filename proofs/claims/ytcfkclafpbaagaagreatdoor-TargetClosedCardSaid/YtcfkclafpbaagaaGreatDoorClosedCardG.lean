/- TargetClosed returns true for every input (the card: with the library's variables as the program's text lays them). -/
import Derived.Test.YtcfkclafpbaagaaGreatDoorClosedFrameG
import Derived.Test.YtcfkclafpbaagaaGreatDoorClosedG
namespace Go.Proofs.YtcfkclafpbaagaaGreatDoor
open Go.ChangeShapes Go.WideShapes Go.ChangeAt Go.RowKit

theorem closed_all : ClosedWalk := closed_walk

theorem closed_plain (f : FuncId) (fn : Func) (hf : Tryz.pinned.checked.prog.funcNamed "schisma/schismalaw29.TargetClosed" = some f) (hfn : Tryz.pinned.checked.prog.funcs[f]? = some fn) :
    true = Tryz.pinned.checked.prog.looks [] ∧ ∀ (j : Nat) t, fn.params[j]? = some t → Tryz.pinned.checked.prog.wantsStandIn t = false := by
  obtain rfl : f = 4 := Option.some.inj ((show Tryz.prog.funcNamed "schisma/schismalaw29.TargetClosed" = some 4 by kernel_rfl).symm.trans hf) |>.symm
  obtain rfl : fn = Tryz.f4 := (Option.some.inj (Tryz.func4.symm.trans hfn)).symm
  refine ⟨by kernel_rfl, fun j t ht => ?_⟩
  rw [Tryz.params4] at ht
  have hm := Array.mem_of_getElem? ht
  have h1 : t = 5 := by simpa using hm
  subst h1
  exact (show Tryz.prog.wantsStandIn 5 = false by kernel_rfl)

theorem closed_card : Rows.TargetClosedCardSaid :=
  Claim7.holds_tied_plain_at .later [] _ _ _ _ (closed_said closed_all) (fun _ h => by cases h) (by kernel_rfl) (fun _ h => by cases h) targetClosed_row_tie rfl ⟨rfl, rfl⟩ (by kernel_rfl) rfl closed_plain (by kernel_rfl)

end Go.Proofs.YtcfkclafpbaagaaGreatDoor
