/- MonzoOrders returns true for every input (the card: with the library's variables as the program's text lays them). -/
import Derived.Test.YtkoemgemnklmdaaGreatDoorOrdersFrameG
import Derived.Test.YtkoemgemnklmdaaGreatDoorOrdersG
namespace Go.Proofs.YtkoemgemnklmdaaGreatDoor
open Go.ChangeShapes Go.WideShapes Go.ChangeAt Go.RowKit

theorem orders_all : OrdersWalk := orders_walk

theorem orders_plain (f : FuncId) (fn : Func) (hf : Tryz.pinned.checked.prog.funcNamed "schisma/schismalaw12.MonzoOrders" = some f) (hfn : Tryz.pinned.checked.prog.funcs[f]? = some fn) :
    true = Tryz.pinned.checked.prog.looks [] ∧ ∀ (j : Nat) t, fn.params[j]? = some t → Tryz.pinned.checked.prog.wantsStandIn t = false := by
  obtain rfl : f = 9 := Option.some.inj ((show Tryz.prog.funcNamed "schisma/schismalaw12.MonzoOrders" = some 9 by kernel_rfl).symm.trans hf) |>.symm
  obtain rfl : fn = Tryz.f9 := (Option.some.inj (Tryz.func9.symm.trans hfn)).symm
  refine ⟨by kernel_rfl, fun j t ht => ?_⟩
  rw [Tryz.params9] at ht
  have hm := Array.mem_of_getElem? ht
  have h1 : t = 50 ∨ t = 48 := by simpa using hm
  rcases h1 with rfl | rfl
  · exact (show Tryz.prog.wantsStandIn 50 = false by kernel_rfl)
  · exact (show Tryz.prog.wantsStandIn 48 = false by kernel_rfl)

theorem orders_card : Rows.MonzoOrdersCardSaid :=
  Claim7.holds_tied_plain_at .later [] _ _ _ _ (orders_said orders_all) (fun _ h => by cases h) (by kernel_rfl) (fun _ h => by cases h) monzoOrders_row_tie rfl ⟨rfl, rfl⟩ (by kernel_rfl) rfl orders_plain (by kernel_rfl)

end Go.Proofs.YtkoemgemnklmdaaGreatDoor
