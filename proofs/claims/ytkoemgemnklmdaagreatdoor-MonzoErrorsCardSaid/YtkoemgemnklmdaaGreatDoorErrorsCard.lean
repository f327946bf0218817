/- MonzoErrors returns true for every list of primes and every two rows (the card: with the library's variables as the program's text lays them). -/
import Derived.Test.YtkoemgemnklmdaaGreatDoorErrorsFrame
import Derived.Test.YtkoemgemnklmdaaGreatDoorErrors
namespace Go.Proofs.YtkoemgemnklmdaaGreatDoor
open Go.ChangeShapes Go.WideShapes Go.ChangeAt Go.RowKit

theorem errors_all : ErrorsWalk := fun pv xv yv p x y w hS hp hx hy => errors_walk pv xv yv p x y w hS hp hx hy

theorem errors_plain (f : FuncId) (fn : Func) (hf : Tryz.pinned.checked.prog.funcNamed "schisma/schismalaw12.MonzoErrors" = some f) (hfn : Tryz.pinned.checked.prog.funcs[f]? = some fn) :
    true = Tryz.pinned.checked.prog.looks [] ∧ ∀ (j : Nat) t, fn.params[j]? = some t → Tryz.pinned.checked.prog.wantsStandIn t = false := by
  obtain rfl : f = 10 := Option.some.inj ((show Tryz.prog.funcNamed "schisma/schismalaw12.MonzoErrors" = some 10 by kernel_rfl).symm.trans hf) |>.symm
  obtain rfl : fn = Tryz.f10 := (Option.some.inj (Tryz.func10.symm.trans hfn)).symm
  refine ⟨by kernel_rfl, fun j t ht => ?_⟩
  rw [Tryz.params10] at ht
  have hm := Array.mem_of_getElem? ht
  have h1 : t = 23 ∨ t = 24 := by simpa using hm
  rcases h1 with rfl | rfl
  · exact (show Tryz.prog.wantsStandIn 23 = false by kernel_rfl)
  · exact (show Tryz.prog.wantsStandIn 24 = false by kernel_rfl)

theorem errors_card : Rows.MonzoErrorsCardSaid :=
  Claim7.holds_tied_plain_at .later [] _ _ _ _ (errors_said errors_all) (fun _ h => by cases h) (by kernel_rfl) (fun _ h => by cases h) monzoErrors_row_tie rfl ⟨rfl, rfl⟩ (by kernel_rfl) rfl errors_plain (by kernel_rfl)

end Go.Proofs.YtkoemgemnklmdaaGreatDoor
