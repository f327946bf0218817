/- MonzoChecks returns true for every list of primes and every two rows (the card: with the library's variables as the program's text lays them). -/
import Derived.Test.YtkoemgemnklmdaaGreatDoorChecksFrame
import Derived.Test.YtkoemgemnklmdaaGreatDoorChecks
namespace Go.Proofs.YtkoemgemnklmdaaGreatDoor
open Go.ChangeShapes Go.WideShapes Go.ChangeAt Go.RowKit

theorem checks_all : ChecksWalk := fun pv xv yv p x y w hS hp hx hy => checks_walk pv xv yv p x y w hS hp hx hy

theorem checks_plain (f : FuncId) (fn : Func) (hf : Tryz.pinned.checked.prog.funcNamed "schisma/schismalaw12.MonzoChecks" = some f) (hfn : Tryz.pinned.checked.prog.funcs[f]? = some fn) :
    true = Tryz.pinned.checked.prog.looks [] ∧ ∀ (j : Nat) t, fn.params[j]? = some t → Tryz.pinned.checked.prog.wantsStandIn t = false := by
  obtain rfl : f = 3 := Option.some.inj ((show Tryz.prog.funcNamed "schisma/schismalaw12.MonzoChecks" = some 3 by kernel_rfl).symm.trans hf) |>.symm
  obtain rfl : fn = Tryz.f3 := (Option.some.inj (Tryz.func3.symm.trans hfn)).symm
  refine ⟨by kernel_rfl, fun j t ht => ?_⟩
  rw [Tryz.params3] at ht
  have hm := Array.mem_of_getElem? ht
  have h1 : t = 23 ∨ t = 24 := by simpa using hm
  rcases h1 with rfl | rfl
  · exact (show Tryz.prog.wantsStandIn 23 = false by kernel_rfl)
  · exact (show Tryz.prog.wantsStandIn 24 = false by kernel_rfl)

theorem checks_card : Rows.MonzoChecksCardSaid :=
  Claim7.holds_tied_plain_at .later [] _ _ _ _ (checks_said checks_all) (fun _ h => by cases h) (by kernel_rfl) (fun _ h => by cases h) monzoChecks_row_tie rfl ⟨rfl, rfl⟩ (by kernel_rfl) rfl checks_plain (by kernel_rfl)

end Go.Proofs.YtkoemgemnklmdaaGreatDoor
