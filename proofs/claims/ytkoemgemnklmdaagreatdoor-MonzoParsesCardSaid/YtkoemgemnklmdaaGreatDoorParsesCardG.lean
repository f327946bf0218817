/- MonzoParses returns true for every input (the card: with the library's variables as the program's text lays them). -/
import Derived.Test.YtkoemgemnklmdaaGreatDoorParsesFrameG
import Derived.Test.YtkoemgemnklmdaaGreatDoorParsesG
namespace Go.Proofs.YtkoemgemnklmdaaGreatDoor
open Go.ChangeShapes Go.WideShapes Go.ChangeAt Go.RowKit

theorem parses_all : ParsesWalk := parses_walk

theorem parses_plain (f : FuncId) (fn : Func) (hf : Tryz.pinned.checked.prog.funcNamed "schisma/schismalaw12.MonzoParses" = some f) (hfn : Tryz.pinned.checked.prog.funcs[f]? = some fn) :
    true = Tryz.pinned.checked.prog.looks [] ∧ ∀ (j : Nat) t, fn.params[j]? = some t → Tryz.pinned.checked.prog.wantsStandIn t = false := by
  obtain rfl : f = 12 := Option.some.inj ((show Tryz.prog.funcNamed "schisma/schismalaw12.MonzoParses" = some 12 by kernel_rfl).symm.trans hf) |>.symm
  obtain rfl : fn = Tryz.f12 := (Option.some.inj (Tryz.func12.symm.trans hfn)).symm
  refine ⟨by kernel_rfl, fun j t ht => ?_⟩
  rw [Tryz.params12] at ht
  have hm := Array.mem_of_getElem? ht
  have h1 : t = 50 := by simpa using hm
  subst h1
  exact (show Tryz.prog.wantsStandIn 50 = false by kernel_rfl)

theorem parses_card : Rows.MonzoParsesCardSaid :=
  Claim7.holds_tied_plain_at .later [] _ _ _ _ (parses_said parses_all) (fun _ h => by cases h) (by kernel_rfl) (fun _ h => by cases h) monzoParses_row_tie rfl ⟨rfl, rfl⟩ (by kernel_rfl) rfl parses_plain (by kernel_rfl)

end Go.Proofs.YtkoemgemnklmdaaGreatDoor
