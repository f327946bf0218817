/- MonzoFractions returns true for every input (the card: with the library's variables as the program's text lays them). -/
import Derived.Test.YtkoemgemnklmdaaGreatDoorFractionsFrameG
import Derived.Test.YtkoemgemnklmdaaGreatDoorFractionsG
namespace Go.Proofs.YtkoemgemnklmdaaGreatDoor
open Go.ChangeShapes Go.WideShapes Go.ChangeAt Go.RowKit

theorem fractions_all : FractionsWalk := fractions_walk

theorem fractions_plain (f : FuncId) (fn : Func) (hf : Tryz.pinned.checked.prog.funcNamed "schisma/schismalaw12.MonzoFractions" = some f) (hfn : Tryz.pinned.checked.prog.funcs[f]? = some fn) :
    true = Tryz.pinned.checked.prog.looks [] ∧ ∀ (j : Nat) t, fn.params[j]? = some t → Tryz.pinned.checked.prog.wantsStandIn t = false := by
  obtain rfl : f = 5 := Option.some.inj ((show Tryz.prog.funcNamed "schisma/schismalaw12.MonzoFractions" = some 5 by kernel_rfl).symm.trans hf) |>.symm
  obtain rfl : fn = Tryz.f5 := (Option.some.inj (Tryz.func5.symm.trans hfn)).symm
  refine ⟨by kernel_rfl, fun j t ht => ?_⟩
  rw [Tryz.params5] at ht
  have hm := Array.mem_of_getElem? ht
  have h1 : t = 50 := by simpa using hm
  subst h1
  exact (show Tryz.prog.wantsStandIn 50 = false by kernel_rfl)

theorem fractions_card : Rows.MonzoFractionsCardSaid :=
  Claim7.holds_tied_plain_at .later [] _ _ _ _ (fractions_said fractions_all) (fun _ h => by cases h) (by kernel_rfl) (fun _ h => by cases h) monzoFractions_row_tie rfl ⟨rfl, rfl⟩ (by kernel_rfl) rfl fractions_plain (by kernel_rfl)

end Go.Proofs.YtkoemgemnklmdaaGreatDoor
