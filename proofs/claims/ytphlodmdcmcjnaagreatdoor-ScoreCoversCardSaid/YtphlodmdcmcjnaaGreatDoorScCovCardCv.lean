/- ScoreCovers returns true for every input (the card: with the library's variables as the program's text lays them). -/
import Derived.Test.YtphlodmdcmcjnaaGreatDoorScCovFrameCv
import Derived.Test.YtphlodmdcmcjnaaGreatDoorScCovFrameCCv
import Derived.Test.YtphlodmdcmcjnaaGreatDoorScCovCv
namespace Go.Proofs.YtphlodmdcmcjnaaGreatDoor
open Go.ChangeShapes Go.WideShapes Go.ChangeAt Go.RowKit

theorem scCov_all : ScCovWalk := scCov_walk

theorem scCov_plain (f : FuncId) (fn : Func) (hf : Tryz.pinned.checked.prog.funcNamed "schisma/schismalaw48.ScoreCovers" = some f) (hfn : Tryz.pinned.checked.prog.funcs[f]? = some fn) :
    true = Tryz.pinned.checked.prog.looks [] ∧ ∀ (j : Nat) t, fn.params[j]? = some t → Tryz.pinned.checked.prog.wantsStandIn t = false := by
  obtain rfl : f = 9 := Option.some.inj ((show Tryz.prog.funcNamed "schisma/schismalaw48.ScoreCovers" = some 9 by kernel_rfl).symm.trans hf) |>.symm
  obtain rfl : fn = Tryz.f9 := (Option.some.inj (Tryz.func9.symm.trans hfn)).symm
  refine ⟨by kernel_rfl, fun j t ht => ?_⟩
  rw [Tryz.params9] at ht
  have hm := Array.mem_of_getElem? ht
  have h1 : t = 24 := by simpa using hm
  subst h1
  exact (show Tryz.prog.wantsStandIn 24 = false by kernel_rfl)

theorem scCov_card : Rows.ScoreCoversCardSaid :=
  Claim7.holds_tied_plain_at .later [] _ _ _ _ (scCov_said scCov_all) (fun _ h => by cases h) (by kernel_rfl) (fun _ h => by cases h) scoreCovers_row_tie rfl ⟨rfl, rfl⟩ (by kernel_rfl) rfl scCov_plain (by kernel_rfl)

end Go.Proofs.YtphlodmdcmcjnaaGreatDoor
