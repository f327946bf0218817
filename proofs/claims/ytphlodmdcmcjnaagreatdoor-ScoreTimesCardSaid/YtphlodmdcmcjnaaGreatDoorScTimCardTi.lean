/- ScoreTimes returns true for every input (the card: with the library's variables as the program's text lays them). -/
import Derived.Test.YtphlodmdcmcjnaaGreatDoorScTimFrameTi
import Derived.Test.YtphlodmdcmcjnaaGreatDoorScTimFrameCTi
import Derived.Test.YtphlodmdcmcjnaaGreatDoorScTimTi
namespace Go.Proofs.YtphlodmdcmcjnaaGreatDoor
open Go.ChangeShapes Go.WideShapes Go.ChangeAt Go.RowKit

theorem scTim_all : ScTimWalk := scTim_walk

theorem scTim_plain (f : FuncId) (fn : Func) (hf : Tryz.pinned.checked.prog.funcNamed "schisma/schismalaw48.ScoreTimes" = some f) (hfn : Tryz.pinned.checked.prog.funcs[f]? = some fn) :
    true = Tryz.pinned.checked.prog.looks [] ∧ ∀ (j : Nat) t, fn.params[j]? = some t → Tryz.pinned.checked.prog.wantsStandIn t = false := by
  obtain rfl : f = 7 := Option.some.inj ((show Tryz.prog.funcNamed "schisma/schismalaw48.ScoreTimes" = some 7 by kernel_rfl).symm.trans hf) |>.symm
  obtain rfl : fn = Tryz.f7 := (Option.some.inj (Tryz.func7.symm.trans hfn)).symm
  refine ⟨by kernel_rfl, fun j t ht => ?_⟩
  rw [Tryz.params7] at ht
  have hm := Array.mem_of_getElem? ht
  have h1 : t = 24 ∨ t = 3 := by simpa using hm
  rcases h1 with rfl | rfl
  · exact (show Tryz.prog.wantsStandIn 24 = false by kernel_rfl)
  · exact (show Tryz.prog.wantsStandIn 3 = false by kernel_rfl)

theorem scTim_card : Rows.ScoreTimesCardSaid :=
  Claim7.holds_tied_plain_at .later [] _ _ _ _ (scTim_said scTim_all) (fun _ h => by cases h) (by kernel_rfl) (fun _ h => by cases h) scoreTimes_row_tie rfl ⟨rfl, rfl⟩ (by kernel_rfl) rfl scTim_plain (by kernel_rfl)

end Go.Proofs.YtphlodmdcmcjnaaGreatDoor
