/- ScoreSounds returns true for every input (the card: with the library's variables as the program's text lays them). -/
import Derived.Test.YtphlodmdcmcjnaaGreatDoorScSndFrameTi
import Derived.Test.YtphlodmdcmcjnaaGreatDoorScSndFrameCTi
import Derived.Test.YtphlodmdcmcjnaaGreatDoorScSndTi
namespace Go.Proofs.YtphlodmdcmcjnaaGreatDoor
open Go.ChangeShapes Go.WideShapes Go.ChangeAt Go.RowKit

theorem scSnd_all : ScSndWalk := scSnd_walk

theorem scSnd_plain (f : FuncId) (fn : Func) (hf : Tryz.pinned.checked.prog.funcNamed "schisma/schismalaw48.ScoreSounds" = some f) (hfn : Tryz.pinned.checked.prog.funcs[f]? = some fn) :
    true = Tryz.pinned.checked.prog.looks [] ∧ ∀ (j : Nat) t, fn.params[j]? = some t → Tryz.pinned.checked.prog.wantsStandIn t = false := by
  obtain rfl : f = 8 := Option.some.inj ((show Tryz.prog.funcNamed "schisma/schismalaw48.ScoreSounds" = some 8 by kernel_rfl).symm.trans hf) |>.symm
  obtain rfl : fn = Tryz.f8 := (Option.some.inj (Tryz.func8.symm.trans hfn)).symm
  refine ⟨by kernel_rfl, fun j t ht => ?_⟩
  rw [Tryz.params8] at ht
  have hm := Array.mem_of_getElem? ht
  have h1 : t = 24 ∨ t = 55 := by simpa using hm
  rcases h1 with rfl | rfl
  · exact (show Tryz.prog.wantsStandIn 24 = false by kernel_rfl)
  · exact (show Tryz.prog.wantsStandIn 55 = false by kernel_rfl)

theorem scSnd_card : Rows.ScoreSoundsCardSaid :=
  Claim7.holds_tied_plain_at .later [] _ _ _ _ (scSnd_said scSnd_all) (fun _ h => by cases h) (by kernel_rfl) (fun _ h => by cases h) scoreSounds_row_tie rfl ⟨rfl, rfl⟩ (by kernel_rfl) rfl scSnd_plain (by kernel_rfl)

end Go.Proofs.YtphlodmdcmcjnaaGreatDoor
