/- ScoreNotes returns true for every input (the card: with the library's variables as the program's text lays them). -/
import Derived.Test.YtphlodmdcmcjnaaGreatDoorScNotFrameCv
import Derived.Test.YtphlodmdcmcjnaaGreatDoorScNotFrameCCv
import Derived.Test.YtphlodmdcmcjnaaGreatDoorScNotCv
namespace Go.Proofs.YtphlodmdcmcjnaaGreatDoor
open Go.ChangeShapes Go.WideShapes Go.ChangeAt Go.RowKit

theorem scNot_all : ScNotWalk := scNot_walk

theorem scNot_plain (f : FuncId) (fn : Func) (hf : Tryz.pinned.checked.prog.funcNamed "schisma/schismalaw48.ScoreNotes" = some f) (hfn : Tryz.pinned.checked.prog.funcs[f]? = some fn) :
    true = Tryz.pinned.checked.prog.looks [] ∧ ∀ (j : Nat) t, fn.params[j]? = some t → Tryz.pinned.checked.prog.wantsStandIn t = false := by
  obtain rfl : f = 11 := Option.some.inj ((show Tryz.prog.funcNamed "schisma/schismalaw48.ScoreNotes" = some 11 by kernel_rfl).symm.trans hf) |>.symm
  obtain rfl : fn = Tryz.f11 := (Option.some.inj (Tryz.func11.symm.trans hfn)).symm
  refine ⟨by kernel_rfl, fun j t ht => ?_⟩
  rw [Tryz.params11] at ht
  have hm := Array.mem_of_getElem? ht
  have h1 : t = 24 := by simpa using hm
  subst h1
  exact (show Tryz.prog.wantsStandIn 24 = false by kernel_rfl)

theorem scNot_card : Rows.ScoreNotesCardSaid :=
  Claim7.holds_tied_plain_at .later [] _ _ _ _ (scNot_said scNot_all) (fun _ h => by cases h) (by kernel_rfl) (fun _ h => by cases h) scoreNotes_row_tie rfl ⟨rfl, rfl⟩ (by kernel_rfl) rfl scNot_plain (by kernel_rfl)

end Go.Proofs.YtphlodmdcmcjnaaGreatDoor
