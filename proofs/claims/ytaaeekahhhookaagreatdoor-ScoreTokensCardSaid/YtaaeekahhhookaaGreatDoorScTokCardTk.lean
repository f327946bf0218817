/- ScoreTokens returns true for every input (the card: with the library's variables as the program's text lays them). -/
import Derived.Test.YtaaeekahhhookaaGreatDoorScTokFrameTk
import Derived.Test.YtaaeekahhhookaaGreatDoorScTokFrameCTk
import Derived.Test.YtaaeekahhhookaaGreatDoorScTokTk
namespace Go.Proofs.YtaaeekahhhookaaGreatDoor
open Go.ChangeShapes Go.WideShapes Go.ChangeAt Go.RowKit

theorem scTok_all : ScTokWalk := scTok_walk

theorem scTok_plain (f : FuncId) (fn : Func) (hf : Tryz.pinned.checked.prog.funcNamed "schisma/schismalaw48.ScoreTokens" = some f) (hfn : Tryz.pinned.checked.prog.funcs[f]? = some fn) :
  true = Tryz.pinned.checked.prog.looks [] ∧ ∀ (j : Nat) t, fn.params[j]? = some t → Tryz.pinned.checked.prog.wantsStandIn t = false := by
 obtain rfl : f = 3 := Option.some.inj ((show Tryz.prog.funcNamed "schisma/schismalaw48.ScoreTokens" = some 3 by kernel_rfl).symm.trans hf) |>.symm
 obtain rfl : fn = Tryz.f3 := (Option.some.inj (Tryz.func3.symm.trans hfn)).symm
 refine ⟨by kernel_rfl, fun j t ht => ?_⟩
 rw [Tryz.params3] at ht
 have hm := Array.mem_of_getElem? ht
 have h1 : t = 22 := by simpa using hm
 subst h1
 exact (show Tryz.prog.wantsStandIn 22 = false by kernel_rfl)

theorem scTok_card : Rows.ScoreTokensCardSaid :=
 Claim7.holds_tied_plain_at .later [] _ _ _ _ (scTok_said scTok_all) (fun _ h => by cases h) (by kernel_rfl) (fun _ h => by cases h) scoreTokens_row_tie rfl ⟨rfl, rfl⟩ (by kernel_rfl) rfl scTok_plain (by kernel_rfl)

end Go.Proofs.YtaaeekahhhookaaGreatDoor
