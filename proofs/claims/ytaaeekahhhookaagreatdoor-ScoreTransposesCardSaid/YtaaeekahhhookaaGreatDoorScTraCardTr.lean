/- ScoreTransposes returns true for every input (the card: with the library's variables as the program's text lays them). -/
import Derived.Test.YtaaeekahhhookaaGreatDoorScTraFrameTr
import Derived.Test.YtaaeekahhhookaaGreatDoorScTraFrameCTr
import Derived.Test.YtaaeekahhhookaaGreatDoorScTraTr
namespace Go.Proofs.YtaaeekahhhookaaGreatDoor
open Go.ChangeShapes Go.WideShapes Go.ChangeAt Go.RowKit

theorem scTra_all : ScTraWalk := scTra_walk

theorem scTra_plain (f : FuncId) (fn : Func) (hf : Tryz.pinned.checked.prog.funcNamed "schisma/schismalaw48.ScoreTransposes" = some f) (hfn : Tryz.pinned.checked.prog.funcs[f]? = some fn) :
  true = Tryz.pinned.checked.prog.looks [] ∧ ∀ (j : Nat) t, fn.params[j]? = some t → Tryz.pinned.checked.prog.wantsStandIn t = false := by
 obtain rfl : f = 4 := Option.some.inj ((show Tryz.prog.funcNamed "schisma/schismalaw48.ScoreTransposes" = some 4 by kernel_rfl).symm.trans hf) |>.symm
 obtain rfl : fn = Tryz.f4 := (Option.some.inj (Tryz.func4.symm.trans hfn)).symm
 refine ⟨by kernel_rfl, fun j t ht => ?_⟩
 rw [Tryz.params4] at ht
 have hm := Array.mem_of_getElem? ht
 have h1 : t = 39 ∨ t = 40 := by simpa using hm
 rcases h1 with rfl | rfl
 ·exact (show Tryz.prog.wantsStandIn 39 = false by kernel_rfl)
 ·exact (show Tryz.prog.wantsStandIn 40 = false by kernel_rfl)

theorem scTra_card : Rows.ScoreTransposesCardSaid :=
 Claim7.holds_tied_plain_at .later [] _ _ _ _ (scTra_said scTra_all) (fun _ h => by cases h) (by kernel_rfl) (fun _ h => by cases h) scoreTransposes_row_tie rfl ⟨rfl, rfl⟩ (by kernel_rfl) rfl scTra_plain (by kernel_rfl)

end Go.Proofs.YtaaeekahhhookaaGreatDoor
