import Derived.Test.YtaaeekahhhookaaGreatDoorScChkFrameMCk
import Derived.Test.YtaaeekahhhookaaGreatDoorScChkCk
namespace Go.Proofs.YtaaeekahhhookaaGreatDoor
open Go.ChangeShapes Go.WideShapes Go.ChangeAt Go.RowKit
theorem scChk_all : ScChkWalk := scChk_walk
theorem scChk_plain (f : FuncId) (fn : Func) (hf : Tryz.pinned.checked.prog.funcNamed "schisma/schismalaw48.ScoreChecks" = some f) (hfn : Tryz.pinned.checked.prog.funcs[f]? = some fn) :
  true = Tryz.pinned.checked.prog.looks [] ∧ ∀ (j : Nat) t, fn.params[j]? = some t → Tryz.pinned.checked.prog.wantsStandIn t = false := by
 obtain rfl : f = 5 := Option.some.inj ((show Tryz.prog.funcNamed "schisma/schismalaw48.ScoreChecks" = some 5 by kernel_rfl).symm.trans hf) |>.symm
 obtain rfl : fn = Tryz.f5 := (Option.some.inj (Tryz.func5.symm.trans hfn)).symm
 refine ⟨by kernel_rfl, fun j t ht => ?_⟩
 rw [Tryz.params5] at ht
 have hm := Array.mem_of_getElem? ht
 have h1 : t = 39 ∨ t = 60 := by simpa using hm
 rcases h1 with rfl | rfl
 ·exact (show Tryz.prog.wantsStandIn 39 = false by kernel_rfl)
 ·exact (show Tryz.prog.wantsStandIn 60 = false by kernel_rfl)
theorem scChk_card : Rows.ScoreChecksCardSaid :=
 Claim7.holds_tied_plain_at .later [] _ _ _ _ (scChk_said scChk_all) (fun _ h => by cases h) (by kernel_rfl) (fun _ h => by cases h) scoreChecks_row_tie rfl ⟨rfl, rfl⟩ (by kernel_rfl) rfl scChk_plain (by kernel_rfl)
end Go.Proofs.YtaaeekahhhookaaGreatDoor
