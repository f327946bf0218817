/- ChordAlike returns true for every input (the card: with the library's variables as the program's text lays them). -/
import Derived.Test.YtaiglcbgllnciaaGreatDoorAlikeFrameG
import Derived.Test.YtaiglcbgllnciaaGreatDoorAlikeFrameCG
import Derived.Test.YtaiglcbgllnciaaGreatDoorAlikeG
namespace Go.Proofs.YtaiglcbgllnciaaGreatDoor
open Go.ChangeShapes Go.WideShapes Go.ChangeAt Go.RowKit

theorem alike_all : AlikeWalk := alike_walk

theorem alike_plain (f : FuncId) (fn : Func) (hf : Tryz.pinned.checked.prog.funcNamed "schisma/schismalaw39.ChordAlike" = some f) (hfn : Tryz.pinned.checked.prog.funcs[f]? = some fn) :
    true = Tryz.pinned.checked.prog.looks [] ∧ ∀ (j : Nat) t, fn.params[j]? = some t → Tryz.pinned.checked.prog.wantsStandIn t = false := by
  obtain rfl : f = 5 := Option.some.inj ((show Tryz.prog.funcNamed "schisma/schismalaw39.ChordAlike" = some 5 by kernel_rfl).symm.trans hf) |>.symm
  obtain rfl : fn = Tryz.f5 := (Option.some.inj (Tryz.func5.symm.trans hfn)).symm
  refine ⟨by kernel_rfl, fun j t ht => ?_⟩
  rw [Tryz.params5] at ht
  have hm := Array.mem_of_getElem? ht
  have h1 : t = 26 ∨ t = 54 := by simpa using hm
  rcases h1 with rfl | rfl
  · exact (show Tryz.prog.wantsStandIn 26 = false by kernel_rfl)
  · exact (show Tryz.prog.wantsStandIn 54 = false by kernel_rfl)

theorem alike_card : Rows.ChordAlikeCardSaid :=
  Claim7.holds_tied_plain_at .later [] _ _ _ _ (alike_said alike_all) (fun _ h => by cases h) (by kernel_rfl) (fun _ h => by cases h) chordAlike_row_tie rfl ⟨rfl, rfl⟩ (by kernel_rfl) rfl alike_plain (by kernel_rfl)

end Go.Proofs.YtaiglcbgllnciaaGreatDoor
