/- LexerNil returns true for every input (the card: with the library's variables as the program's text lays them). -/
import Derived.Test.YtagfnnongamneaaGreatDoorLxNilFrameG
import Derived.Test.YtagfnnongamneaaGreatDoorLxNilG
namespace Go.Proofs.YtagfnnongamneaaGreatDoor
open Go.ChangeShapes Go.WideShapes Go.ChangeAt Go.RowKit

theorem lxNil_all : LxNilWalk := lxNil_walk

theorem lxNil_plain (f : FuncId) (fn : Func) (hf : Tryz.pinned.checked.prog.funcNamed "schisma/schismalaw47.LexerNil" = some f) (hfn : Tryz.pinned.checked.prog.funcs[f]? = some fn) :
    true = Tryz.pinned.checked.prog.looks [] ∧ ∀ (j : Nat) t, fn.params[j]? = some t → Tryz.pinned.checked.prog.wantsStandIn t = false := by
  obtain rfl : f = 8 := Option.some.inj ((show Tryz.prog.funcNamed "schisma/schismalaw47.LexerNil" = some 8 by kernel_rfl).symm.trans hf) |>.symm
  obtain rfl : fn = Tryz.f8 := (Option.some.inj (Tryz.func8.symm.trans hfn)).symm
  refine ⟨by kernel_rfl, fun j t ht => ?_⟩
  rw [Tryz.params8] at ht
  have hm := Array.mem_of_getElem? ht
  have h1 : t = 9 ∨ t = 3 := by simpa using hm
  rcases h1 with rfl | rfl
  · exact (show Tryz.prog.wantsStandIn 9 = false by kernel_rfl)
  · exact (show Tryz.prog.wantsStandIn 3 = false by kernel_rfl)

theorem lxNil_card : Rows.LexerNilCardSaid :=
  Claim7.holds_tied_plain_at .later [] _ _ _ _ (lxNil_said lxNil_all) (fun _ h => by cases h) (by kernel_rfl) (fun _ h => by cases h) lexerNil_row_tie rfl ⟨rfl, rfl⟩ (by kernel_rfl) rfl lxNil_plain (by kernel_rfl)

end Go.Proofs.YtagfnnongamneaaGreatDoor
