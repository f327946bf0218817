/- LexerEquals returns true for every input (the card: with the library's variables as the program's text lays them). -/
import Derived.Test.YtagfnnongamneaaGreatDoorLxEqFrameG
import Derived.Test.YtagfnnongamneaaGreatDoorLxEqG
namespace Go.Proofs.YtagfnnongamneaaGreatDoor
open Go.ChangeShapes Go.WideShapes Go.ChangeAt Go.RowKit

theorem lxEq_all : LxEqWalk := lxEq_walk

theorem lxEq_plain (f : FuncId) (fn : Func) (hf : Tryz.pinned.checked.prog.funcNamed "schisma/schismalaw47.LexerEquals" = some f) (hfn : Tryz.pinned.checked.prog.funcs[f]? = some fn) :
    true = Tryz.pinned.checked.prog.looks [] ∧ ∀ (j : Nat) t, fn.params[j]? = some t → Tryz.pinned.checked.prog.wantsStandIn t = false := by
  obtain rfl : f = 6 := Option.some.inj ((show Tryz.prog.funcNamed "schisma/schismalaw47.LexerEquals" = some 6 by kernel_rfl).symm.trans hf) |>.symm
  obtain rfl : fn = Tryz.f6 := (Option.some.inj (Tryz.func6.symm.trans hfn)).symm
  refine ⟨by kernel_rfl, fun j t ht => ?_⟩
  rw [Tryz.params6] at ht
  have hm := Array.mem_of_getElem? ht
  have h1 : t = 43 := by simpa using hm
  subst h1
  exact (show Tryz.prog.wantsStandIn 43 = false by kernel_rfl)

theorem lxEq_card : Rows.LexerEqualsCardSaid :=
  Claim7.holds_tied_plain_at .later [] _ _ _ _ (lxEq_said lxEq_all) (fun _ h => by cases h) (by kernel_rfl) (fun _ h => by cases h) lexerEquals_row_tie rfl ⟨rfl, rfl⟩ (by kernel_rfl) rfl lxEq_plain (by kernel_rfl)

end Go.Proofs.YtagfnnongamneaaGreatDoor
