/- LexerLimits returns true for every input (the card: with the library's variables as the program's text lays them). -/
import Derived.Test.YtagfnnongamneaaGreatDoorLxLimFrameG
import Derived.Test.YtagfnnongamneaaGreatDoorLxLimG
namespace Go.Proofs.YtagfnnongamneaaGreatDoor
open Go.ChangeShapes Go.WideShapes Go.ChangeAt Go.RowKit

theorem lxLim_all : LxLimWalk := lxLim_walk

theorem lxLim_plain (f : FuncId) (fn : Func) (hf : Tryz.pinned.checked.prog.funcNamed "schisma/schismalaw47.LexerLimits" = some f) (hfn : Tryz.pinned.checked.prog.funcs[f]? = some fn) :
    true = Tryz.pinned.checked.prog.looks [] ∧ ∀ (j : Nat) t, fn.params[j]? = some t → Tryz.pinned.checked.prog.wantsStandIn t = false := by
  obtain rfl : f = 4 := Option.some.inj ((show Tryz.prog.funcNamed "schisma/schismalaw47.LexerLimits" = some 4 by kernel_rfl).symm.trans hf) |>.symm
  obtain rfl : fn = Tryz.f4 := (Option.some.inj (Tryz.func4.symm.trans hfn)).symm
  refine ⟨by kernel_rfl, fun j t ht => ?_⟩
  rw [Tryz.params4] at ht
  have hm := Array.mem_of_getElem? ht
  have h1 : t = 5 := by simpa using hm
  subst h1
  exact (show Tryz.prog.wantsStandIn 5 = false by kernel_rfl)

theorem lxLim_card : Rows.LexerLimitsCardSaid :=
  Claim7.holds_tied_plain_at .later [] _ _ _ _ (lxLim_said lxLim_all) (fun _ h => by cases h) (by kernel_rfl) (fun _ h => by cases h) lexerLimits_row_tie rfl ⟨rfl, rfl⟩ (by kernel_rfl) rfl lxLim_plain (by kernel_rfl)

end Go.Proofs.YtagfnnongamneaaGreatDoor
