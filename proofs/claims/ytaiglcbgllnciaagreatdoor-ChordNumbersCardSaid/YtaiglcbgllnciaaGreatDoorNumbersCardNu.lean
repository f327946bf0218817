/- ChordNumbers returns true for every input (the card: with the library's variables as the program's text lays them). -/
import Derived.Test.YtaiglcbgllnciaaGreatDoorNumbersFrameNu
import Derived.Test.YtaiglcbgllnciaaGreatDoorNumbersFrameCNu
import Derived.Test.YtaiglcbgllnciaaGreatDoorNumbersNu
namespace Go.Proofs.YtaiglcbgllnciaaGreatDoor
open Go.ChangeShapes Go.WideShapes Go.ChangeAt Go.RowKit

theorem numbers_all : NumbersWalk := numbers_walk

theorem numbers_plain (f : FuncId) (fn : Func) (hf : Tryz.pinned.checked.prog.funcNamed "schisma/schismalaw39.ChordNumbers" = some f) (hfn : Tryz.pinned.checked.prog.funcs[f]? = some fn) :
    true = Tryz.pinned.checked.prog.looks [] ∧ ∀ (j : Nat) t, fn.params[j]? = some t → Tryz.pinned.checked.prog.wantsStandIn t = false := by
  obtain rfl : f = 6 := Option.some.inj ((show Tryz.prog.funcNamed "schisma/schismalaw39.ChordNumbers" = some 6 by kernel_rfl).symm.trans hf) |>.symm
  obtain rfl : fn = Tryz.f6 := (Option.some.inj (Tryz.func6.symm.trans hfn)).symm
  refine ⟨by kernel_rfl, fun j t ht => ?_⟩
  rw [Tryz.params6] at ht
  have hm := Array.mem_of_getElem? ht
  have h1 : t = 26 := by simpa using hm
  subst h1
  exact (show Tryz.prog.wantsStandIn 26 = false by kernel_rfl)

theorem numbers_card : Rows.ChordNumbersCardSaid :=
  Claim7.holds_tied_plain_at .later [] _ _ _ _ (numbers_said numbers_all) (fun _ h => by cases h) (by kernel_rfl) (fun _ h => by cases h) chordNumbers_row_tie rfl ⟨rfl, rfl⟩ (by kernel_rfl) rfl numbers_plain (by kernel_rfl)

end Go.Proofs.YtaiglcbgllnciaaGreatDoor
