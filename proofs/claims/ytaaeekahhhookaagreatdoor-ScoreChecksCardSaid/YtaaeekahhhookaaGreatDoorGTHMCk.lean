import Derived.Shelf.SlSortCmp.Whole1
import Derived.Ground.SlsfProg
import Derived.Test.YtaaeekahhhookaaGreatDoorShelf4
import Derived.Test.YtaaeekahhhookaaGreatDoorGTACk
import Derived.Test.YtaaeekahhhookaaGreatDoorGTEMCk
import Derived.Lib.QuietBelow
import Derived.Test.YtaaeekahhhookaaGreatDoorFSgMCk
import Derived.Test.YtaaeekahhhookaaGreatDoorGTBCk
import Derived.Test.YtaaeekahhhookaaGreatDoorGACk
import Derived.Deep.RegionHeld3
import Derived.OrdersIn
import Derived.TacticsIn
import Derived.RangeFuncCalls
import Derived.Deep.AppendLies
import Derived.Deep.DrawnRows
import Derived.Maps.OwnSet
import Derived.Test.YtaaeekahhhookaaGreatDoorGGMCk
import Derived.Test.YtaaeekahhhookaaGreatDoorGIMCk
import Derived.Maps.AppendAt
import Derived.Lib.OwnBridge
import Derived.Test.YtaaeekahhhookaaGreatDoorREqCk
import Derived.Laws.IdiomCopy
import Derived.Lib.SliceRun
namespace Go.Proofs.YtaaeekahhhookaaGreatDoor
open Go.RowKit Go.Lib
def tx (x : List Int) : List UInt8 := 91 :: rowTxt x ++ [62]
end Go.Proofs.YtaaeekahhhookaaGreatDoor
namespace Go.Proofs.YtaaeekahhhookaaGreatDoor
open Go.RowKit Go.Lib Go.Shelf
theorem txt_ok {p x : List Int} (h : chkAll p [x] = 0) : rowChk x = 0 ∧ x.length ≤ 64 ∧ (∀ k, k < x.length → -1000000000 ≤ x[k]?.getD 0 ∧ x[k]?.getD 0 ≤ 1000000000) ∧ (rowTxt x).length ≤ 1000 := by
 have hr := right_of h
 have h6 := hr.six
 have hl := hr.len
 have hb : ∀ k, k < x.length → -1000000000 ≤ x[k]?.getD 0 ∧ x[k]?.getD 0 ≤ 1000000000 := fun k hk => by have := hr.ex k hk; omega
 refine ⟨?_, by omega, hb, rowTxt_len (by omega) hb⟩
 unfold rowChk
 rw [if_neg]
 rw [not_or]
 refine ⟨by omega, ?_⟩
 rw [Bool.not_eq_true, List.any_eq_false]
 intro z hz
 obtain ⟨k, hk, rfl⟩ := List.getElem_of_mem hz
 have := hb k hk
 rw [List.getElem?_eq_getElem hk] at this
 unfold fitsB
 simp at this ⊢
 omega
end Go.Proofs.YtaaeekahhhookaaGreatDoor
namespace Go.Proofs.YtaaeekahhhookaaGreatDoor
open Go.RowKit Go.Lib
def kpt (l : List (List Int)) (j : Nat) : Bool := decide (j = 0 ∨ l[j]?.getD [] ≠ l[j - 1]?.getD [])
theorem Cells.puts {g : Nat} {e : TypeId} : ∀ (vs : List Value) {w : World} {xs : List Value} (o : Nat), Cells w g e xs → ∃ ys : List Value, Cells (w.setCells g o vs) g e ys ∧ ys.length = xs.length ∧ ∀ j, j < o → ys[j]? = xs[j]?
 | [], _, xs, _, h => ⟨xs, h, rfl, fun _ _ => rfl⟩
 | v :: vs, w, xs, o, h => by
   obtain ⟨ys, h1, h2, h3⟩ := Cells.puts vs (o + 1) (h.set o v)
   refine ⟨ys, h1, by rw [h2, List.length_set], fun j hj => ?_⟩
   rw [h3 j (by omega), List.getElem?_set_ne (by omega)]
theorem below_puts {B g : Nat} (hg : B ≤ g) {w0 : World} : ∀ (vs : List Value) {w : World} (o : Nat), Below B w0 w → Below B w0 (w.setCells g o vs)
 | [], _, _, h => h
 | v :: vs, _, o, h => below_puts hg vs (o + 1) (h.setCell hg v)
end Go.Proofs.YtaaeekahhhookaaGreatDoor
