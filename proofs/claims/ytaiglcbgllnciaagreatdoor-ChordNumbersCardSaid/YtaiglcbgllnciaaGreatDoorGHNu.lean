/- schismalaw12.Interval, Make. -/
import Derived.Test.YtaiglcbgllnciaaGreatDoorGGNu
namespace Go.Proofs.YtaiglcbgllnciaaGreatDoor
open Go.RowKit Go.Lib

/-! ### Interval -/

/-- The exponents of a plan: a list of four int8. -/
structure Four (l : List Int) : Prop where
  len : l.length = 4
  le : ∀ j, j < 4 → -128 ≤ l[j]?.getD 0 ∧ l[j]?.getD 0 ≤ 127

end Go.Proofs.YtaiglcbgllnciaaGreatDoor
