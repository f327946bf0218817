/- fraction.Parse of the text of a right fraction. -/
import Derived.Test.YtaiglcbgllnciaaGreatDoorDigNu
import Derived.Lib.IndexAny
import Derived.Test.YtaiglcbgllnciaaGreatDoorGENu
namespace Go.Proofs.YtaiglcbgllnciaaGreatDoor
open Go.RowKit Go.Lib

theorem rat_no_dash {N : Nat} {t : List UInt8} : Lib.hasPrefix (decDigits N ++ t) [45] = false := by
  obtain ⟨c, r, e, hc, _⟩ := dec_first N
  rw [e]
  have : c ≠ 45 := fun h => by subst h; simp at hc
  unfold Lib.hasPrefix
  simp [List.isPrefixOf, Ne.symm this]
end Go.Proofs.YtaiglcbgllnciaaGreatDoor
