/- The plain law of ScoreCovers. -/
import Derived.Test.YtphlodmdcmcjnaaGreatDoorGXFCv
import Derived.Test.YtphlodmdcmcjnaaGreatDoorGXDMCv
import Derived.Test.YtphlodmdcmcjnaaGreatDoorGTACv
namespace Go.Proofs.YtphlodmdcmcjnaaGreatDoor
open Go.RowKit Go.Lib

/-- A world behind the store of a fraction. -/
theorem sr2_below {w W : World} {s g : Nat} {a b : Value} (hg : s ≤ g) (h : Below s w W) : Below s w ((W.setCell ⟨g, 0, Option.none⟩ a).setCell ⟨g, 1, Option.none⟩ b) := (h.setCell (p := ⟨g, 0, Option.none⟩) hg a).setCell (p := ⟨g, 1, Option.none⟩) hg b
end Go.Proofs.YtphlodmdcmcjnaaGreatDoor
