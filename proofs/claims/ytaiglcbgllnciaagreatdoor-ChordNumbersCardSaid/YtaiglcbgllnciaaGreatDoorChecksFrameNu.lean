/- MonzoChecks: frame. -/
import Derived.Test.YtaiglcbgllnciaaGreatDoorCards
import Derived.Test.YtaiglcbgllnciaaGreatDoorTie
import Derived.Test.YtaiglcbgllnciaaGreatDoorStartNu
import Derived.Test.YtaiglcbgllnciaaGreatDoorGENu
import Derived.WalkKit
import Derived.ProofKit
import Derived.OpenShut
import Derived.ShutString
import Derived.ChangeOld
import Derived.Below
import Derived.Deep.DeepHandedRow
import Derived.MakeChecks
namespace Go.Proofs.YtaiglcbgllnciaaGreatDoor
open Go.ChangeShapes Go.WideShapes Go.ChangeAt Go.RowKit

theorem own : ownKnob Tryz.prog.godebug = Option.none := by kernel_rfl
theorem laidOut : laidOutB Tryz.prog = true := by kernel_rfl

end Go.Proofs.YtaiglcbgllnciaaGreatDoor
