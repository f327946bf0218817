/- MonzoChecks: frame. -/
import Derived.Test.YtaaeekahhhookaaGreatDoorCards
import Derived.Test.YtaaeekahhhookaaGreatDoorTie
import Derived.Test.YtaaeekahhhookaaGreatDoorStartTk
import Derived.Test.YtaaeekahhhookaaGreatDoorFSgMTk
import Derived.WalkKit
import Derived.ProofKit
import Derived.OpenShut
import Derived.ShutString
import Derived.ChangeOld
import Derived.Below
import Derived.Deep.DeepHandedRow
import Derived.MakeChecks
namespace Go.Proofs.YtaaeekahhhookaaGreatDoor
open Go.ChangeShapes Go.WideShapes Go.ChangeAt Go.RowKit

theorem own : ownKnob Tryz.prog.godebug = Option.none := by kernel_rfl
theorem laidOut : laidOutB Tryz.prog = true := by kernel_rfl

end Go.Proofs.YtaaeekahhhookaaGreatDoor
