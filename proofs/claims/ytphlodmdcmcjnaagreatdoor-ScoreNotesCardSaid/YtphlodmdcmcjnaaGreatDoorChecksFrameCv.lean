/- MonzoChecks: frame. -/
import Derived.Test.YtphlodmdcmcjnaaGreatDoorCards
import Derived.Test.YtphlodmdcmcjnaaGreatDoorTie
import Derived.Test.YtphlodmdcmcjnaaGreatDoorStartCv
import Derived.Test.YtphlodmdcmcjnaaGreatDoorFSgMCv
import Derived.WalkKit
import Derived.ProofKit
import Derived.OpenShut
import Derived.ShutString
import Derived.ChangeOld
import Derived.Below
import Derived.Deep.DeepHandedRow
import Derived.MakeChecks
namespace Go.Proofs.YtphlodmdcmcjnaaGreatDoor
open Go.ChangeShapes Go.WideShapes Go.ChangeAt Go.RowKit

theorem own : ownKnob Tryz.prog.godebug = Option.none := by kernel_rfl
theorem laidOut : laidOutB Tryz.prog = true := by kernel_rfl

end Go.Proofs.YtphlodmdcmcjnaaGreatDoor
