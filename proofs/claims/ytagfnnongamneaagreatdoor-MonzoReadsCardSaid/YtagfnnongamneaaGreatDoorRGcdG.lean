/- schismaref04.Gcd. -/
import Derived.Test.YtagfnnongamneaaGreatDoorGC
namespace Go.Proofs.YtagfnnongamneaaGreatDoor
open Go.RowKit Go.Lib

end Go.Proofs.YtagfnnongamneaaGreatDoor
