/- The law's of. -/
import Derived.Test.YtagfnnongamneaaGreatDoorPartsG
import Derived.Test.YtagfnnongamneaaGreatDoorGH
namespace Go.Proofs.YtagfnnongamneaaGreatDoor
open Go.RowKit Go.Lib

end Go.Proofs.YtagfnnongamneaaGreatDoor
