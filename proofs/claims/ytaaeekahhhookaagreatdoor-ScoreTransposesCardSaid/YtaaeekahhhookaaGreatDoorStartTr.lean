/- From what a row lists of the package-level variables to 'Std'; the witness's world. -/
import Derived.Test.YtaaeekahhhookaaGreatDoorRows
import Derived.Test.YtaaeekahhhookaaGreatDoorGCTr
import Derived.Stop.LaidErr
import Derived.Lib.LaidTab
import Derived.Lay
import Derived.LaidLaws
namespace Go.Proofs.YtaaeekahhhookaaGreatDoor
open Go.RowKit Go.Lib

theorem errName (u : TypeId) (h : Tryz.prog.typeName? 3 u = some "*errors.errorString") : u = 332 :=
 typeName_ptr_named (nm := "errors.errorString") (by kernel_rfl) (by kernel_rfl) (by decide) u h

end Go.Proofs.YtaaeekahhhookaaGreatDoor
