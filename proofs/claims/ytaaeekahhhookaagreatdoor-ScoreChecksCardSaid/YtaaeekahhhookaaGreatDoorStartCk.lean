import Derived.Test.YtaaeekahhhookaaGreatDoorRows
import Derived.Test.YtaaeekahhhookaaGreatDoorGCCk
import Derived.Stop.LaidErr
import Derived.Lib.LaidTab
import Derived.Lay
import Derived.LaidLaws
namespace Go.Proofs.YtaaeekahhhookaaGreatDoor
open Go.RowKit Go.Lib
theorem errName (u : TypeId) (h : Tryz.prog.typeName? 3 u = some "*errors.errorString") : u = 332 :=
 typeName_ptr_named (nm := "errors.errorString") (by kernel_rfl) (by kernel_rfl) (by decide) u h
end Go.Proofs.YtaaeekahhhookaaGreatDoor
