import Derived.Test.YtaaeekahhhookaaGreatDoorGTACk
import Derived.Test.YtaaeekahhhookaaGreatDoorFSgMCk
import Derived.Test.YtaaeekahhhookaaGreatDoorSayMCk
namespace Go.Proofs.YtaaeekahhhookaaGreatDoor
open Go.RowKit Go.Lib
theorem itoa_one : itoa 1 = [49] := by decide +kernel
theorem small_len {z : Int} (h : z.natAbs ≤ 1000000) : (itoa z).length ≤ 8 ∧ (decDigits z.natAbs).length ≤ 7 := by
 have h1 : (decDigits z.natAbs).length ≤ 7 := by
  rw [dec_length]
  exact nDigits_le (by omega) (by omega)
 have := itoa_len z
 omega
end Go.Proofs.YtaaeekahhhookaaGreatDoor
