import Derived.Test.YtaaeekahhhookaaGreatDoorShelf3
import Derived.Test.YtaaeekahhhookaaGreatDoorGTACk
import Derived.Test.YtaaeekahhhookaaGreatDoorFSgMCk
import Derived.Test.YtaaeekahhhookaaGreatDoorGTBCk
import Derived.Test.YtaaeekahhhookaaGreatDoorGACk
import Derived.Outline
import Derived.Deep.RegionHeld3
import Derived.OrdersIn
import Derived.TacticsIn
import Derived.RangeFuncCalls
import Derived.Deep.AppendLies
import Derived.Deep.DrawnRows
import Derived.RangeFuncNested
import Derived.RangeFuncBound
import Derived.RangeFuncLeaves
import Derived.RangeFuncBox
import Derived.Shelf.Abstract
import Derived.Shelf.RegionOpen
import Derived.WalkKit
import Derived.OwnWalkIn
import Derived.TacticsInMore
import Derived.LoopNIn
import Derived.LoopIn
import Derived.Test.YtaaeekahhhookaaGreatDoorSayMCk
import Derived.Test.YtaaeekahhhookaaGreatDoorGIMCk
namespace Go.Proofs.YtaaeekahhhookaaGreatDoor
open Go.RowKit Go.Lib
theorem parseInt_itoa (z : Int) (h0 : -9223372036854775808 ≤ z) (h1 : z ≤ 9223372036854775807) : Lib.parseIntB 64 (itoa z) = .ok z := by
 have hp : parseUintB 64 (decDigits z.natAbs) = .ok z.natAbs := parseUintB_dec (by omega)
 rcases itoa_cases z with ⟨hz, e⟩ | ⟨hz, e⟩
 ·rw [e, parseIntB_minus, hp]
  simp only [signedC]
  rw [if_neg (by omega)]
  congr 1
  omega
 ·rw [e]
  obtain ⟨c, r, hc, hm, _⟩ := dec_first z.natAbs
  have hd : isDig c := dec_dig z.natAbs c (by rw [hc]; simp)
  have h45 : c.toNat ≠ 45 := fun h => by rw [h] at hm; cases hm
  have h43 : c.toNat ≠ 43 := fun h => by have := hd; unfold isDig at this; omega
  rw [hc] at hp ⊢
  rw [parseIntB_plain 64 c r h43 h45, hp]
  simp only [signlessC]
  rw [if_neg (by omega)]
  congr 1
  omega
set_option maxHeartbeats 400000 in
theorem whSmall_any (z : Int) (w : World) (h0 : -9223372036854775808 ≤ z) (h1 : z ≤ 9223372036854775807) :
  Calls Tryz.prog 85 #[.string ⟨(itoa z).toArray⟩] w fun e w' => e = .returned (.tuple #[.int .i64 z, .bool true]) ∧ Below w.heap.size w w' := by
 have hl : (itoa z).length ≤ 20 := by
  have h := itoa_len z
  have : (decDigits z.natAbs).length ≤ 19 := by rw [dec_length]; exact nDigits_le (by omega) (by omega)
  omega
 have hp : Lib.parseIntB 64 (itoa z) = .ok z := parseInt_itoa z h0 h1
 have HF := Lib.hid (Tryz.strconv_ParseInt_10_at64_ok ⟨(itoa z).toArray⟩ (by simp [ByteArray.size]; omega) z (by simpa using hp) w)
 clear hl hp
 generalize itoa z = l at *
 go_enter Tryz.func85, Tryz.ntmps85
 go_wp2_with (go_at_call 129; refine HF.out.mono ?_; rintro e w' ⟨rfl, hw⟩; have hb := bytes_below' hw; clear hw)
 go_ret2
 exact ⟨rfl, hb⟩
theorem low_one (z : Int) : lowN z 1 = z ∧ lowD z 1 = 1 := by
 unfold lowN lowD
 simp
end Go.Proofs.YtaaeekahhhookaaGreatDoor
