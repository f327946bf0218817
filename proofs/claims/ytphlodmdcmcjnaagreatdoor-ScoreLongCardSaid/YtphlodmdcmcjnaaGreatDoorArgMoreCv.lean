/- Arguments that came in, opened: numbers of 16 bits. -/
import Derived.Test.YtphlodmdcmcjnaaGreatDoorArgsCv
namespace Go.Proofs.YtphlodmdcmcjnaaGreatDoor
open Go.ChangeShapes Go.WideShapes Go.ChangeAt Go.RowKit

set_option maxRecDepth 100000 in
theorem arg_u16 {H : Type} {enc : TypeId × Value → H} {W : World} {held : Bool} {base : Nat} {d : DataW H} {ps : List MemPlace} {v : Value} {r : Reach} (hv : Value.okWide Tryz.prog W r base 62 v) (h : DataW.Trod enc Tryz.prog W 0 (fun _ => true) held 62 v d ps) : ∃ n : Nat, v = .int .u16 n ∧ n ≤ 65535 := by
  obtain ⟨k, rfl⟩ := okWide_int Tryz.underlying62 hv
  obtain ⟨fuel, hf⟩ := h
  obtain ⟨k2, e, _, hw⟩ := DataW.trod_int Tryz.underlying62 hf
  simp [Value.cells] at e
  subst e
  have := bounds_u16 hw
  exact ⟨k.toNat, by rw [Int.toNat_of_nonneg this.1], by omega⟩

end Go.Proofs.YtphlodmdcmcjnaaGreatDoor
