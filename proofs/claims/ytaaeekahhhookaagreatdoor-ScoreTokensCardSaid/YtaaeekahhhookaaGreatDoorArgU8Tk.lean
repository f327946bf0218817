/- Arguments that came in, opened: lists of bytes. -/
import Derived.Test.YtaaeekahhhookaaGreatDoorArgPlTk
import Derived.Test.YtaaeekahhhookaaGreatDoorGXLMTk
namespace Go.Proofs.YtaaeekahhhookaaGreatDoor
open Go.ChangeShapes Go.WideShapes Go.ChangeAt Go.RowKit

section
variable {H : Type} {enc : TypeId × Value → H} {W : World} {held : Bool} {base : Nat} {d : DataW H} {ps : List MemPlace} {v : Value} {r : Reach}

set_option maxRecDepth 100000 in
theorem arg_u8s (hv : Value.okWide Tryz.prog W r base 22 v) (h : DataW.Trod enc Tryz.prog W 0 (fun _ => true) held 22 v d ps) : ∃ l : List Nat, U8A W v l := by
 obtain ⟨a, len, cap, rfl⟩ := okWide_slice Tryz.underlying22 hv
 obtain ⟨fuel, hf⟩ := h
 obtain ⟨A, c, l, e1, h1, h2, h3⟩ := trod_list (s := 1) (Q := U8Q) Tryz.underlying22 (by kernel_rfl) (by decide) (fun _ cs _ h => by
  obtain ⟨m, e0, _, w0⟩ := DataW.trod_int Tryz.underlying5 h
  have b0 := bounds_u8 w0
  refine ⟨m.toNat, by omega, ?_⟩
  rw [e0, Int.toNat_of_nonneg b0.1]) (fun y cs h => by rw [h.2]; rfl) hf
 simp [Value.cells] at e1
 obtain ⟨rfl, rfl, rfl⟩ := e1
 exact ⟨l, _, _, rfl, h1, h2, h3⟩
end

end Go.Proofs.YtaaeekahhhookaaGreatDoor
