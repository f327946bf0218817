import Derived.Test.YtaaeekahhhookaaGreatDoorChecksFrameCk
import Derived.Test.YtaaeekahhhookaaGreatDoorGGMCk
namespace Go.Proofs.YtaaeekahhhookaaGreatDoor
open Go.ChangeShapes Go.WideShapes Go.ChangeAt Go.RowKit
theorem size_list (s : ByteArray) : s.data.toList.length = s.size := rfl
section
variable {H : Type} {enc : TypeId × Value → H} {W : World} {held : Bool} {base : Nat} {d : DataW H} {ps : List MemPlace} {v : Value} {r : Reach}
set_option maxRecDepth 100000 in
theorem trod_four {fuel : Nat} {cs : List Value} {x : DataW H × List MemPlace} (h : DataW.trod enc Tryz.prog W 0 (fun _ => true) held fuel 109 cs = some x) :
  ∃ a b c e : Int, cs = [.int .i8 a, .int .i8 b, .int .i8 c, .int .i8 e] ∧ Four [a, b, c, e] := by
 have hc4 : Tryz.prog.cellsOf 109 = 4 := by kernel_rfl
 have hc1 : Tryz.prog.cellsOf 108 = 1 := by kernel_rfl
 obtain ⟨xs, m, _, _, hl, hx, hf⟩ := DataW.trod_array Tryz.underlying109 h
 rw [hc4] at hl
 match cs, hl with
 | [c0, c1, c2, c3], _ =>
   match xs, hx with
   | [x0, x1, x2, x3], _ =>
     have g0 := hf 0 (by omega)
     have g1 := hf 1 (by omega)
     have g2 := hf 2 (by omega)
     have g3 := hf 3 (by omega)
     simp [hc1] at g0 g1 g2 g3
     obtain ⟨a, e0, _, w0⟩ := DataW.trod_int Tryz.underlying108 g0
     obtain ⟨b, e1, _, w1⟩ := DataW.trod_int Tryz.underlying108 g1
     obtain ⟨c, e2, _, w2⟩ := DataW.trod_int Tryz.underlying108 g2
     obtain ⟨e, e3, _, w3⟩ := DataW.trod_int Tryz.underlying108 g3
     simp at e0 e1 e2 e3
     subst e0 e1 e2 e3
     have b0 := bounds_i8 w0
     have b1 := bounds_i8 w1
     have b2 := bounds_i8 w2
     have b3 := bounds_i8 w3
     refine ⟨a, b, c, e, rfl, rfl, fun j hj => ?_⟩
     match j, hj with
     | 0, _ => exact b0
     | 1, _ => exact b1
     | 2, _ => exact b2
     | 3, _ => exact b3
end
end Go.Proofs.YtaaeekahhhookaaGreatDoor
