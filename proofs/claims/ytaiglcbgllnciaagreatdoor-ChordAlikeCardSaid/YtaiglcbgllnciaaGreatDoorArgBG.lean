/- Arguments that came in, opened: two bytes. -/
import Derived.Test.YtaiglcbgllnciaaGreatDoorArgsG
namespace Go.Proofs.YtaiglcbgllnciaaGreatDoor
open Go.ChangeShapes Go.WideShapes Go.ChangeAt Go.RowKit

/-- Two bytes that came in. -/
def TwoArg (v : Value) (a b : Nat) : Prop := ∃ cs, v = .agg cs ∧ cs.toList = [.int .u8 (a : Int), .int .u8 (b : Int)] ∧ a ≤ 255 ∧ b ≤ 255
section
variable {H : Type} {enc : TypeId × Value → H} {W : World} {held : Bool} {base : Nat} {d : DataW H} {ps : List MemPlace} {v : Value} {r : Reach}

set_option maxRecDepth 100000 in
theorem arg_two (hv : Value.okWide Tryz.prog W r base 54 v) (h : DataW.Trod enc Tryz.prog W 0 (fun _ => true) held 54 v d ps) : ∃ a b : Nat, TwoArg v a b := by
  have hs : ∃ cs, v = .agg cs := by
    simp only [Value.okWide, Tryz.underlying54] at hv
    obtain ⟨cs, h1, _⟩ := hv
    exact ⟨cs, h1⟩
  obtain ⟨cs, rfl⟩ := hs
  obtain ⟨fuel, hf⟩ := h
  have hc2 : Tryz.prog.cellsOf 54 = 2 := by kernel_rfl
  have hc1 : Tryz.prog.cellsOf 5 = 1 := by kernel_rfl
  obtain ⟨xs, m, _, _, hl, hx, hg⟩ := DataW.trod_array Tryz.underlying54 hf
  rw [hc2] at hl
  have hcs : (Value.agg cs).cells.toList = cs.toList := rfl
  rw [hcs] at hl hg
  generalize hce : cs.toList = l at *
  match l, hl with
  | [c0, c1], _ =>
    match xs, hx with
    | [x0, x1], _ =>
      have g0 := hg 0 (by omega)
      have g1 := hg 1 (by omega)
      simp [hc1] at g0 g1
      obtain ⟨a, e0, _, w0⟩ := DataW.trod_int Tryz.underlying5 g0
      obtain ⟨b, e1, _, w1⟩ := DataW.trod_int Tryz.underlying5 g1
      simp at e0 e1
      subst e0 e1
      have b0 := bounds_u8 w0
      have b1 := bounds_u8 w1
      refine ⟨a.toNat, b.toNat, cs, rfl, ?_, by omega, by omega⟩
      rw [hce, Int.toNat_of_nonneg b0.1, Int.toNat_of_nonneg b1.1]
end

end Go.Proofs.YtaiglcbgllnciaaGreatDoor
