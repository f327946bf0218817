/- Arguments that came in, opened: plans, lists of four, numbers, texts, fractions. -/
import Derived.Test.YtphlodmdcmcjnaaGreatDoorChecksFrameTi
import Derived.Test.YtphlodmdcmcjnaaGreatDoorGGMTi
namespace Go.Proofs.YtphlodmdcmcjnaaGreatDoor
open Go.ChangeShapes Go.WideShapes Go.ChangeAt Go.RowKit

theorem size_list (s : ByteArray) : s.data.toList.length = s.size := rfl

section
variable {H : Type} {enc : TypeId × Value → H} {W : World} {held : Bool} {base : Nat} {d : DataW H} {ps : List MemPlace} {v : Value} {r : Reach}

set_option maxRecDepth 100000 in
theorem arg_i64 (hv : Value.okWide Tryz.prog W r base 3 v) (h : DataW.Trod enc Tryz.prog W 0 (fun _ => true) held 3 v d ps) : ∃ k : Int, v = .int .i64 k ∧ -9223372036854775808 ≤ k ∧ k ≤ 9223372036854775807 := by
  obtain ⟨k, rfl⟩ := okWide_int Tryz.underlying3 hv
  obtain ⟨fuel, hf⟩ := h
  obtain ⟨k2, e, _, hw⟩ := DataW.trod_int Tryz.underlying3 hf
  simp [Value.cells] at e
  subst e
  exact ⟨k, rfl, bounds_i64 hw⟩
set_option maxRecDepth 100000 in
theorem trod_four {fuel : Nat} {cs : List Value} {x : DataW H × List MemPlace} (h : DataW.trod enc Tryz.prog W 0 (fun _ => true) held fuel 103 cs = some x) :
    ∃ a b c e : Int, cs = [.int .i8 a, .int .i8 b, .int .i8 c, .int .i8 e] ∧ Four [a, b, c, e] := by
  have hc4 : Tryz.prog.cellsOf 103 = 4 := by kernel_rfl
  have hc1 : Tryz.prog.cellsOf 102 = 1 := by kernel_rfl
  obtain ⟨xs, m, _, _, hl, hx, hf⟩ := DataW.trod_array Tryz.underlying103 h
  rw [hc4] at hl
  match cs, hl with
  | [c0, c1, c2, c3], _ =>
    match xs, hx with
    | [x0, x1, x2, x3], _ =>
      have g0 := hf 0 (by omega)
      have g1 := hf 1 (by omega)
      have g2 := hf 2 (by omega)
      have g3 := hf 3 (by omega)
      simp [hc1] at g0 g1 g2 g3
      obtain ⟨a, e0, _, w0⟩ := DataW.trod_int Tryz.underlying102 g0
      obtain ⟨b, e1, _, w1⟩ := DataW.trod_int Tryz.underlying102 g1
      obtain ⟨c, e2, _, w2⟩ := DataW.trod_int Tryz.underlying102 g2
      obtain ⟨e, e3, _, w3⟩ := DataW.trod_int Tryz.underlying102 g3
      simp at e0 e1 e2 e3
      subst e0 e1 e2 e3
      have b0 := bounds_i8 w0
      have b1 := bounds_i8 w1
      have b2 := bounds_i8 w2
      have b3 := bounds_i8 w3
      refine ⟨a, b, c, e, rfl, rfl, fun j hj => ?_⟩
      match j, hj with
      | 0, _ => exact b0
      | 1, _ => exact b1
      | 2, _ => exact b2
      | 3, _ => exact b3

set_option maxRecDepth 100000 in
theorem arg_rat (hv : Value.okWide Tryz.prog W r base 55 v) (h : DataW.Trod enc Tryz.prog W 0 (fun _ => true) held 55 v d ps) :
    ∃ s t : List UInt8, v = .agg #[.string ⟨s.toArray⟩, .string ⟨t.toArray⟩] ∧ s.length ≤ maxLen ∧ t.length ≤ maxLen := by
  have hc2 : Tryz.prog.cellsOf 55 = 2 := by kernel_rfl
  have hc1 : Tryz.prog.cellsOf 53 = 1 := by kernel_rfl
  obtain ⟨cs, rfl, _⟩ := okWide_struct Tryz.underlying55 hv
  obtain ⟨fuel, hf⟩ := h
  obtain ⟨xs, m, _, _, hl, hx, hg⟩ := DataW.trod_struct Tryz.underlying55 hf
  rw [hc2] at hl
  have hcs : (Value.agg cs).cells.toList = cs.toList := rfl
  rw [hcs] at hl hg
  rw [← Array.toArray_toList (xs := cs)]
  generalize cs.toList = l at *
  match l, hl with
  | [c0, c1], _ =>
    match xs, hx with
    | [x0, x1], _ =>
      have g0 := hg 0 _ rfl
      have g1 := hg 1 _ rfl
      simp [hc1] at g0 g1
      obtain ⟨s, e0, _, w0⟩ := DataW.trod_string Tryz.underlying53 g0
      obtain ⟨t, e1, _, w1⟩ := DataW.trod_string Tryz.underlying53 g1
      simp at e0 e1
      subst e0 e1
      exact ⟨s.data.toList, t.data.toList, rfl, Nat.le_trans (Nat.le_of_eq (size_list s)) w0, Nat.le_trans (Nat.le_of_eq (size_list t)) w1⟩
end

end Go.Proofs.YtphlodmdcmcjnaaGreatDoor
