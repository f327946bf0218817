/- Arguments that came in, opened: plans, lists of four, numbers, texts, fractions. -/
import Derived.Test.YteenfcmnmenigaaGreatDoorChecksFrameG
import Derived.Test.YteenfcmnmenigaaGreatDoorGH
namespace Go.Proofs.YteenfcmnmenigaaGreatDoor
open Go.ChangeShapes Go.WideShapes Go.ChangeAt Go.RowKit

theorem size_list (s : ByteArray) : s.data.toList.length = s.size := rfl

section
variable {H : Type} {enc : TypeId × Value → H} {W : World} {held : Bool} {base : Nat} {d : DataW H} {ps : List MemPlace} {v : Value} {r : Reach}

set_option maxRecDepth 100000 in
theorem arg_u8 (hv : Value.okWide Tryz.prog W r base 5 v) (h : DataW.Trod enc Tryz.prog W 0 (fun _ => true) held 5 v d ps) : ∃ n : Nat, v = .int .u8 n ∧ n ≤ 255 := by
  obtain ⟨k, rfl⟩ := okWide_int Tryz.underlying5 hv
  obtain ⟨fuel, hf⟩ := h
  obtain ⟨k2, e, _, hw⟩ := DataW.trod_int Tryz.underlying5 hf
  simp [Value.cells] at e
  subst e
  have := bounds_u8 hw
  exact ⟨k.toNat, by rw [Int.toNat_of_nonneg this.1], by omega⟩
set_option maxRecDepth 100000 in
theorem arg_i64 (hv : Value.okWide Tryz.prog W r base 3 v) (h : DataW.Trod enc Tryz.prog W 0 (fun _ => true) held 3 v d ps) : ∃ k : Int, v = .int .i64 k ∧ -9223372036854775808 ≤ k ∧ k ≤ 9223372036854775807 := by
  obtain ⟨k, rfl⟩ := okWide_int Tryz.underlying3 hv
  obtain ⟨fuel, hf⟩ := h
  obtain ⟨k2, e, _, hw⟩ := DataW.trod_int Tryz.underlying3 hf
  simp [Value.cells] at e
  subst e
  exact ⟨k, rfl, bounds_i64 hw⟩
set_option maxRecDepth 100000 in
theorem arg_str (hv : Value.okWide Tryz.prog W r base 9 v) (h : DataW.Trod enc Tryz.prog W 0 (fun _ => true) held 9 v d ps) : ∃ s : List UInt8, v = .string ⟨s.toArray⟩ ∧ s.length ≤ maxLen := by
  obtain ⟨s, rfl⟩ := okWide_string Tryz.underlying9 hv
  obtain ⟨fuel, hf⟩ := h
  obtain ⟨s2, e, _, hw⟩ := DataW.trod_string Tryz.underlying9 hf
  simp [Value.cells] at e
  subst e
  exact ⟨s.data.toList, rfl, Nat.le_trans (Nat.le_of_eq (size_list s)) hw⟩

set_option maxRecDepth 100000 in
theorem arg_rat (hv : Value.okWide Tryz.prog W r base 72 v) (h : DataW.Trod enc Tryz.prog W 0 (fun _ => true) held 72 v d ps) :
    ∃ s t : List UInt8, v = .agg #[.string ⟨s.toArray⟩, .string ⟨t.toArray⟩] ∧ s.length ≤ maxLen ∧ t.length ≤ maxLen := by
  have hc2 : Tryz.prog.cellsOf 72 = 2 := by kernel_rfl
  have hc1 : Tryz.prog.cellsOf 55 = 1 := by kernel_rfl
  obtain ⟨cs, rfl, _⟩ := okWide_struct Tryz.underlying72 hv
  obtain ⟨fuel, hf⟩ := h
  obtain ⟨xs, m, _, _, hl, hx, hg⟩ := DataW.trod_struct Tryz.underlying72 hf
  rw [hc2] at hl
  have hcs : (Value.agg cs).cells.toList = cs.toList := rfl
  rw [hcs] at hl hg
  rw [← Array.toArray_toList (xs := cs)]
  generalize cs.toList = l at *
  match l, hl with
  | [c0, c1], _ =>
    match xs, hx with
    | [x0, x1], _ =>
      have g0 := hg 0 _ rfl
      have g1 := hg 1 _ rfl
      simp [hc1] at g0 g1
      obtain ⟨s, e0, _, w0⟩ := DataW.trod_string Tryz.underlying55 g0
      obtain ⟨t, e1, _, w1⟩ := DataW.trod_string Tryz.underlying55 g1
      simp at e0 e1
      subst e0 e1
      exact ⟨s.data.toList, t.data.toList, rfl, Nat.le_trans (Nat.le_of_eq (size_list s)) w0, Nat.le_trans (Nat.le_of_eq (size_list t)) w1⟩
end

end Go.Proofs.YteenfcmnmenigaaGreatDoor
