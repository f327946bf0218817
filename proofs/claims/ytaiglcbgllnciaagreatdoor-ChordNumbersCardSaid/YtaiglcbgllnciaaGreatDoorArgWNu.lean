/- Arguments that came in, opened: the worlds of schismalaw39. -/
import Derived.Test.YtaiglcbgllnciaaGreatDoorChecksFrameNu
import Derived.Test.YtaiglcbgllnciaaGreatDoorGHNu
import Derived.Test.YtaiglcbgllnciaaGreatDoorGCKNu
namespace Go.Proofs.YtaiglcbgllnciaaGreatDoor
open Go.ChangeShapes Go.WideShapes Go.ChangeAt Go.RowKit

/-- A list of n small numbers. -/
def Smalls (n : Nat) (l : List Int) : Prop := l.length = n ∧ ∀ j : Nat, -128 ≤ l[j]?.getD 0 ∧ l[j]?.getD 0 ≤ 127
/-- A world that came in. -/
def WorldArg (v : Value) (n m : Nat) (r : List Int) : Prop := ∃ cs, v = .agg cs ∧ WCells n m r cs ∧ n ≤ 255 ∧ m ≤ 255 ∧ Smalls 18 r

theorem Smalls.append {n m : Nat} {a b : List Int} (ha : Smalls n a) (hb : Smalls m b) : Smalls (n + m) (a ++ b) := by
  refine ⟨by rw [List.length_append, ha.1, hb.1], fun j => ?_⟩
  by_cases h : j < a.length
  · rw [List.getElem?_append_left h]; exact ha.2 j
  · rw [List.getElem?_append_right (by omega)]; exact hb.2 _

section
variable {H : Type} {enc : TypeId × Value → H} {W : World} {held : Bool} {base : Nat} {d : DataW H} {ps : List MemPlace} {v : Value} {r : Reach}

set_option maxRecDepth 100000 in
theorem trod_three {fuel : Nat} {cs : List Value} {x : DataW H × List MemPlace} (h : DataW.trod enc Tryz.prog W 0 (fun _ => true) held fuel 23 cs = some x) :
    ∃ l : List Int, cs = l.map (fun z => Value.int .i8 z) ∧ Smalls 3 l := by
  have hc3 : Tryz.prog.cellsOf 23 = 3 := by kernel_rfl
  have hc1 : Tryz.prog.cellsOf 22 = 1 := by kernel_rfl
  obtain ⟨xs, m, _, _, hl, hx, hf⟩ := DataW.trod_array Tryz.underlying23 h
  rw [hc3] at hl
  match cs, hl with
  | [c0, c1, c2], _ =>
    match xs, hx with
    | [x0, x1, x2], _ =>
      have g0 := hf 0 (by omega)
      have g1 := hf 1 (by omega)
      have g2 := hf 2 (by omega)
      simp [hc1] at g0 g1 g2
      obtain ⟨a, e0, _, w0⟩ := DataW.trod_int Tryz.underlying22 g0
      obtain ⟨b, e1, _, w1⟩ := DataW.trod_int Tryz.underlying22 g1
      obtain ⟨c, e2, _, w2⟩ := DataW.trod_int Tryz.underlying22 g2
      simp at e0 e1 e2
      subst e0 e1 e2
      have b0 := bounds_i8 w0
      have b1 := bounds_i8 w1
      have b2 := bounds_i8 w2
      refine ⟨[a, b, c], rfl, rfl, fun j => ?_⟩
      match j with
      | 0 => exact b0
      | 1 => exact b1
      | 2 => exact b2
      | _ + 3 => simp

set_option maxRecDepth 100000 in
theorem trod_eighteen {fuel : Nat} {cs : List Value} {x : DataW H × List MemPlace} (h : DataW.trod enc Tryz.prog W 0 (fun _ => true) held fuel 24 cs = some x) :
    ∃ l : List Int, cs = l.map (fun z => Value.int .i8 z) ∧ Smalls 18 l := by
  have hc18 : Tryz.prog.cellsOf 24 = 18 := by kernel_rfl
  have hc3 : Tryz.prog.cellsOf 23 = 3 := by kernel_rfl
  obtain ⟨xs, m, _, _, hl, hx, hf⟩ := DataW.trod_array Tryz.underlying24 h
  rw [hc18] at hl
  match cs, hl with
  | [c0, c1, c2, c3, c4, c5, c6, c7, c8, c9, c10, c11, c12, c13, c14, c15, c16, c17], _ =>
    match xs, hx with
    | [x0, x1, x2, x3, x4, x5], _ =>
      have g0 := hf 0 (by omega)
      have g1 := hf 1 (by omega)
      have g2 := hf 2 (by omega)
      have g3 := hf 3 (by omega)
      have g4 := hf 4 (by omega)
      have g5 := hf 5 (by omega)
      simp [hc3] at g0 g1 g2 g3 g4 g5
      obtain ⟨l0, e0, s0⟩ := trod_three g0
      obtain ⟨l1, e1, s1⟩ := trod_three g1
      obtain ⟨l2, e2, s2⟩ := trod_three g2
      obtain ⟨l3, e3, s3⟩ := trod_three g3
      obtain ⟨l4, e4, s4⟩ := trod_three g4
      obtain ⟨l5, e5, s5⟩ := trod_three g5
      refine ⟨l0 ++ l1 ++ l2 ++ l3 ++ l4 ++ l5, ?_, ((((s0.append s1).append s2).append s3).append s4).append s5⟩
      rw [List.map_append, List.map_append, List.map_append, List.map_append, List.map_append, ← e0, ← e1, ← e2, ← e3, ← e4, ← e5]
      rfl

set_option maxRecDepth 100000 in
theorem arg_world (hv : Value.okWide Tryz.prog W r base 26 v) (h : DataW.Trod enc Tryz.prog W 0 (fun _ => true) held 26 v d ps) :
    ∃ (n m : Nat) (l : List Int), WorldArg v n m l := by
  have hc20 : Tryz.prog.cellsOf 26 = 20 := by kernel_rfl
  have hc18 : Tryz.prog.cellsOf 24 = 18 := by kernel_rfl
  have hc1 : Tryz.prog.cellsOf 5 = 1 := by kernel_rfl
  obtain ⟨cs, rfl, _⟩ := okWide_struct Tryz.underlying26 hv
  obtain ⟨fuel, hf⟩ := h
  obtain ⟨xs, m, _, _, hl, hx, hg⟩ := DataW.trod_struct Tryz.underlying26 hf
  rw [hc20] at hl
  have hcs : (Value.agg cs).cells.toList = cs.toList := rfl
  rw [hcs] at hl hg
  refine (?_ : ∃ (n m : Nat) (l : List Int), cs.toList = .int .u8 n :: .int .u8 m :: l.map (fun z => Value.int .i8 z) ∧ n ≤ 255 ∧ m ≤ 255 ∧ Smalls 18 l).elim fun n h => ?_
  · generalize cs.toList = l at *
    match l, hl with
    | [c0, c1, c2, c3, c4, c5, c6, c7, c8, c9, c10, c11, c12, c13, c14, c15, c16, c17, c18, c19], _ =>
      match xs, hx with
      | [x0, x1, x2], _ =>
        have g0 := hg 0 _ rfl
        have g1 := hg 1 _ rfl
        have g2 := hg 2 _ rfl
        simp [hc1, hc18] at g0 g1 g2
        obtain ⟨k, e0, _, w0⟩ := DataW.trod_int Tryz.underlying5 g0
        obtain ⟨k1, e1, _, w1⟩ := DataW.trod_int Tryz.underlying5 g1
        obtain ⟨l2, e2, h2⟩ := trod_eighteen g2
        simp at e0 e1
        subst e0 e1
        have b0 := bounds_u8 w0
        have b1 := bounds_u8 w1
        refine ⟨k.toNat, k1.toNat, l2, ?_, by omega, by omega, h2⟩
        rw [← e2, Int.toNat_of_nonneg b0.1, Int.toNat_of_nonneg b1.1]
  · obtain ⟨m, l, h1, h2, h3, h4⟩ := h
    exact ⟨n, m, l, cs, rfl, h1, h2, h3, h4⟩

end

end Go.Proofs.YtaiglcbgllnciaaGreatDoor
