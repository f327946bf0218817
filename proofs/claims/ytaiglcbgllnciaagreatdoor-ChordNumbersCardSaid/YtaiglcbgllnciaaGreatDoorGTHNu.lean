/- The order of rows; the closure of once; slices.SortFunc of rows. slices.SortFunc of rows, as once calls it. A map from texts to true, as a set of texts. -/
import Derived.Shelf.SlSortCmp.Whole1
import Derived.Ground.SlsfProg
import Derived.Test.YtaiglcbgllnciaaGreatDoorShelf4
import Derived.Test.YtaiglcbgllnciaaGreatDoorGTANu
import Derived.Test.YtaiglcbgllnciaaGreatDoorGTGNu
import Derived.Lib.QuietBelow
import Derived.Test.YtaiglcbgllnciaaGreatDoorGENu
import Derived.Test.YtaiglcbgllnciaaGreatDoorGGNu
import Derived.Test.YtaiglcbgllnciaaGreatDoorGTBNu
import Derived.Maps.OwnSet
namespace Go.Proofs.YtaiglcbgllnciaaGreatDoor
open Go.RowKit Go.Lib Go.Shelf

theorem below_regrow {w w' : World} (h : RowKit.Below w.heap.size w w') (hd : w.drawn ≤ w'.drawn) : ∃ q os', w' = Sort.grow (w.drewN q) os' := by
  obtain ⟨p, hp⟩ := regrown_of_below h
  have e : w'.drawn = p.d := by rw [hp]; rfl
  refine ⟨p.d - w.drawn, p.os, ?_⟩
  have e2 : w.drewN (p.d - w.drawn) = redrawn w p.d := by
    unfold redrawn World.drewN
    congr 1
    omega
  rw [e2, ← hp]

/-- A row of the list that is sorted, with its numbers: it lay there when the caller began. -/
abbrev SRow (w : World) (p : List Int) := { t : Value × List Int // IsRow w w.heap.size t.1 t.2 ∧ chkAll p [t.2] = 0 }
def srEnc {w : World} {p : List Int} (t : SRow w p) : Value := t.1.1
def srCf {w : World} {p : List Int} (a b : SRow w p) : Int := cmpN (num p a.1.2 * den p b.1.2) (num p b.1.2 * den p a.1.2)
theorem srOne {w : World} {p : List Int} : OneCell (srEnc (w := w) (p := p)) := fun t => by
  obtain ⟨A, c, e⟩ := t.2.1.shape
  unfold srEnc
  rw [e]
  rfl

theorem below_sort {α : Type} [Inhabited α] (enc : α → Value) (w0 w : World) (g m : Nat) (dk : Array α) (os : Array Obj) (h : RowKit.Below w0.heap.size w0 w) (hg : w0.heap.size ≤ g) : RowKit.Below w0.heap.size w0 (sortWorld enc w g 0 m dk os) := by
  unfold sortWorld
  have h1 : RowKit.Below w0.heap.size w0 (Sort.putRow enc (Sort.ahead w m) g 0 dk) := below_putRow h hg
  exact h1.trans (Lib.below_grow w0.heap.size _ h1.size 0 os)

theorem chk_join {p x y : List Int} (hx : chkAll p [x] = 0) (hy : chkAll p [y] = 0) : chkAll p [x, y] = 0 := by
  unfold chkAll at hx hy ⊢
  split at hx
  · rename_i h; exact absurd hx h
  · rename_i h
    rw [if_neg h] at hy ⊢
    unfold rowsErr at hx hy ⊢
    split at hx
    · rename_i h2; exact absurd hx h2
    · rename_i h2
      rw [if_neg h2]
      exact hy

end Go.Proofs.YtaiglcbgllnciaaGreatDoor

namespace Go.Proofs.YtaiglcbgllnciaaGreatDoor
open Go.RowKit Go.Lib Go.Shelf

theorem cross_tr {a b c d e f : Nat} (hb : 0 < b) (_hf : 0 < f) (h1 : a * d < c * b) (h2 : c * f < e * d) : a * f < e * b := by
  have k1 : a * d * f < c * b * f := Nat.mul_lt_mul_of_pos_right h1 _hf
  have k2 : c * f * b < e * d * b := Nat.mul_lt_mul_of_pos_right h2 hb
  have e1 : c * b * f = c * f * b := by rw [Nat.mul_assoc, Nat.mul_comm b f, ← Nat.mul_assoc]
  have k3 : a * d * f < e * d * b := by omega
  have e2 : a * d * f = a * f * d := by rw [Nat.mul_assoc, Nat.mul_comm d f, ← Nat.mul_assoc]
  have e3 : e * d * b = e * b * d := by rw [Nat.mul_assoc, Nat.mul_comm d b, ← Nat.mul_assoc]
  rw [e2, e3] at k3
  exact Nat.lt_of_mul_lt_mul_right k3
theorem cross_trle {a b c d e f : Nat} (_hb : 0 < b) (hd : 0 < d) (_hf : 0 < f) (h1 : c * b ≤ a * d) (h2 : e * d ≤ c * f) : e * b ≤ a * f := by
  have k1 : c * b * f ≤ a * d * f := Nat.mul_le_mul_right f h1
  have k2 : e * d * b ≤ c * f * b := Nat.mul_le_mul_right b h2
  have e1 : c * b * f = c * f * b := by rw [Nat.mul_assoc, Nat.mul_comm b f, ← Nat.mul_assoc]
  have e2 : a * d * f = a * f * d := by rw [Nat.mul_assoc, Nat.mul_comm d f, ← Nat.mul_assoc]
  have e3 : e * d * b = e * b * d := by rw [Nat.mul_assoc, Nat.mul_comm d b, ← Nat.mul_assoc]
  have k3 : e * b * d ≤ a * f * d := by omega
  exact Nat.le_of_mul_le_mul_right k3 hd

theorem cmpN_lt0 (a b : Nat) : decide (cmpN a b < 0) = decide (a < b) := by
  unfold cmpN
  split
  · rename_i h; rw [decide_eq_true h]; decide
  · rename_i h
    rw [decide_eq_false h]
    split <;> decide
theorem srLt {w : World} {p : List Int} (a b : SRow w p) : ltOf srCf a b = ltR p a.1.2 b.1.2 := by
  unfold ltOf srCf ltR
  exact cmpN_lt0 _ _
theorem srSwo {w : World} {p : List Int} (hP : Primed p) : Sort.SWO (ltOf (srCf (w := w) (p := p))) := by
  have hl : ∀ t : SRow w p, t.1.2.length = p.length := fun t => (right_of t.2.2).len
  refine ⟨fun x => ?_, fun x y z h1 h2 => ?_, fun x y z h1 h2 => ?_⟩
  · rw [srLt]; unfold ltR; simp
  · rw [srLt] at *
    unfold ltR at *
    rw [decide_eq_true_eq] at *
    exact cross_tr (den_pos hP (hl x)) (den_pos hP (hl z)) h1 h2
  · rw [srLt] at *
    unfold ltR at *
    rw [decide_eq_false_iff_not] at *
    exact Nat.not_lt.2 (cross_trle (den_pos hP (hl x)) (den_pos hP (hl y)) (den_pos hP (hl z)) (Nat.not_lt.1 h1) (Nat.not_lt.1 h2))

end Go.Proofs.YtaiglcbgllnciaaGreatDoor

namespace Go.Proofs.YtaiglcbgllnciaaGreatDoor
open Go.RowKit Go.Lib Go.Maps
open Go.ChangeMaps Go.MapKept Go.WideShapes

/-- Block b is a map that holds true at just the texts of S. -/
def MapS (w : World) (b n : Nat) (S : List (List UInt8)) : Prop := ∃ D : DataW Unit, w.ownsMap Tryz.prog 9 (plainElem Tryz.prog 4) b n D ∧ ∀ s : List UInt8, D.atKey (.string s) (.lit (.bool false)) = .lit (.bool (decide (s ∈ S)))

theorem MapS.kept {w w' : World} {b n : Nat} {S : List (List UInt8)} {row : Option Nat} (h : MapS w b n S) (hg : w.grownBy w' row) (hne : some b ≠ row) : MapS w' b n S := by
  obtain ⟨D, h1, h2⟩ := h
  exact ⟨D, h1.kept hg hne, h2⟩
theorem MapS.lt {w : World} {b n : Nat} {S : List (List UInt8)} (h : MapS w b n S) : b < w.heap.size := by
  obtain ⟨D, h1, _⟩ := h
  exact h1.lt
theorem MapS.alloc {w : World} {b n : Nat} {S : List (List UInt8)} (h : MapS w b n S) (o : Obj) : MapS (w.alloc o) b n S := by
  obtain ⟨D, h1, h2⟩ := h
  exact ⟨D, h1.alloc o, h2⟩
theorem MapS.below {w w' : World} {b n : Nat} {S : List (List UInt8)} (h : MapS w b n S) (hb : Below w.heap.size w w') : MapS w' b n S := by
  obtain ⟨D, h1, h2⟩ := h
  refine ⟨D, ?_, h2⟩
  have hlt := h1.lt
  obtain ⟨es, clock, h3, h4⟩ := h1
  exact ⟨es, clock, (hb.block b hlt).trans h3, h4⟩

end Go.Proofs.YtaiglcbgllnciaaGreatDoor
