/- Arguments that came in, opened: slices of rows. -/
import Derived.Test.YteenfcmnmenigaaGreatDoorArgsG
import Derived.Deep.Slices
namespace Go.Proofs.YteenfcmnmenigaaGreatDoor
open Go.ChangeShapes Go.WideShapes Go.ChangeAt Go.RowKit

/-- A slice of rows that came in. -/
def RowsArg (w : World) (v : Value) (l : List (List Int)) : Prop := ∃ A c, v = .slice A l.length c ∧ l.length ≤ maxLen ∧ RowsAt w w.heap.size A l

section
variable {H : Type} {enc : TypeId × Value → H} {W : World} {held : Bool} {base : Nat} {d : DataW H} {ps : List MemPlace} {v : Value} {r : Reach}

theorem trod_rowR {fuel : Nat} {cs : List Value} {x : DataW H × List MemPlace} (h : DataW.trod enc Tryz.prog W 0 (fun _ => true) held fuel 31 cs = some x) : ∃ rv y, cs = [rv] ∧ IsRow W W.heap.size rv y := by
  rcases open_ints Tryz.underlying31 Tryz.underlying3 (by kernel_rfl) h with ⟨rfl, _⟩ | ⟨a, l, c, zs, rfl, _⟩
  · exact ⟨_, [], rfl, Option.none, 0, rfl, Nat.le_refl _, Nat.zero_le _, Row.nil _ _ _ _⟩
  · obtain ⟨d, p⟩ := x
    obtain ⟨y, hy⟩ := arg_row (len := l) (cap := c) (a := some a) Tryz.underlying31 ⟨fuel, h⟩
    exact ⟨_, y, rfl, hy⟩

set_option maxRecDepth 100000 in
theorem arg_rows (hv : Value.okWide Tryz.prog W r base 24 v) (h : DataW.Trod enc Tryz.prog W 0 (fun _ => true) held 24 v d ps) :
    ∃ l : List (List Int), RowsArg W v l := by
  obtain ⟨A0, len0, cap0, rfl⟩ := okWide_slice Tryz.underlying24 hv
  have hc1 : Tryz.prog.cellsOf 31 = 1 := by kernel_rfl
  obtain ⟨fuel, hf⟩ := h
  rcases Go.Deep.open_slice Tryz.underlying24 hf with ⟨e, _⟩ | ⟨a, len, cap, m, n, D, Pl, e, _, hl, hm, hmm, _, hi⟩
  · simp [Value.cells] at e
    obtain ⟨rfl, rfl, rfl⟩ := e
    exact ⟨[], Option.none, 0, rfl, Nat.zero_le _, ⟨fun k x h => by simp at h⟩⟩
  · simp [Value.cells] at e
    obtain ⟨rfl, rfl, rfl⟩ := e
    have hlm : len0 ≤ m := by rw [hmm]; split <;> omega
    have each : ∀ i, i < len0 → ∃ (rv : Value) (y : List Int), IsRow W W.heap.size rv y ∧ W.cell? (a.add i) = some rv := fun i hil => by
      obtain ⟨cs', h1, h2⟩ := hi i (by omega)
      rw [hc1, Nat.mul_one] at h1
      obtain ⟨_, _, h3⟩ := World.cells?_some h1
      obtain ⟨rv, y, e, h4⟩ := trod_rowR h2
      subst e
      refine ⟨rv, y, h4, ?_⟩
      have h5 := h3 0 (by omega)
      rw [show (a.add i).add 0 = a.add i by unfold Addr.add; split <;> simp_all] at h5
      exact h5
    have build : ∀ k, k ≤ len0 → ∃ l : List (List Int), l.length = k ∧ ∀ (i : Nat) y, l[i]? = some y → ∃ rv, IsRow W W.heap.size rv y ∧ W.cell? (a.add i) = some rv := by
      intro k
      induction k with
      | zero => exact fun _ => ⟨[], rfl, fun i y h => by simp at h⟩
      | succ k ih =>
        intro hk
        obtain ⟨l, hl1, hl3⟩ := ih (by omega)
        obtain ⟨rv, y, h1, h2⟩ := each k (by omega)
        refine ⟨l ++ [y], by simp [hl1], fun i u hu => ?_⟩
        by_cases hik : i < k
        · rw [List.getElem?_append_left (by omega)] at hu
          exact hl3 i u hu
        · by_cases hik2 : i = k
          · subst hik2
            rw [List.getElem?_append_right (by omega), hl1, Nat.sub_self] at hu
            simp at hu
            subst hu
            exact ⟨rv, h1, h2⟩
          · rw [List.getElem?_eq_none (by simp; omega)] at hu
            cases hu
    obtain ⟨l, h1, h2⟩ := build len0 (Nat.le_refl _)
    subst h1
    refine ⟨l, some a, cap0, rfl, by omega, ⟨fun k x hx => ?_⟩⟩
    obtain ⟨rv, k1, k2⟩ := h2 k x hx
    exact ⟨a, rv, rfl, by have := World.block_lt_of_cell? W _ k2; rw [add_block] at this; exact this, k2, k1⟩
end

end Go.Proofs.YteenfcmnmenigaaGreatDoor
