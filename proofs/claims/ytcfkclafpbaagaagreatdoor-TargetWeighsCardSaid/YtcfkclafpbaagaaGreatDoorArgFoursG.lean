/- Arguments that came in, opened: slices of four small numbers. -/
import Derived.Test.YtcfkclafpbaagaaGreatDoorArgsG
import Derived.Deep.Slices
namespace Go.Proofs.YtcfkclafpbaagaaGreatDoor
open Go.ChangeShapes Go.WideShapes Go.ChangeAt Go.RowKit

/-- A slice of four small numbers that came in. -/
def FoursArg (w : World) (v : Value) (l : List (List Int)) : Prop := ∃ A c, v = .slice A l.length c ∧ l.length ≤ maxLen ∧ ∀ (k : Nat) (x : List Int), l[k]? = some x → Four x ∧ ∃ ad, A = some ad ∧ ad.block < w.heap.size ∧ ∀ j, j < 4 → w.cell? (ad.add (k * 4 + j)) = some (.int .i8 (x[j]?.getD 0))

section
variable {H : Type} {enc : TypeId × Value → H} {W : World} {held : Bool} {base : Nat} {d : DataW H} {ps : List MemPlace} {v : Value} {r : Reach}

set_option maxRecDepth 100000 in
theorem arg_fours (hv : Value.okWide Tryz.prog W r base 22 v) (h : DataW.Trod enc Tryz.prog W 0 (fun _ => true) held 22 v d ps) :
    ∃ l : List (List Int), FoursArg W v l := by
  obtain ⟨A0, len0, cap0, rfl⟩ := okWide_slice Tryz.underlying22 hv
  have hc4 : Tryz.prog.cellsOf 31 = 4 := by kernel_rfl
  obtain ⟨fuel, hf⟩ := h
  rcases Go.Deep.open_slice Tryz.underlying22 hf with ⟨e, _⟩ | ⟨a, len, cap, m, n, D, Pl, e, _, hl, hm, hmm, _, hi⟩
  · simp [Value.cells] at e
    obtain ⟨rfl, rfl, rfl⟩ := e
    exact ⟨[], Option.none, 0, rfl, Nat.zero_le _, fun k x h => by simp at h⟩
  · simp [Value.cells] at e
    obtain ⟨rfl, rfl, rfl⟩ := e
    have hlm : len0 ≤ m := by rw [hmm]; split <;> omega
    have each : ∀ i, i < len0 → ∃ x : List Int, Four x ∧ ∀ j, j < 4 → W.cell? (a.add (i * 4 + j)) = some (.int .i8 (x[j]?.getD 0)) := fun i hil => by
      obtain ⟨cs', h1, h2⟩ := hi i (by omega)
      rw [hc4] at h1
      obtain ⟨_, _, h3⟩ := World.cells?_some h1
      obtain ⟨x0, x1, x2, x3, e, h4⟩ := trod_four h2
      subst e
      refine ⟨[x0, x1, x2, x3], h4, fun j hj => ?_⟩
      rw [← add_add', h3 j hj]
      match j, hj with
      | 0, _ => rfl
      | 1, _ => rfl
      | 2, _ => rfl
      | 3, _ => rfl
    have build : ∀ k, k ≤ len0 → ∃ l : List (List Int), l.length = k ∧ ∀ (i : Nat) x, l[i]? = some x → Four x ∧ ∀ j, j < 4 → W.cell? (a.add (i * 4 + j)) = some (.int .i8 (x[j]?.getD 0)) := by
      intro k
      induction k with
      | zero => exact fun _ => ⟨[], rfl, fun i y h => by simp at h⟩
      | succ k ih =>
        intro hk
        obtain ⟨l, hl1, hl3⟩ := ih (by omega)
        obtain ⟨x, h1, h2⟩ := each k (by omega)
        refine ⟨l ++ [x], by simp [hl1], fun i u hu => ?_⟩
        by_cases hik : i < k
        · rw [List.getElem?_append_left (by omega)] at hu
          exact hl3 i u hu
        · by_cases hik2 : i = k
          · subst hik2
            rw [List.getElem?_append_right (by omega), hl1, Nat.sub_self] at hu
            simp at hu
            subst hu
            exact ⟨h1, h2⟩
          · rw [List.getElem?_eq_none (by simp; omega)] at hu
            cases hu
    obtain ⟨l, h1, h2⟩ := build len0 (Nat.le_refl _)
    subst h1
    refine ⟨l, some a, cap0, rfl, by omega, fun k x hx => ?_⟩
    obtain ⟨k1, k2⟩ := h2 k x hx
    exact ⟨k1, a, rfl, by have := World.block_lt_of_cell? W _ (k2 0 (by omega)); rw [add_block] at this; exact this, k2⟩
end

end Go.Proofs.YtcfkclafpbaagaaGreatDoor
