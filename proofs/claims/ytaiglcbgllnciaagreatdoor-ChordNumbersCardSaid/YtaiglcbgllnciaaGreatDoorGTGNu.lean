/- Lists of rows; target.once's contract as a word; target.between up to it. target.reduced with each of the three choices, given once (printed by gen_tg4.py). -/
import Derived.Test.YtaiglcbgllnciaaGreatDoorGTFNu
import Derived.Maps.AppendAt
import Derived.Test.YtaiglcbgllnciaaGreatDoorGENu
namespace Go.Proofs.YtaiglcbgllnciaaGreatDoor
open Go.RowKit Go.Lib

/-- A list of rows, each in a block of its own, in an array that the call owns. -/
def LRow (w : World) (base : Nat) (v : Value) (l : List (List Int)) : Prop :=
  ∃ vs : List Value, w.ownsRow base 41 1 v l.length vs ∧ ∀ (j : Nat) (x : List Int), l[j]? = some x → ∃ u, vs[j]? = some u ∧ ORow w u x
theorem LRow.nil (w : World) (base : Nat) : LRow w base (.slice Option.none 0 0) [] := ⟨[], World.ownsRow_nil _ _ _ _, fun j x h => by simp at h⟩
theorem LRow.below {w w' : World} {base : Nat} {v : Value} {l : List (List Int)} (h : LRow w base v l) (hb : Below w.heap.size w w') : LRow w' base v l := by
  obtain ⟨vs, h1, h2⟩ := h
  exact ⟨vs, own_below h1 hb, fun j x hj => by obtain ⟨u, h3, h4⟩ := h2 j x hj; exact ⟨u, h3, h4.below hb⟩⟩
theorem LRow.own {w : World} {base : Nat} {v : Value} {l : List (List Int)} (h : LRow w base v l) : ∃ vs, w.ownsRow base 41 1 v l.length vs := by
  obtain ⟨vs, h1, _⟩ := h
  exact ⟨vs, h1⟩
/-- One row more: what the append's law gives. -/
theorem LRow.snoc {w w' : World} {base : Nat} {v v' u : Value} {l : List (List Int)} {x : List Int} {vs : List Value} (h1 : w.ownsRow base 41 1 v l.length vs) (h2 : ∀ (j : Nat) (x : List Int), l[j]? = some x → ∃ u, vs[j]? = some u ∧ ORow w u x) (hx : ORow w u x)
    (hown : w'.ownsRow base 41 1 v' (l.length + 1) (vs ++ [u])) (hg : w.grownBy w' v.ownBlock) : LRow w' base v' (l ++ [x]) := by
  have hvl : vs.length = l.length := by have := h1.1; omega
  refine ⟨vs ++ [u], by rw [List.length_append]; exact hown, fun j y hj => ?_⟩
  by_cases hjl : j < l.length
  · rw [List.getElem?_append_left hjl] at hj
    obtain ⟨u2, h3, h4⟩ := h2 j y hj
    exact ⟨u2, by rw [List.getElem?_append_left (by omega)]; exact h3, h4.grown h1 (by decide) hg⟩
  · rw [List.getElem?_append_right (by omega)] at hj
    have hj0 : j - l.length = 0 := by
      obtain ⟨hlt, _⟩ := List.getElem?_eq_some_iff.1 hj
      simpa using hlt
    rw [hj0] at hj
    cases hj
    exact ⟨u, by rw [List.getElem?_append_right (by omega), hvl, hj0]; rfl, hx.grown h1 (by decide) hg⟩
theorem LRow.rows {w : World} {base : Nat} {A : Option Addr} {n c : Nat} {l : List (List Int)} (h : LRow w base (.slice A n c) l) : n = l.length ∧ RowsAt w w.heap.size A l := by
  obtain ⟨vs, h1, h2⟩ := h
  obtain ⟨A', c', e, h3, h4, hr⟩ := Row.of_own h1
  cases e
  refine ⟨rfl, ⟨fun k x hx => ?_⟩⟩
  obtain ⟨u, h5, h6⟩ := h2 k x hx
  obtain ⟨ad, e1, h7, h8⟩ := hr.get k u h5
  exact ⟨ad, u, e1, h7, h8, h6.row⟩
theorem LRow.shape {w : World} {base : Nat} {v : Value} {l : List (List Int)} (h : LRow w base v l) : ∃ A c, v = .slice A l.length c := by
  obtain ⟨vs, h1, _⟩ := h
  rcases h1.2 with ⟨rfl, h0⟩ | ⟨g, cap, cur, rfl, _⟩
  · exact ⟨Option.none, 0, by rw [h0]⟩
  · exact ⟨_, _, rfl⟩
theorem RowsAt.lift {w w' : World} {A : Option Addr} {l : List (List Int)} (h : RowsAt w w.heap.size A l) (hb : Below w.heap.size w w') : RowsAt w' w'.heap.size A l :=
  ⟨fun k x hx => by
    obtain ⟨ad, v, e, h1, h2, h3⟩ := h.get k x hx
    exact ⟨ad, v, e, Nat.lt_of_lt_of_le h1 hb.size, (hb.cell (p := ad.add k) (by rw [add_block]; exact h1)).trans h2, h3.lift hb⟩⟩

/-- x is less than y, as numbers. -/
def ltR (p x y : List Int) : Bool := decide (num p x * den p y < num p y * den p x)
def insR (p : List Int) (s : List (List Int)) (x : List Int) : List (List Int) := s.filter (fun y => ltR p y x) ++ x :: s.filter (fun y => ltR p x y)
/-- A list in order, each once. -/
def onceL (p : List Int) (l : List (List Int)) : List (List Int) := l.foldl (insR p) []

end Go.Proofs.YtaiglcbgllnciaaGreatDoor

namespace Go.Proofs.YtaiglcbgllnciaaGreatDoor
open Go.RowKit Go.Lib

/-- What reduced needs: r x is x within the equave, c x its complement. -/
structure RdsOk (p : List Int) (n : Nat) (l : List (List Int)) (r c : List Int → List Int) : Prop where
  red : ∀ x ∈ l, ∃ q, RedOk p x n q ∧ r x = addE x (-q)
  inv : ∀ x ∈ l, ∃ q, RedOk p (timesTo x (-1) x.length) n q ∧ c x = addE (timesTo x (-1) x.length) (-q)
  chk : ∀ x ∈ l, chkAll p [r x, c x] = 0
  pe : primeErr p = 0

end Go.Proofs.YtaiglcbgllnciaaGreatDoor
