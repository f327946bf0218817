/- Lists of rows; target.once's contract as a word; target.between up to it. target.whole, pair, lesser; lists of rows, appended. target.reduced with each of the three choices, given once (printed by gen_tg4.py). -/
import Derived.Test.YteenfcmnmenigaaGreatDoorGTF
import Derived.Test.YteenfcmnmenigaaGreatDoorGE
import Derived.Maps.AppendAt
namespace Go.Proofs.YteenfcmnmenigaaGreatDoor
open Go.RowKit Go.Lib

/-- A list of rows, each in a block of its own, in an array that the call owns. -/
def LRow (w : World) (base : Nat) (v : Value) (l : List (List Int)) : Prop :=
  ∃ vs : List Value, w.ownsRow base 31 1 v l.length vs ∧ ∀ (j : Nat) (x : List Int), l[j]? = some x → ∃ u, vs[j]? = some u ∧ ORow w u x
theorem LRow.nil (w : World) (base : Nat) : LRow w base (.slice Option.none 0 0) [] := ⟨[], World.ownsRow_nil _ _ _ _, fun j x h => by simp at h⟩
theorem LRow.below {w w' : World} {base : Nat} {v : Value} {l : List (List Int)} (h : LRow w base v l) (hb : Below w.heap.size w w') : LRow w' base v l := by
  obtain ⟨vs, h1, h2⟩ := h
  exact ⟨vs, own_below h1 hb, fun j x hj => by obtain ⟨u, h3, h4⟩ := h2 j x hj; exact ⟨u, h3, h4.below hb⟩⟩
theorem LRow.own {w : World} {base : Nat} {v : Value} {l : List (List Int)} (h : LRow w base v l) : ∃ vs, w.ownsRow base 31 1 v l.length vs := by
  obtain ⟨vs, h1, _⟩ := h
  exact ⟨vs, h1⟩
/-- One row more: what the append's law gives. -/
theorem LRow.snoc {w w' : World} {base : Nat} {v v' u : Value} {l : List (List Int)} {x : List Int} {vs : List Value} (h1 : w.ownsRow base 31 1 v l.length vs) (h2 : ∀ (j : Nat) (x : List Int), l[j]? = some x → ∃ u, vs[j]? = some u ∧ ORow w u x) (hx : ORow w u x)
    (hown : w'.ownsRow base 31 1 v' (l.length + 1) (vs ++ [u])) (hg : w.grownBy w' v.ownBlock) : LRow w' base v' (l ++ [x]) := by
  have hvl : vs.length = l.length := by have := h1.1; omega
  refine ⟨vs ++ [u], by rw [List.length_append]; exact hown, fun j y hj => ?_⟩
  by_cases hjl : j < l.length
  · rw [List.getElem?_append_left hjl] at hj
    obtain ⟨u2, h3, h4⟩ := h2 j y hj
    exact ⟨u2, by rw [List.getElem?_append_left (by omega)]; exact h3, h4.grown h1 (by decide) hg⟩
  · rw [List.getElem?_append_right (by omega)] at hj
    have hj0 : j - l.length = 0 := by
      obtain ⟨hlt, _⟩ := List.getElem?_eq_some_iff.1 hj
      simpa using hlt
    rw [hj0] at hj
    cases hj
    exact ⟨u, by rw [List.getElem?_append_right (by omega), hvl, hj0]; rfl, hx.grown h1 (by decide) hg⟩
theorem LRow.rows {w : World} {base : Nat} {A : Option Addr} {n c : Nat} {l : List (List Int)} (h : LRow w base (.slice A n c) l) : n = l.length ∧ RowsAt w w.heap.size A l := by
  obtain ⟨vs, h1, h2⟩ := h
  obtain ⟨A', c', e, h3, h4, hr⟩ := Row.of_own h1
  cases e
  refine ⟨rfl, ⟨fun k x hx => ?_⟩⟩
  obtain ⟨u, h5, h6⟩ := h2 k x hx
  obtain ⟨ad, e1, h7, h8⟩ := hr.get k u h5
  exact ⟨ad, u, e1, h7, h8, h6.row⟩
theorem LRow.shape {w : World} {base : Nat} {v : Value} {l : List (List Int)} (h : LRow w base v l) : ∃ A c, v = .slice A l.length c := by
  obtain ⟨vs, h1, _⟩ := h
  rcases h1.2 with ⟨rfl, h0⟩ | ⟨g, cap, cur, rfl, _⟩
  · exact ⟨Option.none, 0, by rw [h0]⟩
  · exact ⟨_, _, rfl⟩
theorem RowsAt.lift {w w' : World} {A : Option Addr} {l : List (List Int)} (h : RowsAt w w.heap.size A l) (hb : Below w.heap.size w w') : RowsAt w' w'.heap.size A l :=
  ⟨fun k x hx => by
    obtain ⟨ad, v, e, h1, h2, h3⟩ := h.get k x hx
    exact ⟨ad, v, e, Nat.lt_of_lt_of_le h1 hb.size, (hb.cell (p := ad.add k) (by rw [add_block]; exact h1)).trans h2, h3.lift hb⟩⟩

/-- x is less than y, as numbers. -/
def ltR (p x y : List Int) : Bool := decide (num p x * den p y < num p y * den p x)
def insR (p : List Int) (s : List (List Int)) (x : List Int) : List (List Int) := s.filter (fun y => ltR p y x) ++ x :: s.filter (fun y => ltR p x y)
/-- A list in order, each once. -/
def onceL (p : List Int) (l : List (List Int)) : List (List Int) := l.foldl (insR p) []

/-- What once returns. -/
def ListPost (l : List (List Int)) (e : Ending) (w' : World) : Prop := ∃ A c, e = .returned (.tuple #[.slice A l.length c, .int .i64 0]) ∧ RowsAt w' w'.heap.size A l
/-- All differences. -/
def prsR (l : List (List Int)) : List (List Int) := l.flatMap fun x => l.map fun y => subR x y
def prsTo (l : List (List Int)) (i k : Nat) : List (List Int) := (l.take i).flatMap (fun x => l.map fun y => subR x y) ++ (l.take k).map fun y => subR (l[i]?.getD []) y

theorem prsTo_zero (l : List (List Int)) : prsTo l 0 0 = [] := by simp [prsTo]
theorem prsTo_next {l : List (List Int)} {i k : Nat} (hk : k < l.length) : prsTo l i (k + 1) = prsTo l i k ++ [subR (l[i]?.getD []) (l[k])] := by
  unfold prsTo
  rw [← List.take_append_getElem hk, List.map_append, List.append_assoc]
  rfl
theorem prsTo_row {l : List (List Int)} {i : Nat} (hi : i < l.length) : prsTo l i l.length = prsTo l (i + 1) 0 := by
  unfold prsTo
  rw [← List.take_append_getElem hi, List.flatMap_append, List.take_length, List.take_zero, List.getElem?_eq_getElem hi]
  simp
theorem prsTo_all (l : List (List Int)) : prsTo l l.length 0 = prsR l := by
  unfold prsTo prsR
  simp
theorem prsTo_len (l : List (List Int)) (i k : Nat) (hi : i ≤ l.length) (hk : k ≤ l.length) : (prsTo l i k).length = i * l.length + k := by
  induction i with
  | zero => simp [prsTo]; omega
  | succ i ih =>
    unfold prsTo at ih ⊢
    rw [List.length_append, List.length_map, List.length_take] at ih ⊢
    rw [← List.take_append_getElem (show i < l.length by omega), List.flatMap_append, List.length_append]
    have := ih (by omega)
    simp at this ⊢
    rw [Nat.add_mul]
    omega

end Go.Proofs.YteenfcmnmenigaaGreatDoor

namespace Go.Proofs.YteenfcmnmenigaaGreatDoor
open Go.RowKit Go.Lib

/-- What a choice returns: some of the two rows. -/
def ChPost (w : World) (us : List Value) (e : Ending) (w' : World) : Prop := ∃ g, e = .returned (.tuple #[.slice (some ⟨g, 0, Option.none⟩) us.length us.length, .int .i64 0]) ∧ Cells w' g 31 us ∧ w.heap.size ≤ g

/-- Rows in front, in blocks of their own. -/
def RowsO (w : World) (us : List Value) (xs : List (List Int)) : Prop := us.length = xs.length ∧ ∀ (j : Nat) (x : List Int), xs[j]? = some x → ∃ u, us[j]? = some u ∧ ORow w u x
theorem LRow.app {w w' : World} {base : Nat} {v v' : Value} {l xs : List (List Int)} {vs us : List Value} (h1 : w.ownsRow base 31 1 v l.length vs) (h2 : ∀ (j : Nat) (x : List Int), l[j]? = some x → ∃ u, vs[j]? = some u ∧ ORow w u x) (hx : RowsO w us xs)
    (hown : w'.ownsRow base 31 1 v' (l.length + us.length) (vs ++ us)) (hg : w.grownBy w' v.ownBlock) : LRow w' base v' (l ++ xs) := by
  have hvl : vs.length = l.length := by have := h1.1; omega
  refine ⟨vs ++ us, by rw [List.length_append, ← hx.1]; exact hown, fun j y hj => ?_⟩
  by_cases hjl : j < l.length
  · rw [List.getElem?_append_left hjl] at hj
    obtain ⟨u2, h3, h4⟩ := h2 j y hj
    exact ⟨u2, by rw [List.getElem?_append_left (by omega)]; exact h3, h4.grown h1 (by decide) hg⟩
  · rw [List.getElem?_append_right (by omega)] at hj
    obtain ⟨u2, h3, h4⟩ := hx.2 _ y hj
    exact ⟨u2, by rw [List.getElem?_append_right (by omega), hvl]; exact h3, h4.grown h1 (by decide) hg⟩

end Go.Proofs.YteenfcmnmenigaaGreatDoor

namespace Go.Proofs.YteenfcmnmenigaaGreatDoor
open Go.RowKit Go.Lib

/-- What reduced needs: r x is x within the equave, c x its complement. -/
structure RdsOk (p : List Int) (n : Nat) (l : List (List Int)) (r c : List Int → List Int) : Prop where
  red : ∀ x ∈ l, ∃ q, RedOk p x n q ∧ r x = addE x (-q)
  inv : ∀ x ∈ l, ∃ q, RedOk p (timesTo x (-1) x.length) n q ∧ c x = addE (timesTo x (-1) x.length) (-q)
  chk : ∀ x ∈ l, chkAll p [r x, c x] = 0
  pe : primeErr p = 0

def selW (_p : List Int) (r _c : List Int → List Int) (x : List Int) : List (List Int) := if zeroB (r x) then [] else [r x]
def selsW (p : List Int) (r c : List Int → List Int) (l : List (List Int)) (k : Nat) : List (List Int) := (l.take k).flatMap (selW p r c)
theorem selsW_next {p : List Int} {r c : List Int → List Int} {l : List (List Int)} {k : Nat} (hk : k < l.length) : selsW p r c l (k + 1) = selsW p r c l k ++ selW p r c (l[k]) := by
  unfold selsW
  rw [← List.take_append_getElem hk, List.flatMap_append]
  simp
theorem selsW_len (p : List Int) (r c : List Int → List Int) (l : List (List Int)) : ∀ k, (selsW p r c l k).length ≤ 1 * k
  | 0 => by simp [selsW]
  | k + 1 => by
    have ih := selsW_len p r c l k
    by_cases hk : k < l.length
    · rw [selsW_next hk, List.length_append]
      have : (selW p r c l[k]).length ≤ 1 := by unfold selW; split <;> simp
      omega
    · have e : selsW p r c l (k + 1) = selsW p r c l k := by unfold selsW; rw [List.take_of_length_le (by omega), List.take_of_length_le (by omega)]
      rw [e]; omega

def selP (_p : List Int) (r c : List Int → List Int) (x : List Int) : List (List Int) := if zeroB (r x) then [] else [r x, c x]
def selsP (p : List Int) (r c : List Int → List Int) (l : List (List Int)) (k : Nat) : List (List Int) := (l.take k).flatMap (selP p r c)
theorem selsP_next {p : List Int} {r c : List Int → List Int} {l : List (List Int)} {k : Nat} (hk : k < l.length) : selsP p r c l (k + 1) = selsP p r c l k ++ selP p r c (l[k]) := by
  unfold selsP
  rw [← List.take_append_getElem hk, List.flatMap_append]
  simp
theorem selsP_len (p : List Int) (r c : List Int → List Int) (l : List (List Int)) : ∀ k, (selsP p r c l k).length ≤ 2 * k
  | 0 => by simp [selsP]
  | k + 1 => by
    have ih := selsP_len p r c l k
    by_cases hk : k < l.length
    · rw [selsP_next hk, List.length_append]
      have : (selP p r c l[k]).length ≤ 2 := by unfold selP; split <;> simp
      omega
    · have e : selsP p r c l (k + 1) = selsP p r c l k := by unfold selsP; rw [List.take_of_length_le (by omega), List.take_of_length_le (by omega)]
      rw [e]; omega

def selL (p : List Int) (r c : List Int → List Int) (x : List Int) : List (List Int) := if zeroB (r x) then [] else [if ltR p (c x) (r x) then c x else r x]
def selsL (p : List Int) (r c : List Int → List Int) (l : List (List Int)) (k : Nat) : List (List Int) := (l.take k).flatMap (selL p r c)
theorem selsL_next {p : List Int} {r c : List Int → List Int} {l : List (List Int)} {k : Nat} (hk : k < l.length) : selsL p r c l (k + 1) = selsL p r c l k ++ selL p r c (l[k]) := by
  unfold selsL
  rw [← List.take_append_getElem hk, List.flatMap_append]
  simp
theorem selsL_len (p : List Int) (r c : List Int → List Int) (l : List (List Int)) : ∀ k, (selsL p r c l k).length ≤ 1 * k
  | 0 => by simp [selsL]
  | k + 1 => by
    have ih := selsL_len p r c l k
    by_cases hk : k < l.length
    · rw [selsL_next hk, List.length_append]
      have : (selL p r c l[k]).length ≤ 1 := by unfold selL; split <;> simp
      omega
    · have e : selsL p r c l (k + 1) = selsL p r c l k := by unfold selsL; rw [List.take_of_length_le (by omega), List.take_of_length_le (by omega)]
      rw [e]; omega

end Go.Proofs.YteenfcmnmenigaaGreatDoor
