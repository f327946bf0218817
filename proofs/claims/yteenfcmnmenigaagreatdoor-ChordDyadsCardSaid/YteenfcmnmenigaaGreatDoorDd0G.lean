/- ChordDyads: the plain law. -/
import Derived.Test.YteenfcmnmenigaaGreatDoorCr6G
import Derived.Test.YteenfcmnmenigaaGreatDoorGCI
namespace Go.Proofs.YteenfcmnmenigaaGreatDoor
open Go.RowKit Go.Lib

/-- The differences to the first i notes, and j of those to note i. -/
def dnTo (l : List (List Int)) (i j : Nat) : List (List Int) := dyTo l i ++ ((l.drop (i + 1)).take j).map fun x => difI x (l[i]?.getD [])
theorem dnTo_zero (l : List (List Int)) (i : Nat) : dnTo l i 0 = dyTo l i := by unfold dnTo; simp
theorem dnTo_all (l : List (List Int)) (i : Nat) {j : Nat} (h : j = l.length - (i + 1)) : dnTo l i j = dyTo l (i + 1) := by
  unfold dnTo
  rw [List.take_of_length_le (by rw [List.length_drop]; omega)]
  rfl
theorem dnTo_next {l : List (List Int)} {i j : Nat} {x r : List Int} (hx : l[i + 1 + j]? = some x) (hr : l[i]? = some r) : dnTo l i (j + 1) = dnTo l i j ++ [difI x r] := by
  unfold dnTo
  have hj : j < (l.drop (i + 1)).length := by
    have := (List.getElem?_eq_some_iff.1 hx).1
    rw [List.length_drop]
    omega
  have e : (l.drop (i + 1))[j] = x := by
    have : (l.drop (i + 1))[j]? = some x := by rw [List.getElem?_drop]; exact hx
    exact (List.getElem?_eq_some_iff.1 this).2
  rw [← List.take_append_getElem hj, List.map_append, e, hr, List.append_assoc]
  rfl
theorem dnTo_len (l : List (List Int)) (h12 : l.length ≤ 12) : ∀ i, i ≤ 12 → (dyTo l i).length ≤ 12 * i
  | 0, _ => Nat.le_refl _
  | i + 1, hi => by
    have ih := dnTo_len l h12 i (by omega)
    rw [dyTo, List.length_append, rootL_len, List.length_drop]
    omega
theorem ddTo_lenD (l : List (List Int)) (h12 : l.length ≤ 12) : (dyadsL l).length ≤ 1000 := by
  have := dnTo_len l h12 l.length h12
  unfold dyadsL
  omega
theorem dnTo_len2 (l : List (List Int)) (h12 : l.length ≤ 12) (i j : Nat) (hi : i ≤ 12) : (dnTo l i j).length ≤ 200 := by
  have := dnTo_len l h12 i hi
  unfold dnTo
  rw [List.length_append, List.length_map, List.length_take, List.length_drop]
  omega

theorem RootPost.shape {p : List Int} {l : List (List Int)} {r : List Int} {base : Nat} {e : Ending} {w : World} (h : RootPost p l r base e w) : ∃ A n c z, e = .returned (.tuple #[.slice A n c, .int .i64 z]) := by
  rcases h with ⟨_, v, rfl, hor⟩ | ⟨_, rfl⟩
  · obtain ⟨A, c, rfl⟩ := hor.shape
    exact ⟨A, _, c, 0, rfl⟩
  · exact ⟨_, _, _, _, rfl⟩
theorem DyPost.shape {p : List Int} {l : List (List Int)} {base : Nat} {e : Ending} {w : World} (h : DyPost p l base e w) : ∃ A n c z, e = .returned (.tuple #[.slice A n c, .int .i64 z]) := by
  rcases h with ⟨_, v, rfl, hor⟩ | ⟨_, rfl⟩
  · obtain ⟨A, c, rfl⟩ := hor.shape
    exact ⟨A, _, c, 0, rfl⟩
  · exact ⟨_, _, _, _, rfl⟩

/-- What the answer says, in the words of the law: long or not. -/
def LgPost (l : List (List Int)) (A : Option Addr) (n : Nat) (z : Int) (w : World) : Prop :=
  (longB l = false ∧ z = 0 ∧ n = l.length ∧ RowsAt w w.heap.size A l) ∨ (longB l = true ∧ z = 4 ∧ n = 0)
theorem RootPost.lg {p : List Int} {l : List (List Int)} {r : List Int} {base : Nat} {w : World} {A : Option Addr} {n c : Nat} {z : Int} (h : RootPost p l r base (.returned (.tuple #[.slice A n c, .int .i64 z])) w) (hp : primeErr p = 0) (hl : ∀ x ∈ l, x.length = p.length) : LgPost (rootL l r) A n z w := by
  have hd : ∀ x ∈ rootL l r, x.length = p.length := fun x hx => by
    obtain ⟨y, hy, rfl⟩ := List.mem_map.1 hx
    rw [difI_len]; exact hl y hy
  rcases h with ⟨h1, v, e, hor⟩ | ⟨⟨y, hy, h1⟩, e⟩
  · injection e with e; injection e with e
    have e1 : v = .slice A n c ∧ z = 0 := by simpa [eq_comm] using e
    obtain ⟨rfl, rfl⟩ := e1
    refine .inl ⟨?_, rfl, hor.rows.1, hor.rows.2⟩
    cases hb : longB (rootL l r) with
    | false => rfl
    | true =>
      obtain ⟨x, hx, hx2⟩ := (long_dif hp hd).1 hb
      obtain ⟨y, hy, rfl⟩ := List.mem_map.1 hx
      exact absurd (h1 y hy) hx2
  · injection e with e; injection e with e
    have e1 : n = 0 ∧ z = 4 := by
      have : (A = none ∧ n = 0 ∧ c = 0) ∧ z = 4 := by simpa using e
      exact ⟨this.1.2.1, this.2⟩
    exact .inr ⟨(long_dif hp hd).2 ⟨_, List.mem_map.2 ⟨y, hy, rfl⟩, h1⟩, e1.2, e1.1⟩
theorem dyTo_lens {l : List (List Int)} {n : Nat} (hl : ∀ x ∈ l, x.length = n) (k : Nat) : ∀ x ∈ dyTo l k, x.length = n := fun x hx => by
  obtain ⟨j, _, h2⟩ := (mem_dyTo k).1 hx
  obtain ⟨y, hy, rfl⟩ := List.mem_map.1 h2
  rw [difI_len]
  exact hl y (List.mem_of_mem_drop hy)
theorem DyPost.lg {p : List Int} {l : List (List Int)} {base : Nat} {w : World} {A : Option Addr} {n c : Nat} {z : Int} (h : DyPost p l base (.returned (.tuple #[.slice A n c, .int .i64 z])) w) (hp : primeErr p = 0) (hl : ∀ x ∈ l, x.length = p.length) : LgPost (dyadsL l) A n z w := by
  have hd : ∀ x ∈ dyadsL l, x.length = p.length := dyTo_lens hl _
  rcases h with ⟨h1, v, e, hor⟩ | ⟨⟨y, hy, h1⟩, e⟩
  · injection e with e; injection e with e
    have e1 : v = .slice A n c ∧ z = 0 := by simpa [eq_comm] using e
    obtain ⟨rfl, rfl⟩ := e1
    refine .inl ⟨?_, rfl, hor.rows.1, hor.rows.2⟩
    cases hb : longB (dyadsL l) with
    | false => rfl
    | true =>
      obtain ⟨x, hx, hx2⟩ := (long_dif hp hd).1 hb
      exact absurd (h1 x hx) hx2
  · injection e with e; injection e with e
    have e1 : n = 0 ∧ z = 4 := by
      have : (A = none ∧ n = 0 ∧ c = 0) ∧ z = 4 := by simpa using e
      exact ⟨this.1.2.1, this.2⟩
    exact .inr ⟨(long_dif hp hd).2 ⟨y, hy, h1⟩, e1.2, e1.1⟩
/-- The span: one row. -/
def SpPost (x : List Int) (A : Option Addr) (n c : Nat) (z : Int) (w : World) : Prop :=
  (longB [x] = false ∧ z = 0 ∧ n = x.length ∧ IsRow w w.heap.size (.slice A n c) x) ∨ (longB [x] = true ∧ z = 4 ∧ n = 0)
theorem DifPost.sp {p x y : List Int} {w : World} {A : Option Addr} {n c : Nat} {z : Int} (h : DifPost p x y (.returned (.tuple #[.slice A n c, .int .i64 z])) w) (hp : primeErr p = 0) (hl : x.length = p.length) : SpPost (difI x y) A n c z w := by
  have hd : ∀ u ∈ [difI x y], u.length = p.length := fun u hu => by
    obtain rfl := List.mem_singleton.1 hu
    rw [difI_len]; exact hl
  rcases h with ⟨h1, v, e, hor⟩ | ⟨h1, e⟩
  · injection e with e; injection e with e
    have e1 : v = .slice A n c ∧ z = 0 := by simpa [eq_comm] using e
    obtain ⟨rfl, rfl⟩ := e1
    obtain ⟨A', c', e2⟩ := hor.shape
    injection e2 with _ e3 _
    refine .inl ⟨?_, rfl, e3, hor.row⟩
    cases hb : longB [difI x y] with
    | false => rfl
    | true =>
      obtain ⟨u, hu, hu2⟩ := (long_dif hp hd).1 hb
      obtain rfl := List.mem_singleton.1 hu
      exact absurd h1 hu2
  · injection e with e; injection e with e
    have e1 : n = 0 ∧ z = 4 := by
      have : (A = none ∧ n = 0 ∧ c = 0) ∧ z = 4 := by simpa using e
      exact ⟨this.1.2.1, this.2⟩
    exact .inr ⟨(long_dif hp hd).2 ⟨_, List.mem_singleton.2 rfl, h1⟩, e1.2, e1.1⟩

end Go.Proofs.YteenfcmnmenigaaGreatDoor
