/- schismalaw12.Primes, Interval, Make. schismalaw12.Interval, Make. schismalaw12.Make. -/
import Derived.Test.YteenfcmnmenigaaGreatDoorGG
namespace Go.Proofs.YteenfcmnmenigaaGreatDoor
open Go.RowKit Go.Lib

def primeTable : List (List Int) := [[2, 3, 5], [2, 3, 5, 7], [2, 3], [2, 3, 7], [2, 5, 7], [3, 5, 7], [2, 3, 5, 11], [2], [2, 3, 7, 13], [3, 5, 7, 13]]
def primesOf (n : Nat) : List Int := primeTable.getD (n % 10) []

theorem primes_all : ∀ k, k < 10 → primeErr (primeTable.getD k []) = 0 ∧ (primeTable.getD k []).length ≤ 4 := by decide +kernel
theorem primesOf_ok (n : Nat) : primeErr (primesOf n) = 0 ∧ (primesOf n).length ≤ 4 := primes_all _ (Nat.mod_lt _ (by omega))

/-- A row of constants that lies in one block of a later world. -/
theorem isRow_lies {w w' : World} {g : Nat} {t : TypeId} {x : List Int} {n : Nat} (h : Cells w' g t (is x)) (hn : x.length = n) (hl : x.length ≤ 1000000) (_ : w = w) : IsRow w' w'.heap.size (.slice (some ⟨g, 0, Option.none⟩) n n) x := by
  subst hn
  exact ⟨_, _, rfl, Nat.le_refl _, by unfold maxLen; omega, h.row h.lt (is_length x)⟩

def PrimesPost (n : Nat) (e : Ending) (w' : World) : Prop := ∃ A c, e = .returned (.slice A (primesOf n).length c) ∧ IsRow w' w'.heap.size (.slice A (primesOf n).length c) (primesOf n)

/-- New blocks, one after the other. -/
def allocs (w : World) : List Obj → World
  | [] => w
  | o :: r => allocs (w.alloc o) r
theorem allocs_heap : ∀ (os : List Obj) (w : World) (i : Nat) (o : Obj), os[i]? = some o → (allocs w os).heap[w.heap.size + i]? = some o
  | [], _, _, _, h => by simp at h
  | a :: r, w, 0, o, h => by
    simp at h
    subst h
    have hb := allocs_below r (w.alloc a) 
    rw [allocs, hb.block (w.heap.size + 0) (by simp)]
    exact heap_alloc_new w a
  | a :: r, w, i + 1, o, h => by
    have := allocs_heap r (w.alloc a) i o (by simpa using h)
    rw [World.size_alloc] at this
    rw [allocs, ← this]
    congr 1
    omega
where
  allocs_below : ∀ (os : List Obj) (w : World), Below w.heap.size w (allocs w os)
    | [], w => Below.refl _ _
    | a :: r, w => ((Below.refl w.heap.size w).alloc (Nat.le_refl _) a).trans ((allocs_below r (w.alloc a)).mono (by simp))

def primeObjs (w : World) : List Obj := [.cells #[.int .i64 2, .int .i64 3, .int .i64 5] 3, .cells #[.int .i64 2, .int .i64 3, .int .i64 5, .int .i64 7] 3, .cells #[.int .i64 2, .int .i64 3] 3, .cells #[.int .i64 2, .int .i64 3, .int .i64 7] 3, .cells #[.int .i64 2, .int .i64 5, .int .i64 7] 3, .cells #[.int .i64 3, .int .i64 5, .int .i64 7] 3, .cells #[.int .i64 2, .int .i64 3, .int .i64 5, .int .i64 11] 3, .cells #[.int .i64 2] 3, .cells #[.int .i64 2, .int .i64 3, .int .i64 7, .int .i64 13] 3, .cells #[.int .i64 3, .int .i64 5, .int .i64 7, .int .i64 13] 3, .cells #[Value.slice (some ⟨w.heap.size, 0, Option.none⟩) 3 3, Value.slice (some ⟨w.heap.size + 1, 0, Option.none⟩) 4 4, Value.slice (some ⟨w.heap.size + 1 + 1, 0, Option.none⟩) 2 2, Value.slice (some ⟨w.heap.size + 1 + 1 + 1, 0, Option.none⟩) 3 3, Value.slice (some ⟨w.heap.size + 1 + 1 + 1 + 1, 0, Option.none⟩) 3 3, Value.slice (some ⟨w.heap.size + 1 + 1 + 1 + 1 + 1, 0, Option.none⟩) 3 3, Value.slice (some ⟨w.heap.size + 1 + 1 + 1 + 1 + 1 + 1, 0, Option.none⟩) 4 4, Value.slice (some ⟨w.heap.size + 1 + 1 + 1 + 1 + 1 + 1 + 1, 0, Option.none⟩) 1 1, Value.slice (some ⟨w.heap.size + 1 + 1 + 1 + 1 + 1 + 1 + 1 + 1, 0, Option.none⟩) 4 4, Value.slice (some ⟨w.heap.size + 1 + 1 + 1 + 1 + 1 + 1 + 1 + 1 + 1, 0, Option.none⟩) 4 4] 23]

theorem primes_row (w : World) : ∀ k, k < 10 → Cells (allocs w (primeObjs w)) (w.heap.size + k) 3 (is (primeTable.getD k []))
  | 0, _ => allocs_heap (primeObjs w) w 0 _ rfl
  | 1, _ => allocs_heap (primeObjs w) w 1 _ rfl
  | 2, _ => allocs_heap (primeObjs w) w 2 _ rfl
  | 3, _ => allocs_heap (primeObjs w) w 3 _ rfl
  | 4, _ => allocs_heap (primeObjs w) w 4 _ rfl
  | 5, _ => allocs_heap (primeObjs w) w 5 _ rfl
  | 6, _ => allocs_heap (primeObjs w) w 6 _ rfl
  | 7, _ => allocs_heap (primeObjs w) w 7 _ rfl
  | 8, _ => allocs_heap (primeObjs w) w 8 _ rfl
  | 9, _ => allocs_heap (primeObjs w) w 9 _ rfl

theorem primes_get (w : World) : ∀ k, k < 10 → [Value.slice (some ⟨w.heap.size, 0, Option.none⟩) 3 3, Value.slice (some ⟨w.heap.size + 1, 0, Option.none⟩) 4 4, Value.slice (some ⟨w.heap.size + 1 + 1, 0, Option.none⟩) 2 2, Value.slice (some ⟨w.heap.size + 1 + 1 + 1, 0, Option.none⟩) 3 3, Value.slice (some ⟨w.heap.size + 1 + 1 + 1 + 1, 0, Option.none⟩) 3 3, Value.slice (some ⟨w.heap.size + 1 + 1 + 1 + 1 + 1, 0, Option.none⟩) 3 3, Value.slice (some ⟨w.heap.size + 1 + 1 + 1 + 1 + 1 + 1, 0, Option.none⟩) 4 4, Value.slice (some ⟨w.heap.size + 1 + 1 + 1 + 1 + 1 + 1 + 1, 0, Option.none⟩) 1 1, Value.slice (some ⟨w.heap.size + 1 + 1 + 1 + 1 + 1 + 1 + 1 + 1, 0, Option.none⟩) 4 4, Value.slice (some ⟨w.heap.size + 1 + 1 + 1 + 1 + 1 + 1 + 1 + 1 + 1, 0, Option.none⟩) 4 4][k]? = some (.slice (some ⟨w.heap.size + k, 0, Option.none⟩) (primeTable.getD k []).length (primeTable.getD k []).length)
  | 0, _ => rfl
  | 1, _ => rfl
  | 2, _ => rfl
  | 3, _ => rfl
  | 4, _ => rfl
  | 5, _ => rfl
  | 6, _ => rfl
  | 7, _ => rfl
  | 8, _ => rfl
  | 9, _ => rfl

end Go.Proofs.YteenfcmnmenigaaGreatDoor

namespace Go.Proofs.YteenfcmnmenigaaGreatDoor
open Go.RowKit Go.Lib

/-! ### Interval -/

def ivlTo (l : List Int) : Nat → List Int
  | 0 => []
  | j + 1 => ivlTo l j ++ [(l[j]?.getD 0).tmod 10]
theorem ivlTo_len (l : List Int) : ∀ j, (ivlTo l j).length = j
  | 0 => rfl
  | j + 1 => by rw [ivlTo, List.length_append, ivlTo_len l j]; rfl
theorem ivlTo_get (l : List Int) (j : Nat) : ∀ n, j < n → (ivlTo l n)[j]?.getD 0 = (l[j]?.getD 0).tmod 10
  | 0, h => by omega
  | n + 1, h => by
    rw [ivlTo]
    by_cases hj : j < n
    · rw [List.getElem?_append_left (by rw [ivlTo_len]; exact hj), ivlTo_get l j n hj]
    · obtain rfl : j = n := by omega
      rw [List.getElem?_append_right (by rw [ivlTo_len]; exact Nat.le_refl _), ivlTo_len]
      simp

/-- The exponents of a plan: a list of four int8. -/
structure Four (l : List Int) : Prop where
  len : l.length = 4
  le : ∀ j, j < 4 → -128 ≤ l[j]?.getD 0 ∧ l[j]?.getD 0 ≤ 127

theorem tmod_bound (z : Int) : -9 ≤ z.tmod 10 ∧ z.tmod 10 ≤ 9 := by
  have := Int.tmod_lt_of_pos z (show (0 : Int) < 10 by omega)
  have h2 : (-z).tmod 10 = -(z.tmod 10) := Int.neg_tmod ..
  have := Int.tmod_lt_of_pos (-z) (show (0 : Int) < 10 by omega)
  omega

theorem ivl_small {p l : List Int} : SmallRow p 9 (ivlTo l p.length) :=
  ⟨ivlTo_len _ _, fun j hj => by rw [ivlTo_len] at hj; rw [ivlTo_get l j _ hj]; exact tmod_bound _⟩

theorem four_cell {w w' : World} {t : TypeId} {a b c d : Int} {j : Nat} (hb : Below (w.heap.size + 1) (w.alloc (.cells #[.int .i8 a, .int .i8 b, .int .i8 c, .int .i8 d] t)) w') (hj : j < 4) : w'.cell? ⟨w.heap.size, j, Option.none⟩ = some (.int .i8 ([a, b, c, d][j]?.getD 0)) := by
  rw [hb.cell (p := ⟨w.heap.size, j, Option.none⟩) (by simp), World.cell?_alloc_new]
  match j, hj with
  | 0, _ => rfl
  | 1, _ => rfl
  | 2, _ => rfl
  | 3, _ => rfl

def IvlPost (x : List Int) (e : Ending) (w' : World) : Prop := ∃ A c, e = .returned (.slice A x.length c) ∧ IsRow w' w'.heap.size (.slice A x.length c) x

end Go.Proofs.YteenfcmnmenigaaGreatDoor

namespace Go.Proofs.YteenfcmnmenigaaGreatDoor
open Go.RowKit Go.Lib

theorem plan_cell {w w' : World} {t : TypeId} {n : Nat} {a b c d : Int} (hb : Below (w.heap.size + 1) (w.alloc (.cells #[.int .u8 n, .int .i8 a, .int .i8 b, .int .i8 c, .int .i8 d] t)) w') (j : Nat) (hj : j < 5) :
    w'.cell? ⟨w.heap.size, j, Option.none⟩ = some ([Value.int .u8 n, .int .i8 a, .int .i8 b, .int .i8 c, .int .i8 d][j]?.getD undef) := by
  rw [hb.cell (p := ⟨w.heap.size, j, Option.none⟩) (by simp), World.cell?_alloc_new]
  match j, hj with
  | 0, _ => rfl
  | 1, _ => rfl
  | 2, _ => rfl
  | 3, _ => rfl
  | 4, _ => rfl

/-- What Make returns. -/
def MakePost (n : Nat) (l : List Int) (e : Ending) (w' : World) : Prop := ∃ A c A2 c2, e = .returned (.tuple #[.slice A (primesOf n).length c, .slice A2 (ivlTo l (primesOf n).length).length c2]) ∧
  IsRow w' w'.heap.size (.slice A (primesOf n).length c) (primesOf n) ∧ IsRow w' w'.heap.size (.slice A2 (ivlTo l (primesOf n).length).length c2) (ivlTo l (primesOf n).length)

end Go.Proofs.YteenfcmnmenigaaGreatDoor
