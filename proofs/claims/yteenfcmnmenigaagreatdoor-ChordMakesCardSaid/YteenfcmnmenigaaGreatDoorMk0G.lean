/- ChordMakes: the plain law. -/
import Derived.Test.YteenfcmnmenigaaGreatDoorGCE
namespace Go.Proofs.YteenfcmnmenigaaGreatDoor
open Go.RowKit Go.Lib

/-- The first error of a list. -/
def fstErr (p : List Int) (l : List (List Int)) : Int := if primeErr p ≠ 0 then primeErr p else if l.length = 0 then 13 else chkAll p l
theorem ofErr_fst (p : List Int) (l : List (List Int)) : ofErr p l = if fstErr p l ≠ 0 then fstErr p l else if 12 < (onceL p l).length then 4 else 0 := by
  unfold ofErr fstErr
  by_cases h : primeErr p = 0
  · by_cases h0 : l.length = 0
    · simp [h, h0]
    · by_cases h2 : chkAll p l = 0
      · simp [h, h0, h2]
      · simp [h, h0, h2]
  · simp [h]
theorem chk_drop {p : List Int} {l : List (List Int)} {k : Nat} {x : List Int} (hx : l[k]? = some x) : chkAll p (l.drop k) = if chkAll p [x] ≠ 0 then chkAll p [x] else chkAll p (l.drop (k + 1)) := by
  unfold chkAll
  by_cases h : primeErr p = 0
  · rw [rowsErr_step _ _ _ _ hx, rowsErr, rowsErr]
    by_cases h2 : rowErr p.length x = 0
    · simp [h, h2]
    · simp [h, h2]
  · simp [h]
theorem chk_nil {p : List Int} (h : primeErr p = 0) : chkAll p [] = 0 := by unfold chkAll; rw [if_neg (by rw [h]; decide)]; rfl
theorem fst_zero {p : List Int} {l : List (List Int)} (h : fstErr p l = 0) : primeErr p = 0 ∧ 0 < l.length ∧ chkAll p l = 0 := by
  unfold fstErr at h
  split at h
  · rename_i h1; exact absurd h h1
  rename_i h1
  split at h
  · exact absurd h (by decide)
  · rename_i h2
    exact ⟨by simpa using h1, by omega, h⟩
/-- What want is after k rows. -/
def wantTo (p : List Int) (l : List (List Int)) : Nat → Int
  | 0 => if primeErr p ≠ 0 then primeErr p else if l.length = 0 then 13 else 0
  | k + 1 => if wantTo p l k = 0 then chkAll p [l[k]?.getD []] else wantTo p l k
theorem wantTo_eq (p : List Int) (l : List (List Int)) : ∀ k, k ≤ l.length → (wantTo p l k ≠ 0 ∧ wantTo p l k = fstErr p l) ∨ (wantTo p l k = 0 ∧ primeErr p = 0 ∧ fstErr p l = chkAll p (l.drop k))
  | 0, _ => by
    rw [wantTo]
    unfold fstErr
    by_cases h : primeErr p = 0
    · by_cases h0 : l.length = 0
      · exact .inl (by simp [h, h0])
      · exact .inr (by simp [h, h0])
    · exact .inl (by simp [h])
  | k + 1, hk => by
    rw [wantTo]
    rcases wantTo_eq p l k (by omega) with ⟨h1, h2⟩ | ⟨h1, h2, h3⟩
    · rw [if_neg h1]; exact .inl ⟨h1, h2⟩
    · have hx : l[k]? = some l[k] := List.getElem?_eq_getElem hk
      rw [if_pos h1, h3, chk_drop hx, hx, Option.getD_some]
      by_cases h4 : chkAll p [l[k]] = 0
      · rw [if_neg (by rw [h4]; decide)]; exact .inr ⟨h4, h2, rfl⟩
      · rw [if_pos h4]; exact .inl ⟨h4, rfl⟩
theorem wantTo_all (p : List Int) (l : List (List Int)) : wantTo p l l.length = fstErr p l := by
  rcases wantTo_eq p l l.length (Nat.le_refl _) with ⟨_, h⟩ | ⟨h1, h2, h3⟩
  · exact h
  · rw [h1, h3, List.drop_length, chk_nil h2]
end Go.Proofs.YteenfcmnmenigaaGreatDoor
