/- Which multiples of an interval are right; plain. -/
import Derived.Test.YtcfkclafpbaagaaGreatDoorGG
namespace Go.Proofs.YtcfkclafpbaagaaGreatDoor
open Go.Lib

def absI (v : Int) : Int := if v < 0 then 0 - v else v
/-- An exponent times k is right. -/
def oneB (v k : Int) : Bool := decide (v = 0) || (decide (k ≤ 1000 / absI v) && decide (0 - 1000 / absI v ≤ k))
def rightTo (x : List Int) (k : Int) : Nat → Bool
  | 0 => true
  | j + 1 => rightTo x k j && oneB (x[j]?.getD 0) k

theorem oneB_iff (v k : Int) (h : -9 ≤ v ∧ v ≤ 9) : oneB v k = true ↔ (-1000 ≤ clampK k * v ∧ clampK k * v ≤ 1000) := by
  have hv : v = -9 ∨ v = -8 ∨ v = -7 ∨ v = -6 ∨ v = -5 ∨ v = -4 ∨ v = -3 ∨ v = -2 ∨ v = -1 ∨ v = 0 ∨ v = 1 ∨ v = 2 ∨ v = 3 ∨ v = 4 ∨ v = 5 ∨ v = 6 ∨ v = 7 ∨ v = 8 ∨ v = 9 := by omega
  unfold clampK
  rcases hv with rfl | rfl | rfl | rfl | rfl | rfl | rfl | rfl | rfl | rfl | rfl | rfl | rfl | rfl | rfl | rfl | rfl | rfl | rfl
  all_goals
    simp only [oneB, absI, Bool.or_eq_true, Bool.and_eq_true, decide_eq_true_iff]
    simp
    try omega

theorem oneB_clamp (v k : Int) (h : -9 ≤ v ∧ v ≤ 9) (h1 : oneB v k = true) (h0 : v ≠ 0) : clampK k = k := by
  have := (oneB_iff v k h).1 h1
  unfold clampK at *
  have hv : v = -9 ∨ v = -8 ∨ v = -7 ∨ v = -6 ∨ v = -5 ∨ v = -4 ∨ v = -3 ∨ v = -2 ∨ v = -1 ∨ v = 1 ∨ v = 2 ∨ v = 3 ∨ v = 4 ∨ v = 5 ∨ v = 6 ∨ v = 7 ∨ v = 8 ∨ v = 9 := by omega
  rcases hv with rfl | rfl | rfl | rfl | rfl | rfl | rfl | rfl | rfl | rfl | rfl | rfl | rfl | rfl | rfl | rfl | rfl | rfl
  all_goals omega

theorem rightTo_iff (x : List Int) (k : Int) : ∀ n, rightTo x k n = true ↔ ∀ j, j < n → oneB (x[j]?.getD 0) k = true
  | 0 => by simp [rightTo]
  | n + 1 => by
    rw [rightTo, Bool.and_eq_true, rightTo_iff x k n]
    constructor
    · rintro ⟨h1, h2⟩ j hj
      by_cases h : j < n
      · exact h1 j h
      · obtain rfl : j = n := by omega
        exact h2
    · intro h
      exact ⟨fun j hj => h j (by omega), h n (by omega)⟩

theorem right_power {p x : List Int} {k : Int} (h0 : primeErr p = 0) (sx : SmallRow p 9 x) : rightTo x k x.length = true ↔ chkAll p [timesTo x (clampK k) x.length] = 0 := by
  rw [rightTo_iff]
  constructor
  · intro h
    refine chk_small h0 (by rw [timesTo_len]; exact sx.len) fun v hv => ?_
    obtain ⟨j, hj, rfl⟩ := List.getElem_of_mem hv
    have hj' := hj
    rw [timesTo_len] at hj'
    have e := timesTo_get x (clampK k) j _ hj'
    rw [List.getElem?_eq_getElem hj] at e
    simp only [Option.getD_some] at e
    rw [e]
    exact (oneB_iff _ k (sx.le j hj')).1 (h j hj')
  · intro h j hj
    have hr := (right_of h).ex j (by rw [timesTo_len]; exact hj)
    rw [timesTo_get x (clampK k) j _ hj] at hr
    exact (oneB_iff _ k (sx.le j hj)).2 hr

end Go.Proofs.YtcfkclafpbaagaaGreatDoor
