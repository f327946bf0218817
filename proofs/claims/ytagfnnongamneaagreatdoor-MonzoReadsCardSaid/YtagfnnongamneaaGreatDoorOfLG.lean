/- MonzoOf: the walk. -/
import Derived.Test.YtagfnnongamneaaGreatDoorLawOfG
import Derived.Test.YtagfnnongamneaaGreatDoorLawsG
import Derived.Test.YtagfnnongamneaaGreatDoorGH
namespace Go.Proofs.YtagfnnongamneaaGreatDoor
open Go.RowKit Go.Lib

theorem len400 {n : Nat} (h : n < 10 ^ 13) : (decDigits n).length ≤ 13 := by rw [dec_length]; exact nDigits_le (by omega) h

theorem natAbs13 {z : Int} (h : (itoa z).length ≤ 13) : (decDigits z.natAbs).length ≤ 13 ∧ z.natAbs < 10 ^ 13 := by
  have h1 : (decDigits z.natAbs).length ≤ 13 := by
    rcases itoa_cases z with ⟨_, e⟩ | ⟨_, e⟩
    · rw [e, List.length_cons] at h; omega
    · rw [e] at h; exact h
  exact ⟨h1, dec13 h1⟩

theorem of_good {p : List Int} {n d : Nat} {e : Ending} {w' : World} (hL : leftTo p n p.length = 1 ∧ leftTo p d p.length = 1) (h : OfPost p n d e w') : ∃ A c, e = .returned (.tuple #[.slice A (expsTo p n d p.length).length c, .int .i64 0]) ∧ IsRow w' w'.heap.size (.slice A (expsTo p n d p.length).length c) (expsTo p n d p.length) := by
  rcases h with ⟨_, _, v, rfl, hr⟩ | ⟨hn, _⟩
  · have hr' := hr
    obtain ⟨A, c, rfl, _⟩ := hr'
    exact ⟨A, c, rfl, hr⟩
  · exact absurd hL hn
theorem of_none {p : List Int} {n d : Nat} {e : Ending} {w' : World} (hL : ¬ (leftTo p n p.length = 1 ∧ leftTo p d p.length = 1)) (h : OfPost p n d e w') : e = .returned (.tuple #[.slice Option.none 0 0, .int .i64 25]) := by
  rcases h with ⟨h1, h2, _⟩ | ⟨_, rfl⟩
  · exact absurd ⟨h1, h2⟩ hL
  · rfl

theorem nil_row (w : World) : IsRow w w.heap.size (.slice Option.none ([] : List Int).length 0) [] :=
  IsRow.of_own (base := 0) (World.ownsRow_nil _ _ _ _)

end Go.Proofs.YtagfnnongamneaaGreatDoor
