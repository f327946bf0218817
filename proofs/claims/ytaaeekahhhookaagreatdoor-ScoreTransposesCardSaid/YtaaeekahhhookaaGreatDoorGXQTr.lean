/- MonzoOf: the walk. -/
import Derived.Test.YtaaeekahhhookaaGreatDoorGIMTr
import Derived.Test.YtaaeekahhhookaaGreatDoorGGMTr
import Derived.Test.YtaaeekahhhookaaGreatDoorSayMTr
import Derived.Test.YtaaeekahhhookaaGreatDoorFSgMTr
namespace Go.Proofs.YtaaeekahhhookaaGreatDoor
open Go.RowKit Go.Lib

theorem of_good {p : List Int} {n d : Nat} {e : Ending} {w' : World} (hL : leftTo p n p.length = 1 ∧ leftTo p d p.length = 1) (h : OfPost p n d e w') : ∃ A c, e = .returned (.tuple #[.slice A (expsTo p n d p.length).length c, .int .i64 0]) ∧ IsRow w' w'.heap.size (.slice A (expsTo p n d p.length).length c) (expsTo p n d p.length) := by
 rcases h with ⟨_, _, v, rfl, hr⟩ | ⟨hn, _⟩
 ·have hr' := hr
  obtain ⟨A, c, rfl, _⟩ := hr'
  exact ⟨A, c, rfl, hr⟩
 ·exact absurd hL hn
theorem of_none {p : List Int} {n d : Nat} {e : Ending} {w' : World} (hL : ¬ (leftTo p n p.length = 1 ∧ leftTo p d p.length = 1)) (h : OfPost p n d e w') : e = .returned (.tuple #[.slice Option.none 0 0, .int .i64 25]) := by
 rcases h with ⟨h1, h2, _⟩ | ⟨_, rfl⟩
 ·exact absurd ⟨h1, h2⟩ hL
 ·rfl

end Go.Proofs.YtaaeekahhhookaaGreatDoor
