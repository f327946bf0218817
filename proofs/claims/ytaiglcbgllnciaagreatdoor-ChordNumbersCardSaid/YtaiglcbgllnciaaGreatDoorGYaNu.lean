/- schismaref04.Parts. -/
import Derived.Test.YtaiglcbgllnciaaGreatDoorGFNu
import Derived.Test.YtaiglcbgllnciaaGreatDoorGENu
import Derived.Test.YtaiglcbgllnciaaGreatDoorGGNu
import Derived.Test.YtaiglcbgllnciaaGreatDoorGCNu
namespace Go.Proofs.YtaiglcbgllnciaaGreatDoor
open Go.RowKit Go.Lib

theorem itoa_inj {n m : Int} (h : itoa n = itoa m) : n = m := by
  rcases itoa_cases n with ⟨hn, e⟩ | ⟨hn, e⟩ <;> rcases itoa_cases m with ⟨hm, e2⟩ | ⟨hm, e2⟩
  · rw [e, e2] at h
    injection h with _ h
    have := congrArg (dval 0) h
    rw [dval_dec, dval_dec] at this
    omega
  · rw [e, e2] at h
    obtain ⟨c, r, e3, hc, _⟩ := dec_first m.natAbs
    rw [e3] at h
    injection h with h _
    subst h
    simp at hc
  · rw [e, e2] at h
    obtain ⟨c, r, e3, hc, _⟩ := dec_first n.natAbs
    rw [e3] at h
    injection h with h _
    subst h
    simp at hc
  · rw [e, e2] at h
    have := congrArg (dval 0) h
    rw [dval_dec, dval_dec] at this
    omega

end Go.Proofs.YtaiglcbgllnciaaGreatDoor
