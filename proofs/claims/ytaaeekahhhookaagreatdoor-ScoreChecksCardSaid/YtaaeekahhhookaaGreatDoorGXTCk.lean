import Derived.Test.YtaaeekahhhookaaGreatDoorGXSCk
import Derived.Test.YtaaeekahhhookaaGreatDoorGXDMCk
import Derived.Shelf.SlSortCmp.Whole1
import Derived.Ground.SlsfProg
import Derived.Test.YtaaeekahhhookaaGreatDoorShelf4
import Derived.Test.YtaaeekahhhookaaGreatDoorGTACk
import Derived.Test.YtaaeekahhhookaaGreatDoorGTEMCk
import Derived.Lib.QuietBelow
import Derived.Test.YtaaeekahhhookaaGreatDoorShelf3
import Derived.Test.YtaaeekahhhookaaGreatDoorGXICk
import Derived.Test.YtaaeekahhhookaaGreatDoorGXLCk
import Derived.Test.YtaaeekahhhookaaGreatDoorGRMCk
namespace Go.Proofs.YtaaeekahhhookaaGreatDoor
open Go.RowKit Go.Lib
theorem NtO.rows {w : World} {base : Nat} {v : Value} {l : List (List Int)} (h : NtO w base v l) (h0 : 0 < l.length) : ∃ g c vs, v = .slice (some ⟨g, 0, Option.none⟩) l.length c ∧ w.ownsRow base 40 1 (.slice (some ⟨g, 0, Option.none⟩) l.length c) l.length vs ∧ NRows w vs l := by
 obtain ⟨css, h⟩ := h
 obtain ⟨g, c, rfl, _, _⟩ := h.own.form h0
 refine ⟨g, c, css.flatten, rfl, h.own, fun j hj => ?_⟩
 have hx := List.getElem?_eq_getElem hj
 have hjc : j < css.length := by rw [h.len]; exact hj
 have hcs := List.getElem?_eq_getElem hjc
 obtain ⟨v, e, hi⟩ := h.part j _ _ hx hcs
 have hf := flat_getS css 1 j 0 _ h.lens hcs (by decide)
 rw [e] at hf
 simp at hf
 exact ⟨⟨(v, l[j]), hi⟩, by simpa using hf, hx⟩
end Go.Proofs.YtaaeekahhhookaaGreatDoor
