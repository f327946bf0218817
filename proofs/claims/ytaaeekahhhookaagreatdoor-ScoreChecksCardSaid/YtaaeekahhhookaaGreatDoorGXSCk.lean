import Derived.Shelf.SlSortCmp.Whole1
import Derived.Ground.SlsfProg
import Derived.Test.YtaaeekahhhookaaGreatDoorShelf4
import Derived.Test.YtaaeekahhhookaaGreatDoorGTACk
import Derived.Test.YtaaeekahhhookaaGreatDoorGTEMCk
import Derived.Lib.QuietBelow
import Derived.Test.YtaaeekahhhookaaGreatDoorFSgMCk
import Derived.Test.YtaaeekahhhookaaGreatDoorGTHMCk
import Derived.Lib.OwnBridge
import Derived.Test.YtaaeekahhhookaaGreatDoorGXAMCk
namespace Go.Proofs.YtaaeekahhhookaaGreatDoor
open Go.RowKit Go.Lib Go.Shelf
structure BK (bs : Nat) (w w' : World) : Prop where
 low : Below bs w w'
 kp : KpT [40] w.heap.size w w'
theorem BK.refl {bs : Nat} {w : World} : BK bs w w := ⟨Below.refl _ _, KpT.refl _ _ _⟩
theorem BK.next {bs : Nat} {w w1 w2 : World} (h : BK bs w w1) (hb : Below w1.heap.size w1 w2) (hs : bs ≤ w1.heap.size) : BK bs w w2 := ⟨h.low.trans (hb.mono hs), h.kp.trans (KpT.of_below (hb.mono h.kp.size))⟩
theorem BK.store {bs g j : Nat} {w w1 : World} (h : BK bs w w1) (hg : bs ≤ g) (ht : TyB w1 g 40) (v : Value) : BK bs w (w1.setCell ⟨g, j, Option.none⟩ v) := ⟨h.low.setCell hg v, h.kp.setCell ht (by simp) v⟩
theorem BK.puts {bs g : Nat} {w : World} : ∀ (vs : List Value) {w1 : World} {xs : List Value} (o : Nat), BK bs w w1 → bs ≤ g → Cells w1 g 40 xs → BK bs w (w1.setCells g o vs)
 | [], _, _, _, h, _, _ => h
 | v :: vs, _, _, o, h, hg, hc => BK.puts vs (o + 1) (h.store hg (TyB.of_cells hc) v) hg (hc.set o v)
abbrev NRow (w : World) := { t : Value × List Int // IRow w w.heap.size t.1 t.2 }
def NRows (w : World) (vs : List Value) (ds : List (List Int)) : Prop := ∀ j, j < ds.length → ∃ t : NRow w, vs[j]? = some t.1.1 ∧ ds[j]? = some t.1.2
theorem NRows.len {w : World} {vs : List Value} {l : List (List Int)} (h : NRows w vs l) {j : Nat} (hj : j < l.length) : ∃ (v : Value) (x : List Int), vs[j]? = some v ∧ l[j]? = some x ∧ IRow w w.heap.size v x := by
 obtain ⟨t, h1, h2⟩ := h j hj
 exact ⟨_, _, h1, h2, t.2⟩
theorem IRow.bk {bs : Nat} {w w' : World} {v : Value} {x : List Int} (h : IRow w w.heap.size v x) (hb : BK bs w w') : IRow w' w'.heap.size v x := h.keep hb.kp (by decide) hb.kp.size
theorem NRows.bk {bs : Nat} {w w' : World} {vs : List Value} {l : List (List Int)} (h : NRows w vs l) (hb : BK bs w w') : NRows w' vs l := fun j hj => by
 obtain ⟨v, x, h1, h2, h3⟩ := h.len hj
 exact ⟨⟨(v, x), h3.bk hb⟩, h1, h2⟩
end Go.Proofs.YtaaeekahhhookaaGreatDoor
