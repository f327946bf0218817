import Derived.Test.YtaaeekahhhookaaGreatDoorGXAMCk
import Derived.Test.YtaaeekahhhookaaGreatDoorGXDMCk
namespace Go.Proofs.YtaaeekahhhookaaGreatDoor
open Go.RowKit Go.Lib
def URow (w : World) (v : Value) (x : List Int) : Prop := IsRow w w.heap.size v x
theorem URow.row {w : World} {v : Value} {x : List Int} (h : URow w v x) : IsRow w w.heap.size v x := h
theorem URow.lift {w w' : World} {v : Value} {x : List Int} (h : URow w v x) (hb : Below w.heap.size w w') : URow w' v x := IsRow.lift h hb
theorem URow.shape {w : World} {v : Value} {x : List Int} (h : URow w v x) : ∃ A c, v = .slice A x.length c ∧ x.length ≤ c ∧ c ≤ maxLen := by
 obtain ⟨A, c, e, h1, h2, _⟩ := h
 exact ⟨A, c, e, h1, h2⟩
def NoteU (w : World) (x : List Int) (cs : List Value) : Prop := ∃ v, cs = [v] ∧ URow w v x
def NotesU (w : World) (A : Option Addr) (l : List (List Int)) : Prop := LA 1 (NoteU w) w A l
def EvU (w : World) (x : Ev) (cs : List Value) : Prop := ∃ A c, cs = [.string ⟨x.num.toArray⟩, .string ⟨x.den.toArray⟩, .slice A x.notes.length c] ∧ x.notes.length ≤ c ∧ c ≤ maxLen ∧ NotesU w A x.notes
def EvsU (w : World) (A : Option Addr) (l : List Ev) : Prop := LA 3 (EvU w) w A l
def VcU (w : World) (x : Vc) (cs : List Value) : Prop := ∃ A c, cs = [.string ⟨x.name.toArray⟩, .slice A x.evs.length c] ∧ x.evs.length ≤ c ∧ c ≤ maxLen ∧ EvsU w A x.evs
def VcsU (w : World) (A : Option Addr) (l : List Vc) : Prop := LA 2 (VcU w) w A l
def ScU (w : World) (pv vv : Value) (s : Sc) : Prop := URow w pv s.primes ∧ ∃ A c, vv = .slice A s.voices.length c ∧ s.voices.length ≤ c ∧ c ≤ maxLen ∧ VcsU w A s.voices
section
variable {w w' : World}
theorem NotesU.lift {A : Option Addr} {l : List (List Int)} (h : NotesU w A l) (hb : Below w.heap.size w w') : NotesU w' A l := LA.lift h hb fun _ _ _ ⟨v, e, h⟩ => ⟨v, e, h.lift hb⟩
theorem EvsU.lift {A : Option Addr} {l : List Ev} (h : EvsU w A l) (hb : Below w.heap.size w w') : EvsU w' A l := LA.lift h hb fun _ _ _ ⟨A, c, e, h1, h2, h3⟩ => ⟨A, c, e, h1, h2, h3.lift hb⟩
theorem VcsU.lift {A : Option Addr} {l : List Vc} (h : VcsU w A l) (hb : Below w.heap.size w w') : VcsU w' A l := LA.lift h hb fun _ _ _ ⟨A, c, e, h1, h2, h3⟩ => ⟨A, c, e, h1, h2, h3.lift hb⟩
theorem ScU.lift {pv vv : Value} {s : Sc} (h : ScU w pv vv s) (hb : Below w.heap.size w w') : ScU w' pv vv s := by
 obtain ⟨hp, A, c, e, h1, h2, h3⟩ := h
 exact ⟨hp.lift hb, A, c, e, h1, h2, h3.lift hb⟩
theorem LA.take {α : Type} {s : Nat} {Q : α → List Value → Prop} {A : Option Addr} {l : List α} (h : LA s Q w A l) (n : Nat) : LA s Q w A (l.take n) := ⟨fun k x hx => h.get k x (by
 rw [List.getElem?_take] at hx
 split at hx
 ·exact hx
 ·cases hx)⟩
theorem VcsU.take {A : Option Addr} {l : List Vc} (h : VcsU w A l) (n : Nat) : VcsU w A (l.take n) := LA.take h n
theorem NotesU.rows {A : Option Addr} {l : List (List Int)} (h : NotesU w A l) (_ : w.heap.size ≤ w.heap.size) : RowsAt w w.heap.size A l :=
 ⟨fun k x hx => by
   obtain ⟨b, o, cs, e, h1, h3, ⟨v, rfl, h5⟩, h4⟩ := h.get k x hx
   refine ⟨⟨b, o, Option.none⟩, v, e, h1, ?_, h5.row⟩
   have := h4 0 (by decide)
   rw [Lib.add_plain]
   simpa using this⟩
theorem NotesU.at_ {A : Option Addr} {l : List (List Int)} (h : NotesU w A l) {k : Nat} (hk : k < l.length) : ∃ b o v, A = some ⟨b, o, Option.none⟩ ∧ b < w.heap.size ∧ True ∧ w.cell? ⟨b, o + k, Option.none⟩ = some v ∧ URow w v (l[k]'hk) := by
 obtain ⟨b, o, cs, e, h1, h3, ⟨v, rfl, h5⟩, h4⟩ := h.get k _ (List.getElem?_eq_getElem hk)
 have := h4 0 (by decide)
 exact ⟨b, o, v, e, h1, trivial, by simpa using this, h5⟩
theorem EvsU.at_ {A : Option Addr} {l : List Ev} (h : EvsU w A l) {k : Nat} (hk : k < l.length) : ∃ b o A' c', A = some ⟨b, o, Option.none⟩ ∧ b < w.heap.size ∧ True ∧ w.cell? ⟨b, o + k * 3, Option.none⟩ = some (.string ⟨(l[k]'hk).num.toArray⟩) ∧ w.cell? ⟨b, o + k * 3 + 1, Option.none⟩ = some (.string ⟨(l[k]'hk).den.toArray⟩) ∧ w.cell? ⟨b, o + k * 3 + 2, Option.none⟩ = some (.slice A' (l[k]'hk).notes.length c') ∧ (l[k]'hk).notes.length ≤ c' ∧ c' ≤ maxLen ∧ NotesU w A' (l[k]'hk).notes := by
 obtain ⟨b, o, cs, e, h1, h3, ⟨A', c', rfl, h5, h6, h7⟩, h4⟩ := h.get k _ (List.getElem?_eq_getElem hk)
 have g0 := h4 0 (by decide)
 have g1 := h4 1 (by decide)
 have g2 := h4 2 (by decide)
 rw [← Nat.add_assoc] at g0 g1 g2
 exact ⟨b, o, A', c', e, h1, trivial, g0, g1, g2, h5, h6, h7⟩
theorem VcsU.at_ {A : Option Addr} {l : List Vc} (h : VcsU w A l) {k : Nat} (hk : k < l.length) : ∃ b o A' c', A = some ⟨b, o, Option.none⟩ ∧ b < w.heap.size ∧ True ∧ w.cell? ⟨b, o + k * 2, Option.none⟩ = some (.string ⟨(l[k]'hk).name.toArray⟩) ∧ w.cell? ⟨b, o + k * 2 + 1, Option.none⟩ = some (.slice A' (l[k]'hk).evs.length c') ∧ (l[k]'hk).evs.length ≤ c' ∧ c' ≤ maxLen ∧ EvsU w A' (l[k]'hk).evs := by
 obtain ⟨b, o, cs, e, h1, h3, ⟨A', c', rfl, h5, h6, h7⟩, h4⟩ := h.get k _ (List.getElem?_eq_getElem hk)
 have g0 := h4 0 (by decide)
 have g1 := h4 1 (by decide)
 rw [← Nat.add_assoc] at g0 g1
 exact ⟨b, o, A', c', e, h1, trivial, g0, g1, h5, h6, h7⟩
theorem NotesT.u {B : Nat} {A : Option Addr} {l : List (List Int)} (h : NotesT w B A l) (hB : B ≤ w.heap.size) : NotesU w A l := ⟨fun k x hx => by
 obtain ⟨b, o, cs, e, h1, h2, h3, h4, v, e', h5⟩ := h.get k x hx
 exact ⟨b, o, cs, e, by omega, h3, ⟨v, e', h5.row⟩, fun j hj => by rw [← Nat.add_assoc]; exact h4 j hj⟩⟩
theorem EvsT.u {B : Nat} {A : Option Addr} {l : List Ev} (h : EvsT w B A l) (hB : B ≤ w.heap.size) : EvsU w A l := ⟨fun k x hx => by
 obtain ⟨b, o, cs, e, h1, h2, h3, h4, A', c', e', h5, h6, h7⟩ := h.get k x hx
 exact ⟨b, o, cs, e, by omega, h3, ⟨A', c', e', h5, h6, NotesT.u h7 hB⟩, fun j hj => by rw [← Nat.add_assoc]; exact h4 j hj⟩⟩
theorem VcsT.u {B : Nat} {A : Option Addr} {l : List Vc} (h : VcsT w B A l) (hB : B ≤ w.heap.size) : VcsU w A l := ⟨fun k x hx => by
 obtain ⟨b, o, cs, e, h1, h2, h3, h4, A', c', e', h5, h6, h7⟩ := h.get k x hx
 exact ⟨b, o, cs, e, by omega, h3, ⟨A', c', e', h5, h6, EvsT.u h7 hB⟩, fun j hj => by rw [← Nat.add_assoc]; exact h4 j hj⟩⟩
theorem ScV.u {pv vv : Value} {s : Sc} (h : ScV w w.heap.size pv vv s) : ScU w pv vv s := by
 obtain ⟨hp, A, c, e, h1, h2, h3⟩ := h
 exact ⟨hp.row, A, c, e, h1, h2, VcsT.u h3 (Nat.le_refl _)⟩
theorem ScU.nil (w : World) : ScU w (.slice Option.none 0 0) (.slice Option.none 0 0) ⟨[], []⟩ := ⟨IRow.row (IRow.nil w w.heap.size), Option.none, 0, rfl, Nat.le_refl _, Nat.zero_le _, LA.nil _ _ _ _⟩
end
end Go.Proofs.YtaaeekahhhookaaGreatDoor
