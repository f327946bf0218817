/- Contracts of the string functions that parsing uses, in lists of bytes. -/
import Derived.Test.YteenfcmnmenigaaGreatDoorShelf2
import Derived.Test.YteenfcmnmenigaaGreatDoorGC
import Derived.Test.YteenfcmnmenigaaGreatDoorGE
namespace Go.Proofs.YteenfcmnmenigaaGreatDoor
open Go.RowKit Go.Lib

theorem hasPrefix_any (s p : List UInt8) (w : World) : Calls Tryz.prog 174 #[.string ⟨s.toArray⟩, .string ⟨p.toArray⟩] w fun e w' => e = .returned (.bool (Lib.hasPrefix s p)) ∧ Below w.heap.size w w' :=
  (Tryz.strings_HasPrefix ⟨s.toArray⟩ ⟨p.toArray⟩ w).mono fun _ _ ⟨h, hw⟩ => ⟨h, hw ▸ Below.refl _ _⟩
theorem split_run (s p : List UInt8) (m : Int) (w : World) (hs : s.length < 4294967281) (hm : w.cell? ⟨2, 0, Option.none⟩ = some (.int .i64 m)) (h1 : 1 ≤ p.length) :
    Calls Tryz.prog 55 #[.string ⟨s.toArray⟩, .string ⟨p.toArray⟩] w fun e w' => e = .returned (.slice (some ⟨w.heap.size, 0, Option.none⟩) (Lib.countB ⟨s.toArray⟩ ⟨p.toArray⟩ + 1) (Lib.countB ⟨s.toArray⟩ ⟨p.toArray⟩ + 1)) ∧ w' = w.alloc (.cells ((Lib.splitB ⟨p.toArray⟩ 0 (Lib.countB ⟨s.toArray⟩ ⟨p.toArray⟩) ⟨s.toArray⟩).map Value.string).toArray 9) :=
  Tryz.strings_Split ⟨s.toArray⟩ ⟨p.toArray⟩ m w hs hm h1

/-- The library's variable of the search in texts holds an int. -/
def LenIs (w : World) : Prop := ∃ m, w.cell? ⟨2, 0, Option.none⟩ = some (.int .i64 m)
theorem LenIs.below {w w' : World} (h : LenIs w) (hb : Below w.heap.size w w') : LenIs w' := by
  obtain ⟨m, hm⟩ := h
  exact ⟨m, (hb.cell (cell_lt hm)).trans hm⟩

theorem repeat_any (s : List UInt8) (n : Nat) (w : World) (hn : n ≤ 1000000) (hs : s.length ≤ 1000000) : Calls Tryz.prog 173 #[.string ⟨s.toArray⟩, .int .i64 n] w fun e w' => e = .returned (.string ⟨(Lib.repeatL s n).toArray⟩) ∧ Below w.heap.size w w' :=
  Tryz.strings_Repeat ⟨s.toArray⟩ n w (by omega) (by
    show s.toArray.size * n ≤ _
    rw [List.size_toArray]
    have := Nat.mul_le_mul hs hn
    omega)
end Go.Proofs.YteenfcmnmenigaaGreatDoor
