/- Contracts of the string functions that parsing uses, in lists of bytes. -/
import Derived.Test.YtjgpjhaeoiddbaaGreatDoorShelf2
import Derived.Test.YtjgpjhaeoiddbaaGreatDoorGC
import Derived.Test.YtjgpjhaeoiddbaaGreatDoorGE
namespace Go.Proofs.YtjgpjhaeoiddbaaGreatDoor
open Go.RowKit Go.Lib

theorem hasPrefix_any (s p : List UInt8) (w : World) : Calls Tryz.prog 191 #[.string ⟨s.toArray⟩, .string ⟨p.toArray⟩] w fun e w' => e = .returned (.bool (Lib.hasPrefix s p)) ∧ Below w.heap.size w w' :=
  (Tryz.strings_HasPrefix ⟨s.toArray⟩ ⟨p.toArray⟩ w).mono fun _ _ ⟨h, hw⟩ => ⟨h, hw ▸ Below.refl _ _⟩
theorem cutPrefix_any (s p : List UInt8) (w : World) : Calls Tryz.prog 216 #[.string ⟨s.toArray⟩, .string ⟨p.toArray⟩] w fun e w' => e = .returned (.tuple #[.string ⟨(Lib.trimPrefix s p).toArray⟩, .bool (Lib.hasPrefix s p)]) ∧ Below w.heap.size w w' :=
  (Tryz.strings_CutPrefix ⟨s.toArray⟩ ⟨p.toArray⟩ w).mono fun _ _ ⟨h, hw⟩ => ⟨h, hw ▸ Below.refl _ _⟩
theorem trimZeros_any (s : List UInt8) (w : World) : Calls Tryz.prog 270 #[.string ⟨s.toArray⟩, .string ⟨#[48]⟩] w fun e w' => e = .returned (.string ⟨(Lib.trimLeftB s 48).toArray⟩) ∧ Below w.heap.size w w' :=
  (Tryz.strings_TrimLeft_one ⟨s.toArray⟩ 48 (by decide) w).mono fun _ _ ⟨h, hw⟩ => ⟨h, hw ▸ Below.refl _ _⟩
theorem indexAny_ascii (s c : List UInt8) (w : World) (hs : s.length < 4294967281) (hc : c.length < 4294967281) (has : ∀ x ∈ s, x.toNat < 128) (hac : ∀ x ∈ c, x.toNat < 128) :
    Calls Tryz.prog 217 #[.string ⟨s.toArray⟩, .string ⟨c.toArray⟩] w fun e w' => e = .returned (.int .i64 (Lib.indexAny s c)) ∧ Below w.heap.size w w' :=
  Tryz.strings_IndexAny_laid ⟨s.toArray⟩ ⟨c.toArray⟩ w hs hc (fun _ b h => has b (List.mem_of_getElem? h)) (fun _ b h => hac b (List.mem_of_getElem? h))
theorem trimPrefix_any (s p : List UInt8) (w : World) : Calls Tryz.prog 273 #[.string ⟨s.toArray⟩, .string ⟨p.toArray⟩] w fun e w' => e = .returned (.string ⟨(Lib.trimPrefix s p).toArray⟩) ∧ Below w.heap.size w w' :=
  (Tryz.strings_TrimPrefix ⟨s.toArray⟩ ⟨p.toArray⟩ w).mono fun _ _ ⟨h, hw⟩ => ⟨h, hw ▸ Below.refl _ _⟩
theorem cutSuffix_any (s p : List UInt8) (w : World) (hs : s.length ≤ 9223372036854775807) : Calls Tryz.prog 219 #[.string ⟨s.toArray⟩, .string ⟨p.toArray⟩] w fun e w' => e = .returned (.tuple #[.string ⟨(Lib.trimSuffix s p).toArray⟩, .bool (Lib.hasSuffix s p)]) ∧ Below w.heap.size w w' :=
  (Tryz.strings_CutSuffix ⟨s.toArray⟩ ⟨p.toArray⟩ w hs).mono fun _ _ ⟨h, hw⟩ => ⟨h, hw ▸ Below.refl _ _⟩
theorem split_run (s p : List UInt8) (m : Int) (w : World) (hs : s.length < 4294967281) (hm : w.cell? ⟨0, 0, Option.none⟩ = some (.int .i64 m)) (h1 : 1 ≤ p.length) :
    Calls Tryz.prog 93 #[.string ⟨s.toArray⟩, .string ⟨p.toArray⟩] w fun e w' => e = .returned (.slice (some ⟨w.heap.size, 0, Option.none⟩) (Lib.countB ⟨s.toArray⟩ ⟨p.toArray⟩ + 1) (Lib.countB ⟨s.toArray⟩ ⟨p.toArray⟩ + 1)) ∧ w' = w.alloc (.cells ((Lib.splitB ⟨p.toArray⟩ 0 (Lib.countB ⟨s.toArray⟩ ⟨p.toArray⟩) ⟨s.toArray⟩).map Value.string).toArray 9) :=
  Tryz.strings_Split ⟨s.toArray⟩ ⟨p.toArray⟩ m w hs hm h1

/-- The library's variable of the search in texts holds an int. -/
def LenIs (w : World) : Prop := ∃ m, w.cell? ⟨0, 0, Option.none⟩ = some (.int .i64 m)
theorem LenIs.below {w w' : World} (h : LenIs w) (hb : Below w.heap.size w w') : LenIs w' := by
  obtain ⟨m, hm⟩ := h
  exact ⟨m, (hb.cell (cell_lt hm)).trans hm⟩

theorem indexByte_any (s : List UInt8) (c : UInt8) (w : World) : Calls Tryz.prog 138 #[.string ⟨s.toArray⟩, .int .u8 c.toNat] w fun e w' => e = .returned (.int .i64 (Lib.indexByte s c)) ∧ w = w' := by
  have h := Tryz.strings_IndexByte ⟨s.toArray⟩ (c.toNat : Int) w
  rw [show ((c.toNat : Int)).toNat.toUInt8 = c by simp] at h
  exact h.mono fun _ _ ⟨h1, h2⟩ => ⟨h1, h2.symm⟩
theorem repeat_any (s : List UInt8) (n : Nat) (w : World) (hn : n ≤ 1000000) (hs : s.length ≤ 1000000) : Calls Tryz.prog 190 #[.string ⟨s.toArray⟩, .int .i64 n] w fun e w' => e = .returned (.string ⟨(Lib.repeatL s n).toArray⟩) ∧ Below w.heap.size w w' :=
  Tryz.strings_Repeat ⟨s.toArray⟩ n w (by omega) (by
    show s.toArray.size * n ≤ _
    rw [List.size_toArray]
    have := Nat.mul_le_mul hs hn
    omega)
theorem cut_any' (s p : List UInt8) (m : Int) (w : World) (hs : s.length < 4294967281) (hm : w.cell? ⟨0, 0, Option.none⟩ = some (.int .i64 m)) : Calls Tryz.prog 132 #[.string ⟨s.toArray⟩, .string ⟨p.toArray⟩] w fun e w' => e = .returned (.tuple #[.string ⟨(Lib.cut s p).1.toArray⟩, .string ⟨(Lib.cut s p).2.1.toArray⟩, .bool (Lib.cut s p).2.2]) ∧ Below w.heap.size w w' :=
  (Tryz.strings_Cut ⟨s.toArray⟩ ⟨p.toArray⟩ m w hs hm).mono fun _ _ ⟨h1, h2⟩ => ⟨h1, drew_below h2⟩
theorem validRune_any (r : Int) (w : World) : Calls Tryz.prog 303 #[.int .i32 r] w fun e w' => e = .returned (.bool (Lib.validRune r)) ∧ w = w' :=
  (Tryz.utf8_ValidRune r w).mono fun _ _ ⟨h1, h2⟩ => ⟨h1, h2.symm⟩

end Go.Proofs.YtjgpjhaeoiddbaaGreatDoor
