/- Contracts of the string functions that parsing uses, in lists of bytes. -/
import Derived.Test.YtkoemgemnklmdaaGreatDoorShelf2
import Derived.Test.YtkoemgemnklmdaaGreatDoorGC
namespace Go.Proofs.YtkoemgemnklmdaaGreatDoor
open Go.RowKit Go.Lib

theorem hasPrefix_any (s p : List UInt8) (w : World) : Calls Tryz.prog 83 #[.string ⟨s.toArray⟩, .string ⟨p.toArray⟩] w fun e w' => e = .returned (.bool (Lib.hasPrefix s p)) ∧ Below w.heap.size w w' :=
  (Tryz.strings_HasPrefix ⟨s.toArray⟩ ⟨p.toArray⟩ w).mono fun _ _ ⟨h, hw⟩ => ⟨h, hw ▸ Below.refl _ _⟩
theorem cutPrefix_any (s p : List UInt8) (w : World) : Calls Tryz.prog 84 #[.string ⟨s.toArray⟩, .string ⟨p.toArray⟩] w fun e w' => e = .returned (.tuple #[.string ⟨(Lib.trimPrefix s p).toArray⟩, .bool (Lib.hasPrefix s p)]) ∧ Below w.heap.size w w' :=
  (Tryz.strings_CutPrefix ⟨s.toArray⟩ ⟨p.toArray⟩ w).mono fun _ _ ⟨h, hw⟩ => ⟨h, hw ▸ Below.refl _ _⟩
theorem trimZeros_any (s : List UInt8) (w : World) : Calls Tryz.prog 127 #[.string ⟨s.toArray⟩, .string ⟨#[48]⟩] w fun e w' => e = .returned (.string ⟨(Lib.trimLeftB s 48).toArray⟩) ∧ Below w.heap.size w w' :=
  (Tryz.strings_TrimLeft_one ⟨s.toArray⟩ 48 (by decide) w).mono fun _ _ ⟨h, hw⟩ => ⟨h, hw ▸ Below.refl _ _⟩
theorem indexAny_ascii (s c : List UInt8) (w : World) (hs : s.length < 4294967281) (hc : c.length < 4294967281) (has : ∀ x ∈ s, x.toNat < 128) (hac : ∀ x ∈ c, x.toNat < 128) :
    Calls Tryz.prog 91 #[.string ⟨s.toArray⟩, .string ⟨c.toArray⟩] w fun e w' => e = .returned (.int .i64 (Lib.indexAny s c)) ∧ Below w.heap.size w w' :=
  Tryz.strings_IndexAny_laid ⟨s.toArray⟩ ⟨c.toArray⟩ w hs hc (fun _ b h => has b (List.mem_of_getElem? h)) (fun _ b h => hac b (List.mem_of_getElem? h))
theorem trimPrefix_any (s p : List UInt8) (w : World) : Calls Tryz.prog 120 #[.string ⟨s.toArray⟩, .string ⟨p.toArray⟩] w fun e w' => e = .returned (.string ⟨(Lib.trimPrefix s p).toArray⟩) ∧ Below w.heap.size w w' :=
  (Tryz.strings_TrimPrefix ⟨s.toArray⟩ ⟨p.toArray⟩ w).mono fun _ _ ⟨h, hw⟩ => ⟨h, hw ▸ Below.refl _ _⟩
theorem cutSuffix_any (s p : List UInt8) (w : World) (hs : s.length ≤ 9223372036854775807) : Calls Tryz.prog 85 #[.string ⟨s.toArray⟩, .string ⟨p.toArray⟩] w fun e w' => e = .returned (.tuple #[.string ⟨(Lib.trimSuffix s p).toArray⟩, .bool (Lib.hasSuffix s p)]) ∧ Below w.heap.size w w' :=
  (Tryz.strings_CutSuffix ⟨s.toArray⟩ ⟨p.toArray⟩ w hs).mono fun _ _ ⟨h, hw⟩ => ⟨h, hw ▸ Below.refl _ _⟩
theorem split_run (s p : List UInt8) (m : Int) (w : World) (hs : s.length < 4294967281) (hm : w.cell? ⟨2, 0, Option.none⟩ = some (.int .i64 m)) (h1 : 1 ≤ p.length) :
    Calls Tryz.prog 86 #[.string ⟨s.toArray⟩, .string ⟨p.toArray⟩] w fun e w' => e = .returned (.slice (some ⟨w.heap.size, 0, Option.none⟩) (Lib.countB ⟨s.toArray⟩ ⟨p.toArray⟩ + 1) (Lib.countB ⟨s.toArray⟩ ⟨p.toArray⟩ + 1)) ∧ w' = w.alloc (.cells ((Lib.splitB ⟨p.toArray⟩ 0 (Lib.countB ⟨s.toArray⟩ ⟨p.toArray⟩) ⟨s.toArray⟩).map Value.string).toArray 9) :=
  Tryz.strings_Split ⟨s.toArray⟩ ⟨p.toArray⟩ m w hs hm h1

end Go.Proofs.YtkoemgemnklmdaaGreatDoor
