import Derived.Test.YtaaeekahhhookaaGreatDoorCards
import Derived.Test.YtaaeekahhhookaaGreatDoorTie
import Derived.Test.YtaaeekahhhookaaGreatDoorStartCk
import Derived.Test.YtaaeekahhhookaaGreatDoorFSgMCk
import Derived.WalkKit
import Derived.ProofKit
import Derived.OpenShut
import Derived.ShutString
import Derived.ChangeOld
import Derived.Below
import Derived.Deep.DeepHandedRow
import Derived.MakeChecks
namespace Go.Proofs.YtaaeekahhhookaaGreatDoor
open Go.ChangeShapes Go.WideShapes Go.ChangeAt Go.RowKit
theorem own : ownKnob Tryz.prog.godebug = Option.none := by kernel_rfl
theorem laidOut : laidOutB Tryz.prog = true := by kernel_rfl
theorem arg_row {H : Type} {enc : TypeId × Value → H} {W : World} {held : Bool} {t : TypeId} {a : Option Addr} {len cap : Nat} {d : DataW H} {p : List MemPlace}
  (ht : Tryz.prog.underlying t = some (.slice 3)) (h : DataW.Trod enc Tryz.prog W 0 (fun _ => true) held t (.slice a len cap) d p) :
  ∃ x : List Int, IsRow W W.heap.size (.slice a len cap) x := by
 obtain ⟨fuel, hf⟩ := h
 rcases open_ints ht Tryz.underlying3 (by kernel_rfl) hf with ⟨hcs, _⟩ | ⟨x, l, c, zs, hcs, _, hl, hm, hz, _, hcell, hwz⟩
 ·simp [Value.cells] at hcs
  obtain ⟨rfl, rfl, rfl⟩ := hcs
  exact ⟨[], Option.none, 0, rfl, Nat.le_refl _, Nat.zero_le _, Row.nil _ _ _ _⟩
 ·simp [Value.cells] at hcs
  obtain ⟨rfl, rfl, rfl⟩ := hcs
  have hzl : zs.length = cap := by simpa using hz
  have hlen : len ≤ zs.length := by omega
  refine ⟨zs.take len, some x, cap, by rw [List.length_take, Nat.min_eq_left hlen], by rw [List.length_take, Nat.min_eq_left hlen]; exact hl, hm, by rw [is_length]; simp, fun k u hu => ?_⟩
  have hk : k < (zs.take len).length := by have := (List.getElem?_eq_some_iff.1 hu).1; rw [is_length] at this; exact this
  have hk2 : k < zs.length := by rw [List.length_take] at hk; omega
  have hc := hcell k hk2
  have e : u = .int .i64 (zs.getD k 0) := by
   unfold is at hu
   rw [List.getElem?_map, List.getElem?_eq_getElem hk] at hu
   simp at hu
   rw [← hu]
   simp [List.getD, List.getElem?_eq_getElem hk2]
  exact ⟨x, rfl, by have := World.block_lt_of_cell? W _ hc; rw [add_block] at this; exact this, by rw [e]; exact hc⟩
end Go.Proofs.YtaaeekahhhookaaGreatDoor
