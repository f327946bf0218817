/- The functions of target with wrong lists. -/
import Derived.Test.YtcfkclafpbaagaaGreatDoorGTJ
namespace Go.Proofs.YtcfkclafpbaagaaGreatDoor
open Go.RowKit Go.Lib Go.Shelf

theorem tgreduce_err (pv : Value) (p : List Int) (A : Option Addr) (c : Nat) (l : List (List Int)) (w : World) (hp : IsRow w w.heap.size pv p) (hl : RowsAt w w.heap.size A l) (hlm : l.length ≤ 1000000) (hne : (lstErr p l != 0) = true) :
    Calls Tryz.prog 18 #[pv, .slice A l.length c] w fun e w' => e = .returned (.tuple #[.slice Option.none 0 0, .int .i64 (lstErr p l)]) ∧ w = w' := by
  have HCL := Lib.hid (checkList_any pv p A c l w hp hl hlm)
  obtain ⟨AP, cp, rfl⟩ := hp.shape
  clear hp hl hlm
  generalize lstErr p l = q at *
  go_enter Tryz.func18, Tryz.ntmps18
  go_wp2_with (go_at_call 45; refine HCL.out.mono ?_; rintro e w1 ⟨rfl, rfl⟩)
  go_ret2
  exact ⟨rfl, rfl⟩
theorem tglesser_err (pv : Value) (p : List Int) (A : Option Addr) (c : Nat) (l : List (List Int)) (w : World) (hp : IsRow w w.heap.size pv p) (hl : RowsAt w w.heap.size A l) (hlm : l.length ≤ 1000000) (hne : (lstErr p l != 0) = true) :
    Calls Tryz.prog 19 #[pv, .slice A l.length c] w fun e w' => e = .returned (.tuple #[.slice Option.none 0 0, .int .i64 (lstErr p l)]) ∧ w = w' := by
  have HCL := Lib.hid (checkList_any pv p A c l w hp hl hlm)
  obtain ⟨AP, cp, rfl⟩ := hp.shape
  clear hp hl hlm
  generalize lstErr p l = q at *
  go_enter Tryz.func19, Tryz.ntmps19
  go_wp2_with (go_at_call 45; refine HCL.out.mono ?_; rintro e w1 ⟨rfl, rfl⟩)
  go_ret2
  exact ⟨rfl, rfl⟩
theorem tgclosed_err (pv : Value) (p : List Int) (A : Option Addr) (c : Nat) (l : List (List Int)) (w : World) (hp : IsRow w w.heap.size pv p) (hl : RowsAt w w.heap.size A l) (hlm : l.length ≤ 1000000) (hne : (lstErr p l != 0) = true) :
    Calls Tryz.prog 20 #[pv, .slice A l.length c] w fun e w' => e = .returned (.tuple #[.slice Option.none 0 0, .int .i64 (lstErr p l)]) ∧ w = w' := by
  have HCL := Lib.hid (checkList_any pv p A c l w hp hl hlm)
  obtain ⟨AP, cp, rfl⟩ := hp.shape
  clear hp hl hlm
  generalize lstErr p l = q at *
  go_enter Tryz.func20, Tryz.ntmps20
  go_wp2_with (go_at_call 45; refine HCL.out.mono ?_; rintro e w1 ⟨rfl, rfl⟩)
  go_ret2
  exact ⟨rfl, rfl⟩
theorem tgweigh_err (pv : Value) (p : List Int) (A : Option Addr) (c : Nat) (l : List (List Int)) (k : Int) (w : World) (hp : IsRow w w.heap.size pv p) (hl : RowsAt w w.heap.size A l) (hlm : l.length ≤ 1000000) (hne : (lstErr p l != 0) = true) :
    Calls Tryz.prog 33 #[pv, .slice A l.length c, .int .i64 k] w fun e w' => e = .returned (.tuple #[.slice Option.none 0 0, .int .i64 (lstErr p l)]) ∧ w = w' := by
  have HCL := Lib.hid (checkList_any pv p A c l w hp hl hlm)
  obtain ⟨AP, cp, rfl⟩ := hp.shape
  clear hp hl hlm
  generalize lstErr p l = q at *
  go_enter Tryz.func33, Tryz.ntmps33
  go_wp2_with (go_at_call 45; refine HCL.out.mono ?_; rintro e w1 ⟨rfl, rfl⟩)
  go_ret2
  exact ⟨rfl, rfl⟩
/-- Diamond over wrong primes. -/
theorem diamond_err (pv : Value) (p : List Int) (A : Option Addr) (n c : Nat) (w : World) (hp : IsRow w w.heap.size pv p) (hne : (primeErr p != 0) = true) :
    Calls Tryz.prog 28 #[pv, .slice A n c] w fun e w' => e = .returned (.tuple #[.slice Option.none 0 0, .int .i64 (primeErr p)]) ∧ w = w' := by
  have HPC := Lib.hid (primeCheck_any pv p w.heap.size w hp)
  obtain ⟨AP, cp, rfl⟩ := hp.shape
  clear hp
  generalize primeErr p = q at *
  go_enter Tryz.func28, Tryz.ntmps28
  go_wp2_with (go_at_call 25; refine HPC.out.mono ?_; rintro e w1 ⟨rfl, rfl⟩)
  go_ret2
  exact ⟨rfl, rfl⟩

end Go.Proofs.YtcfkclafpbaagaaGreatDoor
