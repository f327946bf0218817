/- The functions of chord with a chord that is not right: the error (printed by gen_cer.py). chord.Alike and Text with a chord that is not right: the error. -/
import Derived.Test.YteenfcmnmenigaaGreatDoorGCD
import Derived.Test.YteenfcmnmenigaaGreatDoorGQ
namespace Go.Proofs.YteenfcmnmenigaaGreatDoor
open Go.RowKit Go.Lib

set_option maxHeartbeats 1000000 in
theorem chRoot_err (pv : Value) (p : List Int) (A : Option Addr) (c : Nat) (l : List (List Int)) (w : World) (hS : Std w) (hp : IsRow w w.heap.size pv p) (hl : RowsAt w w.heap.size A l) (hn : l.length ≤ 1000000) (hE : (chErr p l != 0) = true) :
    Calls Tryz.prog 15 #[pv, .slice A l.length c] w fun e w' => e = .returned (.tuple #[.slice Option.none 0 0, .int .i64 (chErr p l)]) ∧ Below w.heap.size w w' := by
  have HC := Lib.hid (chCheck_any pv p A c l w hS hp hl hn)
  obtain ⟨AP, cp, rfl⟩ := hp.shape
  clear hS hp hl
  generalize chErr p l = V at *
  go_enter Tryz.func15, Tryz.ntmps15
  go_wp2_with fail
  refine HC.out.mono ?_
  rintro e w1 ⟨rfl, hb1⟩
  go_wp2_with fail
  go_ret2
  exact ⟨rfl, hb1⟩

set_option maxHeartbeats 1000000 in
theorem chDyads_err (pv : Value) (p : List Int) (A : Option Addr) (c : Nat) (l : List (List Int)) (w : World) (hS : Std w) (hp : IsRow w w.heap.size pv p) (hl : RowsAt w w.heap.size A l) (hn : l.length ≤ 1000000) (hE : (chErr p l != 0) = true) :
    Calls Tryz.prog 16 #[pv, .slice A l.length c] w fun e w' => e = .returned (.tuple #[.slice Option.none 0 0, .int .i64 (chErr p l)]) ∧ Below w.heap.size w w' := by
  have HC := Lib.hid (chCheck_any pv p A c l w hS hp hl hn)
  obtain ⟨AP, cp, rfl⟩ := hp.shape
  clear hS hp hl
  generalize chErr p l = V at *
  go_enter Tryz.func16, Tryz.ntmps16
  go_wp2_with fail
  refine HC.out.mono ?_
  rintro e w1 ⟨rfl, hb1⟩
  go_wp2_with fail
  go_ret2
  exact ⟨rfl, hb1⟩

set_option maxHeartbeats 1000000 in
theorem chSpan_err (pv : Value) (p : List Int) (A : Option Addr) (c : Nat) (l : List (List Int)) (w : World) (hS : Std w) (hp : IsRow w w.heap.size pv p) (hl : RowsAt w w.heap.size A l) (hn : l.length ≤ 1000000) (hE : (chErr p l != 0) = true) :
    Calls Tryz.prog 17 #[pv, .slice A l.length c] w fun e w' => e = .returned (.tuple #[.slice Option.none 0 0, .int .i64 (chErr p l)]) ∧ Below w.heap.size w w' := by
  have HC := Lib.hid (chCheck_any pv p A c l w hS hp hl hn)
  obtain ⟨AP, cp, rfl⟩ := hp.shape
  clear hS hp hl
  generalize chErr p l = V at *
  go_enter Tryz.func17, Tryz.ntmps17
  go_wp2_with fail
  refine HC.out.mono ?_
  rintro e w1 ⟨rfl, hb1⟩
  go_wp2_with fail
  go_ret2
  exact ⟨rfl, hb1⟩

set_option maxHeartbeats 1000000 in
theorem chDual_err (pv : Value) (p : List Int) (A : Option Addr) (c : Nat) (l : List (List Int)) (w : World) (hS : Std w) (hp : IsRow w w.heap.size pv p) (hl : RowsAt w w.heap.size A l) (hn : l.length ≤ 1000000) (hE : (chErr p l != 0) = true) :
    Calls Tryz.prog 25 #[pv, .slice A l.length c] w fun e w' => e = .returned (.tuple #[.slice Option.none 0 0, .int .i64 (chErr p l)]) ∧ Below w.heap.size w w' := by
  have HC := Lib.hid (chCheck_any pv p A c l w hS hp hl hn)
  obtain ⟨AP, cp, rfl⟩ := hp.shape
  clear hS hp hl
  generalize chErr p l = V at *
  go_enter Tryz.func25, Tryz.ntmps25
  go_wp2_with fail
  refine HC.out.mono ?_
  rintro e w1 ⟨rfl, hb1⟩
  go_wp2_with fail
  go_ret2
  exact ⟨rfl, hb1⟩

set_option maxHeartbeats 1000000 in
theorem chClose_err (pv : Value) (p : List Int) (A : Option Addr) (c : Nat) (l : List (List Int)) (w : World) (hS : Std w) (hp : IsRow w w.heap.size pv p) (hl : RowsAt w w.heap.size A l) (hn : l.length ≤ 1000000) (hE : (chErr p l != 0) = true) :
    Calls Tryz.prog 26 #[pv, .slice A l.length c] w fun e w' => e = .returned (.tuple #[.slice Option.none 0 0, .int .i64 (chErr p l)]) ∧ Below w.heap.size w w' := by
  have HC := Lib.hid (chCheck_any pv p A c l w hS hp hl hn)
  obtain ⟨AP, cp, rfl⟩ := hp.shape
  clear hS hp hl
  generalize chErr p l = V at *
  go_enter Tryz.func26, Tryz.ntmps26
  go_wp2_with fail
  refine HC.out.mono ?_
  rintro e w1 ⟨rfl, hb1⟩
  go_wp2_with fail
  go_ret2
  exact ⟨rfl, hb1⟩

set_option maxHeartbeats 1000000 in
theorem chOtonal_err (pv : Value) (p : List Int) (A : Option Addr) (c : Nat) (l : List (List Int)) (w : World) (hS : Std w) (hp : IsRow w w.heap.size pv p) (hl : RowsAt w w.heap.size A l) (hn : l.length ≤ 1000000) (hE : (chErr p l != 0) = true) :
    Calls Tryz.prog 30 #[pv, .slice A l.length c] w fun e w' => e = .returned (.tuple #[.slice Option.none 0 0, .int .i64 (chErr p l)]) ∧ Below w.heap.size w w' := by
  have HC := Lib.hid (chCheck_any pv p A c l w hS hp hl hn)
  obtain ⟨AP, cp, rfl⟩ := hp.shape
  clear hS hp hl
  generalize chErr p l = V at *
  go_enter Tryz.func30, Tryz.ntmps30
  go_wp2_with fail
  refine HC.out.mono ?_
  rintro e w1 ⟨rfl, hb1⟩
  go_wp2_with fail
  go_ret2
  exact ⟨rfl, hb1⟩

set_option maxHeartbeats 1000000 in
theorem chUtonal_err (pv : Value) (p : List Int) (A : Option Addr) (c : Nat) (l : List (List Int)) (w : World) (hS : Std w) (hp : IsRow w w.heap.size pv p) (hl : RowsAt w w.heap.size A l) (hn : l.length ≤ 1000000) (hE : (chErr p l != 0) = true) :
    Calls Tryz.prog 31 #[pv, .slice A l.length c] w fun e w' => e = .returned (.tuple #[.slice Option.none 0 0, .int .i64 (chErr p l)]) ∧ Below w.heap.size w w' := by
  have HC := Lib.hid (chCheck_any pv p A c l w hS hp hl hn)
  obtain ⟨AP, cp, rfl⟩ := hp.shape
  clear hS hp hl
  generalize chErr p l = V at *
  go_enter Tryz.func31, Tryz.ntmps31
  go_wp2_with fail
  refine HC.out.mono ?_
  rintro e w1 ⟨rfl, hb1⟩
  go_wp2_with fail
  go_ret2
  exact ⟨rfl, hb1⟩

set_option maxHeartbeats 1000000 in
theorem chInversions_err (pv : Value) (p : List Int) (A : Option Addr) (c : Nat) (l : List (List Int)) (w : World) (hS : Std w) (hp : IsRow w w.heap.size pv p) (hl : RowsAt w w.heap.size A l) (hn : l.length ≤ 1000000) (hE : (chErr p l != 0) = true) :
    Calls Tryz.prog 27 #[pv, .slice A l.length c] w fun e w' => e = .returned (.tuple #[.slice Option.none 0 0, .int .i64 (chErr p l)]) ∧ Below w.heap.size w w' := by
  have HC := Lib.hid (chClose_err pv p A c l w hS hp hl hn hE)
  obtain ⟨AP, cp, rfl⟩ := hp.shape
  clear hS hp hl
  generalize chErr p l = V at *
  go_enter Tryz.func27, Tryz.ntmps27
  go_wp2_with fail
  refine HC.out.mono ?_
  rintro e w1 ⟨rfl, hb1⟩
  go_wp2_with fail
  go_ret2
  exact ⟨rfl, hb1⟩

set_option maxHeartbeats 1000000 in
theorem chCanonical_err (pv : Value) (p : List Int) (A : Option Addr) (c : Nat) (l : List (List Int)) (w : World) (hS : Std w) (hp : IsRow w w.heap.size pv p) (hl : RowsAt w w.heap.size A l) (hn : l.length ≤ 1000000) (hE : (chErr p l != 0) = true) :
    Calls Tryz.prog 28 #[pv, .slice A l.length c] w fun e w' => e = .returned (.tuple #[.slice Option.none 0 0, .int .i64 (chErr p l)]) ∧ Below w.heap.size w w' := by
  have HC := Lib.hid (chInversions_err pv p A c l w hS hp hl hn hE)
  obtain ⟨AP, cp, rfl⟩ := hp.shape
  clear hS hp hl
  generalize chErr p l = V at *
  go_enter Tryz.func28, Tryz.ntmps28
  go_wp2_with fail
  refine HC.out.mono ?_
  rintro e w1 ⟨rfl, hb1⟩
  go_wp2_with fail
  go_ret2
  exact ⟨rfl, hb1⟩

end Go.Proofs.YteenfcmnmenigaaGreatDoor

namespace Go.Proofs.YteenfcmnmenigaaGreatDoor
open Go.RowKit Go.Lib

set_option maxRecDepth 100000 in
set_option maxHeartbeats 1000000 in
theorem chText_err (pv : Value) (p : List Int) (A : Option Addr) (c : Nat) (l : List (List Int)) (w : World) (hS : Std w) (hp : IsRow w w.heap.size pv p) (hl : RowsAt w w.heap.size A l) (hn : l.length ≤ 1000000) (hE : (chErr p l != 0) = true) :
    Calls Tryz.prog 32 #[pv, .slice A l.length c] w fun e w' => e = .returned (.tuple #[.string ⟨#[]⟩, .int .i64 (chErr p l)]) ∧ Below w.heap.size w w' := by
  have HC := Lib.hid (chOtonal_err pv p A c l w hS hp hl hn hE)
  have HJ := Lib.hid (fun (W : World) => join_own 0 (.slice Option.none 0 0) [] [58] W (World.ownsRow_nil _ _ _ _) (by decide) (by decide))
  have hj0 : (Lib.join [] [58]).toArray = (#[] : Array UInt8) := rfl
  rw [hj0] at HJ
  obtain ⟨AP, cp, rfl⟩ := hp.shape
  clear hS hp hl hj0
  generalize chErr p l = V at *
  go_enter Tryz.func32, Tryz.ntmps32
  go_wp2_with fail
  refine HC.out.mono ?_
  rintro e w1 ⟨rfl, hb1⟩
  go_wp2_with fail
  go_loopw [8, 19] (fun o i wr => o = .slice Option.none 0 0 ∧ i = .int .i64 0 ∧ Below w.heap.size w wr) (fun _ _ _ => 0)
  case atStart => exact ⟨rfl, rfl, hb1⟩
  case round =>
    obtain ⟨rfl, rfl, hbw⟩ := hrel
    go_wp2_with fail
    refine (HJ.out _).mono ?_
    rintro e w2 ⟨rfl, hb2⟩
    go_wp2_with fail
    go_ret2
    exact ⟨rfl, hbw.trans (hb2.mono hbw.size)⟩

set_option maxRecDepth 100000 in
set_option maxHeartbeats 1000000 in
theorem chAlike_err (pv : Value) (p : List Int) (A : Option Addr) (c : Nat) (l : List (List Int)) (w : World) (hS : Std w) (hp : IsRow w w.heap.size pv p) (hl : RowsAt w w.heap.size A l) (hn : l.length ≤ 1000000) (hE : (chErr p l != 0) = true) :
    Calls Tryz.prog 29 #[pv, .slice A l.length c, .slice A l.length c] w fun e w' => e = .returned (.tuple #[.bool false, .int .i64 (chErr p l)]) ∧ Below w.heap.size w w' := by
  obtain ⟨w1, hw1⟩ : ∃ w1, w1 = w.alloc (.cells #[.slice A l.length c, .slice A l.length c] 24) := ⟨_, rfl⟩
  have hb1 : Below w.heap.size w w1 := by rw [hw1]; exact (Below.refl _ _).alloc (Nat.le_refl _) _
  have hc0 : w1.cell? ⟨w.heap.size, 0, Option.none⟩ = some (.slice A l.length c) := by rw [hw1]; exact (Cells.new w 24 #[.slice A l.length c, .slice A l.length c]).cell 0
  have HC := Lib.hid (chCheck_any pv p A c l w1 (hS.below hb1 (Nat.le_refl _)) (hp.lift hb1) (hl.lift hb1) hn)
  obtain ⟨AP, cp, rfl⟩ := hp.shape
  clear hS hp hl
  generalize chErr p l = V at *
  go_enter Tryz.func29, Tryz.ntmps29
  go_wp2_with fail
  rw [← hw1]
  clear hw1
  go_loopw [18] (fun i wr => i = .int .i64 0 ∧ wr = w1) (fun _ _ => 0)
  case atStart => exact ⟨rfl, rfl⟩
  case round =>
    obtain ⟨rfl, rfl⟩ := hrel
    go_wp2_with fail
    refine HC.out.mono ?_
    rintro e w2 ⟨rfl, hb2⟩
    go_wp2_with fail
    go_ret2
    exact ⟨rfl, hb1.trans (hb2.mono hb1.size)⟩

end Go.Proofs.YteenfcmnmenigaaGreatDoor
