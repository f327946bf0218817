/- The errors of all functions with intervals. -/
import Derived.Test.YtkoemgemnklmdaaGreatDoorLawChk
namespace Go.Proofs.YtkoemgemnklmdaaGreatDoor
open Go.RowKit Go.Lib

/-- The contract of CheckAll with two rows in a new list. -/
theorem checkTwo (AP AX AY : Option Addr) (cp cx cy : Nat) (p x y : List Int) (w : World) (hp : IsRow w w.heap.size (.slice AP p.length cp) p) (hx : IsRow w w.heap.size (.slice AX x.length cx) x) (hy : IsRow w w.heap.size (.slice AY y.length cy) y) :
    Calls Tryz.prog 20 #[.slice AP p.length cp, .slice (some ⟨w.heap.size, 0, Option.none⟩) 2 2] (w.alloc (.cells #[.slice AX x.length cx, .slice AY y.length cy] 24)) fun e w' => e = .returned (.int .i64 (chkAll p [x, y])) ∧ Below w.heap.size w w' := by
  have h := checkAll_any (.slice AP p.length cp) p (some ⟨w.heap.size, 0, Option.none⟩) 2 (w.heap.size + 1) [x, y] (w.alloc (.cells #[.slice AX x.length cx, .slice AY y.length cy] 24)) ((hp.alloc (Nat.le_refl _) _).up (by omega)) (rowsAt_two w _ _ x y _ hx hy) (by simp)
  exact h.mono fun e w' ⟨h1, h2⟩ => ⟨h1, h2 ▸ (Below.refl _ _).alloc (Nat.le_refl _) _⟩

set_option maxHeartbeats 400000 in
theorem sum_err (AP AX AY : Option Addr) (cp cx cy : Nat) (p x y : List Int) (k : Int) (w : World) (hp : IsRow w w.heap.size (.slice AP p.length cp) p) (hx : IsRow w w.heap.size (.slice AX x.length cx) x) (hy : IsRow w w.heap.size (.slice AY y.length cy) y) (h : (chkAll p [x, y] != 0) = true) :
    Calls Tryz.prog 74 #[.slice AP p.length cp, .slice AX x.length cx, .slice AY y.length cy, .int .i64 k] w fun e w' => e = .returned (.tuple #[.slice Option.none 0 0, .int .i64 (chkAll p [x, y])]) ∧ Below w.heap.size w w' := by
  have HC := Lib.hid (checkTwo AP AX AY cp cx cy p x y w hp hx hy)
  generalize chkAll p [x, y] = q at *
  clear hp hx hy
  go_enter Tryz.func74, Tryz.ntmps74
  go_wp2_with fail
  refine HC.out.mono ?_
  rintro e w1 ⟨rfl, hb1⟩
  go_wp2_with fail
  go_ret2
  exact ⟨rfl, hb1⟩

set_option maxHeartbeats 400000 in
theorem add_err (AP AX AY : Option Addr) (cp cx cy : Nat) (p x y : List Int) (w : World) (hp : IsRow w w.heap.size (.slice AP p.length cp) p) (hx : IsRow w w.heap.size (.slice AX x.length cx) x) (hy : IsRow w w.heap.size (.slice AY y.length cy) y) (h : (chkAll p [x, y] != 0) = true) :
    Calls Tryz.prog 39 #[.slice AP p.length cp, .slice AX x.length cx, .slice AY y.length cy] w fun e w' => e = .returned (.tuple #[.slice Option.none 0 0, .int .i64 (chkAll p [x, y])]) ∧ Below w.heap.size w w' := by
  have HC := Lib.hid (sum_err AP AX AY cp cx cy p x y 1 w hp hx hy h)
  generalize chkAll p [x, y] = q at *
  clear hp hx hy
  go_enter Tryz.func39, Tryz.ntmps39
  go_wp2_with fail
  refine HC.out.mono ?_
  rintro e w1 ⟨rfl, hb1⟩
  go_wp2_with fail
  go_ret2
  exact ⟨rfl, hb1⟩

set_option maxHeartbeats 400000 in
theorem sub_err (AP AX AY : Option Addr) (cp cx cy : Nat) (p x y : List Int) (w : World) (hp : IsRow w w.heap.size (.slice AP p.length cp) p) (hx : IsRow w w.heap.size (.slice AX x.length cx) x) (hy : IsRow w w.heap.size (.slice AY y.length cy) y) (h : (chkAll p [x, y] != 0) = true) :
    Calls Tryz.prog 40 #[.slice AP p.length cp, .slice AX x.length cx, .slice AY y.length cy] w fun e w' => e = .returned (.tuple #[.slice Option.none 0 0, .int .i64 (chkAll p [x, y])]) ∧ Below w.heap.size w w' := by
  have HC := Lib.hid (sum_err AP AX AY cp cx cy p x y (-1) w hp hx hy h)
  generalize chkAll p [x, y] = q at *
  clear hp hx hy
  go_enter Tryz.func40, Tryz.ntmps40
  go_wp2_with fail
  refine HC.out.mono ?_
  rintro e w1 ⟨rfl, hb1⟩
  go_wp2_with fail
  go_ret2
  exact ⟨rfl, hb1⟩

set_option maxHeartbeats 400000 in
theorem compare_err (AP AX AY : Option Addr) (cp cx cy : Nat) (p x y : List Int) (w : World) (hp : IsRow w w.heap.size (.slice AP p.length cp) p) (hx : IsRow w w.heap.size (.slice AX x.length cx) x) (hy : IsRow w w.heap.size (.slice AY y.length cy) y) (h : (chkAll p [x, y] != 0) = true) :
    Calls Tryz.prog 37 #[.slice AP p.length cp, .slice AX x.length cx, .slice AY y.length cy] w fun e w' => e = .returned (.tuple #[.int .i64 0, .int .i64 (chkAll p [x, y])]) ∧ Below w.heap.size w w' := by
  have HC := Lib.hid (checkTwo AP AX AY cp cx cy p x y w hp hx hy)
  generalize chkAll p [x, y] = q at *
  clear hp hx hy
  go_enter Tryz.func37, Tryz.ntmps37
  go_wp2_with fail
  refine HC.out.mono ?_
  rintro e w1 ⟨rfl, hb1⟩
  go_wp2_with fail
  go_ret2
  exact ⟨rfl, hb1⟩

set_option maxHeartbeats 400000 in
theorem power_err (AP AX : Option Addr) (cp cx : Nat) (p x : List Int) (k : Int) (w : World) (hp : IsRow w w.heap.size (.slice AP p.length cp) p) (hx : IsRow w w.heap.size (.slice AX x.length cx) x) (h : (chkAll p [x] != 0) = true) :
    Calls Tryz.prog 42 #[.slice AP p.length cp, .slice AX x.length cx, .int .i64 k] w fun e w' => e = .returned (.tuple #[.slice Option.none 0 0, .int .i64 (chkAll p [x])]) ∧ Below w.heap.size w w' := by
  have HC := Lib.hid (check_any _ _ p x w hp hx)
  generalize chkAll p [x] = q at *
  clear hp hx
  go_enter Tryz.func42, Tryz.ntmps42
  go_wp2_with fail
  refine HC.out.mono ?_
  rintro e w1 ⟨rfl, hb1⟩
  go_wp2_with fail
  go_ret2
  exact ⟨rfl, hb1⟩

set_option maxHeartbeats 400000 in
theorem neg_err (AP AX : Option Addr) (cp cx : Nat) (p x : List Int) (w : World) (hp : IsRow w w.heap.size (.slice AP p.length cp) p) (hx : IsRow w w.heap.size (.slice AX x.length cx) x) (h : (chkAll p [x] != 0) = true) :
    Calls Tryz.prog 41 #[.slice AP p.length cp, .slice AX x.length cx] w fun e w' => e = .returned (.tuple #[.slice Option.none 0 0, .int .i64 (chkAll p [x])]) ∧ Below w.heap.size w w' := by
  have HC := Lib.hid (power_err AP AX cp cx p x (-1) w hp hx h)
  generalize chkAll p [x] = q at *
  clear hp hx
  go_enter Tryz.func41, Tryz.ntmps41
  go_wp2_with fail
  refine HC.out.mono ?_
  rintro e w1 ⟨rfl, hb1⟩
  go_wp2_with fail
  go_ret2
  exact ⟨rfl, hb1⟩

set_option maxHeartbeats 400000 in
theorem sign_err (AP AX : Option Addr) (cp cx : Nat) (p x : List Int) (w : World) (hp : IsRow w w.heap.size (.slice AP p.length cp) p) (hx : IsRow w w.heap.size (.slice AX x.length cx) x) (h : (chkAll p [x] != 0) = true) :
    Calls Tryz.prog 36 #[.slice AP p.length cp, .slice AX x.length cx] w fun e w' => e = .returned (.tuple #[.int .i64 0, .int .i64 (chkAll p [x])]) ∧ Below w.heap.size w w' := by
  have HC := Lib.hid (check_any _ _ p x w hp hx)
  generalize chkAll p [x] = q at *
  clear hp hx
  go_enter Tryz.func36, Tryz.ntmps36
  go_wp2_with fail
  refine HC.out.mono ?_
  rintro e w1 ⟨rfl, hb1⟩
  go_wp2_with fail
  go_ret2
  exact ⟨rfl, hb1⟩

set_option maxHeartbeats 400000 in
theorem superp_err (AP AX : Option Addr) (cp cx : Nat) (p x : List Int) (w : World) (hp : IsRow w w.heap.size (.slice AP p.length cp) p) (hx : IsRow w w.heap.size (.slice AX x.length cx) x) (h : (chkAll p [x] != 0) = true) :
    Calls Tryz.prog 46 #[.slice AP p.length cp, .slice AX x.length cx] w fun e w' => e = .returned (.tuple #[.bool false, .int .i64 (chkAll p [x])]) ∧ Below w.heap.size w w' := by
  have HC := Lib.hid (check_any _ _ p x w hp hx)
  generalize chkAll p [x] = q at *
  clear hp hx
  go_enter Tryz.func46, Tryz.ntmps46
  go_wp2_with fail
  refine HC.out.mono ?_
  rintro e w1 ⟨rfl, hb1⟩
  go_wp2_with fail
  go_ret2
  exact ⟨rfl, hb1⟩

set_option maxHeartbeats 400000 in
theorem greater_err (AP AX : Option Addr) (cp cx : Nat) (p x : List Int) (w : World) (hp : IsRow w w.heap.size (.slice AP p.length cp) p) (hx : IsRow w w.heap.size (.slice AX x.length cx) x) (h : (chkAll p [x] != 0) = true) :
    Calls Tryz.prog 34 #[.slice AP p.length cp, .slice AX x.length cx] w fun e w' => e = .returned (.tuple #[.string ⟨#[]⟩, .int .i64 (chkAll p [x])]) ∧ Below w.heap.size w w' := by
  have HC := Lib.hid (height_err _ _ (.func (.func 71) #[] #[]) p x w hp hx h)
  generalize chkAll p [x] = q at *
  clear hp hx
  go_enter Tryz.func34, Tryz.ntmps34
  go_wp2_with fail
  refine HC.out.mono ?_
  rintro e w1 ⟨rfl, hb1⟩
  go_wp2_with fail
  go_ret2
  exact ⟨rfl, hb1⟩

set_option maxHeartbeats 400000 in
theorem odd_err (AP AX : Option Addr) (cp cx : Nat) (p x : List Int) (w : World) (hp : IsRow w w.heap.size (.slice AP p.length cp) p) (hx : IsRow w w.heap.size (.slice AX x.length cx) x) (h : (chkAll p [x] != 0) = true) :
    Calls Tryz.prog 45 #[.slice AP p.length cp, .slice AX x.length cx] w fun e w' => e = .returned (.tuple #[.string ⟨#[]⟩, .int .i64 (chkAll p [x])]) ∧ Below w.heap.size w w' := by
  have HC := Lib.hid (height_err _ _ (.func (.func 79) #[] #[]) p x w hp hx h)
  generalize chkAll p [x] = q at *
  clear hp hx
  go_enter Tryz.func45, Tryz.ntmps45
  go_wp2_with fail
  refine HC.out.mono ?_
  rintro e w1 ⟨rfl, hb1⟩
  go_wp2_with fail
  go_ret2
  exact ⟨rfl, hb1⟩

end Go.Proofs.YtkoemgemnklmdaaGreatDoor
