/- lexer: the methods of a nil stream; schismalaw47.empty of a token that is zero. lexer: methods of a nil stream. lexer: methods of a nil stream. -/
import Derived.Test.YtjgpjhaeoiddbaaGreatDoorGN
import Derived.Test.YtjgpjhaeoiddbaaGreatDoorGL
namespace Go.Proofs.YtjgpjhaeoiddbaaGreatDoor
open Go.RowKit Go.Lib

/-- The token without anything. -/
def tokZ : Tok := ⟨0, [], [], [], [], 0, 0⟩
def tokZA : Value := .agg #[.int .i64 0, .string ⟨#[]⟩, .string ⟨#[]⟩, .string ⟨#[]⟩, .slice Option.none 0 0, .int .i64 0, .int .i64 0]

theorem cells7 {w : World} {g : Nat} {T : TypeId} {a0 a1 a2 a3 a4 a5 a6 : Value} (h : Cells w g T [a0, a1, a2, a3, a4, a5, a6]) :
    (w.cell? ⟨g, 0, Option.none⟩ = some a0 ∧ w.cell? ⟨g, 1, Option.none⟩ = some a1 ∧ w.cell? ⟨g, 2, Option.none⟩ = some a2 ∧ w.cell? ⟨g, 3, Option.none⟩ = some a3 ∧ w.cell? ⟨g, 4, Option.none⟩ = some a4 ∧ w.cell? ⟨g, 5, Option.none⟩ = some a5 ∧ w.cell? ⟨g, 6, Option.none⟩ = some a6) ∧
    (w.frozen? ⟨g, 0, Option.none⟩ = false ∧ w.frozen? ⟨g, 1, Option.none⟩ = false ∧ w.frozen? ⟨g, 2, Option.none⟩ = false ∧ w.frozen? ⟨g, 3, Option.none⟩ = false ∧ w.frozen? ⟨g, 4, Option.none⟩ = false ∧ w.frozen? ⟨g, 5, Option.none⟩ = false ∧ w.frozen? ⟨g, 6, Option.none⟩ = false) :=
  ⟨⟨h.cell 0, h.cell 1, h.cell 2, h.cell 3, h.cell 4, h.cell 5, h.cell 6⟩, h.free 0, h.free 1, h.free 2, h.free 3, h.free 4, h.free 5, h.free 6⟩

set_option maxRecDepth 100000 in
set_option maxHeartbeats 1000000 in
theorem empty_zero (w : World) :
    Calls Tryz.prog 16 #[tokZA] w fun e w' => e = .returned (.bool true) ∧ Below w.heap.size w w' := by
  unfold tokZA
  have HE := Lib.hid (fun W => lawEqual_any tokZ tokZ (.slice Option.none 0 0) (.slice Option.none 0 0) W ⟨Option.none, 0, rfl, Nat.le_refl _, Nat.zero_le _, Row.nil _ _ _ _⟩ ⟨Option.none, 0, rfl, Nat.le_refl _, Nat.zero_le _, Row.nil _ _ _ _⟩)
  rw [show tokEq tokZ tokZ = true by decide] at HE
  go_enter Tryz.func16, Tryz.ntmps16
  go_wp2_with fail
  refine (HE.out _).mono ?_
  rintro e w1 ⟨rfl, hb1⟩
  rw [World.size_alloc] at hb1
  obtain ⟨⟨p0, p1, p2, p3, p4, p5, p6⟩, _⟩ := cells7 (cells_of_below hb1)
  have hbw := below_result hb1
  clear hb1
  go_wp2_with fail
  go_ret
  exact ⟨rfl, hbw⟩

set_option maxRecDepth 100000 in
set_option maxHeartbeats 1000000 in
theorem peek_nil (w : World) :
    Calls Tryz.prog 18 #[.pointer Option.none] w fun e w' => e = .returned (.tuple #[tokZA, .bool false]) ∧ Below w.heap.size w w' := by
  unfold tokZA
  go_enter Tryz.func18, Tryz.ntmps18
  go_wp2_with fail
  go_quiet (fail)
  go_wp2_with fail
  refine bodyPost_ret (v := .tuple #[.agg #[.int .i64 0, .string ⟨#[]⟩, .string ⟨#[]⟩, .string ⟨#[]⟩, .slice Option.none 0 0, .int .i64 0, .int .i64 0], .bool false]) (by simp [results, Tryz.results18, go_sem]) rfl ⟨rfl, ?_⟩
  exact below7 (below_drewN ((Below.refl _ _).alloc (Nat.le_refl _) _) _) _ _ _ _ _ _ _

end Go.Proofs.YtjgpjhaeoiddbaaGreatDoor

namespace Go.Proofs.YtjgpjhaeoiddbaaGreatDoor
open Go.RowKit Go.Lib

set_option maxRecDepth 100000 in
set_option maxHeartbeats 1000000 in
theorem next_nil (w : World) :
    Calls Tryz.prog 15 #[.pointer Option.none] w fun e w' => e = .returned (.tuple #[tokZA, .bool false]) ∧ Below w.heap.size w w' := by
  have HP := Lib.hid (fun W => peek_nil W)
  unfold tokZA at HP ⊢
  go_enter Tryz.func15, Tryz.ntmps15
  go_wp2_with fail
  refine (HP.out _).mono ?_
  rintro e w1 ⟨rfl, hb1⟩
  rw [World.size_alloc] at hb1
  have C1 := (cells_of_below hb1).alloc (.cells #[.int .i64 0, .string ⟨#[]⟩, .string ⟨#[]⟩, .string ⟨#[]⟩, .slice Option.none 0 0, .int .i64 0, .int .i64 0] 38)
  have C2 := Cells.new w1 38 #[.int .i64 0, .string ⟨#[]⟩, .string ⟨#[]⟩, .string ⟨#[]⟩, .slice Option.none 0 0, .int .i64 0, .int .i64 0]
  have hbw := (below_result hb1).alloc (below_result hb1).size (.cells #[.int .i64 0, .string ⟨#[]⟩, .string ⟨#[]⟩, .string ⟨#[]⟩, .slice Option.none 0 0, .int .i64 0, .int .i64 0] 38)
  clear hb1
  go_upto_region 2 with (fail)
  obtain ⟨W1, hW1⟩ : ∃ W1, W1 = w1.alloc (.cells #[.int .i64 0, .string ⟨#[]⟩, .string ⟨#[]⟩, .string ⟨#[]⟩, .slice Option.none 0 0, .int .i64 0, .int .i64 0] 38) := ⟨_, rfl⟩
  rw [← hW1] at C1 C2 hbw ⊢
  clear hW1
  obtain ⟨⟨p0, p1, p2, p3, p4, p5, p6⟩, q0, q1, q2, q3, q4, q5, q6⟩ := cells7 C1
  obtain ⟨⟨r0, r1, r2, r3, r4, r5, r6⟩, _⟩ := cells7 C2
  clear C1 C2
  go_wp2_with fail
  refine bodyPost_ret (v := .tuple #[.agg #[.int .i64 0, .string ⟨#[]⟩, .string ⟨#[]⟩, .string ⟨#[]⟩, .slice Option.none 0 0, .int .i64 0, .int .i64 0], .bool false]) (by simp (maxDischargeDepth := 10) [results, Tryz.results15, go_sem, p0, p1, p2, p3, p4, p5, p6]) rfl ⟨rfl, ?_⟩
  exact below7 hbw _ _ _ _ _ _ _

end Go.Proofs.YtjgpjhaeoiddbaaGreatDoor

namespace Go.Proofs.YtjgpjhaeoiddbaaGreatDoor
open Go.RowKit Go.Lib

set_option maxRecDepth 100000 in
set_option maxHeartbeats 1000000 in
theorem accept_nil (s : List UInt8) (w : World) :
    Calls Tryz.prog 20 #[.pointer Option.none, .string ⟨s.toArray⟩] w fun e w' => e = .returned (.bool false) ∧ Below w.heap.size w w' := by
  have HP := Lib.hid (fun W => peek_nil W)
  unfold tokZA at HP
  go_enter Tryz.func20, Tryz.ntmps20
  go_wp2_with fail
  refine (HP.out _).mono ?_
  rintro e w1 ⟨rfl, hbw⟩
  go_wp2_with fail
  go_ret
  exact ⟨rfl, hbw.alloc hbw.size _⟩

set_option maxRecDepth 100000 in
set_option maxHeartbeats 1000000 in
theorem skip_nil (w : World) :
    Calls Tryz.prog 23 #[.pointer Option.none] w fun e w' => e = .returned (.int .i64 0) ∧ Below w.heap.size w w' := by
  have HP := Lib.hid (fun W => next_nil W)
  unfold tokZA at HP
  go_enter Tryz.func23, Tryz.ntmps23
  go_wp2_with fail
  refine (HP.out _).mono ?_
  rintro e w1 ⟨rfl, hbw⟩
  go_wp2_with fail
  go_loopw [3, 5] (fun n is wr => n = .int .i64 0 ∧ is = .bool false ∧ Below w.heap.size w wr) (fun _ _ _ => 0)
  case atStart => exact ⟨rfl, rfl, hbw.alloc hbw.size _⟩
  case round =>
    obtain ⟨rfl, rfl, hb⟩ := hrel
    go_wp2_with fail
    go_ret
    exact ⟨rfl, hb⟩

set_option maxRecDepth 100000 in
theorem at_nil (w : World) :
    Calls Tryz.prog 24 #[.pointer Option.none] w fun e w' => e = .returned (.agg #[.int .i64 0, .int .i64 0]) ∧ Below w.heap.size w w' := by
  go_enter Tryz.func24, Tryz.ntmps24
  go_wp2_with fail
  refine bodyPost_ret (v := .agg #[.int .i64 0, .int .i64 0]) (by simp [results, Tryz.results24, go_sem]) rfl ⟨rfl, ?_⟩
  exact (Below.refl _ _).alloc (Nat.le_refl _) _

theorem mark_nil (w : World) :
    Calls Tryz.prog 25 #[.pointer Option.none] w fun e w' => e = .returned (.int .i64 0) ∧ w = w' := by
  go_enter Tryz.func25, Tryz.ntmps25
  go_wp2_with fail
  go_ret
  exact ⟨rfl, rfl⟩

theorem back_nil (n : Int) (w : World) :
    Calls Tryz.prog 26 #[.pointer Option.none, .int .i64 n] w fun e w' => e = .returned (.bool false) ∧ w = w' := by
  go_enter Tryz.func26, Tryz.ntmps26
  go_wp2_with fail
  go_ret
  exact ⟨rfl, rfl⟩

end Go.Proofs.YtjgpjhaeoiddbaaGreatDoor
