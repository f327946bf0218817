/- schismaref04.Gcd. -/
import Derived.Test.YtkoemgemnklmdaaGreatDoorGC
namespace Go.Proofs.YtkoemgemnklmdaaGreatDoor
open Go.RowKit Go.Lib

set_option maxHeartbeats 400000 in
theorem refGcd_any (a b : Int) (w : World) (ha : a.natAbs ≤ 1000000000000000000) (hb : b.natAbs ≤ 1000000000000000000) :
    Calls Tryz.prog 62 #[.int .i64 a, .int .i64 b] w fun e w' => e = .returned (.int .i64 (Nat.gcd a.natAbs b.natAbs : Nat)) ∧ Below w.heap.size w w' := by
  have HA : Box (a.natAbs ≤ 1000000000000000000) := ⟨ha⟩
  have HB : Box (b.natAbs ≤ 1000000000000000000) := ⟨hb⟩
  clear ha hb
  go_enter Tryz.func62, Tryz.ntmps62
  go_wp2
  go_loopw [0, 1] (fun i j wr => ∃ x y : Int, i = .int .i64 x ∧ j = .int .i64 y ∧ Box (x.natAbs ≤ 1000000000000000000 ∧ y.natAbs ≤ 1000000000000000000) ∧ Box (Nat.gcd x.natAbs y.natAbs = Nat.gcd a.natAbs b.natAbs) ∧ Below w.heap.size w wr) (fun _ j _ => (intOf j).natAbs)
  case atStart => exact ⟨a, b, rfl, rfl, ⟨HA.out, HB.out⟩, ⟨rfl⟩, Below.refl _ _⟩
  case round =>
    obtain ⟨x, y, rfl, rfl, HL, HG, hbw⟩ := hrel
    by_cases hy : y = 0
    · subst hy
      by_cases hx : x < 0
      · have hr : -9223372036854775808 ≤ 0 - x := by omega
        have hr2 : 0 - x ≤ 9223372036854775807 := by have := HL.out.1; omega
        go_wp2
        go_ret
        exact ⟨ret_int (by rw [← HG.out]; simp; omega), hbw⟩
      · go_wp2
        go_ret
        exact ⟨ret_int (by rw [← HG.out]; simp; omega), hbw⟩
    · have hy1 : (y != 0) = true := by simpa using hy
      have hy2 : (y == 0) = false := by simpa using hy
      have HH : Box ((x.tmod y).natAbs = x.natAbs % y.natAbs) := ⟨Int.natAbs_tmod x y⟩
      have HLT : Box (x.natAbs % y.natAbs < y.natAbs) := ⟨Nat.mod_lt _ (by omega)⟩
      go_wp2
      go_quiet (fail)
      go_wp2
      go_roundw
      case rel =>
        refine ⟨y, x.tmod y, rfl, ?_, ⟨HL.out.2, by have := HLT.out; have := HL.out.2; rw [HH.out]; omega⟩, ⟨?_⟩, below_drewN hbw _⟩
        · first | rfl | go_num
        · rw [← HG.out, HH.out, Nat.gcd_comm x.natAbs, Nat.gcd_rec y.natAbs x.natAbs, Nat.gcd_comm]
      case measure =>
        have h1 := HLT.out
        have h2 := HH.out
        simp [intOf]
        omega

end Go.Proofs.YtkoemgemnklmdaaGreatDoor
