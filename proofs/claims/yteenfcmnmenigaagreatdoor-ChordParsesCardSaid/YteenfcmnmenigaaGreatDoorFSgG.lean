/- fraction.Sign. -/
import Derived.Test.YteenfcmnmenigaaGreatDoorGC
namespace Go.Proofs.YteenfcmnmenigaaGreatDoor
open Go.RowKit Go.Lib

set_option maxHeartbeats 400000 in
theorem fracSign_any (n : Int) (b : List UInt8) (w : World) (h : (itoa n).length ≤ 100000) :
    Calls Tryz.prog 80 #[.agg #[.string ⟨(itoa n).toArray⟩, .string ⟨b.toArray⟩]] w fun e w' => e = .returned (.int .i64 (sgn n)) ∧ Below w.heap.size w w' := by
  have HS := Lib.hid (fun W => whSign_any n W h)
  generalize itoa n = l at *
  go_enter Tryz.func80, Tryz.ntmps80
  go_wp2_with (go_at_call 112; refine (HS.out _).mono ?_; rintro e w1 ⟨rfl, hw⟩; have hb1 : Below w.heap.size w w1 := (by rw [← hw]; exact (Below.refl _ _).alloc (Nat.le_refl _) _); clear hw)
  go_ret
  exact ⟨rfl, hb1⟩

end Go.Proofs.YteenfcmnmenigaaGreatDoor
