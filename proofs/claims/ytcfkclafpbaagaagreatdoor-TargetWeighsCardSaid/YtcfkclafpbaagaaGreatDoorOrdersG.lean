/- MonzoOrders: the walk. -/
import Derived.Test.YtcfkclafpbaagaaGreatDoorLawsG
import Derived.Test.YtcfkclafpbaagaaGreatDoorGI
namespace Go.Proofs.YtcfkclafpbaagaaGreatDoor
open Go.RowKit Go.Lib

set_option maxHeartbeats 400000 in
theorem sign_ok (pv xv : Value) (p x : List Int) (w : World) (hS : Std w) (hp : IsRow w w.heap.size pv p) (hx : IsRow w w.heap.size xv x) (h : chkAll p [x] = 0) :
    Calls Tryz.prog 55 #[pv, xv] w fun e w' => e = .returned (.tuple #[.int .i64 (cmpN (num p x) (den p x)), .int .i64 0]) ∧ Below w.heap.size w w' := by
  have HC := Lib.hid (check_any _ _ p x w hp hx)
  rw [h] at HC
  have hr := right_of h
  have HSD := Lib.hid (fun W hW hp hx => sides_any pv xv p x W hW hp hx hr)
  obtain ⟨hl1, hl2⟩ := num_len hr
  have HCM := Lib.hid (fun W => compare_any (num p x) (den p x) W (by omega) (by omega))
  have HS := Lib.hid hS
  have HP := Lib.hid hp
  have HX := Lib.hid hx
  obtain ⟨AP, cp, rfl⟩ := hp.shape
  obtain ⟨AX, cx, rfl⟩ := hx.shape
  clear hS hp hx h hr hl1 hl2
  go_enter Tryz.func55, Tryz.ntmps55
  go_wp2_with fail
  refine HC.out.mono ?_
  rintro e w1 ⟨rfl, hb1⟩
  go_wp2_with fail
  refine (HSD.out _ (HS.out.below hb1 (Nat.le_refl _)) (HP.out.lift hb1) (HX.out.lift hb1)).mono ?_
  rintro e w2 ⟨rfl, hb2⟩
  go_wp2_with fail
  refine (HCM.out _).mono ?_
  rintro e wk1 ⟨rfl, rfl⟩
  go_wp2_with fail
  go_ret2
  exact ⟨rfl, hb1.trans (hb2.mono hb1.size)⟩

end Go.Proofs.YtcfkclafpbaagaaGreatDoor
