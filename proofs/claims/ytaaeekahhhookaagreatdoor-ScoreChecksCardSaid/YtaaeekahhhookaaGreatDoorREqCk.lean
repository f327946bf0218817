import Derived.Test.YtaaeekahhhookaaGreatDoorGGMCk
namespace Go.Proofs.YtaaeekahhhookaaGreatDoor
open Go.RowKit Go.Lib
set_option maxHeartbeats 1000000 in
theorem slEq_any (xv yv : Value) (x y : List Int) (w : World) (hx : IsRow w w.heap.size xv x) (hy : IsRow w w.heap.size yv y) :
  Calls Tryz.prog 97 #[xv, yv] w fun e w' => e = .returned (.bool (sameB x y)) ∧ Below w.heap.size w w' := by
 have HS : Hid (sameB x y = decide (x = y)) := rfl
 obtain ⟨AX, cx, rfl, hxc, hxm, hxr⟩ := hx
 obtain ⟨AY, cy, rfl, hyc, hym, hyr⟩ := hy
 unfold maxLen at hxm hym
 by_cases hl : x.length = y.length
 ·have hne : ((x.length : Int) != (y.length : Int)) = false := by simp [hl]
  have HL := Lib.hid hl
  have hxl : x.length ≤ 9223372036854775807 := by omega
  clear hl hxc hyc hxm hym
  go_enter Tryz.func97, Tryz.ntmps97
  go_wp2
  go_loopw [5, 13] (fun _ i wr => ∃ k : Nat, k ≤ x.length ∧ i = .int .i64 k ∧ Box (x.take k = y.take k) ∧ Below w.heap.size w wr) (fun _ i _ => x.length - (intOf i).toNat)
  case atStart => exact ⟨0, Nat.zero_le _, rfl, ⟨by simp⟩, Below.refl _ _⟩
  case round =>
   obtain ⟨k, hk, rfl, HT, hbw⟩ := hrel
   by_cases hlt : k < x.length
   ·obtain ⟨ad1, rfl, _, hc1⟩ := (hxr.below hbw (Nat.le_refl _)).i_at hlt
    have hly : k < y.length := by rw [← HL.out]; exact hlt
    obtain ⟨ad2, rfl, _, hc2⟩ := (hyr.below hbw (Nat.le_refl _)).i_at hly
    have hup := fun he => same_upto HL.out HT.out hlt he
    have hdn : x[k]?.getD 0 ≠ y[k]?.getD 0 → x ≠ y := fun h e => h (by rw [e])
    generalize x[k]?.getD 0 = a at *
    generalize y[k]?.getD 0 = b at *
    have HU := Lib.hid hup
    have HDN := Lib.hid hdn
    clear hup hdn
    have hk1 : (0 : Int) ≤ (k : Int) := by omega
    have hk2 : (k : Int) < (x.length : Int) := by omega
    have hk3 : (k : Int) < (y.length : Int) := by omega
    by_cases hab : a = b
    ·have hab' : (a != b) = false := by simp [hab]
     have HAB : Box (a = b) := ⟨hab⟩
     clear hab
     go_wp2
     go_quiet (fail)
     go_wp2
     go_roundw
     case rel => exact ⟨k + 1, by omega, by go_num, ⟨HU.out HAB.out⟩, below_drewN hbw _⟩
     case measure => simp [intOf]; omega
    ·have hab' : (a != b) = true := by simp [hab]
     have HE : Box (sameB x y = false) := ⟨by rw [HS.out, decide_eq_false (HDN.out hab)]⟩
     go_wp2
     go_quiet (fail)
     go_wp2
     go_ret
     exact ⟨ret1 (congrArg Value.bool HE.out.symm), below_drewN hbw _⟩
   ·obtain rfl : k = x.length := by omega
    have HE : Box (sameB x y = true) := ⟨by
     have h := HT.out
     rw [List.take_of_length_le (Nat.le_refl _), List.take_of_length_le (by rw [HL.out]; exact Nat.le_refl _)] at h
     rw [HS.out, decide_eq_true h]⟩
    go_wp2
    go_ret
    exact ⟨ret1 (congrArg Value.bool HE.out.symm), hbw⟩
 ·have hne : ((x.length : Int) != (y.length : Int)) = true := by rw [bne_iff_ne]; omega
  have HE : Box (sameB x y = false) := ⟨by rw [HS.out, decide_eq_false (fun e => hl (by rw [e]))]⟩
  go_enter Tryz.func97, Tryz.ntmps97
  go_wp2
  go_ret
  exact ⟨ret1 (congrArg Value.bool HE.out.symm), Below.refl _ _⟩
theorem rowEqual_any (xv yv : Value) (x y : List Int) (w : World) (hx : IsRow w w.heap.size xv x) (hy : IsRow w w.heap.size yv y) :
  Calls Tryz.prog 51 #[xv, yv] w fun e w' => e = .returned (.bool (sameB x y)) ∧ Below w.heap.size w w' := by
 have HE := Lib.hid (slEq_any xv yv x y w hx hy)
 generalize sameB x y = b at *
 obtain ⟨AX, cx, rfl, _⟩ := hx
 obtain ⟨AY, cy, rfl, _⟩ := hy
 go_enter Tryz.func51, Tryz.ntmps51
 go_wp2_with fail
 refine HE.out.mono ?_
 rintro e w1 ⟨rfl, hb1⟩
 go_wp2_with fail
 go_ret
 exact ⟨rfl, hb1⟩
end Go.Proofs.YtaaeekahhhookaaGreatDoor
