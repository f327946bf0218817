/- Same, Brackets; known. known. schismalaw12.Interval, Make. -/
import Derived.Test.YtaaeekahhhookaaGreatDoorFSgMTk
import Derived.Deep.RegionHeld3
import Derived.Deep.AppendLies
namespace Go.Proofs.YtaaeekahhhookaaGreatDoor
open Go.RowKit Go.Lib

/-- Whether two rows are equal, as Same says it. -/
def sameB (x y : List Int) : Bool := decide (x = y)

theorem same_upto {x y : List Int} {k : Nat} (hl : x.length = y.length) (h : x.take k = y.take k) (hk : k < x.length) (he : x[k]?.getD 0 = y[k]?.getD 0) : x.take (k + 1) = y.take (k + 1) := by
 rw [List.take_succ_eq_append_getElem hk, List.take_succ_eq_append_getElem (by omega), h]
 rw [List.getElem?_eq_getElem hk, List.getElem?_eq_getElem (by omega)] at he
 simp at he
 rw [he]

set_option maxHeartbeats 1000000 in
theorem same_any (xv yv : Value) (x y : List Int) (w : World) (hx : IsRow w w.heap.size xv x) (hy : IsRow w w.heap.size yv y) :
 Calls Tryz.prog 34 #[xv, yv] w fun e w' => e = .returned (.bool (sameB x y)) ∧ Below w.heap.size w w' := by
 have HS : Hid (sameB x y = decide (x = y)) := rfl
 obtain ⟨AX, cx, rfl, hxc, hxm, hxr⟩ := hx
 obtain ⟨AY, cy, rfl, hyc, hym, hyr⟩ := hy
 unfold maxLen at hxm hym
 by_cases hl : x.length = y.length
 ·have hne : ((x.length : Int) != (y.length : Int)) = false := by simp [hl]
  have HL := Lib.hid hl
  have hxl : x.length ≤ 9223372036854775807 := by omega
  clear hl hxc hyc hxm hym
  go_enter Tryz.func34, Tryz.ntmps34
  go_wp2
  go_loopw [5] (fun i wr => ∃ k : Nat, k ≤ x.length ∧ i = .int .i64 k ∧ Box (x.take k = y.take k) ∧ Below w.heap.size w wr) (fun i _ => x.length - (intOf i).toNat)
  case atStart => exact ⟨0, Nat.zero_le _, rfl, ⟨by simp⟩, Below.refl _ _⟩
  case round =>
   obtain ⟨k, hk, rfl, HT, hbw⟩ := hrel
   by_cases hlt : k < x.length
   ·obtain ⟨ad1, rfl, _, hc1⟩ := (hxr.below hbw (Nat.le_refl _)).i_at hlt
    have hly : k < y.length := by rw [← HL.out]; exact hlt
    obtain ⟨ad2, rfl, _, hc2⟩ := (hyr.below hbw (Nat.le_refl _)).i_at hly
    have hup := fun he => same_upto HL.out HT.out hlt he
    have hdn : x[k]?.getD 0 ≠ y[k]?.getD 0 → x ≠ y := fun h e => h (by rw [e])
    generalize x[k]?.getD 0 = a at *
    generalize y[k]?.getD 0 = b at *
    have HU := Lib.hid hup
    have HDN := Lib.hid hdn
    clear hup hdn
    have hk1 : (0 : Int) ≤ (k : Int) := by omega
    have hk2 : (k : Int) < (x.length : Int) := by omega
    have hk3 : (k : Int) < (y.length : Int) := by omega
    by_cases hab : a = b
    ·have hab' : (a != b) = false := by simp [hab]
     have HAB : Box (a = b) := ⟨hab⟩
     clear hab
     go_wp2
     go_quiet (fail)
     go_wp2
     go_roundw
     case rel => exact ⟨k + 1, by omega, by go_num, ⟨HU.out HAB.out⟩, below_drewN hbw _⟩
     case measure => simp [intOf]; omega
    ·have hab' : (a != b) = true := by simp [hab]
     have HE : Box (sameB x y = false) := ⟨by rw [HS.out, decide_eq_false (HDN.out hab)]⟩
     go_wp2
     go_quiet (fail)
     go_wp2
     go_ret
     exact ⟨ret1 (congrArg Value.bool HE.out.symm), below_drewN hbw _⟩
   ·obtain rfl : k = x.length := by omega
    have HE : Box (sameB x y = true) := ⟨by
     have h := HT.out
     rw [List.take_of_length_le (Nat.le_refl _), List.take_of_length_le (by rw [HL.out]; exact Nat.le_refl _)] at h
     rw [HS.out, decide_eq_true h]⟩
    go_wp2
    go_ret
    exact ⟨ret1 (congrArg Value.bool HE.out.symm), hbw⟩
 ·have hne : ((x.length : Int) != (y.length : Int)) = true := by rw [bne_iff_ne]; omega
  have HE : Box (sameB x y = false) := ⟨by rw [HS.out, decide_eq_false (fun e => hl (by rw [e]))]⟩
  go_enter Tryz.func34, Tryz.ntmps34
  go_wp2
  go_ret
  exact ⟨ret1 (congrArg Value.bool HE.out.symm), Below.refl _ _⟩

/-! ### Brackets -/

theorem itoa_short (z : Int) (h : -1000000000 ≤ z ∧ z ≤ 1000000000) : (itoa z).length ≤ 11 := by
 have h1 := itoa_len z
 rw [dec_length] at h1
 have := nDigits_le (u := z.natAbs) (k := 10) (by omega) (by omega)
 omega

theorem inter_len (sep : List UInt8) : ∀ (l : List (List UInt8)) (m : Nat), (∀ s ∈ l, s.length ≤ m) → (sep.intercalate l).length ≤ l.length * (m + sep.length)
 | [], m, _ => by simp [List.intercalate]
 | [a], m, h => by
   have := h a (by simp)
   simp [List.intercalate]
   omega
 | a :: b :: l, m, h => by
   have h1 := h a (by simp)
   have h2 := inter_len sep (b :: l) m (fun s hs => h s (by simp [hs]))
   have e : sep.intercalate (a :: b :: l) = a ++ (sep ++ sep.intercalate (b :: l)) := by simp [List.intercalate, List.intersperse]
   rw [e]
   simp only [List.length_append, List.length_cons] at *
   rw [Nat.add_mul (l.length + 1) 1]
   omega

theorem rowTxt_len {x : List Int} (h64 : x.length ≤ 64) (h : ∀ k, k < x.length → -1000000000 ≤ x[k]?.getD 0 ∧ x[k]?.getD 0 ≤ 1000000000) : (rowTxt x).length ≤ 1000 := by
 have h1 := inter_len [32] (words x) 11 (fun s hs => by
  obtain ⟨z, hz, rfl⟩ := List.mem_map.1 hs
  obtain ⟨k, hk, rfl⟩ := List.getElem_of_mem hz
  have := h k hk
  rw [List.getElem?_eq_getElem hk] at this
  exact itoa_short _ (by simpa using this))
 have h2 : (words x).length = x.length := by simp [words]
 rw [h2] at h1
 have h3 : x.length * (11 + [(32 : UInt8)].length) ≤ 64 * 12 := Nat.mul_le_mul h64 (by simp)
 unfold rowTxt Lib.join
 omega

end Go.Proofs.YtaaeekahhhookaaGreatDoor

namespace Go.Proofs.YtaaeekahhhookaaGreatDoor
open Go.RowKit Go.Lib

theorem d4 : decDigits 4 = [52] := by rw [dec_small (by omega)]; rfl
theorem d1 : decDigits 1 = [49] := by rw [dec_small (by omega)]; rfl
theorem kp : primeErr [2, 3, 5] = 0 := by decide
end Go.Proofs.YtaaeekahhhookaaGreatDoor

namespace Go.Proofs.YtaaeekahhhookaaGreatDoor
open Go.RowKit Go.Lib

/-! ### Interval -/

/-- The exponents of a plan: a list of four int8. -/
structure Four (l : List Int) : Prop where
 len : l.length = 4
 le : ∀ j, j < 4 → -128 ≤ l[j]?.getD 0 ∧ l[j]?.getD 0 ≤ 127

end Go.Proofs.YtaaeekahhhookaaGreatDoor
