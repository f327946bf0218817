/- schismalaw12.check, few; plain facts on the errors of lists. -/
import Derived.Test.YtkoemgemnklmdaaGreatDoorKnown2
namespace Go.Proofs.YtkoemgemnklmdaaGreatDoor
open Go.RowKit Go.Lib

theorem chk_one (p x : List Int) : chkAll p [x] = if primeErr p ≠ 0 then primeErr p else rowErr p.length x := by
  unfold chkAll
  by_cases h : primeErr p = 0
  · rw [if_neg (by simpa using h), if_neg (by simpa using h)]
    simp only [rowsErr]
    by_cases h2 : rowErr p.length x = 0
    · rw [if_neg (by simpa using h2), h2]
    · rw [if_pos h2]
  · rw [if_pos h, if_pos h]
theorem chk_pair_err {p x y : List Int} (h : chkAll p [x] ≠ 0) : chkAll p [x, y] = chkAll p [x] := by
  unfold chkAll at *
  by_cases hp : primeErr p = 0
  · rw [if_neg (by simpa using hp)] at h ⊢
    rw [if_neg (by simpa using hp)]
    simp only [rowsErr] at *
    by_cases h1 : rowErr p.length x = 0
    · rw [if_neg (by simpa using h1)] at h
      exact absurd rfl h
    · rw [if_pos h1, if_pos h1]
  · rw [if_pos hp, if_pos hp]
theorem chk_pair_ok {p x y : List Int} (h : chkAll p [x] = 0) : chkAll p [x, y] = chkAll p [y] := by
  unfold chkAll at *
  by_cases hp : primeErr p = 0
  · rw [if_neg (by simpa using hp)] at h ⊢
    rw [if_neg (by simpa using hp)]
    simp only [rowsErr] at *
    by_cases h1 : rowErr p.length x = 0
    · rw [if_neg (by simpa using h1)]
    · rw [if_pos h1] at h
      exact absurd h h1
  · rw [if_pos hp, if_pos hp]
theorem chk_none (p : List Int) : chkAll p [] = primeErr p := by
  unfold chkAll
  by_cases hp : primeErr p = 0
  · rw [if_neg (by simpa using hp), hp]; rfl
  · rw [if_pos hp]

set_option maxHeartbeats 1000000 in
theorem lawCheck_any (pv xv : Value) (p x : List Int) (w : World) (hp : IsRow w w.heap.size pv p) (hx : IsRow w w.heap.size xv x) :
    Calls Tryz.prog 16 #[pv, xv] w fun e w' => e = .returned (.int .i64 (chkAll p [x])) ∧ w = w' := by
  have HPC := Lib.hid (primeCheck_any pv p _ w hp)
  have HC := Lib.hid (chk_one p x)
  obtain ⟨AP, cp, rfl, _, hpm, _⟩ := hp
  obtain ⟨AX, cx, rfl, hxc, hxm, hxr⟩ := hx
  unfold maxLen at hpm hxm
  have hxl : x.length ≤ 9223372036854775807 := by omega
  by_cases hpe : primeErr p = 0
  · have HC2 : Box (chkAll p [x] = rowErr p.length x) := ⟨by rw [HC.out, if_neg (by simpa using hpe)]⟩
    rw [hpe] at HPC
    have HR : Hid (rowErr p.length x = if x.length ≠ p.length then 5 else if x.any farB = true then 4 else 0) := rfl
    clear hpe hxc hxm hpm
    by_cases hxn : x.length = p.length
    · have hne : ((x.length : Int) != (p.length : Int)) = false := by simp [hxn]
      have HXN := Lib.hid hxn
      clear hxn
      go_enter Tryz.func16, Tryz.ntmps16
      go_wp2_with (go_at_call 21; refine HPC.out.mono ?_; rintro e w1 ⟨rfl, rfl⟩)
      go_loop [6] (fun i => ∃ j : Nat, j ≤ x.length ∧ i = .int .i64 j ∧ Box ((x.take j).any farB = false)) (fun i => x.length - (intOf i).toNat)
      case atStart => exact ⟨0, Nat.zero_le _, rfl, ⟨rfl⟩⟩
      case round =>
        obtain ⟨j, hj, rfl, HF⟩ := hrel
        by_cases hjl : j < x.length
        · obtain ⟨ad2, rfl, _, hcb⟩ := hxr.i_at hjl
          have hs : (x.take (j + 1)).any farB = ((x.take j).any farB || farB (x[j]?.getD 0)) := by
            rw [List.take_succ_eq_append_getElem hjl, List.any_append, List.getElem?_eq_getElem hjl]; simp
          have hf : farB (x[j]?.getD 0) = true → x.any farB = true := by
            intro h
            rw [List.any_eq_true]
            exact ⟨x[j], List.getElem_mem hjl, by rw [List.getElem?_eq_getElem hjl] at h; simpa using h⟩
          have hfb : farB (x[j]?.getD 0) = (decide (1000 < x[j]?.getD 0) || decide (x[j]?.getD 0 < -1000)) := rfl
          generalize x[j]?.getD 0 = y at *
          have HS := Lib.hid hs
          have HF2 := Lib.hid hf
          have HFB := Lib.hid hfb
          clear hs hf hfb
          by_cases hy1 : 1000 < y
          · have HE : Box (chkAll p [x] = 4) := ⟨by rw [HC2.out, HR.out, if_neg (by simp [HXN.out]), if_pos (HF2.out (by rw [HFB.out]; simp [hy1]))]⟩
            go_wp2
            go_ret
            exact ⟨ret_int HE.out.symm, rfl⟩
          · by_cases hy2 : y < -1000
            · have HE : Box (chkAll p [x] = 4) := ⟨by rw [HC2.out, HR.out, if_neg (by simp [HXN.out]), if_pos (HF2.out (by rw [HFB.out]; simp [hy2]))]⟩
              go_wp2
              go_ret
              exact ⟨ret_int HE.out.symm, rfl⟩
            · go_wp2
              go_round
              case rel => exact ⟨j + 1, by omega, by go_num, ⟨by rw [HS.out, HF.out, HFB.out]; simp [hy1, hy2]⟩⟩
              case measure => simp [intOf]; omega
        · obtain rfl : j = x.length := by omega
          have HE : Box (chkAll p [x] = 0) := ⟨by
            have h := HF.out
            rw [List.take_of_length_le (Nat.le_refl _)] at h
            rw [HC2.out, HR.out, if_neg (by simp [HXN.out]), if_neg (by simp [h])]⟩
          go_wp2
          go_ret
          exact ⟨ret_int HE.out.symm, rfl⟩
    · have hne : ((x.length : Int) != (p.length : Int)) = true := by rw [bne_iff_ne]; omega
      have HE : Box (chkAll p [x] = 5) := ⟨by rw [HC2.out, HR.out, if_pos hxn]⟩
      go_enter Tryz.func16, Tryz.ntmps16
      go_wp2_with (go_at_call 21; refine HPC.out.mono ?_; rintro e w1 ⟨rfl, rfl⟩)
      go_ret
      exact ⟨ret_int HE.out.symm, rfl⟩
  · have HC2 : Box (chkAll p [x] = primeErr p) := ⟨by rw [HC.out, if_pos hpe]⟩
    have hpb : (primeErr p != 0) = true := by rw [bne_iff_ne]; exact hpe
    have hpb2 : (primeErr p == 0) = false := by simpa using hpe
    generalize primeErr p = q at *
    go_enter Tryz.func16, Tryz.ntmps16
    go_wp2_with (go_at_call 21; refine HPC.out.mono ?_; rintro e w1 ⟨rfl, rfl⟩)
    go_ret
    exact ⟨ret_int HC2.out.symm, rfl⟩

def fewB (p x : List Int) : Bool := decide (p.length ≤ 8) && decide (x.length ≤ 8)
set_option maxHeartbeats 400000 in
theorem few_any (pv xv : Value) (p x : List Int) (w : World) (hp : IsRow w w.heap.size pv p) (hx : IsRow w w.heap.size xv x) :
    Calls Tryz.prog 15 #[pv, xv] w fun e w' => e = .returned (.bool (fewB p x)) ∧ w = w' := by
  have HF : Hid (fewB p x = (decide (p.length ≤ 8) && decide (x.length ≤ 8))) := rfl
  obtain ⟨AP, cp, rfl, _, hpm, _⟩ := hp
  obtain ⟨AX, cx, rfl, _, hxm, _⟩ := hx
  unfold maxLen at hpm hxm
  by_cases h1 : p.length ≤ 8
  · by_cases h2 : x.length ≤ 8
    · have HE : Box (fewB p x = true) := ⟨by rw [HF.out, decide_eq_true h1, decide_eq_true h2]; rfl⟩
      go_enter Tryz.func15, Tryz.ntmps15
      go_wp2
      go_ret
      exact ⟨ret1 (congrArg Value.bool ((decide_eq_true (by omega)).trans HE.out.symm)), rfl⟩
    · have HE : Box (fewB p x = false) := ⟨by rw [HF.out, decide_eq_false h2, Bool.and_false]⟩
      go_enter Tryz.func15, Tryz.ntmps15
      go_wp2
      go_ret
      exact ⟨ret1 (congrArg Value.bool ((decide_eq_false (by omega)).trans HE.out.symm)), rfl⟩
  · have HE : Box (fewB p x = false) := ⟨by rw [HF.out, decide_eq_false h1, Bool.false_and]⟩
    go_enter Tryz.func15, Tryz.ntmps15
    go_wp2
    go_ret
    exact ⟨ret1 (congrArg Value.bool HE.out.symm), rfl⟩

end Go.Proofs.YtkoemgemnklmdaaGreatDoor
