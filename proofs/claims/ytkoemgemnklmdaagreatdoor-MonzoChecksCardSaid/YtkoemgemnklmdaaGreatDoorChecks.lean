/- MonzoChecks: the walk. -/
import Derived.Test.YtkoemgemnklmdaaGreatDoorLawChk
namespace Go.Proofs.YtkoemgemnklmdaaGreatDoor
open Go.RowKit Go.Lib

set_option maxRecDepth 100000 in
set_option maxHeartbeats 2000000 in
theorem checks_walk (pv xv yv : Value) (p x y : List Int) (w : World) (hS : Std w) (hp : IsRow w w.heap.size pv p) (hx : IsRow w w.heap.size xv x) (hy : IsRow w w.heap.size yv y) :
    Calls Tryz.prog 3 #[pv, xv, yv] w fun e w' => e = .returned (.bool true) ∧ Below w.heap.size w w' := by
  have HS := Lib.hid hS
  have HP := Lib.hid hp
  have HX := Lib.hid hx
  have HY := Lib.hid hy
  clear hS
  obtain ⟨AP, cp, rfl, _⟩ := hp
  obtain ⟨AX, cx, rfl, _⟩ := hx
  obtain ⟨AY, cy, rfl, _, hym, _⟩ := hy
  unfold maxLen at hym
  have hyl : y.length ≤ 9223372036854775807 := by omega
  clear hym
  by_cases hcase : fewB p x = true ∧ y.length ≤ 8
  · obtain ⟨hf, hy8⟩ := hcase
    have HFW := Lib.hid (fun W h1 h2 => few_any (.slice AP p.length cp) (.slice AX x.length cx) p x W h1 h2)
    rw [hf] at HFW
    clear hf
    go_enter Tryz.func3, Tryz.ntmps3
    go_wp2_with fail
    refine (known_any w HS.out).mono ?_
    rintro e w1 ⟨rfl, hb1⟩
    have HP1 := Lib.hid (HP.out.lift hb1)
    have HX1 := Lib.hid (HX.out.lift hb1)
    have HY1 := Lib.hid (HY.out.lift hb1)
    have HS1 := Lib.hid (HS.out.below hb1 (Nat.le_refl _))
    go_wp2_with fail
    refine (HFW.out _ HP1.out HX1.out).mono ?_
    rintro e w2 ⟨rfl, rfl⟩
    clear HP HX HY HS
    go_wp2_with fail
    refine (lawCheck_any _ _ p x _ HP1.out HX1.out).mono ?_
    rintro e w3 ⟨rfl, rfl⟩
    by_cases h0 : chkAll p [x] = 0
    · rw [h0]
      go_wp2_with fail
      refine (lawCheck_any _ _ p y _ HP1.out HY1.out).mono ?_
      rintro e w4 ⟨rfl, rfl⟩
      go_wp2_with fail
      refine (brackets_yes _ _ p x _ HS1.out HP1.out HX1.out h0).mono ?_
      rintro e w5 ⟨rfl, hb5⟩
      have HP5 := Lib.hid (HP1.out.lift hb5)
      have HX5 := Lib.hid (HX1.out.lift hb5)
      have HY5 := Lib.hid (HY1.out.lift hb5)
      have HS5 := Lib.hid (HS1.out.below hb5 (Nat.le_refl _))
      have hbw5 := hb1.trans (hb5.mono hb1.size)
      clear HP1 HX1 HY1 HS1 hb1 hb5
      obtain ⟨r1, r2, r3⟩ := rowChk_right (right_of h0)
      have hrl := rowTxt_len r2 r3
      have HT := Lib.hid (rowText_run _ x w5 HS5.out HX5.out r1 r2 r3 (by omega) true)
      have HPR : Box (chkAll p [x, y] = chkAll p [y]) := ⟨chk_pair_ok h0⟩
      have H0 : Box (chkAll p [x] = 0) := ⟨h0⟩
      clear h0 r1 r2 r3 hrl
      generalize hq : chkAll p [y] = q at *
      clear hq
      go_wp2_with fail
      refine HT.out.mono ?_
      rintro e w6 ⟨rfl, hb6⟩
      have HP6 := Lib.hid (HP5.out.lift hb6)
      have HX6 := Lib.hid (HX5.out.lift hb6)
      have HY6 := Lib.hid (HY5.out.lift hb6)
      have hbw6 := hbw5.trans (hb6.mono hbw5.size)
      clear HP5 HX5 HY5 HS5 hbw5 hb6
      go_wp2_with fail
      have hc7 := check_any _ _ p x w6 HP6.out HX6.out
      rw [H0.out] at hc7
      refine hc7.mono ?_
      clear hc7
      rintro e w7 ⟨rfl, hb7⟩
      have HP7 := Lib.hid (HP6.out.lift hb7)
      have HX7 := Lib.hid (HX6.out.lift hb7)
      have HY7 := Lib.hid (HY6.out.lift hb7)
      have hbw7 := hbw6.trans (hb7.mono hbw6.size)
      clear HP6 HX6 HY6 hb7
      go_wp2_with fail
      have hall := checkAll_any (.slice AP p.length cp) p (some ⟨w7.heap.size, 0, Option.none⟩) 2 (w7.heap.size + 1) [x, y] (w7.alloc (.cells #[.slice AX x.length cx, .slice AY y.length cy] 24)) ((HP7.out.alloc (Nat.le_refl _) _).up (by omega)) (rowsAt_two w7 _ _ x y _ HX7.out HY7.out) (by simp)
      rw [HPR.out] at hall
      refine hall.mono ?_
      clear hall
      rintro e w8 ⟨rfl, hw8⟩
      have hb8 : Below w7.heap.size w7 w8 := by rw [← hw8]; exact (Below.refl _ _).alloc (Nat.le_refl _) _
      clear hw8
      have HP8 := Lib.hid (HP7.out.lift hb8)
      have hbw8 := hbw7.trans (hb8.mono hbw7.size)
      clear HP7 HX7 HY7 hb8 hbw7
      go_wp2_with fail
      have hnil := checkAll_any (.slice AP p.length cp) p Option.none 0 w8.heap.size [] w8 HP8.out ⟨fun k x h => by simp at h⟩ (by simp)
      rw [chk_none] at hnil
      refine hnil.mono ?_
      clear hnil
      rintro e w9 ⟨rfl, rfl⟩
      go_wp2_with fail
      refine (primeCheck_any _ p _ _ HP8.out).mono ?_
      rintro e w10 ⟨rfl, rfl⟩
      go_wp2_with fail
      go_ret
      exact ⟨rfl, hbw8⟩
    · have h0' : (chkAll p [x] == 0) = false := by simpa using h0
      have h1' : (chkAll p [x] != 0) = true := by simpa using h0
      have HPR : Box (chkAll p [x, y] = chkAll p [x]) := ⟨chk_pair_err h0⟩
      have HBR := Lib.hid (brackets_no _ _ p x _ HP1.out HX1.out h1')
      have HCK := Lib.hid (fun W h1 h2 => check_any (.slice AP p.length cp) (.slice AX x.length cx) p x W h1 h2)
      clear h0
      generalize chkAll p [x] = q at *
      go_wp2_with fail
      refine HBR.out.mono ?_
      rintro e w5 ⟨rfl, hb5⟩
      have HP5 := Lib.hid (HP1.out.lift hb5)
      have HX5 := Lib.hid (HX1.out.lift hb5)
      have HY5 := Lib.hid (HY1.out.lift hb5)
      have hbw5 := hb1.trans (hb5.mono hb1.size)
      clear HP1 HX1 HY1 HS1 hb1 hb5
      go_wp2_with fail
      refine (HCK.out _ HP5.out HX5.out).mono ?_
      rintro e w7 ⟨rfl, hb7⟩
      have HP7 := Lib.hid (HP5.out.lift hb7)
      have HX7 := Lib.hid (HX5.out.lift hb7)
      have HY7 := Lib.hid (HY5.out.lift hb7)
      have hbw7 := hbw5.trans (hb7.mono hbw5.size)
      clear HP5 HX5 HY5 hb7
      go_wp2_with fail
      have hall := checkAll_any (.slice AP p.length cp) p (some ⟨w7.heap.size, 0, Option.none⟩) 2 (w7.heap.size + 1) [x, y] (w7.alloc (.cells #[.slice AX x.length cx, .slice AY y.length cy] 24)) ((HP7.out.alloc (Nat.le_refl _) _).up (by omega)) (rowsAt_two w7 _ _ x y _ HX7.out HY7.out) (by simp)
      rw [HPR.out] at hall
      refine hall.mono ?_
      clear hall
      rintro e w8 ⟨rfl, hw8⟩
      have hb8 : Below w7.heap.size w7 w8 := by rw [← hw8]; exact (Below.refl _ _).alloc (Nat.le_refl _) _
      clear hw8
      have HP8 := Lib.hid (HP7.out.lift hb8)
      have hbw8 := hbw7.trans (hb8.mono hbw7.size)
      clear HP7 HX7 HY7 hb8 hbw7
      go_wp2_with fail
      have hnil := checkAll_any (.slice AP p.length cp) p Option.none 0 w8.heap.size [] w8 HP8.out ⟨fun k x h => by simp at h⟩ (by simp)
      rw [chk_none] at hnil
      refine hnil.mono ?_
      clear hnil
      rintro e w9 ⟨rfl, rfl⟩
      go_wp2_with fail
      refine (primeCheck_any _ p _ _ HP8.out).mono ?_
      rintro e w10 ⟨rfl, rfl⟩
      go_wp2_with fail
      go_ret
      exact ⟨rfl, hbw8⟩
  · have HK := Lib.hid (fun W hW => known_any W hW)
    by_cases hf : fewB p x = true
    · have hy8 : 8 < y.length := by
        rcases Nat.lt_or_ge 8 y.length with h | h
        · exact h
        · exact absurd ⟨hf, h⟩ hcase
      have HFW := Lib.hid (fun W h1 h2 => few_any (.slice AP p.length cp) (.slice AX x.length cx) p x W h1 h2)
      rw [hf] at HFW
      clear hf hcase
      go_enter Tryz.func3, Tryz.ntmps3
      go_wp2_with fail
      refine (HK.out w HS.out).mono ?_
      rintro e w1 ⟨rfl, hb1⟩
      go_wp2_with fail
      refine (HFW.out _ (HP.out.lift hb1) (HX.out.lift hb1)).mono ?_
      rintro e w2 ⟨rfl, rfl⟩
      go_wp2_with fail
      refine (HK.out _ (HS.out.below hb1 (Nat.le_refl _))).mono ?_
      rintro e w3 ⟨rfl, hb3⟩
      go_wp2_with fail
      go_ret
      exact ⟨rfl, hb1.trans (hb3.mono hb1.size)⟩
    · have HFW := Lib.hid (fun W h1 h2 => few_any (.slice AP p.length cp) (.slice AX x.length cx) p x W h1 h2)
      rw [show fewB p x = false by simpa using hf] at HFW
      clear hf hcase
      go_enter Tryz.func3, Tryz.ntmps3
      go_wp2_with fail
      refine (HK.out w HS.out).mono ?_
      rintro e w1 ⟨rfl, hb1⟩
      go_wp2_with fail
      refine (HFW.out _ (HP.out.lift hb1) (HX.out.lift hb1)).mono ?_
      rintro e w2 ⟨rfl, rfl⟩
      go_wp2_with fail
      refine (HK.out _ (HS.out.below hb1 (Nat.le_refl _))).mono ?_
      rintro e w3 ⟨rfl, hb3⟩
      go_wp2_with fail
      go_ret
      exact ⟨rfl, hb1.trans (hb3.mono hb1.size)⟩

end Go.Proofs.YtkoemgemnklmdaaGreatDoor
