/- known. -/
import Derived.Test.YtkoemgemnklmdaaGreatDoorKnown
namespace Go.Proofs.YtkoemgemnklmdaaGreatDoor
open Go.RowKit Go.Lib

theorem d81 : decDigits 81 = [56, 49] := by rw [dec_big (by omega), dec_small (by omega)]; rfl
theorem d80 : decDigits 80 = [56, 48] := by rw [dec_big (by omega), dec_small (by omega)]; rfl
theorem d7 : decDigits 7 = [55] := by rw [dec_small (by omega)]; rfl
theorem d4 : decDigits 4 = [52] := by rw [dec_small (by omega)]; rfl
theorem d1 : decDigits 1 = [49] := by rw [dec_small (by omega)]; rfl
theorem d6480 : decDigits 6480 = [54, 52, 56, 48] := by rw [dec_big (by omega), dec_big (by omega), dec_big (by omega), dec_small (by omega)]; rfl

theorem kp : primeErr [2, 3, 5] = 0 := by decide
theorem kc1 : chkAll [2, 3, 5] [[-4, 4, -1]] = 0 := by decide
theorem kc2 : chkAll [2, 3, 5] [[-1, 1, 0], [3, -3, 1]] = 0 := by decide
theorem kn : num [2, 3, 5] [-4, 4, -1] = 81 ∧ den [2, 3, 5] [-4, 4, -1] = 80 := by decide
theorem kcmp : cmpN (num [2, 3, 5] [-1, 1, 0] * den [2, 3, 5] [3, -3, 1]) (num [2, 3, 5] [3, -3, 1] * den [2, 3, 5] [-1, 1, 0]) = 1 := by decide
theorem k81 : leftTo [2, 3, 5] 81 3 = 1 ∧ leftTo [2, 3, 5] 80 3 = 1 ∧ expsTo [2, 3, 5] 81 80 3 = [-4, 4, -1] := by
  have a1 : left 2 81 = 81 ∧ mult 2 81 = 0 := ⟨left_no (by omega), mult_no (by omega)⟩
  have a2 : left 3 81 = 1 ∧ mult 3 81 = 4 := by
    rw [left_yes (by omega), mult_yes (by omega), left_yes (by omega), mult_yes (by omega), left_yes (by omega), mult_yes (by omega), left_yes (by omega), mult_yes (by omega), left_no (by omega), mult_no (by omega)]
    exact ⟨rfl, rfl⟩
  have a3 : left 5 1 = 1 ∧ mult 5 1 = 0 := ⟨left_no (by omega), mult_no (by omega)⟩
  have b1 : left 2 80 = 5 ∧ mult 2 80 = 4 := by
    rw [left_yes (by omega), mult_yes (by omega), left_yes (by omega), mult_yes (by omega), left_yes (by omega), mult_yes (by omega), left_yes (by omega), mult_yes (by omega), left_no (by omega), mult_no (by omega)]
    exact ⟨rfl, rfl⟩
  have b2 : left 3 5 = 5 ∧ mult 3 5 = 0 := ⟨left_no (by omega), mult_no (by omega)⟩
  have b3 : left 5 5 = 1 ∧ mult 5 5 = 1 := by
    rw [left_yes (by omega), mult_yes (by omega), left_no (by omega), mult_no (by omega)]
    exact ⟨rfl, rfl⟩
  simp [leftTo, expsTo, a1.1, a1.2, a2.1, a2.2, a3.1, a3.2, b1.1, b1.2, b2.1, b2.2, b3.1, b3.2]
theorem k7 : leftTo [2, 3, 5] 7 3 = 7 := by
  have a1 : left 2 7 = 7 := left_no (by omega)
  have a2 : left 3 7 = 7 := left_no (by omega)
  have a3 : left 5 7 = 7 := left_no (by omega)
  simp [leftTo, a1, a2, a3]
theorem ktxt : 91 :: rowTxt [-4, 4, -1] ++ [62] = [91, 45, 52, 32, 52, 32, 45, 49, 62] := by
  have e1 : itoa (-4) = [45, 52] := by rw [show (-4 : Int) = -((4 : Nat) : Int) from rfl, itoa_neg 4 (by omega), d4]
  have e2 : itoa 4 = [52] := by rw [show (4 : Int) = ((4 : Nat) : Int) from rfl, itoa_nat 4, d4]
  have e3 : itoa (-1) = [45, 49] := by rw [show (-1 : Int) = -((1 : Nat) : Int) from rfl, itoa_neg 1 (by omega), d1]
  simp [rowTxt, words, e1, e2, e3, Lib.join, List.intercalate, List.intersperse]
theorem krat : ratText [56, 49] [56, 48] = [56, 49, 47, 56, 48] := by decide

theorem isRow_new (w : World) (t : TypeId) (x : List Int) (cs : Array Value) (hc : cs.toList = is x) (hl : x.length ≤ 1000000) (n : Nat) (hn : x.length = n) : IsRow (w.alloc (.cells cs t)) (w.heap.size + 1) (.slice (some ⟨w.heap.size, 0, Option.none⟩) n n) x := by
  subst hn
  have h := Cells.new w t cs
  rw [hc] at h
  exact ⟨_, _, rfl, Nat.le_refl _, by unfold maxLen; omega, h.row (by omega) (is_length x)⟩

set_option maxRecDepth 100000 in
set_option maxHeartbeats 2000000 in
theorem known_any (w : World) (hS : Std w) :
    Calls Tryz.prog 14 #[] w fun e w' => e = .returned (.bool true) ∧ Below w.heap.size w w' := by
  have HS := Lib.hid hS
  clear hS
  have hp0 := isRow_new w 3 [2, 3, 5] #[.int .i64 2, .int .i64 3, .int .i64 5] rfl (by simp) 3 rfl
  have HP0 := Lib.hid hp0
  clear hp0
  have hb0 : Below w.heap.size w (w.alloc (.cells #[.int .i64 2, .int .i64 3, .int .i64 5] 3)) := (Below.refl _ _).alloc (Nat.le_refl _) _
  have HB0 := Lib.hid hb0
  clear hb0
  go_enter Tryz.func14, Tryz.ntmps14
  go_wp2_with fail
  have h1 := of_yes _ [2, 3, 5] 81 80 (w.alloc (.cells #[.int .i64 2, .int .i64 3, .int .i64 5] 3)) (HS.out.below HB0.out (Nat.le_refl _)) (by rw [World.size_alloc]; exact HP0.out) kp (by rw [d81]; simp) (by rw [d80]; simp) (by omega) (by omega) (by decide)
  rw [d81, d80] at h1
  refine h1.mono ?_
  clear h1
  rintro e w1 ⟨hpost, hb1⟩
  obtain ⟨v, rfl, hv⟩ : ∃ v, e = .returned (.tuple #[v, .int .i64 0]) ∧ IsRow w1 w1.heap.size v [-4, 4, -1] := by
    rcases hpost with ⟨_, _, v, he, hv⟩ | ⟨hno, _⟩
    · exact ⟨v, he, by rw [show ([2, 3, 5] : List Int).length = 3 from rfl, k81.2.2] at hv; exact hv⟩
    · exact absurd ⟨k81.1, k81.2.1⟩ hno
  rw [World.size_alloc] at hb1
  have hbw1 := below_result hb1
  have hp1 : IsRow w1 w1.heap.size (.slice (some ⟨w.heap.size, 0, Option.none⟩) 3 3) [2, 3, 5] := (HP0.out.keep hb1).up (by have := hb1.size; simpa using this)
  have hs1 := HS.out.below hbw1 (Nat.le_refl _)
  obtain ⟨AV, cv, rfl⟩ := hv.shape
  have HV1 := Lib.hid hv
  have HP1 := Lib.hid hp1
  have HS1 := Lib.hid hs1
  clear hpost hb1 hv hp1 hs1
  go_wp2_with fail
  have h2 := brackets_yes _ _ [2, 3, 5] [-4, 4, -1] w1 HS1.out HP1.out HV1.out kc1
  rw [ktxt] at h2
  refine h2.mono ?_
  clear h2
  rintro e w2 ⟨rfl, hb2⟩
  have HP2 := Lib.hid (HP1.out.lift hb2)
  have HV2 := Lib.hid (HV1.out.lift hb2)
  have HS2 := Lib.hid (HS1.out.below hb2 (Nat.le_refl _))
  have hbw2 := hbw1.trans (hb2.mono hbw1.size)
  clear HP1 HV1 HS1 hb2 hbw1
  go_wp2_with fail
  have hf := fraction_any _ _ [2, 3, 5] [-4, 4, -1] w2 HS2.out HP2.out HV2.out kc1
  rw [kn.1, kn.2, d81, d80] at hf
  have h3 := monText_yes _ _ [2, 3, 5] [-4, 4, -1] [56, 49] [56, 48] w2 (by simp) (by simp) HP2.out.shape HV2.out.shape hf
  rw [krat] at h3
  refine h3.mono ?_
  clear h3 hf
  rintro e w3 ⟨rfl, hb3⟩
  have HP3 := Lib.hid (HP2.out.lift hb3)
  have HV3 := Lib.hid (HV2.out.lift hb3)
  have HS3 := Lib.hid (HS2.out.below hb3 (Nat.le_refl _))
  have hbw3 := hbw2.trans (hb3.mono hbw2.size)
  clear HP2 HV2 HS2 hb3 hbw2
  go_wp2_with fail
  have h4 := product_any _ _ [2, 3, 5] [-4, 4, -1] w3 HP3.out HV3.out kc1 HS3.out
  rw [kn.1, kn.2, show 81 * 80 = 6480 from rfl, d6480] at h4
  refine h4.mono ?_
  clear h4
  rintro e w4 ⟨he, hb4⟩
  obtain rfl : e = .returned (.tuple #[.string ⟨#[54, 52, 56, 48]⟩, .int .i64 0]) := he
  have HP4 := Lib.hid (HP3.out.lift hb4)
  have HV4 := Lib.hid (HV3.out.lift hb4)
  have HS4 := Lib.hid (HS3.out.below hb4 (Nat.le_refl _))
  have hbw4 := hbw3.trans (hb4.mono hbw3.size)
  clear HP3 HV3 HS3 hb4 hbw3
  go_wp2_with fail
  have hA : Below w4.heap.size w4 ((w4.alloc (.cells #[.int .i64 (-1), .int .i64 1, .int .i64 0] 3)).alloc (.cells #[.int .i64 3, .int .i64 (-3), .int .i64 1] 3)) := ((Below.refl _ _).alloc (Nat.le_refl _) _).alloc (by simp) _
  have hx5 : IsRow ((w4.alloc (.cells #[.int .i64 (-1), .int .i64 1, .int .i64 0] 3)).alloc (.cells #[.int .i64 3, .int .i64 (-3), .int .i64 1] 3)) (w4.heap.size + 2) (.slice (some ⟨w4.heap.size, 0, Option.none⟩) 3 3) [-1, 1, 0] :=
    ((isRow_new w4 3 [-1, 1, 0] #[.int .i64 (-1), .int .i64 1, .int .i64 0] rfl (by simp) 3 rfl).alloc (by simp) _).up (by omega)
  have hy5 : IsRow ((w4.alloc (.cells #[.int .i64 (-1), .int .i64 1, .int .i64 0] 3)).alloc (.cells #[.int .i64 3, .int .i64 (-3), .int .i64 1] 3)) (w4.heap.size + 2) (.slice (some ⟨w4.heap.size + 1, 0, Option.none⟩) 3 3) [3, -3, 1] := by
    have h := isRow_new (w4.alloc (.cells #[.int .i64 (-1), .int .i64 1, .int .i64 0] 3)) 3 [3, -3, 1] #[.int .i64 3, .int .i64 (-3), .int .i64 1] rfl (by simp) 3 rfl
    rw [World.size_alloc] at h
    exact h
  have hsz : ((w4.alloc (.cells #[.int .i64 (-1), .int .i64 1, .int .i64 0] 3)).alloc (.cells #[.int .i64 3, .int .i64 (-3), .int .i64 1] 3)).heap.size = w4.heap.size + 2 := by simp
  have hp5 := HP4.out.lift hA
  have hv5 := HV4.out.lift hA
  have hs5 := HS4.out.below hA (Nat.le_refl _)
  have hbw5 := hbw4.trans (hA.mono hbw4.size)
  rw [← hsz] at hx5 hy5
  have h5 := compare_mon _ _ _ [2, 3, 5] [-1, 1, 0] [3, -3, 1] _ hp5 hx5 hy5 kc2 hs5
  rw [kcmp] at h5
  have HP5 := Lib.hid hp5
  have HV5 := Lib.hid hv5
  have HS5 := Lib.hid hs5
  clear hp5 hv5 hs5 hx5 hy5 hA HP4 HV4 HS4 hbw4
  refine h5.mono ?_
  clear h5
  rintro e w5 ⟨rfl, hb5⟩
  have HP6 := Lib.hid (HP5.out.lift hb5)
  have HV6 := Lib.hid (HV5.out.lift hb5)
  have HS6 := Lib.hid (HS5.out.below hb5 (Nat.le_refl _))
  have hbw6 := hbw5.trans (hb5.mono hbw5.size)
  clear HP5 HV5 HS5 hb5 hbw5 hsz
  go_wp2_with fail
  have h6 := of_yes _ [2, 3, 5] 7 4 w5 HS6.out HP6.out kp (by rw [d7]; simp) (by rw [d4]; simp) (by omega) (by omega) (by decide)
  rw [d7, d4] at h6
  refine h6.mono ?_
  clear h6
  rintro e w6 ⟨hpost, hb6⟩
  obtain rfl : e = .returned (.tuple #[.slice Option.none 0 0, .int .i64 25]) := by
    rcases hpost with ⟨h7, _, _⟩ | ⟨_, he⟩
    · exfalso
      rw [show ([2, 3, 5] : List Int).length = 3 from rfl, k7] at h7
      omega
    · exact he
  have hv7 := HV6.out.lift hb6
  have hbw7 := hbw6.trans (hb6.mono hbw6.size)
  have hC : Below w6.heap.size w6 (w6.alloc (.cells #[.int .i64 (-4), .int .i64 4, .int .i64 (-1)] 3)) := (Below.refl _ _).alloc (Nat.le_refl _) _
  have hz7 := isRow_new w6 3 [-4, 4, -1] #[.int .i64 (-4), .int .i64 4, .int .i64 (-1)] rfl (by simp) 3 rfl
  have h7 := same_any _ _ [-4, 4, -1] [-4, 4, -1] (w6.alloc (.cells #[.int .i64 (-4), .int .i64 4, .int .i64 (-1)] 3)) (hv7.lift hC) (by rw [World.size_alloc]; exact hz7)
  have hbw8 := hbw7.trans (hC.mono hbw7.size)
  rw [show sameB [-4, 4, -1] [-4, 4, -1] = true by decide] at h7
  have H7 := Lib.hid h7
  clear hpost hb6 HP6 HV6 HS6 hbw6 hv7 hz7 hC h7
  go_wp2_with fail
  refine H7.out.mono ?_
  rintro e w7 ⟨rfl, hb7⟩
  go_wp2_with fail
  go_ret
  exact ⟨rfl, hbw8.trans (hb7.mono hbw8.size)⟩

end Go.Proofs.YtkoemgemnklmdaaGreatDoor
