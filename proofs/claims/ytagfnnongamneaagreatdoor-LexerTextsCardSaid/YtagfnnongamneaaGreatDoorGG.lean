/- Same, Brackets; known. known. schismalaw12.check, few; plain facts on the errors of lists. monzo.Power and Neg of right intervals. monzo.sum of right intervals; Add, Sub. The errors of all functions with intervals. monzo.Add, Sub and Neg of right intervals. -/
import Derived.Test.YtagfnnongamneaaGreatDoorGE
import Derived.Deep.RegionHeld3
import Derived.Deep.AppendLies
namespace Go.Proofs.YtagfnnongamneaaGreatDoor
open Go.RowKit Go.Lib

/-- Whether two rows are equal, as Same says it. -/
def sameB (x y : List Int) : Bool := decide (x = y)

theorem same_upto {x y : List Int} {k : Nat} (hl : x.length = y.length) (h : x.take k = y.take k) (hk : k < x.length) (he : x[k]?.getD 0 = y[k]?.getD 0) : x.take (k + 1) = y.take (k + 1) := by
  rw [List.take_succ_eq_append_getElem hk, List.take_succ_eq_append_getElem (by omega), h]
  rw [List.getElem?_eq_getElem hk, List.getElem?_eq_getElem (by omega)] at he
  simp at he
  rw [he]

set_option maxHeartbeats 1000000 in
theorem same_any (xv yv : Value) (x y : List Int) (w : World) (hx : IsRow w w.heap.size xv x) (hy : IsRow w w.heap.size yv y) :
    Calls Tryz.prog 40 #[xv, yv] w fun e w' => e = .returned (.bool (sameB x y)) ∧ Below w.heap.size w w' := by
  have HS : Hid (sameB x y = decide (x = y)) := rfl
  obtain ⟨AX, cx, rfl, hxc, hxm, hxr⟩ := hx
  obtain ⟨AY, cy, rfl, hyc, hym, hyr⟩ := hy
  unfold maxLen at hxm hym
  by_cases hl : x.length = y.length
  · have hne : ((x.length : Int) != (y.length : Int)) = false := by simp [hl]
    have HL := Lib.hid hl
    have hxl : x.length ≤ 9223372036854775807 := by omega
    clear hl hxc hyc hxm hym
    go_enter Tryz.func40, Tryz.ntmps40
    go_wp2
    go_loopw [5] (fun i wr => ∃ k : Nat, k ≤ x.length ∧ i = .int .i64 k ∧ Box (x.take k = y.take k) ∧ Below w.heap.size w wr) (fun i _ => x.length - (intOf i).toNat)
    case atStart => exact ⟨0, Nat.zero_le _, rfl, ⟨by simp⟩, Below.refl _ _⟩
    case round =>
      obtain ⟨k, hk, rfl, HT, hbw⟩ := hrel
      by_cases hlt : k < x.length
      · obtain ⟨ad1, rfl, _, hc1⟩ := (hxr.below hbw (Nat.le_refl _)).i_at hlt
        have hly : k < y.length := by rw [← HL.out]; exact hlt
        obtain ⟨ad2, rfl, _, hc2⟩ := (hyr.below hbw (Nat.le_refl _)).i_at hly
        have hup := fun he => same_upto HL.out HT.out hlt he
        have hdn : x[k]?.getD 0 ≠ y[k]?.getD 0 → x ≠ y := fun h e => h (by rw [e])
        generalize x[k]?.getD 0 = a at *
        generalize y[k]?.getD 0 = b at *
        have HU := Lib.hid hup
        have HDN := Lib.hid hdn
        clear hup hdn
        have hk1 : (0 : Int) ≤ (k : Int) := by omega
        have hk2 : (k : Int) < (x.length : Int) := by omega
        have hk3 : (k : Int) < (y.length : Int) := by omega
        by_cases hab : a = b
        · have hab' : (a != b) = false := by simp [hab]
          have HAB : Box (a = b) := ⟨hab⟩
          clear hab
          go_wp2
          go_quiet (fail)
          go_wp2
          go_roundw
          case rel => exact ⟨k + 1, by omega, by go_num, ⟨HU.out HAB.out⟩, below_drewN hbw _⟩
          case measure => simp [intOf]; omega
        · have hab' : (a != b) = true := by simp [hab]
          have HE : Box (sameB x y = false) := ⟨by rw [HS.out, decide_eq_false (HDN.out hab)]⟩
          go_wp2
          go_quiet (fail)
          go_wp2
          go_ret
          exact ⟨ret1 (congrArg Value.bool HE.out.symm), below_drewN hbw _⟩
      · obtain rfl : k = x.length := by omega
        have HE : Box (sameB x y = true) := ⟨by
          have h := HT.out
          rw [List.take_of_length_le (Nat.le_refl _), List.take_of_length_le (by rw [HL.out]; exact Nat.le_refl _)] at h
          rw [HS.out, decide_eq_true h]⟩
        go_wp2
        go_ret
        exact ⟨ret1 (congrArg Value.bool HE.out.symm), hbw⟩
  · have hne : ((x.length : Int) != (y.length : Int)) = true := by rw [bne_iff_ne]; omega
    have HE : Box (sameB x y = false) := ⟨by rw [HS.out, decide_eq_false (fun e => hl (by rw [e]))]⟩
    go_enter Tryz.func40, Tryz.ntmps40
    go_wp2
    go_ret
    exact ⟨ret1 (congrArg Value.bool HE.out.symm), Below.refl _ _⟩

/-! ### Brackets -/

theorem rowChk_right {p x : List Int} (h : Right p x) : rowChk x = 0 ∧ x.length ≤ 64 ∧ ∀ k, k < x.length → -1000000000 ≤ x[k]?.getD 0 ∧ x[k]?.getD 0 ≤ 1000000000 := by
  have h1 := h.len
  have h2 := h.six
  refine ⟨?_, by omega, fun k hk => by have := h.ex k hk; omega⟩
  unfold rowChk
  rw [if_neg]
  rintro (h3 | h3)
  · omega
  · obtain ⟨v, hv, hf⟩ := List.any_eq_true.1 h3
    obtain ⟨k, hk, rfl⟩ := List.getElem_of_mem hv
    have := h.ex k hk
    rw [List.getElem?_eq_getElem hk] at this
    unfold fitsB at hf
    simp at hf this
    omega

theorem itoa_short (z : Int) (h : -1000000000 ≤ z ∧ z ≤ 1000000000) : (itoa z).length ≤ 11 := by
  have h1 := itoa_len z
  rw [dec_length] at h1
  have := nDigits_le (u := z.natAbs) (k := 10) (by omega) (by omega)
  omega

theorem inter_len (sep : List UInt8) : ∀ (l : List (List UInt8)) (m : Nat), (∀ s ∈ l, s.length ≤ m) → (sep.intercalate l).length ≤ l.length * (m + sep.length)
  | [], m, _ => by simp [List.intercalate]
  | [a], m, h => by
    have := h a (by simp)
    simp [List.intercalate]
    omega
  | a :: b :: l, m, h => by
    have h1 := h a (by simp)
    have h2 := inter_len sep (b :: l) m (fun s hs => h s (by simp [hs]))
    have e : sep.intercalate (a :: b :: l) = a ++ (sep ++ sep.intercalate (b :: l)) := by simp [List.intercalate, List.intersperse]
    rw [e]
    simp only [List.length_append, List.length_cons] at *
    rw [Nat.add_mul (l.length + 1) 1]
    omega

theorem rowTxt_len {x : List Int} (h64 : x.length ≤ 64) (h : ∀ k, k < x.length → -1000000000 ≤ x[k]?.getD 0 ∧ x[k]?.getD 0 ≤ 1000000000) : (rowTxt x).length ≤ 1000 := by
  have h1 := inter_len [32] (words x) 11 (fun s hs => by
    obtain ⟨z, hz, rfl⟩ := List.mem_map.1 hs
    obtain ⟨k, hk, rfl⟩ := List.getElem_of_mem hz
    have := h k hk
    rw [List.getElem?_eq_getElem hk] at this
    exact itoa_short _ (by simpa using this))
  have h2 : (words x).length = x.length := by simp [words]
  rw [h2] at h1
  have h3 : x.length * (11 + [(32 : UInt8)].length) ≤ 64 * 12 := Nat.mul_le_mul h64 (by simp)
  unfold rowTxt Lib.join
  omega

set_option maxHeartbeats 400000 in
theorem brackets_yes (pv xv : Value) (p x : List Int) (w : World) (hS : Std w) (hp : IsRow w w.heap.size pv p) (hx : IsRow w w.heap.size xv x) (h : chkAll p [x] = 0) :
    Calls Tryz.prog 63 #[pv, xv] w fun e w' => e = .returned (.tuple #[.string ⟨(91 :: rowTxt x ++ [62]).toArray⟩, .int .i64 0]) ∧ Below w.heap.size w w' := by
  obtain ⟨h1, h2, h3⟩ := rowChk_right (right_of h)
  have hl := rowTxt_len h2 h3
  have HC := Lib.hid (check_any pv xv p x w hp hx)
  rw [h] at HC
  have HT := Lib.hid (fun W hW hR => rowText_run xv x W hW hR h1 h2 h3 (by omega) true)
  have HS := Lib.hid hS
  have HX := Lib.hid hx
  clear h h1 h2 h3 hl hS
  obtain ⟨AP, cp, rfl, _⟩ := hp
  obtain ⟨AX, cx, rfl, _⟩ := hx
  go_enter Tryz.func63, Tryz.ntmps63
  go_wp2_with fail
  refine HC.out.mono ?_
  rintro e w1 ⟨rfl, hb1⟩
  go_wp2_with fail
  refine (HT.out _ (HS.out.below hb1 (Nat.le_refl _)) (HX.out.lift hb1)).mono ?_
  rintro e w2 ⟨rfl, hb2⟩
  go_wp2_with fail
  go_ret2
  exact ⟨rfl, hb1.trans (hb2.mono hb1.size)⟩

set_option maxHeartbeats 400000 in
theorem brackets_no (pv xv : Value) (p x : List Int) (w : World) (hp : IsRow w w.heap.size pv p) (hx : IsRow w w.heap.size xv x) (h : (chkAll p [x] != 0) = true) :
    Calls Tryz.prog 63 #[pv, xv] w fun e w' => e = .returned (.tuple #[.string ⟨#[]⟩, .int .i64 (chkAll p [x])]) ∧ Below w.heap.size w w' := by
  have HC := Lib.hid (check_any pv xv p x w hp hx)
  generalize chkAll p [x] = q at *
  obtain ⟨AP, cp, rfl, _⟩ := hp
  obtain ⟨AX, cx, rfl, _⟩ := hx
  go_enter Tryz.func63, Tryz.ntmps63
  go_wp2_with fail
  refine HC.out.mono ?_
  rintro e w1 ⟨rfl, hb1⟩
  go_wp2_with fail
  go_ret2
  exact ⟨rfl, hb1⟩

end Go.Proofs.YtagfnnongamneaaGreatDoor

namespace Go.Proofs.YtagfnnongamneaaGreatDoor
open Go.RowKit Go.Lib

theorem d81 : decDigits 81 = [56, 49] := by rw [dec_big (by omega), dec_small (by omega)]; rfl
theorem d80 : decDigits 80 = [56, 48] := by rw [dec_big (by omega), dec_small (by omega)]; rfl
theorem d7 : decDigits 7 = [55] := by rw [dec_small (by omega)]; rfl
theorem d4 : decDigits 4 = [52] := by rw [dec_small (by omega)]; rfl
theorem d1 : decDigits 1 = [49] := by rw [dec_small (by omega)]; rfl
theorem d6480 : decDigits 6480 = [54, 52, 56, 48] := by rw [dec_big (by omega), dec_big (by omega), dec_big (by omega), dec_small (by omega)]; rfl

theorem kp : primeErr [2, 3, 5] = 0 := by decide
theorem kc1 : chkAll [2, 3, 5] [[-4, 4, -1]] = 0 := by decide
theorem kc2 : chkAll [2, 3, 5] [[-1, 1, 0], [3, -3, 1]] = 0 := by decide
theorem kn : num [2, 3, 5] [-4, 4, -1] = 81 ∧ den [2, 3, 5] [-4, 4, -1] = 80 := by decide
theorem kcmp : cmpN (num [2, 3, 5] [-1, 1, 0] * den [2, 3, 5] [3, -3, 1]) (num [2, 3, 5] [3, -3, 1] * den [2, 3, 5] [-1, 1, 0]) = 1 := by decide
theorem k81 : leftTo [2, 3, 5] 81 3 = 1 ∧ leftTo [2, 3, 5] 80 3 = 1 ∧ expsTo [2, 3, 5] 81 80 3 = [-4, 4, -1] := by
  have a1 : left 2 81 = 81 ∧ mult 2 81 = 0 := ⟨left_no (by omega), mult_no (by omega)⟩
  have a2 : left 3 81 = 1 ∧ mult 3 81 = 4 := by
    rw [left_yes (by omega), mult_yes (by omega), left_yes (by omega), mult_yes (by omega), left_yes (by omega), mult_yes (by omega), left_yes (by omega), mult_yes (by omega), left_no (by omega), mult_no (by omega)]
    exact ⟨rfl, rfl⟩
  have a3 : left 5 1 = 1 ∧ mult 5 1 = 0 := ⟨left_no (by omega), mult_no (by omega)⟩
  have b1 : left 2 80 = 5 ∧ mult 2 80 = 4 := by
    rw [left_yes (by omega), mult_yes (by omega), left_yes (by omega), mult_yes (by omega), left_yes (by omega), mult_yes (by omega), left_yes (by omega), mult_yes (by omega), left_no (by omega), mult_no (by omega)]
    exact ⟨rfl, rfl⟩
  have b2 : left 3 5 = 5 ∧ mult 3 5 = 0 := ⟨left_no (by omega), mult_no (by omega)⟩
  have b3 : left 5 5 = 1 ∧ mult 5 5 = 1 := by
    rw [left_yes (by omega), mult_yes (by omega), left_no (by omega), mult_no (by omega)]
    exact ⟨rfl, rfl⟩
  simp [leftTo, expsTo, a1.1, a1.2, a2.1, a2.2, a3.1, a3.2, b1.1, b1.2, b2.1, b2.2, b3.1, b3.2]
theorem k7 : leftTo [2, 3, 5] 7 3 = 7 := by
  have a1 : left 2 7 = 7 := left_no (by omega)
  have a2 : left 3 7 = 7 := left_no (by omega)
  have a3 : left 5 7 = 7 := left_no (by omega)
  simp [leftTo, a1, a2, a3]
theorem ktxt : 91 :: rowTxt [-4, 4, -1] ++ [62] = [91, 45, 52, 32, 52, 32, 45, 49, 62] := by
  have e1 : itoa (-4) = [45, 52] := by rw [show (-4 : Int) = -((4 : Nat) : Int) from rfl, itoa_neg 4 (by omega), d4]
  have e2 : itoa 4 = [52] := by rw [show (4 : Int) = ((4 : Nat) : Int) from rfl, itoa_nat 4, d4]
  have e3 : itoa (-1) = [45, 49] := by rw [show (-1 : Int) = -((1 : Nat) : Int) from rfl, itoa_neg 1 (by omega), d1]
  simp [rowTxt, words, e1, e2, e3, Lib.join, List.intercalate, List.intersperse]
theorem krat : ratText [56, 49] [56, 48] = [56, 49, 47, 56, 48] := by decide

theorem isRow_new (w : World) (t : TypeId) (x : List Int) (cs : Array Value) (hc : cs.toList = is x) (hl : x.length ≤ 1000000) (n : Nat) (hn : x.length = n) : IsRow (w.alloc (.cells cs t)) (w.heap.size + 1) (.slice (some ⟨w.heap.size, 0, Option.none⟩) n n) x := by
  subst hn
  have h := Cells.new w t cs
  rw [hc] at h
  exact ⟨_, _, rfl, Nat.le_refl _, by unfold maxLen; omega, h.row (by omega) (is_length x)⟩

set_option maxRecDepth 100000 in
set_option maxHeartbeats 2000000 in
theorem known_any (w : World) (hS : Std w) :
    Calls Tryz.prog 35 #[] w fun e w' => e = .returned (.bool true) ∧ Below w.heap.size w w' := by
  have HS := Lib.hid hS
  clear hS
  have hp0 := isRow_new w 3 [2, 3, 5] #[.int .i64 2, .int .i64 3, .int .i64 5] rfl (by simp) 3 rfl
  have HP0 := Lib.hid hp0
  clear hp0
  have hb0 : Below w.heap.size w (w.alloc (.cells #[.int .i64 2, .int .i64 3, .int .i64 5] 3)) := (Below.refl _ _).alloc (Nat.le_refl _) _
  have HB0 := Lib.hid hb0
  clear hb0
  go_enter Tryz.func35, Tryz.ntmps35
  go_wp2_with fail
  have h1 := of_yes _ [2, 3, 5] 81 80 (w.alloc (.cells #[.int .i64 2, .int .i64 3, .int .i64 5] 3)) (HS.out.below HB0.out (Nat.le_refl _)) (by rw [World.size_alloc]; exact HP0.out) kp (by rw [d81]; simp) (by rw [d80]; simp) (by omega) (by omega) (by decide)
  rw [d81, d80] at h1
  refine h1.mono ?_
  clear h1
  rintro e w1 ⟨hpost, hb1⟩
  obtain ⟨v, rfl, hv⟩ : ∃ v, e = .returned (.tuple #[v, .int .i64 0]) ∧ IsRow w1 w1.heap.size v [-4, 4, -1] := by
    rcases hpost with ⟨_, _, v, he, hv⟩ | ⟨hno, _⟩
    · exact ⟨v, he, by rw [show ([2, 3, 5] : List Int).length = 3 from rfl, k81.2.2] at hv; exact hv⟩
    · exact absurd ⟨k81.1, k81.2.1⟩ hno
  rw [World.size_alloc] at hb1
  have hbw1 := below_result hb1
  have hp1 : IsRow w1 w1.heap.size (.slice (some ⟨w.heap.size, 0, Option.none⟩) 3 3) [2, 3, 5] := (HP0.out.keep hb1).up (by have := hb1.size; simpa using this)
  have hs1 := HS.out.below hbw1 (Nat.le_refl _)
  obtain ⟨AV, cv, rfl⟩ := hv.shape
  have HV1 := Lib.hid hv
  have HP1 := Lib.hid hp1
  have HS1 := Lib.hid hs1
  clear hpost hb1 hv hp1 hs1
  go_wp2_with fail
  have h2 := brackets_yes _ _ [2, 3, 5] [-4, 4, -1] w1 HS1.out HP1.out HV1.out kc1
  rw [ktxt] at h2
  refine h2.mono ?_
  clear h2
  rintro e w2 ⟨rfl, hb2⟩
  have HP2 := Lib.hid (HP1.out.lift hb2)
  have HV2 := Lib.hid (HV1.out.lift hb2)
  have HS2 := Lib.hid (HS1.out.below hb2 (Nat.le_refl _))
  have hbw2 := hbw1.trans (hb2.mono hbw1.size)
  clear HP1 HV1 HS1 hb2 hbw1
  go_wp2_with fail
  have hf := fraction_any _ _ [2, 3, 5] [-4, 4, -1] w2 HS2.out HP2.out HV2.out kc1
  rw [kn.1, kn.2, d81, d80] at hf
  have h3 := monText_yes _ _ [2, 3, 5] [-4, 4, -1] [56, 49] [56, 48] w2 (by simp) (by simp) HP2.out.shape HV2.out.shape hf
  rw [krat] at h3
  refine h3.mono ?_
  clear h3 hf
  rintro e w3 ⟨rfl, hb3⟩
  have HP3 := Lib.hid (HP2.out.lift hb3)
  have HV3 := Lib.hid (HV2.out.lift hb3)
  have HS3 := Lib.hid (HS2.out.below hb3 (Nat.le_refl _))
  have hbw3 := hbw2.trans (hb3.mono hbw2.size)
  clear HP2 HV2 HS2 hb3 hbw2
  go_wp2_with fail
  have h4 := product_any _ _ [2, 3, 5] [-4, 4, -1] w3 HP3.out HV3.out kc1 HS3.out
  rw [kn.1, kn.2, show 81 * 80 = 6480 from rfl, d6480] at h4
  refine h4.mono ?_
  clear h4
  rintro e w4 ⟨he, hb4⟩
  obtain rfl : e = .returned (.tuple #[.string ⟨#[54, 52, 56, 48]⟩, .int .i64 0]) := he
  have HP4 := Lib.hid (HP3.out.lift hb4)
  have HV4 := Lib.hid (HV3.out.lift hb4)
  have HS4 := Lib.hid (HS3.out.below hb4 (Nat.le_refl _))
  have hbw4 := hbw3.trans (hb4.mono hbw3.size)
  clear HP3 HV3 HS3 hb4 hbw3
  go_wp2_with fail
  have hA : Below w4.heap.size w4 ((w4.alloc (.cells #[.int .i64 (-1), .int .i64 1, .int .i64 0] 3)).alloc (.cells #[.int .i64 3, .int .i64 (-3), .int .i64 1] 3)) := ((Below.refl _ _).alloc (Nat.le_refl _) _).alloc (by simp) _
  have hx5 : IsRow ((w4.alloc (.cells #[.int .i64 (-1), .int .i64 1, .int .i64 0] 3)).alloc (.cells #[.int .i64 3, .int .i64 (-3), .int .i64 1] 3)) (w4.heap.size + 2) (.slice (some ⟨w4.heap.size, 0, Option.none⟩) 3 3) [-1, 1, 0] :=
    ((isRow_new w4 3 [-1, 1, 0] #[.int .i64 (-1), .int .i64 1, .int .i64 0] rfl (by simp) 3 rfl).alloc (by simp) _).up (by omega)
  have hy5 : IsRow ((w4.alloc (.cells #[.int .i64 (-1), .int .i64 1, .int .i64 0] 3)).alloc (.cells #[.int .i64 3, .int .i64 (-3), .int .i64 1] 3)) (w4.heap.size + 2) (.slice (some ⟨w4.heap.size + 1, 0, Option.none⟩) 3 3) [3, -3, 1] := by
    have h := isRow_new (w4.alloc (.cells #[.int .i64 (-1), .int .i64 1, .int .i64 0] 3)) 3 [3, -3, 1] #[.int .i64 3, .int .i64 (-3), .int .i64 1] rfl (by simp) 3 rfl
    rw [World.size_alloc] at h
    exact h
  have hsz : ((w4.alloc (.cells #[.int .i64 (-1), .int .i64 1, .int .i64 0] 3)).alloc (.cells #[.int .i64 3, .int .i64 (-3), .int .i64 1] 3)).heap.size = w4.heap.size + 2 := by simp
  have hp5 := HP4.out.lift hA
  have hv5 := HV4.out.lift hA
  have hs5 := HS4.out.below hA (Nat.le_refl _)
  have hbw5 := hbw4.trans (hA.mono hbw4.size)
  rw [← hsz] at hx5 hy5
  have h5 := compare_mon _ _ _ [2, 3, 5] [-1, 1, 0] [3, -3, 1] _ hp5 hx5 hy5 kc2 hs5
  rw [kcmp] at h5
  have HP5 := Lib.hid hp5
  have HV5 := Lib.hid hv5
  have HS5 := Lib.hid hs5
  clear hp5 hv5 hs5 hx5 hy5 hA HP4 HV4 HS4 hbw4
  refine h5.mono ?_
  clear h5
  rintro e w5 ⟨rfl, hb5⟩
  have HP6 := Lib.hid (HP5.out.lift hb5)
  have HV6 := Lib.hid (HV5.out.lift hb5)
  have HS6 := Lib.hid (HS5.out.below hb5 (Nat.le_refl _))
  have hbw6 := hbw5.trans (hb5.mono hbw5.size)
  clear HP5 HV5 HS5 hb5 hbw5 hsz
  go_wp2_with fail
  have h6 := of_yes _ [2, 3, 5] 7 4 w5 HS6.out HP6.out kp (by rw [d7]; simp) (by rw [d4]; simp) (by omega) (by omega) (by decide)
  rw [d7, d4] at h6
  refine h6.mono ?_
  clear h6
  rintro e w6 ⟨hpost, hb6⟩
  obtain rfl : e = .returned (.tuple #[.slice Option.none 0 0, .int .i64 25]) := by
    rcases hpost with ⟨h7, _, _⟩ | ⟨_, he⟩
    · exfalso
      rw [show ([2, 3, 5] : List Int).length = 3 from rfl, k7] at h7
      omega
    · exact he
  have hv7 := HV6.out.lift hb6
  have hbw7 := hbw6.trans (hb6.mono hbw6.size)
  have hC : Below w6.heap.size w6 (w6.alloc (.cells #[.int .i64 (-4), .int .i64 4, .int .i64 (-1)] 3)) := (Below.refl _ _).alloc (Nat.le_refl _) _
  have hz7 := isRow_new w6 3 [-4, 4, -1] #[.int .i64 (-4), .int .i64 4, .int .i64 (-1)] rfl (by simp) 3 rfl
  have h7 := same_any _ _ [-4, 4, -1] [-4, 4, -1] (w6.alloc (.cells #[.int .i64 (-4), .int .i64 4, .int .i64 (-1)] 3)) (hv7.lift hC) (by rw [World.size_alloc]; exact hz7)
  have hbw8 := hbw7.trans (hC.mono hbw7.size)
  rw [show sameB [-4, 4, -1] [-4, 4, -1] = true by decide] at h7
  have H7 := Lib.hid h7
  clear hpost hb6 HP6 HV6 HS6 hbw6 hv7 hz7 hC h7
  go_wp2_with fail
  refine H7.out.mono ?_
  rintro e w7 ⟨rfl, hb7⟩
  go_wp2_with fail
  go_ret
  exact ⟨rfl, hbw8.trans (hb7.mono hbw8.size)⟩

end Go.Proofs.YtagfnnongamneaaGreatDoor

namespace Go.Proofs.YtagfnnongamneaaGreatDoor
open Go.RowKit Go.Lib

theorem chk_one (p x : List Int) : chkAll p [x] = if primeErr p ≠ 0 then primeErr p else rowErr p.length x := by
  unfold chkAll
  by_cases h : primeErr p = 0
  · rw [if_neg (by simpa using h), if_neg (by simpa using h)]
    simp only [rowsErr]
    by_cases h2 : rowErr p.length x = 0
    · rw [if_neg (by simpa using h2), h2]
    · rw [if_pos h2]
  · rw [if_pos h, if_pos h]
theorem chk_pair_err {p x y : List Int} (h : chkAll p [x] ≠ 0) : chkAll p [x, y] = chkAll p [x] := by
  unfold chkAll at *
  by_cases hp : primeErr p = 0
  · rw [if_neg (by simpa using hp)] at h ⊢
    rw [if_neg (by simpa using hp)]
    simp only [rowsErr] at *
    by_cases h1 : rowErr p.length x = 0
    · rw [if_neg (by simpa using h1)] at h
      exact absurd rfl h
    · rw [if_pos h1, if_pos h1]
  · rw [if_pos hp, if_pos hp]
theorem chk_pair_ok {p x y : List Int} (h : chkAll p [x] = 0) : chkAll p [x, y] = chkAll p [y] := by
  unfold chkAll at *
  by_cases hp : primeErr p = 0
  · rw [if_neg (by simpa using hp)] at h ⊢
    rw [if_neg (by simpa using hp)]
    simp only [rowsErr] at *
    by_cases h1 : rowErr p.length x = 0
    · rw [if_neg (by simpa using h1)]
    · rw [if_pos h1] at h
      exact absurd h h1
  · rw [if_pos hp, if_pos hp]
theorem chk_none (p : List Int) : chkAll p [] = primeErr p := by
  unfold chkAll
  by_cases hp : primeErr p = 0
  · rw [if_neg (by simpa using hp), hp]; rfl
  · rw [if_pos hp]

set_option maxHeartbeats 1000000 in
theorem lawCheck_any (pv xv : Value) (p x : List Int) (w : World) (hp : IsRow w w.heap.size pv p) (hx : IsRow w w.heap.size xv x) :
    Calls Tryz.prog 39 #[pv, xv] w fun e w' => e = .returned (.int .i64 (chkAll p [x])) ∧ w = w' := by
  have HPC := Lib.hid (primeCheck_any pv p _ w hp)
  have HC := Lib.hid (chk_one p x)
  obtain ⟨AP, cp, rfl, _, hpm, _⟩ := hp
  obtain ⟨AX, cx, rfl, hxc, hxm, hxr⟩ := hx
  unfold maxLen at hpm hxm
  have hxl : x.length ≤ 9223372036854775807 := by omega
  by_cases hpe : primeErr p = 0
  · have HC2 : Box (chkAll p [x] = rowErr p.length x) := ⟨by rw [HC.out, if_neg (by simpa using hpe)]⟩
    rw [hpe] at HPC
    have HR : Hid (rowErr p.length x = if x.length ≠ p.length then 5 else if x.any farB = true then 4 else 0) := rfl
    clear hpe hxc hxm hpm
    by_cases hxn : x.length = p.length
    · have hne : ((x.length : Int) != (p.length : Int)) = false := by simp [hxn]
      have HXN := Lib.hid hxn
      clear hxn
      go_enter Tryz.func39, Tryz.ntmps39
      go_wp2_with (go_at_call 67; refine HPC.out.mono ?_; rintro e w1 ⟨rfl, rfl⟩)
      go_loop [6] (fun i => ∃ j : Nat, j ≤ x.length ∧ i = .int .i64 j ∧ Box ((x.take j).any farB = false)) (fun i => x.length - (intOf i).toNat)
      case atStart => exact ⟨0, Nat.zero_le _, rfl, ⟨rfl⟩⟩
      case round =>
        obtain ⟨j, hj, rfl, HF⟩ := hrel
        by_cases hjl : j < x.length
        · obtain ⟨ad2, rfl, _, hcb⟩ := hxr.i_at hjl
          have hs : (x.take (j + 1)).any farB = ((x.take j).any farB || farB (x[j]?.getD 0)) := by
            rw [List.take_succ_eq_append_getElem hjl, List.any_append, List.getElem?_eq_getElem hjl]; simp
          have hf : farB (x[j]?.getD 0) = true → x.any farB = true := by
            intro h
            rw [List.any_eq_true]
            exact ⟨x[j], List.getElem_mem hjl, by rw [List.getElem?_eq_getElem hjl] at h; simpa using h⟩
          have hfb : farB (x[j]?.getD 0) = (decide (1000 < x[j]?.getD 0) || decide (x[j]?.getD 0 < -1000)) := rfl
          generalize x[j]?.getD 0 = y at *
          have HS := Lib.hid hs
          have HF2 := Lib.hid hf
          have HFB := Lib.hid hfb
          clear hs hf hfb
          by_cases hy1 : 1000 < y
          · have HE : Box (chkAll p [x] = 4) := ⟨by rw [HC2.out, HR.out, if_neg (by simp [HXN.out]), if_pos (HF2.out (by rw [HFB.out]; simp [hy1]))]⟩
            go_wp2
            go_ret
            exact ⟨ret_int HE.out.symm, rfl⟩
          · by_cases hy2 : y < -1000
            · have HE : Box (chkAll p [x] = 4) := ⟨by rw [HC2.out, HR.out, if_neg (by simp [HXN.out]), if_pos (HF2.out (by rw [HFB.out]; simp [hy2]))]⟩
              go_wp2
              go_ret
              exact ⟨ret_int HE.out.symm, rfl⟩
            · go_wp2
              go_round
              case rel => exact ⟨j + 1, by omega, by go_num, ⟨by rw [HS.out, HF.out, HFB.out]; simp [hy1, hy2]⟩⟩
              case measure => simp [intOf]; omega
        · obtain rfl : j = x.length := by omega
          have HE : Box (chkAll p [x] = 0) := ⟨by
            have h := HF.out
            rw [List.take_of_length_le (Nat.le_refl _)] at h
            rw [HC2.out, HR.out, if_neg (by simp [HXN.out]), if_neg (by simp [h])]⟩
          go_wp2
          go_ret
          exact ⟨ret_int HE.out.symm, rfl⟩
    · have hne : ((x.length : Int) != (p.length : Int)) = true := by rw [bne_iff_ne]; omega
      have HE : Box (chkAll p [x] = 5) := ⟨by rw [HC2.out, HR.out, if_pos hxn]⟩
      go_enter Tryz.func39, Tryz.ntmps39
      go_wp2_with (go_at_call 67; refine HPC.out.mono ?_; rintro e w1 ⟨rfl, rfl⟩)
      go_ret
      exact ⟨ret_int HE.out.symm, rfl⟩
  · have HC2 : Box (chkAll p [x] = primeErr p) := ⟨by rw [HC.out, if_pos hpe]⟩
    have hpb : (primeErr p != 0) = true := by rw [bne_iff_ne]; exact hpe
    have hpb2 : (primeErr p == 0) = false := by simpa using hpe
    generalize primeErr p = q at *
    go_enter Tryz.func39, Tryz.ntmps39
    go_wp2_with (go_at_call 67; refine HPC.out.mono ?_; rintro e w1 ⟨rfl, rfl⟩)
    go_ret
    exact ⟨ret_int HC2.out.symm, rfl⟩

def fewB (p x : List Int) : Bool := decide (p.length ≤ 8) && decide (x.length ≤ 8)
end Go.Proofs.YtagfnnongamneaaGreatDoor

namespace Go.Proofs.YtagfnnongamneaaGreatDoor
open Go.RowKit Go.Lib

/-- The factor that Power takes. -/
def clampK (k : Int) : Int := min (max k (-1001)) 1001

/-- The first j elements of k times x. -/
def timesTo (x : List Int) (k : Int) : Nat → List Int
  | 0 => []
  | j + 1 => timesTo x k j ++ [k * x[j]?.getD 0]
theorem timesTo_len (x : List Int) (k : Int) : ∀ j, (timesTo x k j).length = j
  | 0 => rfl
  | j + 1 => by rw [timesTo, List.length_append, timesTo_len x k j]; rfl

theorem mul_bound {k a : Int} (hk : -1001 ≤ k ∧ k ≤ 1001) (ha : -1000 ≤ a ∧ a ≤ 1000) : -1001000 ≤ k * a ∧ k * a ≤ 1001000 := by
  have h1 : (k * a).natAbs ≤ 1001 * 1000 := by
    rw [Int.natAbs_mul]
    exact Nat.mul_le_mul (by omega) (by omega)
  omega

/-- What a function returns whose result is checked. -/
def ResPost (p z : List Int) (e : Ending) (w' : World) : Prop :=
  (chkAll p [z] = 0 ∧ ∃ v, e = .returned (.tuple #[v, .int .i64 0]) ∧ IsRow w' w'.heap.size v z) ∨
  (chkAll p [z] ≠ 0 ∧ e = .returned (.tuple #[.slice Option.none 0 0, .int .i64 4]))

end Go.Proofs.YtagfnnongamneaaGreatDoor

namespace Go.Proofs.YtagfnnongamneaaGreatDoor
open Go.RowKit Go.Lib

/-- The first j elements of x plus k times y. -/
def sumTo (x y : List Int) (k : Int) : Nat → List Int
  | 0 => []
  | j + 1 => sumTo x y k j ++ [x[j]?.getD 0 + k * y[j]?.getD 0]
theorem sumTo_len (x y : List Int) (k : Int) : ∀ j, (sumTo x y k j).length = j
  | 0 => rfl
  | j + 1 => by rw [sumTo, List.length_append, sumTo_len x y k j]; rfl

theorem cell_lt_add {w : World} {a : Addr} {j : Nat} {v : Value} (h : w.cell? (a.add j) = some v) : a.block < w.heap.size := by
  have := cell_lt h
  rw [add_block] at this
  exact this
theorem right_two {p x y : List Int} (h : chkAll p [x, y] = 0) : Right p x ∧ Right p y := ⟨right_of (chk_two h).1, right_of (chk_two h).2⟩

end Go.Proofs.YtagfnnongamneaaGreatDoor

namespace Go.Proofs.YtagfnnongamneaaGreatDoor
open Go.RowKit Go.Lib

/-- The contract of CheckAll with two rows in a new list. -/
theorem checkTwo (AP AX AY : Option Addr) (cp cx cy : Nat) (p x y : List Int) (w : World) (hp : IsRow w w.heap.size (.slice AP p.length cp) p) (hx : IsRow w w.heap.size (.slice AX x.length cx) x) (hy : IsRow w w.heap.size (.slice AY y.length cy) y) :
    Calls Tryz.prog 113 #[.slice AP p.length cp, .slice (some ⟨w.heap.size, 0, Option.none⟩) 2 2] (w.alloc (.cells #[.slice AX x.length cx, .slice AY y.length cy] 41)) fun e w' => e = .returned (.int .i64 (chkAll p [x, y])) ∧ Below w.heap.size w w' := by
  have h := checkAll_any (.slice AP p.length cp) p (some ⟨w.heap.size, 0, Option.none⟩) 2 (w.heap.size + 1) [x, y] (w.alloc (.cells #[.slice AX x.length cx, .slice AY y.length cy] 41)) ((hp.alloc (Nat.le_refl _) _).up (by omega)) (rowsAt_two w _ _ x y _ hx hy) (by simp)
  exact h.mono fun e w' ⟨h1, h2⟩ => ⟨h1, h2 ▸ (Below.refl _ _).alloc (Nat.le_refl _) _⟩

set_option maxHeartbeats 400000 in
theorem compare_err (AP AX AY : Option Addr) (cp cx cy : Nat) (p x y : List Int) (w : World) (hp : IsRow w w.heap.size (.slice AP p.length cp) p) (hx : IsRow w w.heap.size (.slice AX x.length cx) x) (hy : IsRow w w.heap.size (.slice AY y.length cy) y) (h : (chkAll p [x, y] != 0) = true) :
    Calls Tryz.prog 66 #[.slice AP p.length cp, .slice AX x.length cx, .slice AY y.length cy] w fun e w' => e = .returned (.tuple #[.int .i64 0, .int .i64 (chkAll p [x, y])]) ∧ Below w.heap.size w w' := by
  have HC := Lib.hid (checkTwo AP AX AY cp cx cy p x y w hp hx hy)
  generalize chkAll p [x, y] = q at *
  clear hp hx hy
  go_enter Tryz.func66, Tryz.ntmps66
  go_wp2_with fail
  refine HC.out.mono ?_
  rintro e w1 ⟨rfl, hb1⟩
  go_wp2_with fail
  go_ret2
  exact ⟨rfl, hb1⟩

end Go.Proofs.YtagfnnongamneaaGreatDoor

namespace Go.Proofs.YtagfnnongamneaaGreatDoor
open Go.RowKit Go.Lib

theorem chk_both {p x y : List Int} (hx : chkAll p [x] = 0) (hy : chkAll p [y] = 0) : chkAll p [x, y] = 0 := by
  unfold chkAll at *
  by_cases hp : primeErr p = 0
  · rw [if_neg (by simpa using hp)] at *
    simp only [rowsErr] at *
    by_cases h1 : rowErr p.length x = 0
    · by_cases h2 : rowErr p.length y = 0
      · simp [h1, h2]
      · simp [h2] at hy
    · simp [h1] at hx
  · rw [if_pos hp] at hx
    exact absurd hx hp

/-! ### Small exponents -/

/-- A row over p whose elements are at most m in size. -/
structure SmallRow (p : List Int) (m : Int) (x : List Int) : Prop where
  len : x.length = p.length
  le : ∀ j, j < x.length → -m ≤ x[j]?.getD 0 ∧ x[j]?.getD 0 ≤ m

theorem SmallRow.chk {p x : List Int} {m : Int} (h : SmallRow p m x) (hp : primeErr p = 0) (hm : m ≤ 1000) : chkAll p [x] = 0 := by
  refine chk_small hp h.len fun v hv => ?_
  obtain ⟨j, hj, rfl⟩ := List.getElem_of_mem hv
  have := h.le j hj
  rw [List.getElem?_eq_getElem hj] at this
  simp at this
  omega

theorem sumTo_get (x y : List Int) (k : Int) (j : Nat) : ∀ n, j < n → (sumTo x y k n)[j]?.getD 0 = x[j]?.getD 0 + k * y[j]?.getD 0
  | 0, h => by omega
  | n + 1, h => by
    rw [sumTo]
    by_cases hj : j < n
    · rw [List.getElem?_append_left (by rw [sumTo_len]; exact hj), sumTo_get x y k j n hj]
    · obtain rfl : j = n := by omega
      rw [List.getElem?_append_right (by rw [sumTo_len]; exact Nat.le_refl _), sumTo_len]
      simp

theorem timesTo_get (x : List Int) (k : Int) (j : Nat) : ∀ n, j < n → (timesTo x k n)[j]?.getD 0 = k * x[j]?.getD 0
  | 0, h => by omega
  | n + 1, h => by
    rw [timesTo]
    by_cases hj : j < n
    · rw [List.getElem?_append_left (by rw [timesTo_len]; exact hj), timesTo_get x k j n hj]
    · obtain rfl : j = n := by omega
      rw [List.getElem?_append_right (by rw [timesTo_len]; exact Nat.le_refl _), timesTo_len]
      simp

theorem row_ext {x y : List Int} (hl : x.length = y.length) (h : ∀ j, j < x.length → x[j]?.getD 0 = y[j]?.getD 0) : x = y := by
  refine List.ext_getElem hl fun j h1 h2 => ?_
  have := h j h1
  rw [List.getElem?_eq_getElem h1, List.getElem?_eq_getElem h2] at this
  simpa using this

theorem SmallRow.sum {p x y : List Int} {a b : Int} (hx : SmallRow p a x) (hy : SmallRow p b y) (k : Int) (hk : k = 1 ∨ k = -1) : SmallRow p (a + b) (sumTo x y k x.length) := by
  refine ⟨by rw [sumTo_len]; exact hx.len, fun j hj => ?_⟩
  rw [sumTo_len] at hj
  rw [sumTo_get x y k j _ hj]
  have h1 := hx.le j hj
  have h2 := hy.le j (by rw [hy.len, ← hx.len]; exact hj)
  rcases hk with rfl | rfl <;> omega

theorem SmallRow.neg {p x : List Int} {a : Int} (hx : SmallRow p a x) : SmallRow p a (timesTo x (-1) x.length) := by
  refine ⟨by rw [timesTo_len]; exact hx.len, fun j hj => ?_⟩
  rw [timesTo_len] at hj
  rw [timesTo_get x (-1) j _ hj]
  have h1 := hx.le j hj
  omega

/-- The post of a function whose result is right. -/
theorem ResPost.yes {p z : List Int} {e : Ending} {w' : World} (h : ResPost p z e w') (h0 : chkAll p [z] = 0) : ∃ v, e = .returned (.tuple #[v, .int .i64 0]) ∧ IsRow w' w'.heap.size v z := by
  rcases h with ⟨_, h⟩ | ⟨h, _⟩
  · exact h
  · exact absurd h0 h

/-- A right result, as a post. -/
def RowPost (z : List Int) (e : Ending) (w' : World) : Prop := ∃ A c, e = .returned (.tuple #[.slice A z.length c, .int .i64 0]) ∧ IsRow w' w'.heap.size (.slice A z.length c) z
theorem ResPost.row {p z : List Int} {e : Ending} {w' : World} (h : ResPost p z e w') (h0 : chkAll p [z] = 0) : RowPost z e w' := by
  obtain ⟨v, he, hr⟩ := h.yes h0
  obtain ⟨A, c, rfl⟩ := hr.shape
  exact ⟨A, c, he, hr⟩

end Go.Proofs.YtagfnnongamneaaGreatDoor
