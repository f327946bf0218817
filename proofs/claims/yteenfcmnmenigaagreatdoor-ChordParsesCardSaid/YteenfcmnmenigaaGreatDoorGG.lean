/- Same, Brackets; known. known. schismalaw12.check, few; plain facts on the errors of lists. monzo.Power and Neg of right intervals. monzo.sum of right intervals; Add, Sub. The errors of all functions with intervals. monzo.Add, Sub and Neg of right intervals. Products of powers of different primes: exponents are found again; sums of exponents. Plain. -/
import Derived.Test.YteenfcmnmenigaaGreatDoorGE
import Derived.Deep.RegionHeld3
import Derived.Deep.AppendLies
namespace Go.Proofs.YteenfcmnmenigaaGreatDoor
open Go.RowKit Go.Lib

/-- Whether two rows are equal, as Same says it. -/
def sameB (x y : List Int) : Bool := decide (x = y)

theorem same_upto {x y : List Int} {k : Nat} (hl : x.length = y.length) (h : x.take k = y.take k) (hk : k < x.length) (he : x[k]?.getD 0 = y[k]?.getD 0) : x.take (k + 1) = y.take (k + 1) := by
  rw [List.take_succ_eq_append_getElem hk, List.take_succ_eq_append_getElem (by omega), h]
  rw [List.getElem?_eq_getElem hk, List.getElem?_eq_getElem (by omega)] at he
  simp at he
  rw [he]

/-! ### Brackets -/

theorem rowChk_right {p x : List Int} (h : Right p x) : rowChk x = 0 ∧ x.length ≤ 64 ∧ ∀ k, k < x.length → -1000000000 ≤ x[k]?.getD 0 ∧ x[k]?.getD 0 ≤ 1000000000 := by
  have h1 := h.len
  have h2 := h.six
  refine ⟨?_, by omega, fun k hk => by have := h.ex k hk; omega⟩
  unfold rowChk
  rw [if_neg]
  rintro (h3 | h3)
  · omega
  · obtain ⟨v, hv, hf⟩ := List.any_eq_true.1 h3
    obtain ⟨k, hk, rfl⟩ := List.getElem_of_mem hv
    have := h.ex k hk
    rw [List.getElem?_eq_getElem hk] at this
    unfold fitsB at hf
    simp at hf this
    omega

theorem itoa_short (z : Int) (h : -1000000000 ≤ z ∧ z ≤ 1000000000) : (itoa z).length ≤ 11 := by
  have h1 := itoa_len z
  rw [dec_length] at h1
  have := nDigits_le (u := z.natAbs) (k := 10) (by omega) (by omega)
  omega

theorem inter_len (sep : List UInt8) : ∀ (l : List (List UInt8)) (m : Nat), (∀ s ∈ l, s.length ≤ m) → (sep.intercalate l).length ≤ l.length * (m + sep.length)
  | [], m, _ => by simp [List.intercalate]
  | [a], m, h => by
    have := h a (by simp)
    simp [List.intercalate]
    omega
  | a :: b :: l, m, h => by
    have h1 := h a (by simp)
    have h2 := inter_len sep (b :: l) m (fun s hs => h s (by simp [hs]))
    have e : sep.intercalate (a :: b :: l) = a ++ (sep ++ sep.intercalate (b :: l)) := by simp [List.intercalate, List.intersperse]
    rw [e]
    simp only [List.length_append, List.length_cons] at *
    rw [Nat.add_mul (l.length + 1) 1]
    omega

theorem rowTxt_len {x : List Int} (h64 : x.length ≤ 64) (h : ∀ k, k < x.length → -1000000000 ≤ x[k]?.getD 0 ∧ x[k]?.getD 0 ≤ 1000000000) : (rowTxt x).length ≤ 1000 := by
  have h1 := inter_len [32] (words x) 11 (fun s hs => by
    obtain ⟨z, hz, rfl⟩ := List.mem_map.1 hs
    obtain ⟨k, hk, rfl⟩ := List.getElem_of_mem hz
    have := h k hk
    rw [List.getElem?_eq_getElem hk] at this
    exact itoa_short _ (by simpa using this))
  have h2 : (words x).length = x.length := by simp [words]
  rw [h2] at h1
  have h3 : x.length * (11 + [(32 : UInt8)].length) ≤ 64 * 12 := Nat.mul_le_mul h64 (by simp)
  unfold rowTxt Lib.join
  omega

end Go.Proofs.YteenfcmnmenigaaGreatDoor

namespace Go.Proofs.YteenfcmnmenigaaGreatDoor
open Go.RowKit Go.Lib

theorem d81 : decDigits 81 = [56, 49] := by rw [dec_big (by omega), dec_small (by omega)]; rfl
theorem d80 : decDigits 80 = [56, 48] := by rw [dec_big (by omega), dec_small (by omega)]; rfl
theorem d7 : decDigits 7 = [55] := by rw [dec_small (by omega)]; rfl
theorem d4 : decDigits 4 = [52] := by rw [dec_small (by omega)]; rfl
theorem d1 : decDigits 1 = [49] := by rw [dec_small (by omega)]; rfl
theorem d6480 : decDigits 6480 = [54, 52, 56, 48] := by rw [dec_big (by omega), dec_big (by omega), dec_big (by omega), dec_small (by omega)]; rfl

theorem kp : primeErr [2, 3, 5] = 0 := by decide
theorem kc1 : chkAll [2, 3, 5] [[-4, 4, -1]] = 0 := by decide
theorem kc2 : chkAll [2, 3, 5] [[-1, 1, 0], [3, -3, 1]] = 0 := by decide
theorem kn : num [2, 3, 5] [-4, 4, -1] = 81 ∧ den [2, 3, 5] [-4, 4, -1] = 80 := by decide
theorem kcmp : cmpN (num [2, 3, 5] [-1, 1, 0] * den [2, 3, 5] [3, -3, 1]) (num [2, 3, 5] [3, -3, 1] * den [2, 3, 5] [-1, 1, 0]) = 1 := by decide
theorem k81 : leftTo [2, 3, 5] 81 3 = 1 ∧ leftTo [2, 3, 5] 80 3 = 1 ∧ expsTo [2, 3, 5] 81 80 3 = [-4, 4, -1] := by
  have a1 : left 2 81 = 81 ∧ mult 2 81 = 0 := ⟨left_no (by omega), mult_no (by omega)⟩
  have a2 : left 3 81 = 1 ∧ mult 3 81 = 4 := by
    rw [left_yes (by omega), mult_yes (by omega), left_yes (by omega), mult_yes (by omega), left_yes (by omega), mult_yes (by omega), left_yes (by omega), mult_yes (by omega), left_no (by omega), mult_no (by omega)]
    exact ⟨rfl, rfl⟩
  have a3 : left 5 1 = 1 ∧ mult 5 1 = 0 := ⟨left_no (by omega), mult_no (by omega)⟩
  have b1 : left 2 80 = 5 ∧ mult 2 80 = 4 := by
    rw [left_yes (by omega), mult_yes (by omega), left_yes (by omega), mult_yes (by omega), left_yes (by omega), mult_yes (by omega), left_yes (by omega), mult_yes (by omega), left_no (by omega), mult_no (by omega)]
    exact ⟨rfl, rfl⟩
  have b2 : left 3 5 = 5 ∧ mult 3 5 = 0 := ⟨left_no (by omega), mult_no (by omega)⟩
  have b3 : left 5 5 = 1 ∧ mult 5 5 = 1 := by
    rw [left_yes (by omega), mult_yes (by omega), left_no (by omega), mult_no (by omega)]
    exact ⟨rfl, rfl⟩
  simp [leftTo, expsTo, a1.1, a1.2, a2.1, a2.2, a3.1, a3.2, b1.1, b1.2, b2.1, b2.2, b3.1, b3.2]
theorem k7 : leftTo [2, 3, 5] 7 3 = 7 := by
  have a1 : left 2 7 = 7 := left_no (by omega)
  have a2 : left 3 7 = 7 := left_no (by omega)
  have a3 : left 5 7 = 7 := left_no (by omega)
  simp [leftTo, a1, a2, a3]
theorem ktxt : 91 :: rowTxt [-4, 4, -1] ++ [62] = [91, 45, 52, 32, 52, 32, 45, 49, 62] := by
  have e1 : itoa (-4) = [45, 52] := by rw [show (-4 : Int) = -((4 : Nat) : Int) from rfl, itoa_neg 4 (by omega), d4]
  have e2 : itoa 4 = [52] := by rw [show (4 : Int) = ((4 : Nat) : Int) from rfl, itoa_nat 4, d4]
  have e3 : itoa (-1) = [45, 49] := by rw [show (-1 : Int) = -((1 : Nat) : Int) from rfl, itoa_neg 1 (by omega), d1]
  simp [rowTxt, words, e1, e2, e3, Lib.join, List.intercalate, List.intersperse]
theorem krat : ratText [56, 49] [56, 48] = [56, 49, 47, 56, 48] := by decide

theorem isRow_new (w : World) (t : TypeId) (x : List Int) (cs : Array Value) (hc : cs.toList = is x) (hl : x.length ≤ 1000000) (n : Nat) (hn : x.length = n) : IsRow (w.alloc (.cells cs t)) (w.heap.size + 1) (.slice (some ⟨w.heap.size, 0, Option.none⟩) n n) x := by
  subst hn
  have h := Cells.new w t cs
  rw [hc] at h
  exact ⟨_, _, rfl, Nat.le_refl _, by unfold maxLen; omega, h.row (by omega) (is_length x)⟩

end Go.Proofs.YteenfcmnmenigaaGreatDoor

namespace Go.Proofs.YteenfcmnmenigaaGreatDoor
open Go.RowKit Go.Lib

theorem chk_one (p x : List Int) : chkAll p [x] = if primeErr p ≠ 0 then primeErr p else rowErr p.length x := by
  unfold chkAll
  by_cases h : primeErr p = 0
  · rw [if_neg (by simpa using h), if_neg (by simpa using h)]
    simp only [rowsErr]
    by_cases h2 : rowErr p.length x = 0
    · rw [if_neg (by simpa using h2), h2]
    · rw [if_pos h2]
  · rw [if_pos h, if_pos h]
theorem chk_pair_err {p x y : List Int} (h : chkAll p [x] ≠ 0) : chkAll p [x, y] = chkAll p [x] := by
  unfold chkAll at *
  by_cases hp : primeErr p = 0
  · rw [if_neg (by simpa using hp)] at h ⊢
    rw [if_neg (by simpa using hp)]
    simp only [rowsErr] at *
    by_cases h1 : rowErr p.length x = 0
    · rw [if_neg (by simpa using h1)] at h
      exact absurd rfl h
    · rw [if_pos h1, if_pos h1]
  · rw [if_pos hp, if_pos hp]
theorem chk_pair_ok {p x y : List Int} (h : chkAll p [x] = 0) : chkAll p [x, y] = chkAll p [y] := by
  unfold chkAll at *
  by_cases hp : primeErr p = 0
  · rw [if_neg (by simpa using hp)] at h ⊢
    rw [if_neg (by simpa using hp)]
    simp only [rowsErr] at *
    by_cases h1 : rowErr p.length x = 0
    · rw [if_neg (by simpa using h1)]
    · rw [if_pos h1] at h
      exact absurd h h1
  · rw [if_pos hp, if_pos hp]
theorem chk_none (p : List Int) : chkAll p [] = primeErr p := by
  unfold chkAll
  by_cases hp : primeErr p = 0
  · rw [if_neg (by simpa using hp), hp]; rfl
  · rw [if_pos hp]

def fewB (p x : List Int) : Bool := decide (p.length ≤ 8) && decide (x.length ≤ 8)
end Go.Proofs.YteenfcmnmenigaaGreatDoor

namespace Go.Proofs.YteenfcmnmenigaaGreatDoor
open Go.RowKit Go.Lib

/-- The factor that Power takes. -/
def clampK (k : Int) : Int := min (max k (-1001)) 1001

/-- The first j elements of k times x. -/
def timesTo (x : List Int) (k : Int) : Nat → List Int
  | 0 => []
  | j + 1 => timesTo x k j ++ [k * x[j]?.getD 0]
theorem timesTo_len (x : List Int) (k : Int) : ∀ j, (timesTo x k j).length = j
  | 0 => rfl
  | j + 1 => by rw [timesTo, List.length_append, timesTo_len x k j]; rfl

theorem mul_bound {k a : Int} (hk : -1001 ≤ k ∧ k ≤ 1001) (ha : -1000 ≤ a ∧ a ≤ 1000) : -1001000 ≤ k * a ∧ k * a ≤ 1001000 := by
  have h1 : (k * a).natAbs ≤ 1001 * 1000 := by
    rw [Int.natAbs_mul]
    exact Nat.mul_le_mul (by omega) (by omega)
  omega

/-- What a function returns whose result is checked. -/
def ResPost (p z : List Int) (e : Ending) (w' : World) : Prop :=
  (chkAll p [z] = 0 ∧ ∃ v, e = .returned (.tuple #[v, .int .i64 0]) ∧ IsRow w' w'.heap.size v z) ∨
  (chkAll p [z] ≠ 0 ∧ e = .returned (.tuple #[.slice Option.none 0 0, .int .i64 4]))

end Go.Proofs.YteenfcmnmenigaaGreatDoor

namespace Go.Proofs.YteenfcmnmenigaaGreatDoor
open Go.RowKit Go.Lib

/-- The first j elements of x plus k times y. -/
def sumTo (x y : List Int) (k : Int) : Nat → List Int
  | 0 => []
  | j + 1 => sumTo x y k j ++ [x[j]?.getD 0 + k * y[j]?.getD 0]
theorem sumTo_len (x y : List Int) (k : Int) : ∀ j, (sumTo x y k j).length = j
  | 0 => rfl
  | j + 1 => by rw [sumTo, List.length_append, sumTo_len x y k j]; rfl

theorem cell_lt_add {w : World} {a : Addr} {j : Nat} {v : Value} (h : w.cell? (a.add j) = some v) : a.block < w.heap.size := by
  have := cell_lt h
  rw [add_block] at this
  exact this
theorem right_two {p x y : List Int} (h : chkAll p [x, y] = 0) : Right p x ∧ Right p y := ⟨right_of (chk_two h).1, right_of (chk_two h).2⟩

/-- The same, with the row in a block that the call made. -/
def ResPostO (p z : List Int) (e : Ending) (w' : World) : Prop :=
  (chkAll p [z] = 0 ∧ ∃ v, e = .returned (.tuple #[v, .int .i64 0]) ∧ w'.ownsRow 0 3 1 v z.length (is z)) ∨
  (chkAll p [z] ≠ 0 ∧ e = .returned (.tuple #[.slice Option.none 0 0, .int .i64 4]))
theorem ResPostO.res {p z : List Int} {e : Ending} {w' : World} (h : ResPostO p z e w') : ResPost p z e w' := by
  rcases h with ⟨h1, v, h2, h3⟩ | h
  · exact .inl ⟨h1, v, h2, IsRow.of_own h3⟩
  · exact .inr h

set_option maxRecDepth 100000 in
set_option maxHeartbeats 2000000 in
theorem sum_loopO (AP AX AY : Option Addr) (cp cx cy : Nat) (p x y : List Int) (k : Int) (w : World) (hp : IsRow w w.heap.size (.slice AP p.length cp) p) (hx : IsRow w w.heap.size (.slice AX x.length cx) x) (hy : IsRow w w.heap.size (.slice AY y.length cy) y) (h : chkAll p [x, y] = 0) (hk : k = 1 ∨ k = -1)
    (HC : Hid (Calls Tryz.prog 36 #[.slice AP p.length cp, .slice (some ⟨w.heap.size, 0, Option.none⟩) 2 2] (w.alloc (.cells #[.slice AX x.length cx, .slice AY y.length cy] 31)) fun e w' => e = .returned (.int .i64 0) ∧ Below w.heap.size w w')) :
    Calls Tryz.prog 75 #[.slice AP p.length cp, .slice AX x.length cx, .slice AY y.length cy, .int .i64 k] w fun e w' => ResPostO p (sumTo x y k x.length) e w' ∧ Below w.heap.size w w' := by
  have HP := Lib.hid hp
  obtain ⟨i0, hi0, hz0, hz1, hz2⟩ := info_parts Tryz.info_int
  obtain ⟨hrx, hry⟩ := right_two h
  have hl1 := hrx.len
  have hl2 := hry.len
  have h6 := hrx.six
  have HXY : Box (x.length = y.length) := ⟨by omega⟩
  have HEX : Box (∀ j, j < x.length → (-1000 ≤ x[j]?.getD 0 ∧ x[j]?.getD 0 ≤ 1000) ∧ (-1000 ≤ y[j]?.getD 0 ∧ y[j]?.getD 0 ≤ 1000)) := ⟨fun j hj => ⟨hrx.ex j hj, hry.ex j (by omega)⟩⟩
  have HK : Box (k = 1 ∨ k = -1) := ⟨hk⟩
  have hx6 : x.length ≤ 6 := by omega
  obtain ⟨_, _, ex, _, _, hxr⟩ := hx
  injection ex with e1 _ e4
  subst e1 e4
  obtain ⟨_, _, ey, _, _, hyr⟩ := hy
  injection ey with e2 _ e5
  subst e2 e5
  clear hrx hry hl1 hl2 h6 hk h hp
  go_enter Tryz.func75, Tryz.ntmps75
  go_wp2_with fail
  refine HC.out.mono ?_
  rintro e w1 ⟨rfl, hb1⟩
  go_wp2_with fail
  go_loopw [11, 23] (fun o i wr => ∃ j : Nat, j ≤ x.length ∧ i = .int .i64 j ∧ wr.ownsRow w.heap.size 3 1 o j (is (sumTo x y k j)) ∧ Below w.heap.size w wr) (fun _ i _ => x.length - (intOf i).toNat)
  case atStart => exact ⟨0, Nat.zero_le _, rfl, World.ownsRow_nil _ _ _ _, hb1⟩
  case round =>
    clear hb1
    obtain ⟨j, hj, rfl, hown, hbw⟩ := hrel
    have HO := Lib.hid hown
    clear hown
    by_cases hlt : j < x.length
    · obtain ⟨ad1, rfl, _, hc1⟩ := (hxr.below hbw (Nat.le_refl _)).i_at hlt
      obtain ⟨ad2, rfl, _, hc2⟩ := (hyr.below hbw (Nat.le_refl _)).i_at (k := j) (by rw [← HXY.out]; exact hlt)
      have hbd := HEX.out j hlt
      have e3 : sumTo x y k (j + 1) = sumTo x y k j ++ [x[j]?.getD 0 + k * y[j]?.getD 0] := rfl
      generalize x[j]?.getD 0 = a at *
      generalize y[j]?.getD 0 = b at *
      have E3 := Lib.hid e3
      clear e3
      have hkb : -1000 ≤ k * b ∧ k * b ≤ 1000 := by rcases HK.out with h | h <;> subst h <;> omega
      have hly : (j : Int) < (y.length : Int) := by have := HXY.out; omega
      have hlx : (j : Int) < (x.length : Int) := by omega
      have hj0 : (0 : Int) ≤ (j : Int) := by omega
      go_wp2
      have hw1 : IntKind.i64.wrap (k * b) = k * b := IntWalk.i64_in _ (by omega)
      have hw2 : IntKind.i64.wrap (a + k * b) = a + k * b := IntWalk.i64_in _ (by omega)
      have hb1 : ad1.block < wr.heap.size := cell_lt_add hc1
      have hb2 : ad2.block < wr.heap.size := cell_lt_add hc2
      go_region_held3 (fun w' => w'.cell? (ad1.add j) = some (.int .i64 a) ∧ w'.cell? (ad2.add j) = some (.int .i64 b))
        (first | go_keep | (go_split_ands; exact ⟨(hgrow.cell_far _ (by rw [add_block]; simp; omega) (by rw [add_block]; exact fun e => by have := (HO.out.lt _ e.symm).1; omega)).trans (by assumption), (hgrow.cell_far _ (by rw [add_block]; simp; omega) (by rw [add_block]; exact fun e => by have := (HO.out.lt _ e.symm).1; omega)).trans (by assumption)⟩))
        ((refine step_append_lies _ (by rfl) _ _ _ (by rfl) w.heap.size 3 i0 _ 1 8 Tryz.underlying31 hi0 hz0 hz1 hz2 rfl (by omega) u11 j _ (by rfl) ((HO.out.alloc _).drew) ⟨wr.heap.size, 0, Option.none⟩ 1 1 [.int .i64 (a + k * b)] (by rfl) (by rfl) (World.news_of_block (cs := #[.int .i64 (a + k * b)]) (t := 3) (fr := (0, 0)) (heap_alloc_new wr _)) (by simp [Value.oneCell']) (by omega) (by unfold maxLen; omega) (by omega) (by have := hbw.size; simp; omega) (wr.heap.size + 1) (by simp) ?_; intro gg cap w3 hown3 hgrow hat hlt3))
      clear hw1 hw2
      go_wp2
      go_roundw
      case rel =>
        refine ⟨j + 1, by omega, by go_num, ?_, ?_⟩
        · rw [E3.out, is_append]; exact hown3
        · exact ((hbw.alloc hbw.size _).drew).grown hgrow (by have := hbw.size; simp; omega) (fun k hk => (HO.out.lt k hk).1)
      case measure => simp [intOf]; omega
    · obtain rfl : j = x.length := by omega
      have hex : wr.ownsRow w.heap.size 3 1 u11 (sumTo x y k x.length).length (is (sumTo x y k x.length)) := by rw [sumTo_len]; exact HO.out
      have hri := IsRow.of_own hex
      have HRI := Lib.hid (own_base hex (Nat.zero_le _))
      by_cases h0 : chkAll p [sumTo x y k x.length] = 0
      · have HR := Lib.hid (result_yes _ _ p _ wr (HP.out.lift hbw) hri h0)
        have H0 : Box (chkAll p [sumTo x y k x.length] = 0) := ⟨h0⟩
        clear h0 hri hex
        go_wp2_with fail
        refine HR.out.mono ?_
        rintro e w2 ⟨rfl, hb2⟩
        go_wp2_with fail
        go_ret2
        exact ⟨.inl ⟨H0.out, _, rfl, own_below HRI.out hb2⟩, hbw.trans (hb2.mono hbw.size)⟩
      · have HR := Lib.hid (result_no _ _ p _ wr (HP.out.lift hbw) hri (by simpa using h0))
        have H0 : Box (chkAll p [sumTo x y k x.length] ≠ 0) := ⟨h0⟩
        clear h0 hri hex
        go_wp2_with fail
        refine HR.out.mono ?_
        rintro e w2 ⟨rfl, hb2⟩
        go_wp2_with fail
        go_ret2
        exact ⟨.inr ⟨H0.out, rfl⟩, hbw.trans (hb2.mono hbw.size)⟩

theorem sum_loop (AP AX AY : Option Addr) (cp cx cy : Nat) (p x y : List Int) (k : Int) (w : World) (hp : IsRow w w.heap.size (.slice AP p.length cp) p) (hx : IsRow w w.heap.size (.slice AX x.length cx) x) (hy : IsRow w w.heap.size (.slice AY y.length cy) y) (h : chkAll p [x, y] = 0) (hk : k = 1 ∨ k = -1)
    (HC : Hid (Calls Tryz.prog 36 #[.slice AP p.length cp, .slice (some ⟨w.heap.size, 0, Option.none⟩) 2 2] (w.alloc (.cells #[.slice AX x.length cx, .slice AY y.length cy] 31)) fun e w' => e = .returned (.int .i64 0) ∧ Below w.heap.size w w')) :
    Calls Tryz.prog 75 #[.slice AP p.length cp, .slice AX x.length cx, .slice AY y.length cy, .int .i64 k] w fun e w' => ResPost p (sumTo x y k x.length) e w' ∧ Below w.heap.size w w' :=
  (sum_loopO AP AX AY cp cx cy p x y k w hp hx hy h hk HC).mono fun _ _ hr => ⟨hr.1.res, hr.2⟩

end Go.Proofs.YteenfcmnmenigaaGreatDoor

namespace Go.Proofs.YteenfcmnmenigaaGreatDoor
open Go.RowKit Go.Lib

/-- The contract of CheckAll with two rows in a new list. -/
theorem checkTwo (AP AX AY : Option Addr) (cp cx cy : Nat) (p x y : List Int) (w : World) (hp : IsRow w w.heap.size (.slice AP p.length cp) p) (hx : IsRow w w.heap.size (.slice AX x.length cx) x) (hy : IsRow w w.heap.size (.slice AY y.length cy) y) :
    Calls Tryz.prog 36 #[.slice AP p.length cp, .slice (some ⟨w.heap.size, 0, Option.none⟩) 2 2] (w.alloc (.cells #[.slice AX x.length cx, .slice AY y.length cy] 31)) fun e w' => e = .returned (.int .i64 (chkAll p [x, y])) ∧ Below w.heap.size w w' := by
  have h := checkAll_any (.slice AP p.length cp) p (some ⟨w.heap.size, 0, Option.none⟩) 2 (w.heap.size + 1) [x, y] (w.alloc (.cells #[.slice AX x.length cx, .slice AY y.length cy] 31)) ((hp.alloc (Nat.le_refl _) _).up (by omega)) (rowsAt_two w _ _ x y _ hx hy) (by simp)
  exact h.mono fun e w' ⟨h1, h2⟩ => ⟨h1, h2 ▸ (Below.refl _ _).alloc (Nat.le_refl _) _⟩

set_option maxHeartbeats 400000 in
theorem sum_err (AP AX AY : Option Addr) (cp cx cy : Nat) (p x y : List Int) (k : Int) (w : World) (hp : IsRow w w.heap.size (.slice AP p.length cp) p) (hx : IsRow w w.heap.size (.slice AX x.length cx) x) (hy : IsRow w w.heap.size (.slice AY y.length cy) y) (h : (chkAll p [x, y] != 0) = true) :
    Calls Tryz.prog 75 #[.slice AP p.length cp, .slice AX x.length cx, .slice AY y.length cy, .int .i64 k] w fun e w' => e = .returned (.tuple #[.slice Option.none 0 0, .int .i64 (chkAll p [x, y])]) ∧ Below w.heap.size w w' := by
  have HC := Lib.hid (checkTwo AP AX AY cp cx cy p x y w hp hx hy)
  generalize chkAll p [x, y] = q at *
  clear hp hx hy
  go_enter Tryz.func75, Tryz.ntmps75
  go_wp2_with fail
  refine HC.out.mono ?_
  rintro e w1 ⟨rfl, hb1⟩
  go_wp2_with fail
  go_ret2
  exact ⟨rfl, hb1⟩

set_option maxHeartbeats 400000 in
theorem sub_err (AP AX AY : Option Addr) (cp cx cy : Nat) (p x y : List Int) (w : World) (hp : IsRow w w.heap.size (.slice AP p.length cp) p) (hx : IsRow w w.heap.size (.slice AX x.length cx) x) (hy : IsRow w w.heap.size (.slice AY y.length cy) y) (h : (chkAll p [x, y] != 0) = true) :
    Calls Tryz.prog 48 #[.slice AP p.length cp, .slice AX x.length cx, .slice AY y.length cy] w fun e w' => e = .returned (.tuple #[.slice Option.none 0 0, .int .i64 (chkAll p [x, y])]) ∧ Below w.heap.size w w' := by
  have HC := Lib.hid (sum_err AP AX AY cp cx cy p x y (-1) w hp hx hy h)
  generalize chkAll p [x, y] = q at *
  clear hp hx hy
  go_enter Tryz.func48, Tryz.ntmps48
  go_wp2_with fail
  refine HC.out.mono ?_
  rintro e w1 ⟨rfl, hb1⟩
  go_wp2_with fail
  go_ret2
  exact ⟨rfl, hb1⟩

set_option maxHeartbeats 400000 in
theorem compare_err (AP AX AY : Option Addr) (cp cx cy : Nat) (p x y : List Int) (w : World) (hp : IsRow w w.heap.size (.slice AP p.length cp) p) (hx : IsRow w w.heap.size (.slice AX x.length cx) x) (hy : IsRow w w.heap.size (.slice AY y.length cy) y) (h : (chkAll p [x, y] != 0) = true) :
    Calls Tryz.prog 42 #[.slice AP p.length cp, .slice AX x.length cx, .slice AY y.length cy] w fun e w' => e = .returned (.tuple #[.int .i64 0, .int .i64 (chkAll p [x, y])]) ∧ Below w.heap.size w w' := by
  have HC := Lib.hid (checkTwo AP AX AY cp cx cy p x y w hp hx hy)
  generalize chkAll p [x, y] = q at *
  clear hp hx hy
  go_enter Tryz.func42, Tryz.ntmps42
  go_wp2_with fail
  refine HC.out.mono ?_
  rintro e w1 ⟨rfl, hb1⟩
  go_wp2_with fail
  go_ret2
  exact ⟨rfl, hb1⟩

end Go.Proofs.YteenfcmnmenigaaGreatDoor

namespace Go.Proofs.YteenfcmnmenigaaGreatDoor
open Go.RowKit Go.Lib

theorem chk_both {p x y : List Int} (hx : chkAll p [x] = 0) (hy : chkAll p [y] = 0) : chkAll p [x, y] = 0 := by
  unfold chkAll at *
  by_cases hp : primeErr p = 0
  · rw [if_neg (by simpa using hp)] at *
    simp only [rowsErr] at *
    by_cases h1 : rowErr p.length x = 0
    · by_cases h2 : rowErr p.length y = 0
      · simp [h1, h2]
      · simp [h2] at hy
    · simp [h1] at hx
  · rw [if_pos hp] at hx
    exact absurd hx hp

theorem sum_ok (AP AX AY : Option Addr) (cp cx cy : Nat) (p x y : List Int) (k : Int) (w : World) (hp : IsRow w w.heap.size (.slice AP p.length cp) p) (hx : IsRow w w.heap.size (.slice AX x.length cx) x) (hy : IsRow w w.heap.size (.slice AY y.length cy) y) (h : chkAll p [x, y] = 0) (hk : k = 1 ∨ k = -1) :
    Calls Tryz.prog 75 #[.slice AP p.length cp, .slice AX x.length cx, .slice AY y.length cy, .int .i64 k] w fun e w' => ResPost p (sumTo x y k x.length) e w' ∧ Below w.heap.size w w' := by
  have hc := checkTwo AP AX AY cp cx cy p x y w hp hx hy
  rw [h] at hc
  exact sum_loop AP AX AY cp cx cy p x y k w hp hx hy h hk (Lib.hid hc)

set_option maxHeartbeats 400000 in
theorem sub_ok (pv xv yv : Value) (p x y : List Int) (w : World) (hp : IsRow w w.heap.size pv p) (hx : IsRow w w.heap.size xv x) (hy : IsRow w w.heap.size yv y) (h : chkAll p [x, y] = 0) :
    Calls Tryz.prog 48 #[pv, xv, yv] w fun e w' => ResPost p (sumTo x y (-1) x.length) e w' ∧ Below w.heap.size w w' := by
  obtain ⟨AP, cp, rfl⟩ := hp.shape
  obtain ⟨AX, cx, rfl⟩ := hx.shape
  obtain ⟨AY, cy, rfl⟩ := hy.shape
  have HC := Lib.hid (sum_ok AP AX AY cp cx cy p x y (-1) w hp hx hy h (.inr rfl))
  clear hp hx hy h
  go_enter Tryz.func48, Tryz.ntmps48
  go_wp2_with fail
  refine HC.out.mono ?_
  rintro e w1 ⟨hr, hb1⟩
  have HR := Lib.hid hr
  rcases hr with ⟨_, v, rfl, _⟩ | ⟨_, rfl⟩
  · go_wp2_with fail
    go_ret2
    exact ⟨HR.out, hb1⟩
  · go_wp2_with fail
    go_ret2
    exact ⟨HR.out, hb1⟩

/-! ### Small exponents -/

/-- A row over p whose elements are at most m in size. -/
structure SmallRow (p : List Int) (m : Int) (x : List Int) : Prop where
  len : x.length = p.length
  le : ∀ j, j < x.length → -m ≤ x[j]?.getD 0 ∧ x[j]?.getD 0 ≤ m

theorem SmallRow.chk {p x : List Int} {m : Int} (h : SmallRow p m x) (hp : primeErr p = 0) (hm : m ≤ 1000) : chkAll p [x] = 0 := by
  refine chk_small hp h.len fun v hv => ?_
  obtain ⟨j, hj, rfl⟩ := List.getElem_of_mem hv
  have := h.le j hj
  rw [List.getElem?_eq_getElem hj] at this
  simp at this
  omega

theorem sumTo_get (x y : List Int) (k : Int) (j : Nat) : ∀ n, j < n → (sumTo x y k n)[j]?.getD 0 = x[j]?.getD 0 + k * y[j]?.getD 0
  | 0, h => by omega
  | n + 1, h => by
    rw [sumTo]
    by_cases hj : j < n
    · rw [List.getElem?_append_left (by rw [sumTo_len]; exact hj), sumTo_get x y k j n hj]
    · obtain rfl : j = n := by omega
      rw [List.getElem?_append_right (by rw [sumTo_len]; exact Nat.le_refl _), sumTo_len]
      simp

theorem timesTo_get (x : List Int) (k : Int) (j : Nat) : ∀ n, j < n → (timesTo x k n)[j]?.getD 0 = k * x[j]?.getD 0
  | 0, h => by omega
  | n + 1, h => by
    rw [timesTo]
    by_cases hj : j < n
    · rw [List.getElem?_append_left (by rw [timesTo_len]; exact hj), timesTo_get x k j n hj]
    · obtain rfl : j = n := by omega
      rw [List.getElem?_append_right (by rw [timesTo_len]; exact Nat.le_refl _), timesTo_len]
      simp

theorem row_ext {x y : List Int} (hl : x.length = y.length) (h : ∀ j, j < x.length → x[j]?.getD 0 = y[j]?.getD 0) : x = y := by
  refine List.ext_getElem hl fun j h1 h2 => ?_
  have := h j h1
  rw [List.getElem?_eq_getElem h1, List.getElem?_eq_getElem h2] at this
  simpa using this

theorem SmallRow.sum {p x y : List Int} {a b : Int} (hx : SmallRow p a x) (hy : SmallRow p b y) (k : Int) (hk : k = 1 ∨ k = -1) : SmallRow p (a + b) (sumTo x y k x.length) := by
  refine ⟨by rw [sumTo_len]; exact hx.len, fun j hj => ?_⟩
  rw [sumTo_len] at hj
  rw [sumTo_get x y k j _ hj]
  have h1 := hx.le j hj
  have h2 := hy.le j (by rw [hy.len, ← hx.len]; exact hj)
  rcases hk with rfl | rfl <;> omega

theorem SmallRow.neg {p x : List Int} {a : Int} (hx : SmallRow p a x) : SmallRow p a (timesTo x (-1) x.length) := by
  refine ⟨by rw [timesTo_len]; exact hx.len, fun j hj => ?_⟩
  rw [timesTo_len] at hj
  rw [timesTo_get x (-1) j _ hj]
  have h1 := hx.le j hj
  omega

/-- The post of a function whose result is right. -/
theorem ResPost.yes {p z : List Int} {e : Ending} {w' : World} (h : ResPost p z e w') (h0 : chkAll p [z] = 0) : ∃ v, e = .returned (.tuple #[v, .int .i64 0]) ∧ IsRow w' w'.heap.size v z := by
  rcases h with ⟨_, h⟩ | ⟨h, _⟩
  · exact h
  · exact absurd h0 h

/-- A right result, as a post. -/
def RowPost (z : List Int) (e : Ending) (w' : World) : Prop := ∃ A c, e = .returned (.tuple #[.slice A z.length c, .int .i64 0]) ∧ IsRow w' w'.heap.size (.slice A z.length c) z
theorem ResPost.row {p z : List Int} {e : Ending} {w' : World} (h : ResPost p z e w') (h0 : chkAll p [z] = 0) : RowPost z e w' := by
  obtain ⟨v, he, hr⟩ := h.yes h0
  obtain ⟨A, c, rfl⟩ := hr.shape
  exact ⟨A, c, he, hr⟩

theorem sub_small {pv xv yv : Value} {p x y : List Int} {a b : Int} {w : World} (hp : IsRow w w.heap.size pv p) (hx : IsRow w w.heap.size xv x) (hy : IsRow w w.heap.size yv y) (h0 : primeErr p = 0) (sx : SmallRow p a x) (sy : SmallRow p b y) (ha : a ≤ 1000) (hb : b ≤ 1000) (hab : a + b ≤ 1000) :
    Calls Tryz.prog 48 #[pv, xv, yv] w fun e w' => RowPost (sumTo x y (-1) x.length) e w' ∧ Below w.heap.size w w' :=
  (sub_ok pv xv yv p x y w hp hx hy (chk_both (sx.chk h0 ha) (sy.chk h0 hb))).mono fun _ _ ⟨h1, h2⟩ => ⟨h1.row ((sx.sum sy (-1) (.inr rfl)).chk h0 hab), h2⟩
end Go.Proofs.YteenfcmnmenigaaGreatDoor

namespace Go.Proofs.YteenfcmnmenigaaGreatDoor
open Go.Lib

/-! ### Different primes -/

theorem primes_coprime : ∀ a : Nat, a < 98 → ∀ b : Nat, b < 98 → a < b → primeB (a : Int) = true → primeB (b : Int) = true → Nat.gcd a b = 1 := by decide +kernel

theorem pErr_sorted : ∀ (l : List Int) (prev : Option Int), pErr prev l = 0 → (∀ m, prev = some m → ∀ v ∈ l, m < v) ∧ l.Pairwise (· < ·)
  | [], _, _ => ⟨fun _ _ v hv => by simp at hv, List.Pairwise.nil⟩
  | n :: r, prev, h => by
    rw [pErr] at h
    by_cases hp : primeB n = false
    · rw [if_pos hp] at h; omega
    · rw [if_neg hp] at h
      split at h
      · omega
      · rename_i hle
        obtain ⟨h1, h2⟩ := pErr_sorted r _ h
        have h3 := h1 n rfl
        refine ⟨fun m hm v hv => ?_, List.pairwise_cons.2 ⟨h3, h2⟩⟩
        subst hm
        have hlt : m < n := by simp at hle; omega
        rcases List.mem_cons.1 hv with rfl | hv
        · exact hlt
        · have := h3 v hv; omega

/-- A right list of primes. -/
structure Primed (p : List Int) : Prop where
  six : p.length ≤ 6
  one : 1 ≤ p.length
  pr : ∀ k, k < p.length → 2 ≤ p[k]?.getD 0 ∧ p[k]?.getD 0 ≤ 97
  cop : ∀ i j, i < j → j < p.length → Nat.Coprime (p[i]?.getD 0).toNat (p[j]?.getD 0).toNat

theorem primed {p : List Int} (h : primeErr p = 0) : Primed p := by
  obtain ⟨h6, h1, hpr⟩ := right_primes h
  refine ⟨h6, h1, hpr, fun i j hij hj => ?_⟩
  unfold primeErr at h
  rw [if_neg (by omega), if_neg (by omega)] at h
  have hs := (pErr_sorted p _ h).2
  have hp := pErr_zero p _ h
  have hlt := List.pairwise_iff_getElem.1 hs i j (by omega) hj hij
  have hpi := hp p[i] (List.getElem_mem (by omega))
  have hpj := hp p[j] (List.getElem_mem hj)
  have hi := hpr i (by omega)
  have hj' := hpr j hj
  rw [List.getElem?_eq_getElem (show i < p.length by omega)] at hi ⊢
  rw [List.getElem?_eq_getElem hj] at hj' ⊢
  simp only [Option.getD_some] at *
  refine primes_coprime _ (by omega) _ (by omega) (by omega) ?_ ?_
  · rw [Int.toNat_of_nonneg (by omega)]; exact hpi
  · rw [Int.toNat_of_nonneg (by omega)]; exact hpj

/-! ### One prime -/

theorem left_pow (m k r : Nat) (hm : 2 ≤ m) (hr : ¬ m ∣ r) : left m (m ^ k * r) = r ∧ mult m (m ^ k * r) = k := by
  have hr0 : 0 < r := by
    rcases Nat.eq_zero_or_pos r with h | h
    · subst h; exact absurd (Nat.dvd_zero m) hr
    · exact h
  induction k with
  | zero =>
    rw [Nat.pow_zero, Nat.one_mul]
    have : ¬ (2 ≤ m ∧ 0 < r ∧ r % m = 0) := fun h => hr (Nat.dvd_of_mod_eq_zero h.2.2)
    exact ⟨left_no this, mult_no this⟩
  | succ k ih =>
    have e : m ^ (k + 1) * r = m * (m ^ k * r) := by rw [Nat.pow_succ, Nat.mul_comm (m ^ k) m, Nat.mul_assoc]
    have hp : 0 < m ^ k * r := Nat.mul_pos (Nat.pow_pos (by omega)) hr0
    have hy : 2 ≤ m ∧ 0 < m ^ (k + 1) * r ∧ m ^ (k + 1) * r % m = 0 := by rw [e]; exact ⟨hm, Nat.mul_pos (by omega) hp, Nat.mul_mod_right _ _⟩
    rw [left_yes hy, mult_yes hy, e, Nat.mul_div_cancel_left _ (by omega)]
    exact ⟨ih.1, by rw [ih.2]⟩

/-! ### Products of powers -/

/-- The product of the n powers from a on. -/
def pp (p : List Int) (f : Nat → Nat) (a : Nat) : Nat → Nat
  | 0 => 1
  | n + 1 => pp p f a n * (p[a + n]?.getD 0).toNat ^ f (a + n)

theorem pp_front (p : List Int) (f : Nat → Nat) (a : Nat) : ∀ n, pp p f a (n + 1) = (p[a]?.getD 0).toNat ^ f a * pp p f (a + 1) n
  | 0 => by simp [pp]
  | n + 1 => by
    rw [pp, pp_front p f a n, pp, show a + 1 + n = a + (n + 1) by omega, Nat.mul_assoc]

theorem pp_pos (p : List Int) (f : Nat → Nat) (hp : ∀ k, k < p.length → 2 ≤ p[k]?.getD 0) (a : Nat) : ∀ n, a + n ≤ p.length → 0 < pp p f a n
  | 0, _ => by simp [pp]
  | n + 1, h => by
    rw [pp]
    exact Nat.mul_pos (pp_pos p f hp a n (by omega)) (Nat.pow_pos (by have := hp (a + n) (by omega); omega))

theorem pp_coprime (p : List Int) (f : Nat → Nat) (q a : Nat) : ∀ n, (∀ i, a ≤ i → i < a + n → Nat.Coprime q (p[i]?.getD 0).toNat) → Nat.Coprime q (pp p f a n)
  | 0, _ => Nat.coprime_one_right q
  | n + 1, h => by
    rw [pp]
    exact (pp_coprime p f q a n fun i h1 h2 => h i h1 (by omega)).mul_right ((h (a + n) (by omega) (by omega)).pow_right _)

theorem not_dvd_of_coprime {q r : Nat} (hq : 2 ≤ q) (h : Nat.Coprime q r) : ¬ q ∣ r := fun hd => by
  have := h.eq_one_of_dvd hd
  omega

theorem pp_left {p : List Int} (hp : Primed p) (f : Nat → Nat) (a n : Nat) (h : a + (n + 1) = p.length) :
    left (p[a]?.getD 0).toNat (pp p f a (n + 1)) = pp p f (a + 1) n ∧ mult (p[a]?.getD 0).toNat (pp p f a (n + 1)) = f a := by
  rw [pp_front]
  have h2 := (hp.pr a (by omega)).1
  exact left_pow _ _ _ (by omega) (not_dvd_of_coprime (by omega) (pp_coprime p f _ _ n fun i h1 h3 => hp.cop a i (by omega) (by omega)))

theorem leftTo_pp {p : List Int} (hp : Primed p) (f : Nat → Nat) : ∀ k, k ≤ p.length → leftTo p (pp p f 0 p.length) k = pp p f k (p.length - k)
  | 0, _ => rfl
  | k + 1, h => by
    rw [leftTo, leftTo_pp hp f k (by omega), show p.length - k = (p.length - (k + 1)) + 1 by omega]
    exact (pp_left hp f k _ (by omega)).1

theorem mult_pp {p : List Int} (hp : Primed p) (f : Nat → Nat) (k : Nat) (h : k < p.length) : mult (p[k]?.getD 0).toNat (leftTo p (pp p f 0 p.length) k) = f k := by
  rw [leftTo_pp hp f k (by omega), show p.length - k = (p.length - (k + 1)) + 1 by omega]
  exact (pp_left hp f k _ (by omega)).2

theorem expsTo_get (p : List Int) (n d : Nat) (j : Nat) : ∀ k, j < k → (expsTo p n d k)[j]?.getD 0 = (mult (p[j]?.getD 0).toNat (leftTo p n j) : Int) - (mult (p[j]?.getD 0).toNat (leftTo p d j) : Int)
  | 0, h => by omega
  | k + 1, h => by
    rw [expsTo]
    by_cases hj : j < k
    · rw [List.getElem?_append_left (by rw [expsTo_len]; exact hj), expsTo_get p n d j k hj]
    · obtain rfl : j = k := by omega
      rw [List.getElem?_append_right (by rw [expsTo_len]; exact Nat.le_refl _), expsTo_len]
      simp

/-! ### Numerator and denominator -/

def upE (x : List Int) (i : Nat) : Nat := (x[i]?.getD 0).toNat
def downE (x : List Int) (i : Nat) : Nat := (-(x[i]?.getD 0)).toNat

theorem numTo_pp (p x : List Int) : ∀ k, numTo p x k = pp p (upE x) 0 k
  | 0 => rfl
  | k + 1 => by
    rw [numTo, pp, numTo_pp p x k, Nat.zero_add]
    unfold upE
    split
    · rw [show (x[k]?.getD 0).natAbs = (x[k]?.getD 0).toNat by omega]
    · rw [show (x[k]?.getD 0).toNat = 0 by omega, Nat.pow_zero, Nat.mul_one]
theorem denTo_pp (p x : List Int) : ∀ k, denTo p x k = pp p (downE x) 0 k
  | 0 => rfl
  | k + 1 => by
    rw [denTo, pp, denTo_pp p x k, Nat.zero_add]
    unfold downE
    split
    · rw [show (-(x[k]?.getD 0)).toNat = 0 by omega, Nat.pow_zero, Nat.mul_one]
    · rw [show (x[k]?.getD 0).natAbs = (-(x[k]?.getD 0)).toNat by omega]

theorem num_pp {p x : List Int} (h : x.length = p.length) : num p x = pp p (upE x) 0 p.length := by unfold num; rw [numTo_pp, h]
theorem den_pp {p x : List Int} (h : x.length = p.length) : den p x = pp p (downE x) 0 p.length := by unfold den; rw [denTo_pp, h]

theorem num_pos {p x : List Int} (hp : Primed p) (h : x.length = p.length) : 0 < num p x := by
  rw [num_pp h]; exact pp_pos p _ (fun k hk => (hp.pr k hk).1) 0 _ (by omega)
theorem den_pos {p x : List Int} (hp : Primed p) (h : x.length = p.length) : 0 < den p x := by
  rw [den_pp h]; exact pp_pos p _ (fun k hk => (hp.pr k hk).1) 0 _ (by omega)

/-- The exponents of a fraction are found again. -/
theorem of_num_den {p x : List Int} (hp : Primed p) (h : x.length = p.length) : leftTo p (num p x) p.length = 1 ∧ leftTo p (den p x) p.length = 1 ∧ expsTo p (num p x) (den p x) p.length = x := by
  rw [num_pp h, den_pp h]
  refine ⟨?_, ?_, ?_⟩
  · rw [leftTo_pp hp _ _ (Nat.le_refl _), Nat.sub_self]; rfl
  · rw [leftTo_pp hp _ _ (Nat.le_refl _), Nat.sub_self]; rfl
  · refine List.ext_getElem (by rw [expsTo_len, h]) fun j h1 h2 => ?_
    have e := expsTo_get p (pp p (upE x) 0 p.length) (pp p (downE x) 0 p.length) j p.length (by omega)
    rw [mult_pp hp _ j (by omega), mult_pp hp _ j (by omega), List.getElem?_eq_getElem h1] at e
    simp only [Option.getD_some] at e
    rw [e]
    unfold upE downE
    rw [List.getElem?_eq_getElem h2]
    simp only [Option.getD_some]
    omega

/-- Products of powers with added exponents. -/
theorem pp_add (p : List Int) (f g : Nat → Nat) (a : Nat) : ∀ n, pp p (fun i => f i + g i) a n = pp p f a n * pp p g a n
  | 0 => rfl
  | n + 1 => by
    rw [pp, pp, pp, pp_add p f g a n, Nat.pow_add]
    generalize pp p f a n = u
    generalize pp p g a n = v
    generalize (p[a + n]?.getD 0).toNat ^ f (a + n) = s
    generalize (p[a + n]?.getD 0).toNat ^ g (a + n) = t
    grind
theorem pp_congr (p : List Int) {f g : Nat → Nat} (a : Nat) : ∀ n, (∀ i, a ≤ i → i < a + n → f i = g i) → pp p f a n = pp p g a n
  | 0, _ => rfl
  | n + 1, h => by rw [pp, pp, pp_congr p a n (fun i h1 h2 => h i h1 (by omega)), h (a + n) (by omega) (by omega)]

/-- Equal products of powers of different primes have equal exponents. -/
theorem pp_inj {p : List Int} (hp : Primed p) {f g : Nat → Nat} (h : pp p f 0 p.length = pp p g 0 p.length) : ∀ k, k < p.length → f k = g k := fun k hk => by
  rw [← mult_pp hp f k hk, ← mult_pp hp g k hk, h]

/-- a / b and c / d as intervals: the same fraction only if the exponents are equal. -/
theorem cross_inj {p x y : List Int} (hp : Primed p) (hx : x.length = p.length) (hy : y.length = p.length) (h : num p x * den p y = num p y * den p x) : x = y := by
  rw [num_pp hx, den_pp hx, num_pp hy, den_pp hy, ← pp_add, ← pp_add] at h
  refine List.ext_getElem (by omega) fun j h1 h2 => ?_
  have := pp_inj hp h j (by omega)
  unfold upE downE at this
  rw [List.getElem?_eq_getElem h1, List.getElem?_eq_getElem h2] at this
  simp only [Option.getD_some] at this
  omega

/-- The fraction of a sum of exponents. -/
theorem num_sum {p x y z : List Int} (hx : x.length = p.length) (hy : y.length = p.length) (hz : z.length = p.length) (h : ∀ j, j < p.length → z[j]?.getD 0 = x[j]?.getD 0 + y[j]?.getD 0) :
    num p z * (den p x * den p y) = num p x * num p y * den p z := by
  rw [num_pp hx, den_pp hx, num_pp hy, den_pp hy, num_pp hz, den_pp hz, ← pp_add, ← pp_add, ← pp_add, ← pp_add]
  refine pp_congr p 0 _ fun i _ h2 => ?_
  have := h i (by omega)
  unfold upE downE
  omega

theorem cmpN_mul (a b c : Nat) (hc : 0 < c) : cmpN (a * c) (b * c) = cmpN a b := by
  unfold cmpN
  have h1 : a * c < b * c ↔ a < b := Nat.mul_lt_mul_right hc
  have h2 : a * c = b * c ↔ a = b := ⟨fun h => Nat.eq_of_mul_eq_mul_right hc h, fun h => by rw [h]⟩
  simp only [h1, h2]

theorem cmpN_neg (a b : Nat) : cmpN b a = -cmpN a b := by
  unfold cmpN
  rcases Nat.lt_trichotomy a b with h | h | h
  · rw [if_neg (by omega), if_neg (by omega), if_pos h]; rfl
  · subst h; simp
  · rw [if_pos h, if_neg (by omega), if_neg (by omega)]

theorem cmpN_zero (a b : Nat) : cmpN a b = 0 ↔ a = b := by
  unfold cmpN
  constructor
  · intro h
    by_cases h1 : a < b
    · rw [if_pos h1] at h; omega
    · rw [if_neg h1] at h
      by_cases h2 : a = b
      · exact h2
      · rw [if_neg h2] at h; omega
  · intro h; rw [if_neg (by omega), if_pos h]

/-- Adding an interval to both sides does not change the order. -/
theorem cmp_moved {p x y z u v : List Int} (hp : Primed p) (hx : x.length = p.length) (hy : y.length = p.length) (hz : z.length = p.length) (hu : u.length = p.length) (hv : v.length = p.length)
    (eu : ∀ j, j < p.length → u[j]?.getD 0 = x[j]?.getD 0 + z[j]?.getD 0) (ev : ∀ j, j < p.length → v[j]?.getD 0 = y[j]?.getD 0 + z[j]?.getD 0) :
    cmpN (num p u * den p v) (num p v * den p u) = cmpN (num p x * den p y) (num p y * den p x) := by
  have h1 := num_sum hx hz hu eu
  have h2 := num_sum hy hz hv ev
  have px := den_pos hp hx
  have py := den_pos hp hy
  have pz := den_pos hp hz
  have nz' := num_pos hp hz
  have pu := den_pos hp hu
  have pv := den_pos hp hv
  generalize num p u = nu at *
  generalize num p v = nv at *
  generalize den p u = du at *
  generalize den p v = dv at *
  generalize num p x = nx at *
  generalize num p y = ny at *
  generalize num p z = nz at *
  generalize den p x = dx at *
  generalize den p y = dy at *
  generalize den p z = dz at *
  rw [← cmpN_mul (nu * dv) (nv * du) (dx * dy * dz) (Nat.mul_pos (Nat.mul_pos px py) pz), ← cmpN_mul (nx * dy) (ny * dx) (nz * du * dv) (Nat.mul_pos (Nat.mul_pos nz' pu) pv)]
  have e1 : nu * dv * (dx * dy * dz) = nx * dy * (nz * du * dv) := by
    have : nu * dv * (dx * dy * dz) = nu * (dx * dz) * dv * dy := by grind
    rw [this, h1]; grind
  have e2 : nv * du * (dx * dy * dz) = ny * dx * (nz * du * dv) := by
    have : nv * du * (dx * dy * dz) = nv * (dy * dz) * du * dx := by grind
    rw [this, h2]; grind
  rw [e1, e2]

end Go.Proofs.YteenfcmnmenigaaGreatDoor
