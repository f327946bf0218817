/- Same, Brackets; known. known. monzo.Power and Neg of right intervals. monzo.sum of right intervals; Add, Sub. The errors of all functions with intervals. monzo.Add, Sub and Neg of right intervals. schismalaw12.Primes, Interval, Make. schismalaw12.Interval, Make. -/
import Derived.Test.YtaaeekahhhookaaGreatDoorFSgMTr
import Derived.Deep.RegionHeld3
import Derived.Deep.AppendLies
namespace Go.Proofs.YtaaeekahhhookaaGreatDoor
open Go.RowKit Go.Lib

/-- Whether two rows are equal, as Same says it. -/
def sameB (x y : List Int) : Bool := decide (x = y)

theorem same_upto {x y : List Int} {k : Nat} (hl : x.length = y.length) (h : x.take k = y.take k) (hk : k < x.length) (he : x[k]?.getD 0 = y[k]?.getD 0) : x.take (k + 1) = y.take (k + 1) := by
 rw [List.take_succ_eq_append_getElem hk, List.take_succ_eq_append_getElem (by omega), h]
 rw [List.getElem?_eq_getElem hk, List.getElem?_eq_getElem (by omega)] at he
 simp at he
 rw [he]

set_option maxHeartbeats 1000000 in
theorem same_any (xv yv : Value) (x y : List Int) (w : World) (hx : IsRow w w.heap.size xv x) (hy : IsRow w w.heap.size yv y) :
  Calls Tryz.prog 34 #[xv, yv] w fun e w' => e = .returned (.bool (sameB x y)) ∧ Below w.heap.size w w' := by
 have HS : Hid (sameB x y = decide (x = y)) := rfl
 obtain ⟨AX, cx, rfl, hxc, hxm, hxr⟩ := hx
 obtain ⟨AY, cy, rfl, hyc, hym, hyr⟩ := hy
 unfold maxLen at hxm hym
 by_cases hl : x.length = y.length
 ·have hne : ((x.length : Int) != (y.length : Int)) = false := by simp [hl]
  have HL := Lib.hid hl
  have hxl : x.length ≤ 9223372036854775807 := by omega
  clear hl hxc hyc hxm hym
  go_enter Tryz.func34, Tryz.ntmps34
  go_wp2
  go_loopw [5] (fun i wr => ∃ k : Nat, k ≤ x.length ∧ i = .int .i64 k ∧ Box (x.take k = y.take k) ∧ Below w.heap.size w wr) (fun i _ => x.length - (intOf i).toNat)
  case atStart => exact ⟨0, Nat.zero_le _, rfl, ⟨by simp⟩, Below.refl _ _⟩
  case round =>
   obtain ⟨k, hk, rfl, HT, hbw⟩ := hrel
   by_cases hlt : k < x.length
   ·obtain ⟨ad1, rfl, _, hc1⟩ := (hxr.below hbw (Nat.le_refl _)).i_at hlt
    have hly : k < y.length := by rw [← HL.out]; exact hlt
    obtain ⟨ad2, rfl, _, hc2⟩ := (hyr.below hbw (Nat.le_refl _)).i_at hly
    have hup := fun he => same_upto HL.out HT.out hlt he
    have hdn : x[k]?.getD 0 ≠ y[k]?.getD 0 → x ≠ y := fun h e => h (by rw [e])
    generalize x[k]?.getD 0 = a at *
    generalize y[k]?.getD 0 = b at *
    have HU := Lib.hid hup
    have HDN := Lib.hid hdn
    clear hup hdn
    have hk1 : (0 : Int) ≤ (k : Int) := by omega
    have hk2 : (k : Int) < (x.length : Int) := by omega
    have hk3 : (k : Int) < (y.length : Int) := by omega
    by_cases hab : a = b
    ·have hab' : (a != b) = false := by simp [hab]
     have HAB : Box (a = b) := ⟨hab⟩
     clear hab
     go_wp2
     go_quiet (fail)
     go_wp2
     go_roundw
     case rel => exact ⟨k + 1, by omega, by go_num, ⟨HU.out HAB.out⟩, below_drewN hbw _⟩
     case measure => simp [intOf]; omega
    ·have hab' : (a != b) = true := by simp [hab]
     have HE : Box (sameB x y = false) := ⟨by rw [HS.out, decide_eq_false (HDN.out hab)]⟩
     go_wp2
     go_quiet (fail)
     go_wp2
     go_ret
     exact ⟨ret1 (congrArg Value.bool HE.out.symm), below_drewN hbw _⟩
   ·obtain rfl : k = x.length := by omega
    have HE : Box (sameB x y = true) := ⟨by
     have h := HT.out
     rw [List.take_of_length_le (Nat.le_refl _), List.take_of_length_le (by rw [HL.out]; exact Nat.le_refl _)] at h
     rw [HS.out, decide_eq_true h]⟩
    go_wp2
    go_ret
    exact ⟨ret1 (congrArg Value.bool HE.out.symm), hbw⟩
 ·have hne : ((x.length : Int) != (y.length : Int)) = true := by rw [bne_iff_ne]; omega
  have HE : Box (sameB x y = false) := ⟨by rw [HS.out, decide_eq_false (fun e => hl (by rw [e]))]⟩
  go_enter Tryz.func34, Tryz.ntmps34
  go_wp2
  go_ret
  exact ⟨ret1 (congrArg Value.bool HE.out.symm), Below.refl _ _⟩

/-! ### Brackets -/

theorem itoa_short (z : Int) (h : -1000000000 ≤ z ∧ z ≤ 1000000000) : (itoa z).length ≤ 11 := by
 have h1 := itoa_len z
 rw [dec_length] at h1
 have := nDigits_le (u := z.natAbs) (k := 10) (by omega) (by omega)
 omega

theorem inter_len (sep : List UInt8) : ∀ (l : List (List UInt8)) (m : Nat), (∀ s ∈ l, s.length ≤ m) → (sep.intercalate l).length ≤ l.length * (m + sep.length)
 | [], m, _ => by simp [List.intercalate]
 | [a], m, h => by
   have := h a (by simp)
   simp [List.intercalate]
   omega
 | a :: b :: l, m, h => by
   have h1 := h a (by simp)
   have h2 := inter_len sep (b :: l) m (fun s hs => h s (by simp [hs]))
   have e : sep.intercalate (a :: b :: l) = a ++ (sep ++ sep.intercalate (b :: l)) := by simp [List.intercalate, List.intersperse]
   rw [e]
   simp only [List.length_append, List.length_cons] at *
   rw [Nat.add_mul (l.length + 1) 1]
   omega

theorem rowTxt_len {x : List Int} (h64 : x.length ≤ 64) (h : ∀ k, k < x.length → -1000000000 ≤ x[k]?.getD 0 ∧ x[k]?.getD 0 ≤ 1000000000) : (rowTxt x).length ≤ 1000 := by
 have h1 := inter_len [32] (words x) 11 (fun s hs => by
  obtain ⟨z, hz, rfl⟩ := List.mem_map.1 hs
  obtain ⟨k, hk, rfl⟩ := List.getElem_of_mem hz
  have := h k hk
  rw [List.getElem?_eq_getElem hk] at this
  exact itoa_short _ (by simpa using this))
 have h2 : (words x).length = x.length := by simp [words]
 rw [h2] at h1
 have h3 : x.length * (11 + [(32 : UInt8)].length) ≤ 64 * 12 := Nat.mul_le_mul h64 (by simp)
 unfold rowTxt Lib.join
 omega

end Go.Proofs.YtaaeekahhhookaaGreatDoor

namespace Go.Proofs.YtaaeekahhhookaaGreatDoor
open Go.RowKit Go.Lib

theorem d4 : decDigits 4 = [52] := by rw [dec_small (by omega)]; rfl
theorem d1 : decDigits 1 = [49] := by rw [dec_small (by omega)]; rfl
end Go.Proofs.YtaaeekahhhookaaGreatDoor

namespace Go.Proofs.YtaaeekahhhookaaGreatDoor
open Go.RowKit Go.Lib

/-- The factor that Power takes. -/
def clampK (k : Int) : Int := min (max k (-1001)) 1001

/-- The first j elements of k times x. -/
def timesTo (x : List Int) (k : Int) : Nat → List Int
 | 0 => []
 | j + 1 => timesTo x k j ++ [k * x[j]?.getD 0]
theorem timesTo_len (x : List Int) (k : Int) : ∀ j, (timesTo x k j).length = j
 | 0 => rfl
 | j + 1 => by rw [timesTo, List.length_append, timesTo_len x k j]; rfl

theorem mul_bound {k a : Int} (hk : -1001 ≤ k ∧ k ≤ 1001) (ha : -1000 ≤ a ∧ a ≤ 1000) : -1001000 ≤ k * a ∧ k * a ≤ 1001000 := by
 have h1 : (k * a).natAbs ≤ 1001 * 1000 := by
  rw [Int.natAbs_mul]
  exact Nat.mul_le_mul (by omega) (by omega)
 omega

/-- What a function returns whose result is checked. -/
def ResPost (p z : List Int) (e : Ending) (w' : World) : Prop :=
 (chkAll p [z] = 0 ∧ ∃ v, e = .returned (.tuple #[v, .int .i64 0]) ∧ IsRow w' w'.heap.size v z) ∨
 (chkAll p [z] ≠ 0 ∧ e = .returned (.tuple #[.slice Option.none 0 0, .int .i64 4]))

set_option maxRecDepth 100000 in
set_option maxHeartbeats 2000000 in
theorem power_ok (AP AX : Option Addr) (cp cx : Nat) (p x : List Int) (k : Int) (w : World) (hp : IsRow w w.heap.size (.slice AP p.length cp) p) (hx : IsRow w w.heap.size (.slice AX x.length cx) x) (h : chkAll p [x] = 0) :
  Calls Tryz.prog 41 #[.slice AP p.length cp, .slice AX x.length cx, .int .i64 k] w fun e w' => ResPost p (timesTo x (clampK k) x.length) e w' ∧ Below w.heap.size w w' := by
 obtain ⟨i0, hi0, hz0, hz1, hz2⟩ := info_parts Tryz.info_int
 have hr := right_of h
 have HC := Lib.hid (check_any _ _ p x w hp hx)
 rw [h] at HC
 have hx6 : x.length ≤ 6 := by have := hr.len; have := hr.six; omega
 have HEX : Box (∀ j, j < x.length → -1000 ≤ x[j]?.getD 0 ∧ x[j]?.getD 0 ≤ 1000) := ⟨hr.ex⟩
 have HKC : Box (min (max k (-1001)) 1001 = clampK k ∧ -1001 ≤ clampK k ∧ clampK k ≤ 1001) := ⟨by unfold clampK; omega⟩
 have HP := Lib.hid hp
 obtain ⟨_, _, ex, _, _, hxr⟩ := hx
 injection ex with e1 _ e4
 subst e1 e4
 clear h hr hp
 go_enter Tryz.func41, Tryz.ntmps41
 go_wp2_with fail
 refine HC.out.mono ?_
 rintro e w1 ⟨rfl, hb1⟩
 go_wp2_with fail
 rw [HKC.out.1]
 have hk := HKC.out.2
 generalize hcc : clampK k = c at *
 have HCC : Box (clampK k = c) := ⟨hcc⟩
 clear HKC hcc
 go_loopw [9, 23] (fun o i wr => ∃ j : Nat, j ≤ x.length ∧ i = .int .i64 j ∧ wr.ownsRow w.heap.size 3 1 o j (is (timesTo x c j)) ∧ Below w.heap.size w wr) (fun _ i _ => x.length - (intOf i).toNat)
 case atStart => exact ⟨0, Nat.zero_le _, rfl, World.ownsRow_nil _ _ _ _, hb1⟩
 case round =>
  clear hb1
  obtain ⟨j, hj, rfl, hown, hbw⟩ := hrel
  have HO := Lib.hid hown
  clear hown
  by_cases hlt : j < x.length
  ·obtain ⟨ad1, rfl, _, hc1⟩ := (hxr.below hbw (Nat.le_refl _)).i_at hlt
   have hbd := mul_bound hk (HEX.out j hlt)
   have e3 : timesTo x c (j + 1) = timesTo x c j ++ [c * x[j]?.getD 0] := rfl
   generalize x[j]?.getD 0 = a at *
   have E3 := Lib.hid e3
   clear e3
   go_wp2_with (at_builtin; refine wpList_append_own _ rfl _ _ _ rfl w.heap.size 3 i0 (.int .i64 0) 1 8 Tryz.underlying40 hi0 hz0 hz1 hz2 rfl (by decide) _ _ _ rfl (HO.out.alloc _) ⟨wr.heap.size, 0, Option.none⟩ 1 1 [_] rfl rfl (cell_one_new _ _ _) (by intro u hu; simp at hu; subst hu; rfl) (by unfold maxLen; omega) (by omega) (by have := hbw.size; simp; omega) ?_; intro v3 w3 hown3 hg3 _)
   go_wp2
   go_roundw
   case rel =>
    refine ⟨j + 1, by omega, by go_num, ?_, ?_⟩
    ·rw [E3.out, is_append]; exact hown3
    ·exact (hbw.alloc hbw.size _).grown hg3 (by have := hbw.size; simp; omega) (fun k hk => (HO.out.lt k hk).1)
   case measure => simp [intOf]; omega
  ·obtain rfl : j = x.length := by omega
   have hex : wr.ownsRow w.heap.size 3 1 u9 (timesTo x c x.length).length (is (timesTo x c x.length)) := by rw [timesTo_len]; exact HO.out
   have hri := IsRow.of_own hex
   have HRI := Lib.hid hri
   by_cases h0 : chkAll p [timesTo x c x.length] = 0
   ·have HR := Lib.hid (result_yes _ _ p _ wr (HP.out.lift hbw) hri h0)
    have H0 : Box (chkAll p [timesTo x c x.length] = 0) := ⟨h0⟩
    clear h0 hri hex
    go_wp2_with fail
    refine HR.out.mono ?_
    rintro e w2 ⟨rfl, hb2⟩
    go_wp2_with fail
    go_ret2
    exact ⟨by rw [HCC.out]; exact .inl ⟨H0.out, _, rfl, HRI.out.lift hb2⟩, hbw.trans (hb2.mono hbw.size)⟩
   ·have HR := Lib.hid (result_no _ _ p _ wr (HP.out.lift hbw) hri (by simpa using h0))
    have H0 : Box (chkAll p [timesTo x c x.length] ≠ 0) := ⟨h0⟩
    clear h0 hri hex
    go_wp2_with fail
    refine HR.out.mono ?_
    rintro e w2 ⟨rfl, hb2⟩
    go_wp2_with fail
    go_ret2
    exact ⟨by rw [HCC.out]; exact .inr ⟨H0.out, rfl⟩, hbw.trans (hb2.mono hbw.size)⟩

end Go.Proofs.YtaaeekahhhookaaGreatDoor

namespace Go.Proofs.YtaaeekahhhookaaGreatDoor
open Go.RowKit Go.Lib

/-- The first j elements of x plus k times y. -/
def sumTo (x y : List Int) (k : Int) : Nat → List Int
 | 0 => []
 | j + 1 => sumTo x y k j ++ [x[j]?.getD 0 + k * y[j]?.getD 0]
theorem sumTo_len (x y : List Int) (k : Int) : ∀ j, (sumTo x y k j).length = j
 | 0 => rfl
 | j + 1 => by rw [sumTo, List.length_append, sumTo_len x y k j]; rfl

theorem cell_lt_add {w : World} {a : Addr} {j : Nat} {v : Value} (h : w.cell? (a.add j) = some v) : a.block < w.heap.size := by
 have := cell_lt h
 rw [add_block] at this
 exact this
theorem right_two {p x y : List Int} (h : chkAll p [x, y] = 0) : Right p x ∧ Right p y := ⟨right_of (chk_two h).1, right_of (chk_two h).2⟩

/-- The same, with the row in a block that the call made. -/
def ResPostO (p z : List Int) (e : Ending) (w' : World) : Prop :=
 (chkAll p [z] = 0 ∧ ∃ v, e = .returned (.tuple #[v, .int .i64 0]) ∧ w'.ownsRow 0 3 1 v z.length (is z)) ∨
 (chkAll p [z] ≠ 0 ∧ e = .returned (.tuple #[.slice Option.none 0 0, .int .i64 4]))
theorem ResPostO.res {p z : List Int} {e : Ending} {w' : World} (h : ResPostO p z e w') : ResPost p z e w' := by
 rcases h with ⟨h1, v, h2, h3⟩ | h
 ·exact .inl ⟨h1, v, h2, IsRow.of_own h3⟩
 ·exact .inr h

set_option maxRecDepth 100000 in
set_option maxHeartbeats 2000000 in
theorem sum_loopO (AP AX AY : Option Addr) (cp cx cy : Nat) (p x y : List Int) (k : Int) (w : World) (hp : IsRow w w.heap.size (.slice AP p.length cp) p) (hx : IsRow w w.heap.size (.slice AX x.length cx) x) (hy : IsRow w w.heap.size (.slice AY y.length cy) y) (h : chkAll p [x, y] = 0) (hk : k = 1 ∨ k = -1)
  (HC : Hid (Calls Tryz.prog 39 #[.slice AP p.length cp, .slice (some ⟨w.heap.size, 0, Option.none⟩) 2 2] (w.alloc (.cells #[.slice AX x.length cx, .slice AY y.length cy] 40)) fun e w' => e = .returned (.int .i64 0) ∧ Below w.heap.size w w')) :
  Calls Tryz.prog 40 #[.slice AP p.length cp, .slice AX x.length cx, .slice AY y.length cy, .int .i64 k] w fun e w' => ResPostO p (sumTo x y k x.length) e w' ∧ Below w.heap.size w w' := by
 have HP := Lib.hid hp
 obtain ⟨i0, hi0, hz0, hz1, hz2⟩ := info_parts Tryz.info_int
 obtain ⟨hrx, hry⟩ := right_two h
 have hl1 := hrx.len
 have hl2 := hry.len
 have h6 := hrx.six
 have HXY : Box (x.length = y.length) := ⟨by omega⟩
 have HEX : Box (∀ j, j < x.length → (-1000 ≤ x[j]?.getD 0 ∧ x[j]?.getD 0 ≤ 1000) ∧ (-1000 ≤ y[j]?.getD 0 ∧ y[j]?.getD 0 ≤ 1000)) := ⟨fun j hj => ⟨hrx.ex j hj, hry.ex j (by omega)⟩⟩
 have HK : Box (k = 1 ∨ k = -1) := ⟨hk⟩
 have hx6 : x.length ≤ 6 := by omega
 obtain ⟨_, _, ex, _, _, hxr⟩ := hx
 injection ex with e1 _ e4
 subst e1 e4
 obtain ⟨_, _, ey, _, _, hyr⟩ := hy
 injection ey with e2 _ e5
 subst e2 e5
 clear hrx hry hl1 hl2 h6 hk h hp
 go_enter Tryz.func40, Tryz.ntmps40
 go_wp2_with fail
 refine HC.out.mono ?_
 rintro e w1 ⟨rfl, hb1⟩
 go_wp2_with fail
 go_loopw [11, 23] (fun o i wr => ∃ j : Nat, j ≤ x.length ∧ i = .int .i64 j ∧ wr.ownsRow w.heap.size 3 1 o j (is (sumTo x y k j)) ∧ Below w.heap.size w wr) (fun _ i _ => x.length - (intOf i).toNat)
 case atStart => exact ⟨0, Nat.zero_le _, rfl, World.ownsRow_nil _ _ _ _, hb1⟩
 case round =>
  clear hb1
  obtain ⟨j, hj, rfl, hown, hbw⟩ := hrel
  have HO := Lib.hid hown
  clear hown
  by_cases hlt : j < x.length
  ·obtain ⟨ad1, rfl, _, hc1⟩ := (hxr.below hbw (Nat.le_refl _)).i_at hlt
   obtain ⟨ad2, rfl, _, hc2⟩ := (hyr.below hbw (Nat.le_refl _)).i_at (k := j) (by rw [← HXY.out]; exact hlt)
   have hbd := HEX.out j hlt
   have e3 : sumTo x y k (j + 1) = sumTo x y k j ++ [x[j]?.getD 0 + k * y[j]?.getD 0] := rfl
   generalize x[j]?.getD 0 = a at *
   generalize y[j]?.getD 0 = b at *
   have E3 := Lib.hid e3
   clear e3
   have hkb : -1000 ≤ k * b ∧ k * b ≤ 1000 := by rcases HK.out with h | h <;> subst h <;> omega
   have hly : (j : Int) < (y.length : Int) := by have := HXY.out; omega
   have hlx : (j : Int) < (x.length : Int) := by omega
   have hj0 : (0 : Int) ≤ (j : Int) := by omega
   go_wp2
   have hw1 : IntKind.i64.wrap (k * b) = k * b := IntWalk.i64_in _ (by omega)
   have hw2 : IntKind.i64.wrap (a + k * b) = a + k * b := IntWalk.i64_in _ (by omega)
   have hb1 : ad1.block < wr.heap.size := cell_lt_add hc1
   have hb2 : ad2.block < wr.heap.size := cell_lt_add hc2
   go_region_held3 (fun w' => w'.cell? (ad1.add j) = some (.int .i64 a) ∧ w'.cell? (ad2.add j) = some (.int .i64 b))
    (first | go_keep | (go_split_ands; exact ⟨(hgrow.cell_far _ (by rw [add_block]; simp; omega) (by rw [add_block]; exact fun e => by have := (HO.out.lt _ e.symm).1; omega)).trans (by assumption), (hgrow.cell_far _ (by rw [add_block]; simp; omega) (by rw [add_block]; exact fun e => by have := (HO.out.lt _ e.symm).1; omega)).trans (by assumption)⟩))
    ((refine step_append_lies _ (by rfl) _ _ _ (by rfl) w.heap.size 3 i0 _ 1 8 Tryz.underlying40 hi0 hz0 hz1 hz2 rfl (by omega) u11 j _ (by rfl) ((HO.out.alloc _).drew) ⟨wr.heap.size, 0, Option.none⟩ 1 1 [.int .i64 (a + k * b)] (by rfl) (by rfl) (World.news_of_block (cs := #[.int .i64 (a + k * b)]) (t := 3) (fr := (0, 0)) (heap_alloc_new wr _)) (by simp [Value.oneCell']) (by omega) (by unfold maxLen; omega) (by omega) (by have := hbw.size; simp; omega) (wr.heap.size + 1) (by simp) ?_; intro gg cap w3 hown3 hgrow hat hlt3))
   clear hw1 hw2
   go_wp2
   go_roundw
   case rel =>
    refine ⟨j + 1, by omega, by go_num, ?_, ?_⟩
    ·rw [E3.out, is_append]; exact hown3
    ·exact ((hbw.alloc hbw.size _).drew).grown hgrow (by have := hbw.size; simp; omega) (fun k hk => (HO.out.lt k hk).1)
   case measure => simp [intOf]; omega
  ·obtain rfl : j = x.length := by omega
   have hex : wr.ownsRow w.heap.size 3 1 u11 (sumTo x y k x.length).length (is (sumTo x y k x.length)) := by rw [sumTo_len]; exact HO.out
   have hri := IsRow.of_own hex
   have HRI := Lib.hid (own_base hex (Nat.zero_le _))
   by_cases h0 : chkAll p [sumTo x y k x.length] = 0
   ·have HR := Lib.hid (result_yes _ _ p _ wr (HP.out.lift hbw) hri h0)
    have H0 : Box (chkAll p [sumTo x y k x.length] = 0) := ⟨h0⟩
    clear h0 hri hex
    go_wp2_with fail
    refine HR.out.mono ?_
    rintro e w2 ⟨rfl, hb2⟩
    go_wp2_with fail
    go_ret2
    exact ⟨.inl ⟨H0.out, _, rfl, own_below HRI.out hb2⟩, hbw.trans (hb2.mono hbw.size)⟩
   ·have HR := Lib.hid (result_no _ _ p _ wr (HP.out.lift hbw) hri (by simpa using h0))
    have H0 : Box (chkAll p [sumTo x y k x.length] ≠ 0) := ⟨h0⟩
    clear h0 hri hex
    go_wp2_with fail
    refine HR.out.mono ?_
    rintro e w2 ⟨rfl, hb2⟩
    go_wp2_with fail
    go_ret2
    exact ⟨.inr ⟨H0.out, rfl⟩, hbw.trans (hb2.mono hbw.size)⟩

end Go.Proofs.YtaaeekahhhookaaGreatDoor

namespace Go.Proofs.YtaaeekahhhookaaGreatDoor
open Go.RowKit Go.Lib

/-- The contract of CheckAll with two rows in a new list. -/
theorem checkTwo (AP AX AY : Option Addr) (cp cx cy : Nat) (p x y : List Int) (w : World) (hp : IsRow w w.heap.size (.slice AP p.length cp) p) (hx : IsRow w w.heap.size (.slice AX x.length cx) x) (hy : IsRow w w.heap.size (.slice AY y.length cy) y) :
  Calls Tryz.prog 39 #[.slice AP p.length cp, .slice (some ⟨w.heap.size, 0, Option.none⟩) 2 2] (w.alloc (.cells #[.slice AX x.length cx, .slice AY y.length cy] 40)) fun e w' => e = .returned (.int .i64 (chkAll p [x, y])) ∧ Below w.heap.size w w' := by
 have h := checkAll_any (.slice AP p.length cp) p (some ⟨w.heap.size, 0, Option.none⟩) 2 (w.heap.size + 1) [x, y] (w.alloc (.cells #[.slice AX x.length cx, .slice AY y.length cy] 40)) ((hp.alloc (Nat.le_refl _) _).up (by omega)) (rowsAt_two w _ _ x y _ hx hy) (by simp)
 exact h.mono fun e w' ⟨h1, h2⟩ => ⟨h1, h2 ▸ (Below.refl _ _).alloc (Nat.le_refl _) _⟩

end Go.Proofs.YtaaeekahhhookaaGreatDoor

namespace Go.Proofs.YtaaeekahhhookaaGreatDoor
open Go.RowKit Go.Lib

theorem chk_both {p x y : List Int} (hx : chkAll p [x] = 0) (hy : chkAll p [y] = 0) : chkAll p [x, y] = 0 := by
 unfold chkAll at *
 by_cases hp : primeErr p = 0
 ·rw [if_neg (by simpa using hp)] at *
  simp only [rowsErr] at *
  by_cases h1 : rowErr p.length x = 0
  ·by_cases h2 : rowErr p.length y = 0
   ·simp [h1, h2]
   ·simp [h2] at hy
  ·simp [h1] at hx
 ·rw [if_pos hp] at hx
  exact absurd hx hp

set_option maxHeartbeats 400000 in
theorem neg_ok (pv xv : Value) (p x : List Int) (w : World) (hp : IsRow w w.heap.size pv p) (hx : IsRow w w.heap.size xv x) (h : chkAll p [x] = 0) :
  Calls Tryz.prog 15 #[pv, xv] w fun e w' => ResPost p (timesTo x (-1) x.length) e w' ∧ Below w.heap.size w w' := by
 obtain ⟨AP, cp, rfl⟩ := hp.shape
 obtain ⟨AX, cx, rfl⟩ := hx.shape
 have HC := Lib.hid (power_ok AP AX cp cx p x (-1) w hp hx h)
 rw [show clampK (-1) = -1 by decide] at HC
 clear hp hx h
 go_enter Tryz.func15, Tryz.ntmps15
 go_wp2_with fail
 refine HC.out.mono ?_
 rintro e w1 ⟨hr, hb1⟩
 have HR := Lib.hid hr
 rcases hr with ⟨_, v, rfl, _⟩ | ⟨_, rfl⟩
 ·go_wp2_with fail
  go_ret2
  exact ⟨HR.out, hb1⟩
 ·go_wp2_with fail
  go_ret2
  exact ⟨HR.out, hb1⟩

/-! ### Small exponents -/

/-- A row over p whose elements are at most m in size. -/
structure SmallRow (p : List Int) (m : Int) (x : List Int) : Prop where
 len : x.length = p.length
 le : ∀ j, j < x.length → -m ≤ x[j]?.getD 0 ∧ x[j]?.getD 0 ≤ m

theorem SmallRow.chk {p x : List Int} {m : Int} (h : SmallRow p m x) (hp : primeErr p = 0) (hm : m ≤ 1000) : chkAll p [x] = 0 := by
 refine chk_small hp h.len fun v hv => ?_
 obtain ⟨j, hj, rfl⟩ := List.getElem_of_mem hv
 have := h.le j hj
 rw [List.getElem?_eq_getElem hj] at this
 simp at this
 omega

theorem sumTo_get (x y : List Int) (k : Int) (j : Nat) : ∀ n, j < n → (sumTo x y k n)[j]?.getD 0 = x[j]?.getD 0 + k * y[j]?.getD 0
 | 0, h => by omega
 | n + 1, h => by
   rw [sumTo]
   by_cases hj : j < n
   ·rw [List.getElem?_append_left (by rw [sumTo_len]; exact hj), sumTo_get x y k j n hj]
   ·obtain rfl : j = n := by omega
    rw [List.getElem?_append_right (by rw [sumTo_len]; exact Nat.le_refl _), sumTo_len]
    simp

theorem timesTo_get (x : List Int) (k : Int) (j : Nat) : ∀ n, j < n → (timesTo x k n)[j]?.getD 0 = k * x[j]?.getD 0
 | 0, h => by omega
 | n + 1, h => by
   rw [timesTo]
   by_cases hj : j < n
   ·rw [List.getElem?_append_left (by rw [timesTo_len]; exact hj), timesTo_get x k j n hj]
   ·obtain rfl : j = n := by omega
    rw [List.getElem?_append_right (by rw [timesTo_len]; exact Nat.le_refl _), timesTo_len]
    simp

theorem row_ext {x y : List Int} (hl : x.length = y.length) (h : ∀ j, j < x.length → x[j]?.getD 0 = y[j]?.getD 0) : x = y := by
 refine List.ext_getElem hl fun j h1 h2 => ?_
 have := h j h1
 rw [List.getElem?_eq_getElem h1, List.getElem?_eq_getElem h2] at this
 simpa using this

theorem SmallRow.sum {p x y : List Int} {a b : Int} (hx : SmallRow p a x) (hy : SmallRow p b y) (k : Int) (hk : k = 1 ∨ k = -1) : SmallRow p (a + b) (sumTo x y k x.length) := by
 refine ⟨by rw [sumTo_len]; exact hx.len, fun j hj => ?_⟩
 rw [sumTo_len] at hj
 rw [sumTo_get x y k j _ hj]
 have h1 := hx.le j hj
 have h2 := hy.le j (by rw [hy.len, ← hx.len]; exact hj)
 rcases hk with rfl | rfl <;> omega

theorem SmallRow.neg {p x : List Int} {a : Int} (hx : SmallRow p a x) : SmallRow p a (timesTo x (-1) x.length) := by
 refine ⟨by rw [timesTo_len]; exact hx.len, fun j hj => ?_⟩
 rw [timesTo_len] at hj
 rw [timesTo_get x (-1) j _ hj]
 have h1 := hx.le j hj
 omega

/-- The post of a function whose result is right. -/
theorem ResPost.yes {p z : List Int} {e : Ending} {w' : World} (h : ResPost p z e w') (h0 : chkAll p [z] = 0) : ∃ v, e = .returned (.tuple #[v, .int .i64 0]) ∧ IsRow w' w'.heap.size v z := by
 rcases h with ⟨_, h⟩ | ⟨h, _⟩
 ·exact h
 ·exact absurd h0 h

/-- A right result, as a post. -/
def RowPost (z : List Int) (e : Ending) (w' : World) : Prop := ∃ A c, e = .returned (.tuple #[.slice A z.length c, .int .i64 0]) ∧ IsRow w' w'.heap.size (.slice A z.length c) z
theorem ResPost.row {p z : List Int} {e : Ending} {w' : World} (h : ResPost p z e w') (h0 : chkAll p [z] = 0) : RowPost z e w' := by
 obtain ⟨v, he, hr⟩ := h.yes h0
 obtain ⟨A, c, rfl⟩ := hr.shape
 exact ⟨A, c, he, hr⟩

end Go.Proofs.YtaaeekahhhookaaGreatDoor

namespace Go.Proofs.YtaaeekahhhookaaGreatDoor
open Go.RowKit Go.Lib

def primeTable : List (List Int) := [[2, 3, 5], [2, 3, 5, 7], [2, 3], [2, 3, 7], [2, 5, 7], [3, 5, 7], [2, 3, 5, 11], [2], [2, 3, 7, 13], [3, 5, 7, 13]]
def primesOf (n : Nat) : List Int := primeTable.getD (n % 10) []

theorem primes_all : ∀ k, k < 10 → primeErr (primeTable.getD k []) = 0 ∧ (primeTable.getD k []).length ≤ 4 := by decide +kernel
theorem primesOf_ok (n : Nat) : primeErr (primesOf n) = 0 ∧ (primesOf n).length ≤ 4 := primes_all _ (Nat.mod_lt _ (by omega))

/-- New blocks, one after the other. -/
def allocs (w : World) : List Obj → World
 | [] => w
 | o :: r => allocs (w.alloc o) r
theorem allocs_heap : ∀ (os : List Obj) (w : World) (i : Nat) (o : Obj), os[i]? = some o → (allocs w os).heap[w.heap.size + i]? = some o
 | [], _, _, _, h => by simp at h
 | a :: r, w, 0, o, h => by
   simp at h
   subst h
   have hb := allocs_below r (w.alloc a) 
   rw [allocs, hb.block (w.heap.size + 0) (by simp)]
   exact heap_alloc_new w a
 | a :: r, w, i + 1, o, h => by
   have := allocs_heap r (w.alloc a) i o (by simpa using h)
   rw [World.size_alloc] at this
   rw [allocs, ← this]
   congr 1
   omega
where
 allocs_below : ∀ (os : List Obj) (w : World), Below w.heap.size w (allocs w os)
  | [], w => Below.refl _ _
  | a :: r, w => ((Below.refl w.heap.size w).alloc (Nat.le_refl _) a).trans ((allocs_below r (w.alloc a)).mono (by simp))

def primeObjs (w : World) : List Obj := [.cells #[.int .i64 2, .int .i64 3, .int .i64 5] 3, .cells #[.int .i64 2, .int .i64 3, .int .i64 5, .int .i64 7] 3, .cells #[.int .i64 2, .int .i64 3] 3, .cells #[.int .i64 2, .int .i64 3, .int .i64 7] 3, .cells #[.int .i64 2, .int .i64 5, .int .i64 7] 3, .cells #[.int .i64 3, .int .i64 5, .int .i64 7] 3, .cells #[.int .i64 2, .int .i64 3, .int .i64 5, .int .i64 11] 3, .cells #[.int .i64 2] 3, .cells #[.int .i64 2, .int .i64 3, .int .i64 7, .int .i64 13] 3, .cells #[.int .i64 3, .int .i64 5, .int .i64 7, .int .i64 13] 3, .cells #[Value.slice (some ⟨w.heap.size, 0, Option.none⟩) 3 3, Value.slice (some ⟨w.heap.size + 1, 0, Option.none⟩) 4 4, Value.slice (some ⟨w.heap.size + 1 + 1, 0, Option.none⟩) 2 2, Value.slice (some ⟨w.heap.size + 1 + 1 + 1, 0, Option.none⟩) 3 3, Value.slice (some ⟨w.heap.size + 1 + 1 + 1 + 1, 0, Option.none⟩) 3 3, Value.slice (some ⟨w.heap.size + 1 + 1 + 1 + 1 + 1, 0, Option.none⟩) 3 3, Value.slice (some ⟨w.heap.size + 1 + 1 + 1 + 1 + 1 + 1, 0, Option.none⟩) 4 4, Value.slice (some ⟨w.heap.size + 1 + 1 + 1 + 1 + 1 + 1 + 1, 0, Option.none⟩) 1 1, Value.slice (some ⟨w.heap.size + 1 + 1 + 1 + 1 + 1 + 1 + 1 + 1, 0, Option.none⟩) 4 4, Value.slice (some ⟨w.heap.size + 1 + 1 + 1 + 1 + 1 + 1 + 1 + 1 + 1, 0, Option.none⟩) 4 4] 26]

theorem primes_row (w : World) : ∀ k, k < 10 → Cells (allocs w (primeObjs w)) (w.heap.size + k) 3 (is (primeTable.getD k []))
 | 0, _ => allocs_heap (primeObjs w) w 0 _ rfl
 | 1, _ => allocs_heap (primeObjs w) w 1 _ rfl
 | 2, _ => allocs_heap (primeObjs w) w 2 _ rfl
 | 3, _ => allocs_heap (primeObjs w) w 3 _ rfl
 | 4, _ => allocs_heap (primeObjs w) w 4 _ rfl
 | 5, _ => allocs_heap (primeObjs w) w 5 _ rfl
 | 6, _ => allocs_heap (primeObjs w) w 6 _ rfl
 | 7, _ => allocs_heap (primeObjs w) w 7 _ rfl
 | 8, _ => allocs_heap (primeObjs w) w 8 _ rfl
 | 9, _ => allocs_heap (primeObjs w) w 9 _ rfl

theorem primes_get (w : World) : ∀ k, k < 10 → [Value.slice (some ⟨w.heap.size, 0, Option.none⟩) 3 3, Value.slice (some ⟨w.heap.size + 1, 0, Option.none⟩) 4 4, Value.slice (some ⟨w.heap.size + 1 + 1, 0, Option.none⟩) 2 2, Value.slice (some ⟨w.heap.size + 1 + 1 + 1, 0, Option.none⟩) 3 3, Value.slice (some ⟨w.heap.size + 1 + 1 + 1 + 1, 0, Option.none⟩) 3 3, Value.slice (some ⟨w.heap.size + 1 + 1 + 1 + 1 + 1, 0, Option.none⟩) 3 3, Value.slice (some ⟨w.heap.size + 1 + 1 + 1 + 1 + 1 + 1, 0, Option.none⟩) 4 4, Value.slice (some ⟨w.heap.size + 1 + 1 + 1 + 1 + 1 + 1 + 1, 0, Option.none⟩) 1 1, Value.slice (some ⟨w.heap.size + 1 + 1 + 1 + 1 + 1 + 1 + 1 + 1, 0, Option.none⟩) 4 4, Value.slice (some ⟨w.heap.size + 1 + 1 + 1 + 1 + 1 + 1 + 1 + 1 + 1, 0, Option.none⟩) 4 4][k]? = some (.slice (some ⟨w.heap.size + k, 0, Option.none⟩) (primeTable.getD k []).length (primeTable.getD k []).length)
 | 0, _ => rfl
 | 1, _ => rfl
 | 2, _ => rfl
 | 3, _ => rfl
 | 4, _ => rfl
 | 5, _ => rfl
 | 6, _ => rfl
 | 7, _ => rfl
 | 8, _ => rfl
 | 9, _ => rfl

end Go.Proofs.YtaaeekahhhookaaGreatDoor

namespace Go.Proofs.YtaaeekahhhookaaGreatDoor
open Go.RowKit Go.Lib

/-! ### Interval -/

def ivlTo (l : List Int) : Nat → List Int
 | 0 => []
 | j + 1 => ivlTo l j ++ [(l[j]?.getD 0).tmod 10]
theorem ivlTo_len (l : List Int) : ∀ j, (ivlTo l j).length = j
 | 0 => rfl
 | j + 1 => by rw [ivlTo, List.length_append, ivlTo_len l j]; rfl
theorem ivlTo_get (l : List Int) (j : Nat) : ∀ n, j < n → (ivlTo l n)[j]?.getD 0 = (l[j]?.getD 0).tmod 10
 | 0, h => by omega
 | n + 1, h => by
   rw [ivlTo]
   by_cases hj : j < n
   ·rw [List.getElem?_append_left (by rw [ivlTo_len]; exact hj), ivlTo_get l j n hj]
   ·obtain rfl : j = n := by omega
    rw [List.getElem?_append_right (by rw [ivlTo_len]; exact Nat.le_refl _), ivlTo_len]
    simp

/-- The exponents of a plan: a list of four int8. -/
structure Four (l : List Int) : Prop where
 len : l.length = 4
 le : ∀ j, j < 4 → -128 ≤ l[j]?.getD 0 ∧ l[j]?.getD 0 ≤ 127

theorem tmod_bound (z : Int) : -9 ≤ z.tmod 10 ∧ z.tmod 10 ≤ 9 := by
 have := Int.tmod_lt_of_pos z (show (0 : Int) < 10 by omega)
 have h2 : (-z).tmod 10 = -(z.tmod 10) := Int.neg_tmod ..
 have := Int.tmod_lt_of_pos (-z) (show (0 : Int) < 10 by omega)
 omega

theorem ivl_small {p l : List Int} : SmallRow p 9 (ivlTo l p.length) :=
 ⟨ivlTo_len _ _, fun j hj => by rw [ivlTo_len] at hj; rw [ivlTo_get l j _ hj]; exact tmod_bound _⟩

theorem four_cell {w w' : World} {t : TypeId} {a b c d : Int} {j : Nat} (hb : Below (w.heap.size + 1) (w.alloc (.cells #[.int .i8 a, .int .i8 b, .int .i8 c, .int .i8 d] t)) w') (hj : j < 4) : w'.cell? ⟨w.heap.size, j, Option.none⟩ = some (.int .i8 ([a, b, c, d][j]?.getD 0)) := by
 rw [hb.cell (p := ⟨w.heap.size, j, Option.none⟩) (by simp), World.cell?_alloc_new]
 match j, hj with
 | 0, _ => rfl
 | 1, _ => rfl
 | 2, _ => rfl
 | 3, _ => rfl

end Go.Proofs.YtaaeekahhhookaaGreatDoor
