/- fraction.Text, monzo.Text, monzo.height, Product, Compare, Sign. -/
import Derived.Test.YtkoemgemnklmdaaGreatDoorFr
namespace Go.Proofs.YtkoemgemnklmdaaGreatDoor
open Go.RowKit Go.Lib

theorem num_len {p x : List Int} (h : Right p x) : (decDigits (num p x)).length ≤ 15000 ∧ (decDigits (den p x)).length ≤ 15000 := by
  have h1 := to_len h x.length (Nat.le_refl _)
  have h2 := h.len
  have h3 := h.six
  unfold num den
  omega

theorem fraction_any (pv xv : Value) (p x : List Int) (w : World) (hS : Std w) (hp : IsRow w w.heap.size pv p) (hx : IsRow w w.heap.size xv x) (h : chkAll p [x] = 0) :
    Calls Tryz.prog 29 #[pv, xv] w fun e w' => e = .returned (fracOut (decDigits (num p x)) (decDigits (den p x))) ∧ Below w.heap.size w w' := by
  have hr := right_of h
  have hl := num_len hr
  exact fraction_run pv xv p x _ _ w hp hx h (by omega) (by omega) (fun W h1 h2 h3 => sides_any pv xv p x W h3 h1 h2 hr) hS

/-- The text of a fraction. -/
def ratText (a b : List UInt8) : List UInt8 := if (b == [49]) = true then a else a ++ 47 :: b

set_option maxHeartbeats 400000 in
theorem fracText_any (a b : List UInt8) (w : World) (ha : a.length ≤ 100000) (hb : b.length ≤ 100000) :
    Calls Tryz.prog 31 #[.agg #[.string ⟨a.toArray⟩, .string ⟨b.toArray⟩]] w fun e w' => e = .returned (.string ⟨(ratText a b).toArray⟩) ∧ Below w.heap.size w w' := by
  cases h1 : (b == [49]) with
  | true =>
    have HE : Box (ratText a b = a) := ⟨by unfold ratText; rw [if_pos h1]⟩
    go_enter Tryz.func31, Tryz.ntmps31
    go_wp2
    go_ret
    exact ⟨ret_str HE.out.symm, (Below.refl _ _).alloc (Nat.le_refl _) _⟩
  | false =>
    have HE : Box (ratText a b = a ++ [47] ++ b) := ⟨by unfold ratText; rw [if_neg (by simp [h1])]; simp⟩
    go_enter Tryz.func31, Tryz.ntmps31
    go_wp2
    go_ret
    refine ⟨ret1 (congrArg Value.string ?_), (Below.refl _ _).alloc (Nat.le_refl _) _⟩
    rw [HE.out]
    exact (congrArg (· ++ (⟨b.toArray⟩ : ByteArray)) (ba_append a [47])).trans (ba_append (a ++ [47]) b)

set_option maxHeartbeats 400000 in
theorem monText_yes (pv xv : Value) (p x : List Int) (a b : List UInt8) (w : World) (ha : a.length ≤ 400) (hb : b.length ≤ 400)
    (hp : ∃ A c, pv = .slice A p.length c) (hx : ∃ A c, xv = .slice A x.length c)
    (HF : Hid (Calls Tryz.prog 29 #[pv, xv] w fun e w' => e = .returned (.tuple #[.agg #[.string ⟨a.toArray⟩, .string ⟨b.toArray⟩], .int .i64 0]) ∧ Below w.heap.size w w')) :
    Calls Tryz.prog 30 #[pv, xv] w fun e w' => e = .returned (.tuple #[.string ⟨(ratText a b).toArray⟩, .int .i64 0]) ∧ Below w.heap.size w w' := by
  obtain ⟨AP, cp, rfl⟩ := hp
  obtain ⟨AX, cx, rfl⟩ := hx
  have HT := Lib.hid (fun W => fracText_any a b W (by omega) (by omega))
  go_enter Tryz.func30, Tryz.ntmps30
  go_wp2_with fail
  refine HF.out.mono ?_
  rintro e w1 ⟨rfl, hb1⟩
  go_wp2_with fail
  refine (HT.out _).mono ?_
  rintro e w2 ⟨rfl, hb2⟩
  go_wp2_with fail
  go_ret2
  exact ⟨rfl, (hb1.alloc hb1.size _).trans (hb2.mono (by have := hb1.size; simp; omega))⟩

set_option maxHeartbeats 400000 in
theorem monText_no (pv xv : Value) (p x : List Int) (q : Int) (w : World) (hq : (q != 0) = true)
    (hp : ∃ A c, pv = .slice A p.length c) (hx : ∃ A c, xv = .slice A x.length c)
    (HF : Hid (Calls Tryz.prog 29 #[pv, xv] w fun e w' => e = .returned (.tuple #[.agg #[.string ⟨#[]⟩, .string ⟨#[]⟩], .int .i64 q]) ∧ Below w.heap.size w w')) :
    Calls Tryz.prog 30 #[pv, xv] w fun e w' => e = .returned (.tuple #[.string ⟨#[]⟩, .int .i64 q]) ∧ Below w.heap.size w w' := by
  obtain ⟨AP, cp, rfl⟩ := hp
  obtain ⟨AX, cx, rfl⟩ := hx
  go_enter Tryz.func30, Tryz.ntmps30
  go_wp2_with fail
  refine HF.out.mono ?_
  rintro e w1 ⟨rfl, hb1⟩
  go_wp2_with fail
  go_ret2
  exact ⟨rfl, hb1.alloc hb1.size _⟩

theorem IsRow.shape {w : World} {B : Nat} {v : Value} {x : List Int} (h : IsRow w B v x) : ∃ A c, v = .slice A x.length c := by
  obtain ⟨A, c, e, _⟩ := h
  exact ⟨A, c, e⟩

/-! ### Heights -/

set_option maxHeartbeats 400000 in
theorem height_err (pv xv fv : Value) (p x : List Int) (w : World) (hp : IsRow w w.heap.size pv p) (hx : IsRow w w.heap.size xv x) (h : (chkAll p [x] != 0) = true) :
    Calls Tryz.prog 70 #[pv, xv, fv] w fun e w' => e = .returned (.tuple #[.string ⟨#[]⟩, .int .i64 (chkAll p [x])]) ∧ Below w.heap.size w w' := by
  have HC := Lib.hid (check_any pv xv p x w hp hx)
  generalize chkAll p [x] = q at *
  obtain ⟨AP, cp, rfl, _⟩ := hp
  obtain ⟨AX, cx, rfl, _⟩ := hx
  go_enter Tryz.func70, Tryz.ntmps70
  go_wp2_with fail
  refine HC.out.mono ?_
  rintro e w1 ⟨rfl, hb1⟩
  go_wp2_with fail
  go_ret2
  exact ⟨rfl, hb1⟩

/-- What short returns. -/
def shortOut (a : List UInt8) : Value := if a.length ≤ 400 then .tuple #[.string ⟨a.toArray⟩, .int .i64 0] else .tuple #[.string ⟨#[]⟩, .int .i64 4]

set_option maxHeartbeats 400000 in
theorem height_run (pv xv : Value) (f : Nat) (p x : List Int) (r : List UInt8) (w : World) (hp : IsRow w w.heap.size pv p) (hx : IsRow w w.heap.size xv x) (h : chkAll p [x] = 0) (hS : Std w) (lr : r.length ≤ 1000000)
    (hen : ∀ args w, (callFunc f args).run Tryz.prog w = .ok (.enter f args) w)
    (HF : Hid (∀ W, Std W → Calls Tryz.prog f #[.string ⟨(decDigits (num p x)).toArray⟩, .string ⟨(decDigits (den p x)).toArray⟩] W fun e w' => e = .returned (.string ⟨r.toArray⟩) ∧ Below W.heap.size W w')) :
    Calls Tryz.prog 70 #[pv, xv, .func (.func f) #[] #[]] w fun e w' => e = .returned (shortOut r) ∧ Below w.heap.size w w' := by
  have HC := Lib.hid (check_any pv xv p x w hp hx)
  have hr := right_of h
  have HD := Lib.hid (fun W h1 h2 h3 => sides_any pv xv p x W h3 h1 h2 hr)
  have HP := Lib.hid hp
  have HX := Lib.hid hx
  have HS := Lib.hid hS
  rw [h] at HC
  clear h hS hr
  obtain ⟨AP, cp, rfl, _⟩ := hp
  obtain ⟨AX, cx, rfl, _⟩ := hx
  generalize decDigits (num p x) = a at *
  generalize decDigits (den p x) = b at *
  go_enter Tryz.func70, Tryz.ntmps70
  go_wp2_with fail
  refine HC.out.mono ?_
  rintro e w1 ⟨rfl, hb1⟩
  go_wp2_with fail
  have hs1 := HS.out.below hb1 (Nat.le_refl _)
  refine (HD.out _ (HP.out.lift hb1) (HX.out.lift hb1) hs1).mono ?_
  rintro e w2 ⟨rfl, hb2⟩
  go_wp2_with fail
  have hs2 := hs1.below hb2 (Nat.le_refl _)
  refine (HF.out _ hs2).mono ?_
  rintro e w3 ⟨rfl, hb3⟩
  have h12 := hb1.trans (hb2.mono hb1.size)
  have h13 := h12.trans (hb3.mono h12.size)
  clear hb1 hb2 hb3 h12 hs1 hs2
  by_cases h4 : r.length ≤ 400
  · have HE : Box (shortOut r = .tuple #[.string ⟨r.toArray⟩, .int .i64 0]) := ⟨by unfold shortOut; rw [if_pos h4]⟩
    have HSH := Lib.hid (short_yes r w3 h4)
    go_wp2_with fail
    refine HSH.out.mono ?_
    rintro e w4 ⟨rfl, rfl⟩
    go_wp2_with fail
    go_ret2
    exact ⟨by rw [HE.out]; rfl, h13⟩
  · have HE : Box (shortOut r = .tuple #[.string ⟨#[]⟩, .int .i64 4]) := ⟨by unfold shortOut; rw [if_neg h4]⟩
    have HSH := Lib.hid (short_no r w3 (by omega) lr)
    go_wp2_with fail
    refine HSH.out.mono ?_
    rintro e w4 ⟨rfl, rfl⟩
    go_wp2_with fail
    go_ret2
    exact ⟨by rw [HE.out]; rfl, h13⟩

theorem shortOut_two (r : List UInt8) : ∃ a e, shortOut r = .tuple #[a, e] := by
  unfold shortOut
  split
  · exact ⟨_, _, rfl⟩
  · exact ⟨_, _, rfl⟩

set_option maxHeartbeats 400000 in
theorem product_any (pv xv : Value) (p x : List Int) (w : World) (hp : IsRow w w.heap.size pv p) (hx : IsRow w w.heap.size xv x) (h : chkAll p [x] = 0) (hS : Std w) :
    Calls Tryz.prog 35 #[pv, xv] w fun e w' => e = .returned (shortOut (decDigits (num p x * den p x))) ∧ Below w.heap.size w w' := by
  have hl := num_len (right_of h)
  have hml := dec_mul_len (num p x) (den p x)
  have HH := Lib.hid (height_run pv xv 72 p x (decDigits (num p x * den p x)) w hp hx h hS (by omega) (fun args w => enters_of Tryz.func72 (by kernel_rfl) rfl args w) (fun W hW => mul_any _ _ W hW (by omega) (by omega)))
  obtain ⟨v1, v2, e2⟩ := shortOut_two (decDigits (num p x * den p x))
  rw [e2] at HH ⊢
  clear hl hml e2 h hS
  obtain ⟨AP, cp, rfl, _⟩ := hp
  obtain ⟨AX, cx, rfl, _⟩ := hx
  go_enter Tryz.func35, Tryz.ntmps35
  go_wp2_with fail
  refine HH.out.mono ?_
  rintro e w1 ⟨rfl, hb1⟩
  go_wp2_with fail
  go_ret2
  exact ⟨rfl, hb1⟩

set_option maxHeartbeats 400000 in
theorem product_err (pv xv : Value) (p x : List Int) (w : World) (hp : IsRow w w.heap.size pv p) (hx : IsRow w w.heap.size xv x) (h : (chkAll p [x] != 0) = true) :
    Calls Tryz.prog 35 #[pv, xv] w fun e w' => e = .returned (.tuple #[.string ⟨#[]⟩, .int .i64 (chkAll p [x])]) ∧ Below w.heap.size w w' := by
  have HH := Lib.hid (height_err pv xv (.func (.func 72) #[] #[]) p x w hp hx h)
  generalize chkAll p [x] = q at *
  clear h
  obtain ⟨AP, cp, rfl, _⟩ := hp
  obtain ⟨AX, cx, rfl, _⟩ := hx
  go_enter Tryz.func35, Tryz.ntmps35
  go_wp2_with fail
  refine HH.out.mono ?_
  rintro e w1 ⟨rfl, hb1⟩
  go_wp2_with fail
  go_ret2
  exact ⟨rfl, hb1⟩

/-! ### Orders -/

theorem chk_two {p x y : List Int} (h : chkAll p [x, y] = 0) : chkAll p [x] = 0 ∧ chkAll p [y] = 0 := by
  unfold chkAll at *
  by_cases hp : primeErr p = 0
  · rw [if_neg (by simpa using hp)] at h ⊢
    rw [if_neg (by simpa using hp)]
    simp only [rowsErr] at *
    by_cases h1 : rowErr p.length x = 0
    · rw [if_neg (by simpa using h1)] at h ⊢
      exact ⟨rfl, h⟩
    · rw [if_pos h1] at h
      exact absurd h h1
  · rw [if_pos hp] at h
    exact absurd h hp

set_option maxHeartbeats 1000000 in
theorem compare_mon (pv xv yv : Value) (p x y : List Int) (w : World) (hp : IsRow w w.heap.size pv p) (hx : IsRow w w.heap.size xv x) (hy : IsRow w w.heap.size yv y) (h : chkAll p [x, y] = 0) (hS : Std w) :
    Calls Tryz.prog 37 #[pv, xv, yv] w fun e w' => e = .returned (.tuple #[.int .i64 (cmpN (num p x * den p y) (num p y * den p x)), .int .i64 0]) ∧ Below w.heap.size w w' := by
  obtain ⟨hcx, hcy⟩ := chk_two h
  have hrx := right_of hcx
  have hry := right_of hcy
  have hlx := num_len hrx
  have hly := num_len hry
  have hm1 := dec_mul_len (num p x) (den p y)
  have hm2 := dec_mul_len (num p y) (den p x)
  have HC := Lib.hid (checkAll_any pv p (some ⟨w.heap.size, 0, Option.none⟩) 2 (w.heap.size + 1) [x, y] (w.alloc (.cells #[xv, yv] 24)) ((hp.alloc (Nat.le_refl _) _).up (by omega)) (rowsAt_two w xv yv x y _ hx hy) (by simp))
  rw [h] at HC
  have HDX := Lib.hid (fun W h1 h2 h3 => sides_any pv xv p x W h3 h1 h2 hrx)
  have HDY := Lib.hid (fun W h1 h2 h3 => sides_any pv yv p y W h3 h1 h2 hry)
  have HM1 := Lib.hid (fun W hW => mul_any (num p x) (den p y) W hW (by omega) (by omega))
  have HM2 := Lib.hid (fun W hW => mul_any (num p y) (den p x) W hW (by omega) (by omega))
  have HCM := Lib.hid (fun W => compare_any (num p x * den p y) (num p y * den p x) W (by omega) (by omega))
  have HP := Lib.hid hp
  have HX := Lib.hid hx
  have HY := Lib.hid hy
  have HS := Lib.hid hS
  clear h hS hrx hry hlx hly hm1 hm2 hcx hcy
  obtain ⟨AP, cp, rfl, _⟩ := hp
  obtain ⟨AX, cx, rfl, _⟩ := hx
  obtain ⟨AY, cy, rfl, _⟩ := hy
  go_enter Tryz.func37, Tryz.ntmps37
  go_wp2_with fail
  refine HC.out.mono ?_
  rintro e w1 ⟨rfl, hw1⟩
  have hb1 : Below w.heap.size w w1 := by rw [← hw1]; exact (Below.refl _ _).alloc (Nat.le_refl _) _
  clear hw1
  go_wp2_with fail
  have hs1 := HS.out.below hb1 (Nat.le_refl _)
  refine (HDX.out _ (HP.out.lift hb1) (HX.out.lift hb1) hs1).mono ?_
  rintro e w2 ⟨rfl, hb2⟩
  go_wp2_with fail
  have hs2 := hs1.below hb2 (Nat.le_refl _)
  have h12 := hb1.trans (hb2.mono hb1.size)
  refine (HDY.out _ (HP.out.lift h12) (HY.out.lift h12) hs2).mono ?_
  rintro e w3 ⟨rfl, hb3⟩
  go_wp2_with fail
  have hs3 := hs2.below hb3 (Nat.le_refl _)
  refine (HM1.out _ hs3).mono ?_
  rintro e w4 ⟨rfl, hb4⟩
  go_wp2_with fail
  have hs4 := hs3.below hb4 (Nat.le_refl _)
  refine (HM2.out _ hs4).mono ?_
  rintro e w5 ⟨rfl, hb5⟩
  go_wp2_with fail
  refine (HCM.out _).mono ?_
  rintro e w6 ⟨rfl, rfl⟩
  go_wp2_with fail
  go_ret2
  have h13 := h12.trans (hb3.mono h12.size)
  have h14 := h13.trans (hb4.mono h13.size)
  exact ⟨rfl, h14.trans (hb5.mono h14.size)⟩

end Go.Proofs.YtkoemgemnklmdaaGreatDoor
