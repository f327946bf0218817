/- schismalaw12.Value, most, odd. monzo: greater, exponent of any number, Greater, Odd, Superparticular of right intervals. -/
import Derived.Test.YtcfkclafpbaagaaGreatDoorGF
import Derived.Test.YtcfkclafpbaagaaGreatDoorGE
import Derived.Test.YtcfkclafpbaagaaGreatDoorGG
namespace Go.Proofs.YtcfkclafpbaagaaGreatDoor
open Go.RowKit Go.Lib

theorem whMul_nat (a b : Nat) (w : World) (hS : Std w) (ha : (decDigits a).length ≤ 50000) (hb : (decDigits b).length ≤ 50000) :
    Calls Tryz.prog 154 #[.string ⟨(decDigits a).toArray⟩, .string ⟨(decDigits b).toArray⟩] w fun e w' => e = .returned (.string ⟨(decDigits (a * b)).toArray⟩) ∧ Below w.heap.size w w' := by
  have h := whMul_any (a : Int) (b : Int) w hS (by rw [itoa_nat]; exact ha) (by rw [itoa_nat]; exact hb)
  rw [itoa_nat, itoa_nat, ← Int.natCast_mul, itoa_nat] at h
  exact h
theorem whCompare_nat (a b : Nat) (w : World) (ha : (decDigits a).length ≤ 100000) (hb : (decDigits b).length ≤ 100000) :
    Calls Tryz.prog 225 #[.string ⟨(decDigits a).toArray⟩, .string ⟨(decDigits b).toArray⟩] w fun e w' => e = .returned (.int .i64 (cmpN a b)) ∧ Below w.heap.size w w' := by
  have h := whCompare_any (a : Int) (b : Int) w (by rw [itoa_nat]; exact ha) (by rw [itoa_nat]; exact hb)
  rw [itoa_nat, itoa_nat, cmpZ_nat] at h
  exact h
theorem whDivMod_nat (x y : Nat) (w : World) (hS : Std w) (hx : (decDigits x).length ≤ 50000) (hy : (decDigits y).length ≤ 50000) (h0 : 0 < y) :
    Calls Tryz.prog 118 #[.string ⟨(decDigits x).toArray⟩, .string ⟨(decDigits y).toArray⟩] w fun e w' => e = .returned (.tuple #[.string ⟨(decDigits (x / y)).toArray⟩, .string ⟨(decDigits (x % y)).toArray⟩, .int .i64 0]) ∧ Below w.heap.size w w' := by
  have h := whDivMod_any (x : Int) y w hS (by rw [itoa_nat]; exact hx) hy h0
  rw [itoa_nat, ← Int.natCast_ediv, ← Int.natCast_emod, itoa_nat, itoa_nat] at h
  exact h

theorem pow_len {a n b : Nat} (ha : a ≤ 97) (hn : n ≤ 1000) (hb : (decDigits b).length ≤ 13000) : (decDigits (b * a ^ n)).length ≤ 20000 := by
  have h1 := dec_mul_len b (a ^ n)
  have h2 := pow_digits (a := a) (n := n) ha hn
  omega

end Go.Proofs.YtcfkclafpbaagaaGreatDoor

namespace Go.Proofs.YtcfkclafpbaagaaGreatDoor
open Go.RowKit Go.Lib

theorem mult_le_len (p n : Nat) : mult p n ≤ 4 * (decDigits n).length := by
  rcases Nat.eq_zero_or_pos n with h0 | h0
  · rw [mult_no (by omega)]; omega
  · have h1 := mult_pow p n h0
    have h2 := dec_lt_pow n
    have h3 : (10 : Nat) ^ (decDigits n).length ≤ 16 ^ (decDigits n).length := Nat.pow_le_pow_left (by omega) _
    have h4 : (16 : Nat) ^ (decDigits n).length = 2 ^ (4 * (decDigits n).length) := by rw [Nat.pow_mul]
    rcases Nat.lt_or_ge (4 * (decDigits n).length) (mult p n) with h | h
    · have h5 : (2 : Nat) ^ (4 * (decDigits n).length) ≤ 2 ^ mult p n := Nat.pow_le_pow_right (by omega) (by omega)
      omega
    · exact h

set_option maxRecDepth 100000 in
set_option maxHeartbeats 1000000 in
theorem exponentL_any (x p : Nat) (w : World) (hS : Std w) (hx : (decDigits x).length ≤ 50000) (hx0 : 0 < x) (hp2 : 2 ≤ p) (hp : p ≤ 97) :
    Calls Tryz.prog 93 #[.string ⟨(decDigits x).toArray⟩, .int .i64 p] w fun e w' => e = .returned (.tuple #[.string ⟨(decDigits (left p x)).toArray⟩, .int .i64 (mult p x : Nat)]) ∧ Below w.heap.size w w' := by
  have HX : Box ((decDigits x).length ≤ 50000 ∧ 0 < x) := ⟨hx, hx0⟩
  have HS := Lib.hid hS
  have hm60 : mult p x ≤ 200000 := by have := mult_le_len p x; omega
  have hpl : (decDigits p).length ≤ 50000 := by
    rw [dec_length]
    have := nDigits_le (u := p) (k := 2) (by omega) (by omega)
    omega
  have HPL : Box ((decDigits p).length ≤ 50000) := ⟨hpl⟩
  have HO := Lib.hid (fun W (hW : Std W) => whOf_any (p : Int) W (by omega) (by omega) hW)
  rw [itoa_nat] at HO
  clear hS hx hx0 hpl
  go_enter Tryz.func93, Tryz.ntmps93
  go_wp2
  go_loopw [0, 5] (fun a t wr => ∃ y k : Nat, a = .string ⟨(decDigits y).toArray⟩ ∧ t = .int .i64 k ∧ k ≤ 200000 ∧ Box (0 < y ∧ y ≤ x) ∧ Box (mult p x = mult p y + k) ∧ Box (left p x = left p y) ∧ Below w.heap.size w wr) (fun _ t _ => 200001 - (intOf t).toNat)
  case atStart => exact ⟨x, 0, rfl, rfl, by omega, ⟨HX.out.2, Nat.le_refl _⟩, ⟨rfl⟩, ⟨rfl⟩, Below.refl _ _⟩
  case round =>
    obtain ⟨y, k, rfl, rfl, hk, HY, HM, HL, hbw⟩ := hrel
    have hsr := HS.out.below hbw (Nat.le_refl _)
    have HSR := Lib.hid hsr
    have HD := Lib.hid (fun W (hW : Std W) => whDivMod_nat y p W hW (Nat.le_trans (dec_le_len HY.out.2) HX.out.1) HPL.out (by omega))
    have hz := dec_eq_zero (y % p)
    clear hsr
    by_cases hdv : y % p = 0
    · rw [decide_eq_true hdv] at hz
      have hz2 : (decDigits (y % p) != [48]) = false := by simp only [bne, hz]; rfl
      have hyes : 2 ≤ p ∧ 0 < y ∧ y % p = 0 := ⟨hp2, HY.out.1, hdv⟩
      have h1 := HM.out
      rw [mult_yes hyes] at h1
      have h2 := HL.out
      rw [left_yes hyes] at h2
      have hkl : k < 200000 := by omega
      have HM2 : Box (mult p x = mult p (y / p) + (k + 1)) := ⟨by omega⟩
      have HL2 : Box (left p x = left p (y / p)) := ⟨h2⟩
      have HY2 : Box (0 < y / p ∧ y / p ≤ x) := ⟨by
        have hm := Nat.div_add_mod y p
        have h3 := HY.out
        refine ⟨?_, Nat.le_trans (Nat.div_le_self _ _) h3.2⟩
        rcases Nat.eq_zero_or_pos (y / p) with h0 | h0
        · rw [h0, hdv] at hm; omega
        · exact h0⟩
      clear h1 h2 hyes hdv
      generalize decDigits (y % p) = lr at *
      go_wp2_with fail
      refine (HO.out _ HSR.out).mono ?_
      rintro e w1 ⟨rfl, hb1⟩
      go_wp2_with fail
      refine (HD.out _ (HSR.out.below hb1 (Nat.le_refl _))).mono ?_
      rintro e w2 ⟨rfl, hb2⟩
      go_wp2_with fail
      go_roundw
      case rel =>
        have h12 := hb1.trans (hb2.mono hb1.size)
        exact ⟨y / p, k + 1, rfl, by go_num, by omega, HY2, HM2, HL2, hbw.trans (h12.mono hbw.size)⟩
      case measure => (simp [intOf]; try omega)
    · rw [decide_eq_false hdv] at hz
      have hz2 : (decDigits (y % p) != [48]) = true := by simp only [bne, hz]; rfl
      have hno : ¬ (2 ≤ p ∧ 0 < y ∧ y % p = 0) := fun h => hdv h.2.2
      have HM2 : Box (mult p x = k) := ⟨by rw [HM.out, mult_no hno]; omega⟩
      have HL2 : Box (left p x = y) := ⟨by rw [HL.out, left_no hno]⟩
      clear hno hdv
      generalize decDigits (y % p) = lr at *
      go_wp2_with fail
      refine (HO.out _ HSR.out).mono ?_
      rintro e w1 ⟨rfl, hb1⟩
      go_wp2_with fail
      refine (HD.out _ (HSR.out.below hb1 (Nat.le_refl _))).mono ?_
      rintro e w2 ⟨rfl, hb2⟩
      go_wp2_with fail
      go_ret2
      have h12 := hb1.trans (hb2.mono hb1.size)
      exact ⟨ret2 (by rw [HL2.out]; rfl) (by rw [HM2.out]; rfl), hbw.trans (h12.mono hbw.size)⟩

set_option maxHeartbeats 400000 in
theorem superp_ok (pv xv : Value) (p x : List Int) (w : World) (hS : Std w) (hp : IsRow w w.heap.size pv p) (hx : IsRow w w.heap.size xv x) (h : chkAll p [x] = 0) :
    Calls Tryz.prog 63 #[pv, xv] w fun e w' => e = .returned (.tuple #[.bool (decDigits (num p x) == decDigits (den p x + 1)), .int .i64 0]) ∧ Below w.heap.size w w' := by
  have HC := Lib.hid (check_any _ _ p x w hp hx)
  rw [h] at HC
  have hr := right_of h
  have HSD := Lib.hid (fun W hW hp hx => sides_any pv xv p x W hW hp hx hr)
  obtain ⟨hl1, hl2⟩ := num_len hr
  have HA := Lib.hid (fun W hW => decAdd_any (den p x) 1 W hW (by omega) (by rw [dec_small (by omega)]; simp))
  rw [show decDigits 1 = [49] by rw [dec_small (by omega)]; rfl] at HA
  have HS := Lib.hid hS
  have HP := Lib.hid hp
  have HX := Lib.hid hx
  obtain ⟨AP, cp, rfl⟩ := hp.shape
  obtain ⟨AX, cx, rfl⟩ := hx.shape
  clear hS hp hx h hr hl1 hl2
  go_enter Tryz.func63, Tryz.ntmps63
  go_wp2_with fail
  refine HC.out.mono ?_
  rintro e w1 ⟨rfl, hb1⟩
  go_wp2_with fail
  refine (HSD.out _ (HS.out.below hb1 (Nat.le_refl _)) (HP.out.lift hb1) (HX.out.lift hb1)).mono ?_
  rintro e w2 ⟨rfl, hb2⟩
  have h12 := hb1.trans (hb2.mono hb1.size)
  go_wp2_with fail
  refine (HA.out _ (HS.out.below h12 (Nat.le_refl _))).mono ?_
  rintro e w3 ⟨rfl, hb3⟩
  go_wp2_with fail
  go_ret2
  exact ⟨rfl, h12.trans (hb3.mono h12.size)⟩

end Go.Proofs.YtcfkclafpbaagaaGreatDoor
