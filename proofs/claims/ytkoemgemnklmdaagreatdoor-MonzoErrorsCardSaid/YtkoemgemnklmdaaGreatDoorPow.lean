/- decimal: Bits (of a small number), Power (of a small number). -/
import Derived.Test.YtkoemgemnklmdaaGreatDoorCmp
namespace Go.Proofs.YtkoemgemnklmdaaGreatDoor
open Go.RowKit Go.Lib

theorem bitLen_small : ∀ a : Nat, a < 98 → 2 ≤ a → 2 ≤ Lib.bitLen a ∧ Lib.bitLen a ≤ 7 := by decide +kernel

theorem bits_small (a : Nat) (w : World) (h : a < 18446744073709551616) :
    Calls Tryz.prog 66 #[.string ⟨(decDigits a).toArray⟩] w fun e w' => e = .returned (.int .i64 (Lib.bitLen a)) ∧ Below w.heap.size w w' := by
  have HS := Lib.hid (small_yes a w h)
  have HL := Lib.hid (fun W => Tryz.bits_Len64 (a : Int) W (by omega) (by omega))
  clear h
  generalize decDigits a = l at *
  go_enter Tryz.func66, Tryz.ntmps66
  go_wp2_with fail
  refine HS.out.mono ?_
  rintro e w1 ⟨rfl, hb1⟩
  go_wp2_with fail
  refine (HL.out _).mono ?_
  rintro e w2 ⟨rfl, rfl⟩
  go_wp2_with fail
  go_ret
  exact ⟨rfl, hb1⟩

theorem and_one_i64 (m : Nat) (h : m ≤ 1000000) : bits BinOp.and IntKind.i64 (m : Int) 1 = ((m % 2 : Nat) : Int) := by
  have e1 : (BitVec.ofInt 64 (m : Int)).toNat = m := by
    rw [BitVec.ofInt_natCast, BitVec.toNat_ofNat]; exact Nat.mod_eq_of_lt (by omega)
  have e2 : (BitVec.ofInt 64 1).toNat = 1 := rfl
  show IntKind.i64.wrap ((BitVec.ofInt 64 (m : Int) &&& BitVec.ofInt 64 1).toNat : Int) = _
  rw [BitVec.toNat_and, e1, e2, Nat.and_one_is_mod, IntKind.wrap_i64]
  omega

theorem pcs_one : pcs 1 = [1] := by rw [pcs_pos (by omega)]; simp [pcs_zero]

structure PowAt (a n m x y : Nat) : Prop where
  val : x * y ^ m = a ^ n
  x1 : 1 ≤ x
  y1 : 1 ≤ y

theorem PowAt.xle {a n m x y : Nat} (h : PowAt a n m x y) : x ≤ a ^ n := by
  rw [← h.val]
  exact Nat.le_mul_of_pos_right _ (Nat.pow_pos h.y1)
theorem PowAt.yle {a n m x y : Nat} (h : PowAt a n m x y) (hm : 1 ≤ m) : y ≤ a ^ n := by
  rw [← h.val]
  have h1 : y ^ 1 ≤ y ^ m := Nat.pow_le_pow_right h.y1 hm
  have h2 : y ^ m ≤ x * y ^ m := Nat.le_mul_of_pos_left _ h.x1
  simp at h1
  omega
theorem PowAt.step {a n m x y : Nat} (h : PowAt a n m x y) (hm : 1 ≤ m) : PowAt a n (m / 2) (if m % 2 = 1 then x * y else x) (if 1 < m then y * y else y) := by
  have hx := h.x1
  have hy := h.y1
  have hxy : 1 ≤ x * y := Nat.mul_pos hx hy
  have hyy : 1 ≤ y * y := Nat.mul_pos hy hy
  have key : ∀ j, (y * y) ^ j = y ^ (2 * j) := fun j => by rw [Nat.pow_mul, Nat.pow_two]
  refine ⟨?_, by split <;> omega, by split <;> omega⟩
  rw [← h.val]
  by_cases h1 : 1 < m
  · rw [if_pos h1, key]
    by_cases ho : m % 2 = 1
    · rw [if_pos ho, Nat.mul_assoc, ← Nat.pow_succ', show (2 * (m / 2)).succ = m by omega]
    · rw [if_neg ho, show 2 * (m / 2) = m by omega]
  · obtain rfl : m = 1 := by omega
    simp

theorem pow_lens {a n x : Nat} (ha : a ≤ 97) (hn : n ≤ 1000) (h : x ≤ a ^ n) : (pcs x).length ≤ 1001 := by
  have h1 : a ^ n ≤ 1000000000 ^ n := Nat.pow_le_pow_left (by omega) n
  have h2 : (1000000000 : Nat) ^ n < 1000000000 ^ (n + 1) := Nat.pow_lt_pow_right (by omega) (by omega)
  have := pcs_len_le (n + 1) x (by omega)
  omega
theorem pow_digits {a n : Nat} (ha : a ≤ 97) (hn : n ≤ 1000) : (decDigits (a ^ n)).length ≤ 2001 := by
  rw [dec_length]
  have h1 : a ^ n ≤ 100 ^ n := Nat.pow_le_pow_left (by omega) n
  have h2 : (100 : Nat) ^ n = 10 ^ (2 * n) := by rw [Nat.pow_mul]
  have h3 : (10 : Nat) ^ (2 * n) < 10 ^ (2 * n + 1) := Nat.pow_lt_pow_right (by omega) (by omega)
  have := nDigits_le (u := a ^ n) (k := 2 * n + 1) (by omega) (by omega)
  omega

theorem power_zero (l : List UInt8) (w : World) :
    Calls Tryz.prog 33 #[.string ⟨l.toArray⟩, .int .i64 0] w fun e w' => e = .returned (.tuple #[.string ⟨#[49]⟩, .int .i64 0]) ∧ w = w' := by
  go_enter Tryz.func33, Tryz.ntmps33
  go_wp2
  go_ret2
  exact ⟨rfl, rfl⟩

set_option maxHeartbeats 1000000 in
theorem power_pos (a n : Nat) (l : List UInt8) (w : World) (ha : a ≤ 97) (hn : n ≤ 1000) (hn1 : 1 ≤ n) (ha1 : Hid (1 ≤ a)) (h1 : (l == [49]) = false) (h0 : (l == [48]) = false) (bl : Nat) (hb1 : 2 ≤ bl) (hb2 : bl ≤ 7)
    (HB : Hid (∀ W, Calls Tryz.prog 66 #[.string ⟨l.toArray⟩] W fun e w' => e = .returned (.int .i64 (bl : Int)) ∧ Below W.heap.size W w'))
    (HC : Hid (∀ W, Calls Tryz.prog 67 #[.string ⟨l.toArray⟩] W fun e w' => OwnP W.heap.size a w' e ∧ Below W.heap.size W w')) :
    Calls Tryz.prog 33 #[.string ⟨l.toArray⟩, .int .i64 n] w fun e w' => e = .returned (.tuple #[.string ⟨(decDigits (a ^ n)).toArray⟩, .int .i64 0]) ∧ Below w.heap.size w w' := by
  have hq : ¬ 66439 / ((bl : Int) - 1) < (n : Int) := by
    have : ∀ k : Nat, k < 8 → 2 ≤ k → (1000 : Int) ≤ 66439 / ((k : Int) - 1) := by decide
    have := this bl (by omega) hb1
    omega
  have hn0 : ((n : Int) == 0) = false := by simp; omega
  go_enter Tryz.func33, Tryz.ntmps33
  go_wp2_with fail
  refine (HB.out _).mono ?_
  rintro e w1 ⟨rfl, hbw1⟩
  go_wp2_with fail
  refine (HC.out _).mono ?_
  rintro e w2 ⟨⟨v2, rfl, hv2⟩, hbw2⟩
  go_wp2_with fail
  have HST : Hid (PowAt a n n 1 a) := ⟨by simp, by omega, ha1.out⟩
  have hone : PcsRow w2 w.heap.size (.slice (some ⟨w1.heap.size, 0, Option.none⟩) 1 1) 1 := by
    unfold PcsRow
    rw [pcs_one]
    have hc := Cells.new w1 101 #[.int .u64 1]
    have hc2 := hc.below hbw2 (by simp)
    exact hc2.own (base := w.heap.size) (n := 1) (k := 1) hbw1.size rfl (by unfold maxLen; omega) (Nat.le_refl _)
  have hbw12 : Below w.heap.size w w2 := (hbw1.alloc hbw1.size _).trans (hbw2.mono (by have := hbw1.size; simp; omega))
  have hva : PcsRow w2 w.heap.size v2 a := own_base hv2 (by have := hbw1.size; simp; omega)
  clear hv2 hbw1 hbw2
  go_loopw [1, 7, 8] (fun i o p wr => ∃ m x y : Nat, i = .int .i64 m ∧ m ≤ 1000 ∧ PowAt a n m x y ∧ PcsRow wr w.heap.size o x ∧ PcsRow wr w.heap.size p y ∧ Below w.heap.size w wr) (fun i _ _ _ => (intOf i).toNat)
  case atStart => exact ⟨n, 1, a, rfl, hn, HST.out, hone, hva, hbw12⟩
  case round =>
    clear hone hva hbw12
    obtain ⟨m, x, y, rfl, hm, hp, hx, hy, hbw⟩ := hrel
    by_cases hm0 : 0 < m
    · have hlx := pow_lens ha hn hp.xle
      have hly := pow_lens ha hn (hp.yle hm0)
      have HP := Lib.hid (hp.step hm0)
      have HX := Lib.hid hx
      have HY := Lib.hid hy
      have hand := and_one_i64 m (by omega)
      clear hp hx hy
      by_cases ho : m % 2 = 1
      · rw [ho] at hand
        by_cases h1m : 1 < m
        · go_wp2_with fail
          refine (times_own _ _ _ _ x y _ HX.out HY.out (by omega) (by omega)).mono ?_
          rintro e w3 ⟨⟨v3, rfl, hv3⟩, hb3⟩
          go_wp2_with fail
          refine (times_own _ _ _ _ y y _ (own_below HY.out hb3) (own_below HY.out hb3) (by omega) (by omega)).mono ?_
          rintro e w4 ⟨⟨v4, rfl, hv4⟩, hb4⟩
          go_wp2_with fail
          go_roundw
          case rel =>
            have h := HP.out
            rw [if_pos ho, if_pos h1m] at h
            exact ⟨m / 2, _, _, by go_num, by omega, h, own_below (own_base hv3 hbw.size) hb4, own_base hv4 (Nat.le_trans hbw.size hb3.size), (hbw.trans (hb3.mono hbw.size)).trans (hb4.mono (Nat.le_trans hbw.size hb3.size))⟩
          case measure => simp [intOf]; omega
        · go_wp2_with fail
          refine (times_own _ _ _ _ x y _ HX.out HY.out (by omega) (by omega)).mono ?_
          rintro e w3 ⟨⟨v3, rfl, hv3⟩, hb3⟩
          go_wp2_with fail
          go_roundw
          case rel =>
            have h := HP.out
            rw [if_pos ho, if_neg h1m] at h
            exact ⟨m / 2, _, _, by go_num, by omega, h, own_base hv3 hbw.size, own_below HY.out hb3, hbw.trans (hb3.mono hbw.size)⟩
          case measure => simp [intOf]; omega
      · have h1m : 1 < m := by omega
        rw [show m % 2 = 0 by omega] at hand
        go_wp2_with fail
        refine (times_own _ _ _ _ y y _ HY.out HY.out (by omega) (by omega)).mono ?_
        rintro e w3 ⟨⟨v3, rfl, hv3⟩, hb3⟩
        go_wp2_with fail
        go_roundw
        case rel =>
          have h := HP.out
          rw [if_neg ho, if_pos h1m] at h
          exact ⟨m / 2, _, _, by go_num, by omega, h, own_below HX.out hb3, own_base hv3 hbw.size, hbw.trans (hb3.mono hbw.size)⟩
        case measure => simp [intOf]; omega
    · obtain rfl : m = 0 := by omega
      have hv := hp.val
      rw [Nat.pow_zero, Nat.mul_one] at hv
      have hdl := pow_digits ha hn
      have HTX := Lib.hid (text_own _ _ x _ hx (by have := pow_lens ha hn hp.xle; omega))
      rw [hv] at HTX
      clear hv hp hx hy
      go_wp2_with (go_at_call 69; refine HTX.out.mono ?_; rintro e w4 ⟨rfl, hb4⟩)
      go_ret2
      exact ⟨rfl, hbw.trans (hb4.mono hbw.size)⟩

theorem power_any (a n : Nat) (w : World) (ha2 : 2 ≤ a) (ha : a ≤ 97) (hn : n ≤ 1000) :
    Calls Tryz.prog 33 #[.string ⟨(decDigits a).toArray⟩, .int .i64 n] w fun e w' => e = .returned (.tuple #[.string ⟨(decDigits (a ^ n)).toArray⟩, .int .i64 0]) ∧ Below w.heap.size w w' := by
  rcases Nat.eq_zero_or_pos n with h0 | h0
  · subst h0
    refine (power_zero _ w).mono fun e w' ⟨he, hw⟩ => ⟨by rw [he, Nat.pow_zero, dec_small (by omega)]; rfl, hw ▸ Below.refl _ _⟩
  · have hb := bitLen_small a (by omega) ha2
    have hld : (decDigits a).length ≤ 1000000 := by
      rw [dec_length]
      have := nDigits_le (u := a) (k := 2) (by omega) (by omega)
      omega
    refine power_pos a n _ w ha hn h0 (show 1 ≤ a by omega) ?_ ?_ _ hb.1 hb.2 (fun W => bits_small a W (by omega)) (fun W => cut_dec a W hld)
    · rw [beq_eq_false_iff_ne]
      intro h
      have := dval_dec a
      rw [h, dval_cons, dval_nil, dgv_eq] at this
      have e : (49 : UInt8).toNat = 49 := rfl
      omega
    · rw [beq_eq_false_iff_ne]
      intro h
      have := dval_dec a
      rw [h, dval_cons, dval_nil, dgv_eq] at this
      have e : (48 : UInt8).toNat = 48 := rfl
      omega

end Go.Proofs.YtkoemgemnklmdaaGreatDoor
