/- schismalaw12.Value, most, odd. monzo: greater, exponent of any number, Greater, Odd, Superparticular of right intervals. -/
import Derived.Test.YtkoemgemnklmdaaGreatDoorGF
import Derived.Test.YtkoemgemnklmdaaGreatDoorGE
import Derived.Test.YtkoemgemnklmdaaGreatDoorGG
namespace Go.Proofs.YtkoemgemnklmdaaGreatDoor
open Go.RowKit Go.Lib

theorem whMul_nat (a b : Nat) (w : World) (hS : Std w) (ha : (decDigits a).length ≤ 50000) (hb : (decDigits b).length ≤ 50000) :
    Calls Tryz.prog 44 #[.string ⟨(decDigits a).toArray⟩, .string ⟨(decDigits b).toArray⟩] w fun e w' => e = .returned (.string ⟨(decDigits (a * b)).toArray⟩) ∧ Below w.heap.size w w' := by
  have h := whMul_any (a : Int) (b : Int) w hS (by rw [itoa_nat]; exact ha) (by rw [itoa_nat]; exact hb)
  rw [itoa_nat, itoa_nat, ← Int.natCast_mul, itoa_nat] at h
  exact h
theorem whCompare_nat (a b : Nat) (w : World) (ha : (decDigits a).length ≤ 100000) (hb : (decDigits b).length ≤ 100000) :
    Calls Tryz.prog 43 #[.string ⟨(decDigits a).toArray⟩, .string ⟨(decDigits b).toArray⟩] w fun e w' => e = .returned (.int .i64 (cmpN a b)) ∧ Below w.heap.size w w' := by
  have h := whCompare_any (a : Int) (b : Int) w (by rw [itoa_nat]; exact ha) (by rw [itoa_nat]; exact hb)
  rw [itoa_nat, itoa_nat, cmpZ_nat] at h
  exact h
theorem whDivMod_nat (x y : Nat) (w : World) (hS : Std w) (hx : (decDigits x).length ≤ 50000) (hy : (decDigits y).length ≤ 50000) (h0 : 0 < y) :
    Calls Tryz.prog 81 #[.string ⟨(decDigits x).toArray⟩, .string ⟨(decDigits y).toArray⟩] w fun e w' => e = .returned (.tuple #[.string ⟨(decDigits (x / y)).toArray⟩, .string ⟨(decDigits (x % y)).toArray⟩, .int .i64 0]) ∧ Below w.heap.size w w' := by
  have h := whDivMod_any (x : Int) y w hS (by rw [itoa_nat]; exact hx) hy h0
  rw [itoa_nat, ← Int.natCast_ediv, ← Int.natCast_emod, itoa_nat, itoa_nat] at h
  exact h

theorem pow_len {a n b : Nat} (ha : a ≤ 97) (hn : n ≤ 1000) (hb : (decDigits b).length ≤ 13000) : (decDigits (b * a ^ n)).length ≤ 20000 := by
  have h1 := dec_mul_len b (a ^ n)
  have h2 := pow_digits (a := a) (n := n) ha hn
  omega

set_option maxRecDepth 100000 in
set_option maxHeartbeats 2000000 in
theorem lawValue_any (pv xv : Value) (p x : List Int) (w : World) (hS : Std w) (hp : IsRow w w.heap.size pv p) (hx : IsRow w w.heap.size xv x) (h : Right p x) :
    Calls Tryz.prog 28 #[pv, xv] w fun e w' => e = .returned (.tuple #[.string ⟨(decDigits (num p x)).toArray⟩, .string ⟨(decDigits (den p x)).toArray⟩]) ∧ Below w.heap.size w w' := by
  have hl := h.len
  have h6 := h.six
  obtain ⟨AP, cp, rfl, _, _, hpr⟩ := hp
  obtain ⟨AX, cx, rfl, _, _, hxr⟩ := hx
  have HS := Lib.hid hS
  have HL := Lib.hid hl
  have HR : Box (Right p x) := ⟨h⟩
  have hx6 : x.length ≤ 6 := by omega
  clear hS hl h
  have HST : Box (decDigits 1 = [49]) := ⟨by rw [dec_small (by omega)]; rfl⟩
  go_enter Tryz.func28, Tryz.ntmps28
  go_wp2
  go_loopw [4, 5, 6] (fun a b i wr => ∃ k : Nat, k ≤ x.length ∧ i = .int .i64 k ∧ a = .string ⟨(decDigits (numTo p x k)).toArray⟩ ∧ b = .string ⟨(decDigits (denTo p x k)).toArray⟩ ∧ Below w.heap.size w wr) (fun _ _ i _ => x.length - (intOf i).toNat)
  case atStart => exact ⟨0, Nat.zero_le _, rfl, by rw [numTo, HST.out], by rw [denTo, HST.out], Below.refl _ _⟩
  case round =>
    obtain ⟨k, hk, rfl, rfl, rfl, hbw⟩ := hrel
    by_cases hlt : k < x.length
    · have hltp : k < p.length := by rw [← HL.out]; exact hlt
      have hn := HR.out.pr k hltp
      have he := HR.out.ex k hlt
      obtain ⟨hnl, hdl⟩ := to_len HR.out k (by omega)
      have hnum : numTo p x (k + 1) = numTo p x k * (p[k]?.getD 0).toNat ^ (x[k]?.getD 0).toNat := by
        rw [numTo]; split
        · congr 2; omega
        · rw [show (x[k]?.getD 0).toNat = 0 by omega, Nat.pow_zero, Nat.mul_one]
      have hden : denTo p x (k + 1) = denTo p x k * (p[k]?.getD 0).toNat ^ (-(x[k]?.getD 0)).toNat := by
        rw [denTo]; split
        · rw [show (-(x[k]?.getD 0)).toNat = 0 by omega, Nat.pow_zero, Nat.mul_one]
        · congr 2; omega
      have HCX : Box (∀ wr : World, Below w.heap.size w wr → ∃ ad, AX = some ad ∧ wr.cell? (ad.add k) = some (.int .i64 (x[k]?.getD 0))) := ⟨fun wr hb => by obtain ⟨ad, e1, _, e2⟩ := (hxr.below hb (Nat.le_refl _)).i_at hlt; exact ⟨ad, e1, e2⟩⟩
      have HCP : Box (∀ wr : World, Below w.heap.size w wr → ∃ ad, AP = some ad ∧ wr.cell? (ad.add k) = some (.int .i64 (p[k]?.getD 0))) := ⟨fun wr hb => by obtain ⟨ad, e1, _, e2⟩ := (hpr.below hb (Nat.le_refl _)).i_at hltp; exact ⟨ad, e1, e2⟩⟩
      have hpn : p[k]?.getD 0 = ((p[k]?.getD 0).toNat : Int) := by omega
      generalize x[k]?.getD 0 = e at *
      rw [hpn] at HCP hn
      generalize (p[k]?.getD 0).toNat = n at *
      have hn97 : 2 ≤ n ∧ n ≤ 97 := by omega
      generalize numTo p x k = N at *
      generalize denTo p x k = D at *
      have HNUM := Lib.hid hnum
      have HDEN := Lib.hid hden
      have HNL : Box ((decDigits N).length ≤ 13000 ∧ (decDigits D).length ≤ 13000) := ⟨by omega, by omega⟩
      have HPL : Box ((decDigits n).length ≤ 50000) := ⟨by rw [dec_length]; have := nDigits_le (u := n) (k := 2) (by omega) (by omega); omega⟩
      have HO := Lib.hid (fun W (hW : Std W) => whOf_any (n : Int) W (by omega) (by omega) hW)
      rw [itoa_nat] at HO
      clear hnum hden hnl hdl hpn hn
      go_wp2_with fail
      obtain ⟨wo, rfl⟩ : ∃ wo : World, wo = wr := ⟨_, rfl⟩
      go_loopw [4, 7] (fun a i wr => ∃ t : Nat, (t : Int) ≤ max e 0 ∧ i = .int .i64 t ∧ a = .string ⟨(decDigits (N * n ^ t)).toArray⟩ ∧ Below w.heap.size w wr) (fun _ i _ => (e - intOf i).toNat)
      case atStart => exact ⟨0, by omega, rfl, by rw [Nat.pow_zero, Nat.mul_one], hbw⟩
      case round =>
        clear hbw
        obtain ⟨t, ht, rfl, rfl, hbw⟩ := hrel
        obtain ⟨adx, rfl, hcx⟩ := HCX.out _ hbw
        by_cases hte : (t : Int) < e
        · obtain ⟨adp, rfl, hcp⟩ := HCP.out _ hbw
          have HS1 := Lib.hid (HS.out.below hbw (Nat.le_refl _))
          have HE : Box (N * n ^ t * n = N * n ^ (t + 1)) := ⟨by rw [Nat.pow_succ, Nat.mul_assoc]⟩
          have HPW : Box ((decDigits (N * n ^ t)).length ≤ 50000) := ⟨by have := pow_len (b := N) hn97.2 (show t ≤ 1000 by omega) HNL.out.1; omega⟩
          go_wp2_with fail
          refine (HO.out _ HS1.out).mono ?_
          rintro e1 w1 ⟨rfl, hb1⟩
          have HS2 := Lib.hid (HS1.out.below hb1 (Nat.le_refl _))
          go_wp2_with fail
          refine (whMul_nat _ n _ HS2.out HPW.out HPL.out).mono ?_
          rintro e1 w2 ⟨rfl, hb2⟩
          rw [HE.out]
          go_wp2_with fail
          go_roundw
          case rel =>
            have h12 := hb1.trans (hb2.mono hb1.size)
            exact ⟨t + 1, by omega, by go_num, rfl, hbw.trans (h12.mono hbw.size)⟩
          case measure => (simp [intOf]; try omega)
        · have hte2 : (t : Int) = max e 0 := by omega
          have HTE : Box (t = e.toNat) := ⟨by omega⟩
          clear hte2
          go_wp2_with fail
          obtain ⟨wo, rfl⟩ : ∃ wo : World, wo = wr := ⟨_, rfl⟩
          go_loopw [5, 8] (fun a i wr => ∃ t : Nat, (t : Int) ≤ max (-e) 0 ∧ i = .int .i64 (-(t : Int)) ∧ a = .string ⟨(decDigits (D * n ^ t)).toArray⟩ ∧ Below w.heap.size w wr) (fun _ i _ => (intOf i - e).toNat)
          case atStart => exact ⟨0, by omega, rfl, by rw [Nat.pow_zero, Nat.mul_one], hbw⟩
          case round =>
            clear hbw hcx ht hte
            obtain ⟨s, hs, rfl, rfl, hbw⟩ := hrel
            obtain ⟨adx2, e2, hcx⟩ := HCX.out _ hbw
            injection e2 with e2
            subst e2
            by_cases hte : e < -(s : Int)
            · obtain ⟨adp, rfl, hcp⟩ := HCP.out _ hbw
              have HS1 := Lib.hid (HS.out.below hbw (Nat.le_refl _))
              have HE : Box (D * n ^ s * n = D * n ^ (s + 1)) := ⟨by rw [Nat.pow_succ, Nat.mul_assoc]⟩
              have HPW : Box ((decDigits (D * n ^ s)).length ≤ 50000) := ⟨by have := pow_len (b := D) hn97.2 (show s ≤ 1000 by omega) HNL.out.2; omega⟩
              go_wp2_with fail
              refine (HO.out _ HS1.out).mono ?_
              rintro e1 w1 ⟨rfl, hb1⟩
              have HS2 := Lib.hid (HS1.out.below hb1 (Nat.le_refl _))
              go_wp2_with fail
              refine (whMul_nat _ n _ HS2.out HPW.out HPL.out).mono ?_
              rintro e1 w2 ⟨rfl, hb2⟩
              rw [HE.out]
              go_wp2_with fail
              go_roundw
              case rel =>
                have h12 := hb1.trans (hb2.mono hb1.size)
                exact ⟨s + 1, by omega, congrArg (Value.int .i64) (by omega), rfl, hbw.trans (h12.mono hbw.size)⟩
              case measure => (simp [intOf]; try omega)
            · have HTS : Box (s = (-e).toNat) := ⟨by omega⟩
              go_wp2_with fail
              go_roundw
              case rel => exact ⟨k + 1, by omega, by go_num, by rw [HNUM.out, HTE.out], by rw [HDEN.out, HTS.out], hbw⟩
              case measure => (simp [intOf]; try omega)
    · obtain rfl : k = x.length := by omega
      have hkp : ¬ ((x.length : Int) < (x.length : Int)) := by omega
      have hpl2 : (p.length : Int) = x.length := by rw [HL.out]
      go_wp2_with fail
      go_ret2
      exact ⟨rfl, hbw⟩

set_option maxHeartbeats 400000 in
theorem most_any (a b : Nat) (w : World) (ha : (decDigits a).length ≤ 100000) (hb : (decDigits b).length ≤ 100000) :
    Calls Tryz.prog 47 #[.string ⟨(decDigits a).toArray⟩, .string ⟨(decDigits b).toArray⟩] w fun e w' => e = .returned (.string ⟨(decDigits (max a b)).toArray⟩) ∧ Below w.heap.size w w' := by
  have HC := Lib.hid (whCompare_nat a b w ha hb)
  by_cases h : a < b
  · have hc : decide (cmpN a b < 0) = true := by unfold cmpN; rw [if_pos h]; rfl
    rw [Nat.max_eq_right (Nat.le_of_lt h)]
    clear h
    generalize cmpN a b = cc at *
    go_enter Tryz.func47, Tryz.ntmps47
    go_wp2_with fail
    refine HC.out.mono ?_
    rintro e w1 ⟨rfl, hb1⟩
    go_wp2_with fail
    go_ret
    exact ⟨rfl, hb1⟩
  · have hc : decide (cmpN a b < 0) = false := by unfold cmpN; rw [if_neg h]; split <;> decide
    rw [Nat.max_eq_left (by omega)]
    clear h
    generalize cmpN a b = cc at *
    go_enter Tryz.func47, Tryz.ntmps47
    go_wp2_with fail
    refine HC.out.mono ?_
    rintro e w1 ⟨rfl, hb1⟩
    go_wp2_with fail
    go_ret
    exact ⟨rfl, hb1⟩

set_option maxRecDepth 100000 in
set_option maxHeartbeats 1000000 in
theorem odd_any (x : Nat) (w : World) (hS : Std w) (hx : (decDigits x).length ≤ 50000) (hx0 : 0 < x) (hm : mult 2 x < 4000) :
    Calls Tryz.prog 48 #[.string ⟨(decDigits x).toArray⟩] w fun e w' => e = .returned (.string ⟨(decDigits (left 2 x)).toArray⟩) ∧ Below w.heap.size w w' := by
  have HX : Box ((decDigits x).length ≤ 50000 ∧ 0 < x) := ⟨hx, hx0⟩
  have HS := Lib.hid hS
  have H2 : Box ((decDigits 2).length ≤ 50000) := ⟨by rw [dec_small (by omega)]; simp⟩
  have HMM : Box (mult 2 x < 4000) := ⟨hm⟩
  clear hS hx hx0 hm
  go_enter Tryz.func48, Tryz.ntmps48
  go_wp2
  go_loopw [0, 3] (fun a t wr => ∃ y k : Nat, a = .string ⟨(decDigits y).toArray⟩ ∧ t = .int .i64 k ∧ k < 4000 ∧ Box (0 < y ∧ y ≤ x) ∧ Box (mult 2 x = mult 2 y + k) ∧ Box (left 2 x = left 2 y) ∧ Below w.heap.size w wr) (fun _ t _ => 4001 - (intOf t).toNat)
  case atStart => exact ⟨x, 0, rfl, rfl, by omega, ⟨HX.out.2, Nat.le_refl _⟩, ⟨rfl⟩, ⟨rfl⟩, Below.refl _ _⟩
  case round =>
    obtain ⟨y, k, rfl, rfl, hk, HY, HM, HL, hbw⟩ := hrel
    have hsr := HS.out.below hbw (Nat.le_refl _)
    have HD := Lib.hid (whDivMod_nat y 2 wr hsr (Nat.le_trans (dec_le_len HY.out.2) HX.out.1) H2.out (by omega))
    rw [show decDigits 2 = [50] by rw [dec_small (by omega)]; rfl] at HD
    have hz := dec_eq_zero (y % 2)
    clear hsr
    by_cases hdv : y % 2 = 0
    · rw [decide_eq_true hdv] at hz
      have hz2 : (decDigits (y % 2) != [48]) = false := by simp only [bne, hz]; rfl
      have hyes : 2 ≤ 2 ∧ 0 < y ∧ y % 2 = 0 := ⟨Nat.le_refl _, HY.out.1, hdv⟩
      have h1 := HM.out
      rw [mult_yes hyes] at h1
      have h2 := HL.out
      rw [left_yes hyes] at h2
      have hkl : k + 1 < 4000 := by have := HMM.out; omega
      have HM2 : Box (mult 2 x = mult 2 (y / 2) + (k + 1)) := ⟨by omega⟩
      have HL2 : Box (left 2 x = left 2 (y / 2)) := ⟨h2⟩
      have HY2 : Box (0 < y / 2 ∧ y / 2 ≤ x) := ⟨by have := HY.out; omega⟩
      clear h1 h2 hyes hdv
      generalize decDigits (y % 2) = lr at *
      go_wp2_with fail
      refine HD.out.mono ?_
      rintro e w1 ⟨rfl, hb1⟩
      go_wp2_with fail
      go_roundw
      case rel => exact ⟨y / 2, k + 1, rfl, by go_num, hkl, HY2, HM2, HL2, hbw.trans (hb1.mono hbw.size)⟩
      case measure => (simp [intOf]; try omega)
    · rw [decide_eq_false hdv] at hz
      have hz2 : (decDigits (y % 2) != [48]) = true := by simp only [bne, hz]; rfl
      have hno : ¬ (2 ≤ 2 ∧ 0 < y ∧ y % 2 = 0) := fun h => hdv h.2.2
      have HL2 : Box (left 2 x = y) := ⟨by rw [HL.out, left_no hno]⟩
      clear hno hdv
      generalize decDigits (y % 2) = lr at *
      go_wp2_with fail
      refine HD.out.mono ?_
      rintro e w1 ⟨rfl, hb1⟩
      go_wp2_with fail
      go_ret
      exact ⟨ret_str (by rw [HL2.out]), hbw.trans (hb1.mono hbw.size)⟩

end Go.Proofs.YtkoemgemnklmdaaGreatDoor

namespace Go.Proofs.YtkoemgemnklmdaaGreatDoor
open Go.RowKit Go.Lib

theorem mult_le_len (p n : Nat) : mult p n ≤ 4 * (decDigits n).length := by
  rcases Nat.eq_zero_or_pos n with h0 | h0
  · rw [mult_no (by omega)]; omega
  · have h1 := mult_pow p n h0
    have h2 := dec_lt_pow n
    have h3 : (10 : Nat) ^ (decDigits n).length ≤ 16 ^ (decDigits n).length := Nat.pow_le_pow_left (by omega) _
    have h4 : (16 : Nat) ^ (decDigits n).length = 2 ^ (4 * (decDigits n).length) := by rw [Nat.pow_mul]
    rcases Nat.lt_or_ge (4 * (decDigits n).length) (mult p n) with h | h
    · have h5 : (2 : Nat) ^ (4 * (decDigits n).length) ≤ 2 ^ mult p n := Nat.pow_le_pow_right (by omega) (by omega)
      omega
    · exact h

set_option maxRecDepth 100000 in
set_option maxHeartbeats 1000000 in
theorem exponentL_any (x p : Nat) (w : World) (hS : Std w) (hx : (decDigits x).length ≤ 50000) (hx0 : 0 < x) (hp2 : 2 ≤ p) (hp : p ≤ 97) :
    Calls Tryz.prog 59 #[.string ⟨(decDigits x).toArray⟩, .int .i64 p] w fun e w' => e = .returned (.tuple #[.string ⟨(decDigits (left p x)).toArray⟩, .int .i64 (mult p x : Nat)]) ∧ Below w.heap.size w w' := by
  have HX : Box ((decDigits x).length ≤ 50000 ∧ 0 < x) := ⟨hx, hx0⟩
  have HS := Lib.hid hS
  have hm60 : mult p x ≤ 200000 := by have := mult_le_len p x; omega
  have hpl : (decDigits p).length ≤ 50000 := by
    rw [dec_length]
    have := nDigits_le (u := p) (k := 2) (by omega) (by omega)
    omega
  have HPL : Box ((decDigits p).length ≤ 50000) := ⟨hpl⟩
  have HO := Lib.hid (fun W (hW : Std W) => whOf_any (p : Int) W (by omega) (by omega) hW)
  rw [itoa_nat] at HO
  clear hS hx hx0 hpl
  go_enter Tryz.func59, Tryz.ntmps59
  go_wp2
  go_loopw [0, 5] (fun a t wr => ∃ y k : Nat, a = .string ⟨(decDigits y).toArray⟩ ∧ t = .int .i64 k ∧ k ≤ 200000 ∧ Box (0 < y ∧ y ≤ x) ∧ Box (mult p x = mult p y + k) ∧ Box (left p x = left p y) ∧ Below w.heap.size w wr) (fun _ t _ => 200001 - (intOf t).toNat)
  case atStart => exact ⟨x, 0, rfl, rfl, by omega, ⟨HX.out.2, Nat.le_refl _⟩, ⟨rfl⟩, ⟨rfl⟩, Below.refl _ _⟩
  case round =>
    obtain ⟨y, k, rfl, rfl, hk, HY, HM, HL, hbw⟩ := hrel
    have hsr := HS.out.below hbw (Nat.le_refl _)
    have HSR := Lib.hid hsr
    have HD := Lib.hid (fun W (hW : Std W) => whDivMod_nat y p W hW (Nat.le_trans (dec_le_len HY.out.2) HX.out.1) HPL.out (by omega))
    have hz := dec_eq_zero (y % p)
    clear hsr
    by_cases hdv : y % p = 0
    · rw [decide_eq_true hdv] at hz
      have hz2 : (decDigits (y % p) != [48]) = false := by simp only [bne, hz]; rfl
      have hyes : 2 ≤ p ∧ 0 < y ∧ y % p = 0 := ⟨hp2, HY.out.1, hdv⟩
      have h1 := HM.out
      rw [mult_yes hyes] at h1
      have h2 := HL.out
      rw [left_yes hyes] at h2
      have hkl : k < 200000 := by omega
      have HM2 : Box (mult p x = mult p (y / p) + (k + 1)) := ⟨by omega⟩
      have HL2 : Box (left p x = left p (y / p)) := ⟨h2⟩
      have HY2 : Box (0 < y / p ∧ y / p ≤ x) := ⟨by
        have hm := Nat.div_add_mod y p
        have h3 := HY.out
        refine ⟨?_, Nat.le_trans (Nat.div_le_self _ _) h3.2⟩
        rcases Nat.eq_zero_or_pos (y / p) with h0 | h0
        · rw [h0, hdv] at hm; omega
        · exact h0⟩
      clear h1 h2 hyes hdv
      generalize decDigits (y % p) = lr at *
      go_wp2_with fail
      refine (HO.out _ HSR.out).mono ?_
      rintro e w1 ⟨rfl, hb1⟩
      go_wp2_with fail
      refine (HD.out _ (HSR.out.below hb1 (Nat.le_refl _))).mono ?_
      rintro e w2 ⟨rfl, hb2⟩
      go_wp2_with fail
      go_roundw
      case rel =>
        have h12 := hb1.trans (hb2.mono hb1.size)
        exact ⟨y / p, k + 1, rfl, by go_num, by omega, HY2, HM2, HL2, hbw.trans (h12.mono hbw.size)⟩
      case measure => (simp [intOf]; try omega)
    · rw [decide_eq_false hdv] at hz
      have hz2 : (decDigits (y % p) != [48]) = true := by simp only [bne, hz]; rfl
      have hno : ¬ (2 ≤ p ∧ 0 < y ∧ y % p = 0) := fun h => hdv h.2.2
      have HM2 : Box (mult p x = k) := ⟨by rw [HM.out, mult_no hno]; omega⟩
      have HL2 : Box (left p x = y) := ⟨by rw [HL.out, left_no hno]⟩
      clear hno hdv
      generalize decDigits (y % p) = lr at *
      go_wp2_with fail
      refine (HO.out _ HSR.out).mono ?_
      rintro e w1 ⟨rfl, hb1⟩
      go_wp2_with fail
      refine (HD.out _ (HSR.out.below hb1 (Nat.le_refl _))).mono ?_
      rintro e w2 ⟨rfl, hb2⟩
      go_wp2_with fail
      go_ret2
      have h12 := hb1.trans (hb2.mono hb1.size)
      exact ⟨ret2 (by rw [HL2.out]; rfl) (by rw [HM2.out]; rfl), hbw.trans (h12.mono hbw.size)⟩

set_option maxHeartbeats 400000 in
theorem greaterF_any (a b : Nat) (w : World) (ha : (decDigits a).length ≤ 100000) (hb : (decDigits b).length ≤ 100000) :
    Calls Tryz.prog 71 #[.string ⟨(decDigits a).toArray⟩, .string ⟨(decDigits b).toArray⟩] w fun e w' => e = .returned (.string ⟨(decDigits (max a b)).toArray⟩) ∧ Below w.heap.size w w' := by
  have HC := Lib.hid (compare_any a b w (by omega) (by omega))
  by_cases h : a < b
  · have hc : decide (cmpN a b < 0) = true := by unfold cmpN; rw [if_pos h]; rfl
    rw [Nat.max_eq_right (Nat.le_of_lt h)]
    clear h
    generalize cmpN a b = cc at *
    go_enter Tryz.func71, Tryz.ntmps71
    go_wp2_with fail
    refine HC.out.mono ?_
    rintro e w1 ⟨rfl, rfl⟩
    go_wp2_with fail
    go_ret
    exact ⟨rfl, Below.refl _ _⟩
  · have hc : decide (cmpN a b < 0) = false := by unfold cmpN; rw [if_neg h]; split <;> decide
    rw [Nat.max_eq_left (by omega)]
    clear h
    generalize cmpN a b = cc at *
    go_enter Tryz.func71, Tryz.ntmps71
    go_wp2_with fail
    refine HC.out.mono ?_
    rintro e w1 ⟨rfl, rfl⟩
    go_wp2_with fail
    go_ret
    exact ⟨rfl, Below.refl _ _⟩

set_option maxHeartbeats 400000 in
theorem oddF_any (a b : Nat) (w : World) (hS : Std w) (ha : (decDigits a).length ≤ 50000) (hb : (decDigits b).length ≤ 50000) (ha0 : 0 < a) (hb0 : 0 < b) :
    Calls Tryz.prog 79 #[.string ⟨(decDigits a).toArray⟩, .string ⟨(decDigits b).toArray⟩] w fun e w' => e = .returned (.string ⟨(decDigits (max (left 2 a) (left 2 b))).toArray⟩) ∧ Below w.heap.size w w' := by
  have HS := Lib.hid hS
  have HA := Lib.hid (exponentL_any a 2 w hS ha ha0 (by omega) (by omega))
  have HB := Lib.hid (fun W hW => exponentL_any b 2 W hW hb hb0 (by omega) (by omega))
  have h1 := dec_le_len (left_le 2 a).1
  have h2 := dec_le_len (left_le 2 b).1
  have HG := Lib.hid (fun W => greaterF_any (left 2 a) (left 2 b) W (by omega) (by omega))
  clear hS h1 h2
  go_enter Tryz.func79, Tryz.ntmps79
  go_wp2_with fail
  refine HA.out.mono ?_
  rintro e w1 ⟨rfl, hbw⟩
  replace HS := Lib.hid (HS.out.below hbw (Nat.le_refl _))
  go_wp2_with fail
  refine (HB.out _ HS.out).mono ?_
  rintro e wk1 ⟨rfl, hbk⟩
  replace HS := Lib.hid (HS.out.below hbk (Nat.le_refl _))
  replace hbw := hbw.trans (hbk.mono hbw.size)
  clear hbk
  go_wp2_with fail
  refine (HG.out _).mono ?_
  rintro e wk2 ⟨rfl, hbk⟩
  replace HS := Lib.hid (HS.out.below hbk (Nat.le_refl _))
  replace hbw := hbw.trans (hbk.mono hbw.size)
  clear hbk
  go_wp2_with fail
  go_ret
  exact ⟨rfl, hbw⟩

set_option maxHeartbeats 400000 in
theorem greater_mon (pv xv : Value) (p x : List Int) (w : World) (hp : IsRow w w.heap.size pv p) (hx : IsRow w w.heap.size xv x) (h : chkAll p [x] = 0) (hS : Std w) :
    Calls Tryz.prog 34 #[pv, xv] w fun e w' => e = .returned (shortOut (decDigits (max (num p x) (den p x)))) ∧ Below w.heap.size w w' := by
  have hl := num_len (right_of h)
  have hml : (decDigits (max (num p x) (den p x))).length ≤ 1000000 := by
    rcases Nat.le_total (num p x) (den p x) with h | h
    · rw [Nat.max_eq_right h]; omega
    · rw [Nat.max_eq_left h]; omega
  have HH := Lib.hid (height_run pv xv 71 p x (decDigits (max (num p x) (den p x))) w hp hx h hS hml (fun args w => enters_of Tryz.func71 (by kernel_rfl) rfl args w) (fun W _ => greaterF_any _ _ W (by omega) (by omega)))
  obtain ⟨v1, v2, e2⟩ := shortOut_two (decDigits (max (num p x) (den p x)))
  rw [e2] at HH ⊢
  clear hl hml e2 h hS
  obtain ⟨AP, cp, rfl, _⟩ := hp
  obtain ⟨AX, cx, rfl, _⟩ := hx
  go_enter Tryz.func34, Tryz.ntmps34
  go_wp2_with fail
  refine HH.out.mono ?_
  rintro e w1 ⟨rfl, hb1⟩
  go_wp2_with fail
  go_ret2
  exact ⟨rfl, hb1⟩

set_option maxHeartbeats 400000 in
theorem odd_mon (pv xv : Value) (p x : List Int) (w : World) (hp : IsRow w w.heap.size pv p) (hx : IsRow w w.heap.size xv x) (h : chkAll p [x] = 0) (hS : Std w) (hn0 : 0 < num p x) (hd0 : 0 < den p x) :
    Calls Tryz.prog 45 #[pv, xv] w fun e w' => e = .returned (shortOut (decDigits (max (left 2 (num p x)) (left 2 (den p x))))) ∧ Below w.heap.size w w' := by
  have hl := num_len (right_of h)
  have hml : (decDigits (max (left 2 (num p x)) (left 2 (den p x)))).length ≤ 1000000 := by
    have h1 := dec_le_len (left_le 2 (num p x)).1
    have h2 := dec_le_len (left_le 2 (den p x)).1
    rcases Nat.le_total (left 2 (num p x)) (left 2 (den p x)) with h | h
    · rw [Nat.max_eq_right h]; omega
    · rw [Nat.max_eq_left h]; omega
  have HH := Lib.hid (height_run pv xv 79 p x (decDigits (max (left 2 (num p x)) (left 2 (den p x)))) w hp hx h hS hml (fun args w => enters_of Tryz.func79 (by kernel_rfl) rfl args w) (fun W hW => oddF_any _ _ W hW (by omega) (by omega) hn0 hd0))
  obtain ⟨v1, v2, e2⟩ := shortOut_two (decDigits (max (left 2 (num p x)) (left 2 (den p x))))
  rw [e2] at HH ⊢
  clear hl hml e2 h hS
  obtain ⟨AP, cp, rfl, _⟩ := hp
  obtain ⟨AX, cx, rfl, _⟩ := hx
  go_enter Tryz.func45, Tryz.ntmps45
  go_wp2_with fail
  refine HH.out.mono ?_
  rintro e w1 ⟨rfl, hb1⟩
  go_wp2_with fail
  go_ret2
  exact ⟨rfl, hb1⟩

set_option maxHeartbeats 400000 in
theorem superp_ok (pv xv : Value) (p x : List Int) (w : World) (hS : Std w) (hp : IsRow w w.heap.size pv p) (hx : IsRow w w.heap.size xv x) (h : chkAll p [x] = 0) :
    Calls Tryz.prog 46 #[pv, xv] w fun e w' => e = .returned (.tuple #[.bool (decDigits (num p x) == decDigits (den p x + 1)), .int .i64 0]) ∧ Below w.heap.size w w' := by
  have HC := Lib.hid (check_any _ _ p x w hp hx)
  rw [h] at HC
  have hr := right_of h
  have HSD := Lib.hid (fun W hW hp hx => sides_any pv xv p x W hW hp hx hr)
  obtain ⟨hl1, hl2⟩ := num_len hr
  have HA := Lib.hid (fun W hW => decAdd_any (den p x) 1 W hW (by omega) (by rw [dec_small (by omega)]; simp))
  rw [show decDigits 1 = [49] by rw [dec_small (by omega)]; rfl] at HA
  have HS := Lib.hid hS
  have HP := Lib.hid hp
  have HX := Lib.hid hx
  obtain ⟨AP, cp, rfl⟩ := hp.shape
  obtain ⟨AX, cx, rfl⟩ := hx.shape
  clear hS hp hx h hr hl1 hl2
  go_enter Tryz.func46, Tryz.ntmps46
  go_wp2_with fail
  refine HC.out.mono ?_
  rintro e w1 ⟨rfl, hb1⟩
  go_wp2_with fail
  refine (HSD.out _ (HS.out.below hb1 (Nat.le_refl _)) (HP.out.lift hb1) (HX.out.lift hb1)).mono ?_
  rintro e w2 ⟨rfl, hb2⟩
  have h12 := hb1.trans (hb2.mono hb1.size)
  go_wp2_with fail
  refine (HA.out _ (HS.out.below h12 (Nat.le_refl _))).mono ?_
  rintro e w3 ⟨rfl, hb3⟩
  go_wp2_with fail
  go_ret2
  exact ⟨rfl, h12.trans (hb3.mono h12.size)⟩

end Go.Proofs.YtkoemgemnklmdaaGreatDoor
