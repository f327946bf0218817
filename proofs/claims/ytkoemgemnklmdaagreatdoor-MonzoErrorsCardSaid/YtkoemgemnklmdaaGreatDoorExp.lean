/- monzo.exponent of short numbers; fraction.Check and Sign of right short fractions; monzo.Of of them. -/
import Derived.Test.YtkoemgemnklmdaaGreatDoorRow
namespace Go.Proofs.YtkoemgemnklmdaaGreatDoor
open Go.RowKit Go.Lib

/-- How often p divides n, and what is left. -/
def mult (p n : Nat) : Nat := if h : 2 ≤ p ∧ 0 < n ∧ n % p = 0 then mult p (n / p) + 1 else 0
termination_by n
decreasing_by exact Nat.div_lt_self h.2.1 (by omega)
def left (p n : Nat) : Nat := if _h : 2 ≤ p ∧ 0 < n ∧ n % p = 0 then left p (n / p) else n
termination_by n
decreasing_by exact Nat.div_lt_self _h.2.1 (by omega)

theorem mult_yes {p n : Nat} (h : 2 ≤ p ∧ 0 < n ∧ n % p = 0) : mult p n = mult p (n / p) + 1 := by rw [mult, dif_pos h]
theorem mult_no {p n : Nat} (h : ¬ (2 ≤ p ∧ 0 < n ∧ n % p = 0)) : mult p n = 0 := by rw [mult, dif_neg h]
theorem left_yes {p n : Nat} (h : 2 ≤ p ∧ 0 < n ∧ n % p = 0) : left p n = left p (n / p) := by rw [left, dif_pos h]
theorem left_no {p n : Nat} (h : ¬ (2 ≤ p ∧ 0 < n ∧ n % p = 0)) : left p n = n := by rw [left, dif_neg h]

theorem left_le (p n : Nat) : left p n ≤ n ∧ (0 < n → 0 < left p n) := by
  induction n using Nat.strongRecOn with
  | _ n ih =>
    by_cases h : 2 ≤ p ∧ 0 < n ∧ n % p = 0
    · rw [left_yes h]
      have hlt : n / p < n := Nat.div_lt_self h.2.1 (by omega)
      have h1 := ih _ hlt
      have hpos : 0 < n / p := by
        have := Nat.div_add_mod n p
        rcases Nat.eq_zero_or_pos (n / p) with h0 | h0
        · rw [h0, h.2.2] at this; omega
        · exact h0
      exact ⟨by omega, fun _ => h1.2 hpos⟩
    · rw [left_no h]; exact ⟨Nat.le_refl _, id⟩

theorem mult_pow (p n : Nat) (hn : 0 < n) : 2 ^ mult p n ≤ n := by
  induction n using Nat.strongRecOn with
  | _ n ih =>
    by_cases h : 2 ≤ p ∧ 0 < n ∧ n % p = 0
    · rw [mult_yes h, Nat.pow_succ]
      have hlt : n / p < n := Nat.div_lt_self h.2.1 (by omega)
      have hm := Nat.div_add_mod n p
      have hpos : 0 < n / p := by
        rcases Nat.eq_zero_or_pos (n / p) with h0 | h0
        · rw [h0, h.2.2] at hm; omega
        · exact h0
      have h1 := ih _ hlt hpos
      have h2 : 2 * (n / p) ≤ p * (n / p) := Nat.mul_le_mul_right _ h.1
      omega
    · rw [mult_no h]; simp; omega

theorem mult_le (p n : Nat) (hn : n < 10 ^ 18) : mult p n ≤ 60 := by
  rcases Nat.eq_zero_or_pos n with h0 | h0
  · rw [mult_no (by omega)]; omega
  · have h1 := mult_pow p n h0
    rcases Nat.lt_or_ge 60 (mult p n) with h | h
    · have h2 : 2 ^ 61 ≤ 2 ^ mult p n := Nat.pow_le_pow_right (by omega) h
      have h3 : (10 : Nat) ^ 18 ≤ 2 ^ 61 := by decide
      omega
    · exact h

theorem dec18 {n m : Nat} (h : n ≤ m) (hm : (decDigits m).length ≤ 18) : (decDigits n).length ≤ 18 := by
  rw [dec_length] at *
  exact Nat.le_trans (nDigits_mono h) hm

set_option maxHeartbeats 1000000 in
theorem exponent_any (x p : Nat) (w : World) (hS : Std w) (hx : (decDigits x).length ≤ 18) (hx0 : 0 < x) (hp2 : 2 ≤ p) (hp : p ≤ 97) :
    Calls Tryz.prog 59 #[.string ⟨(decDigits x).toArray⟩, .int .i64 p] w fun e w' => e = .returned (.tuple #[.string ⟨(decDigits (left p x)).toArray⟩, .int .i64 (mult p x : Nat)]) ∧ Below w.heap.size w w' := by
  have HX : Box ((decDigits x).length ≤ 18 ∧ 0 < x) := ⟨hx, hx0⟩
  have HS := Lib.hid hS
  have hm60 := mult_le p x (len18 hx)
  have hpl : (decDigits p).length ≤ 18 := by
    rw [dec_length]
    have := nDigits_le (u := p) (k := 2) (by omega) (by omega)
    omega
  have HPL : Box ((decDigits p).length ≤ 18) := ⟨hpl⟩
  have HO := Lib.hid (fun W (hW : Std W) => whOf_any (p : Int) W (by omega) (by omega) hW)
  rw [itoa_nat] at HO
  clear hS hx hx0 hpl
  go_enter Tryz.func59, Tryz.ntmps59
  go_wp2
  go_loopw [0, 5] (fun a t wr => ∃ y k : Nat, a = .string ⟨(decDigits y).toArray⟩ ∧ t = .int .i64 k ∧ k ≤ 60 ∧ Box (0 < y ∧ y ≤ x) ∧ Box (mult p x = mult p y + k) ∧ Box (left p x = left p y) ∧ Below w.heap.size w wr) (fun _ t _ => 61 - (intOf t).toNat)
  case atStart => exact ⟨x, 0, rfl, rfl, by omega, ⟨HX.out.2, Nat.le_refl _⟩, ⟨rfl⟩, ⟨rfl⟩, Below.refl _ _⟩
  case round =>
    obtain ⟨y, k, rfl, rfl, hk, HY, HM, HL, hbw⟩ := hrel
    have hsr := HS.out.below hbw (Nat.le_refl _)
    have HSR := Lib.hid hsr
    have HD := Lib.hid (fun W (hW : Std W) => whDivMod_small y p W hW (dec18 HY.out.2 HX.out.1) HPL.out (by omega))
    have hz := dec_eq_zero (y % p)
    clear hsr
    by_cases hdv : y % p = 0
    · rw [decide_eq_true hdv] at hz
      have hz2 : (decDigits (y % p) != [48]) = false := by simp only [bne, hz]; rfl
      have hyes : 2 ≤ p ∧ 0 < y ∧ y % p = 0 := ⟨hp2, HY.out.1, hdv⟩
      have h1 := HM.out
      rw [mult_yes hyes] at h1
      have h2 := HL.out
      rw [left_yes hyes] at h2
      have hkl : k < 60 := by omega
      have HM2 : Box (mult p x = mult p (y / p) + (k + 1)) := ⟨by omega⟩
      have HL2 : Box (left p x = left p (y / p)) := ⟨h2⟩
      have HY2 : Box (0 < y / p ∧ y / p ≤ x) := ⟨by
        have hm := Nat.div_add_mod y p
        have h3 := HY.out
        refine ⟨?_, Nat.le_trans (Nat.div_le_self _ _) h3.2⟩
        rcases Nat.eq_zero_or_pos (y / p) with h0 | h0
        · rw [h0, hdv] at hm; omega
        · exact h0⟩
      clear h1 h2 hyes hdv
      generalize decDigits (y % p) = lr at *
      go_wp2_with fail
      refine (HO.out _ HSR.out).mono ?_
      rintro e w1 ⟨rfl, hb1⟩
      go_wp2_with fail
      refine (HD.out _ (HSR.out.below hb1 (Nat.le_refl _))).mono ?_
      rintro e w2 ⟨rfl, hb2⟩
      go_wp2_with fail
      go_roundw
      case rel =>
        have h12 := hb1.trans (hb2.mono hb1.size)
        exact ⟨y / p, k + 1, rfl, by go_num, by omega, HY2, HM2, HL2, hbw.trans (h12.mono hbw.size)⟩
      case measure => simp [intOf]; omega
    · rw [decide_eq_false hdv] at hz
      have hz2 : (decDigits (y % p) != [48]) = true := by simp only [bne, hz]; rfl
      have hno : ¬ (2 ≤ p ∧ 0 < y ∧ y % p = 0) := fun h => hdv h.2.2
      have HM2 : Box (mult p x = k) := ⟨by rw [HM.out, mult_no hno]; omega⟩
      have HL2 : Box (left p x = y) := ⟨by rw [HL.out, left_no hno]⟩
      clear hno hdv
      generalize decDigits (y % p) = lr at *
      go_wp2_with fail
      refine (HO.out _ HSR.out).mono ?_
      rintro e w1 ⟨rfl, hb1⟩
      go_wp2_with fail
      refine (HD.out _ (HSR.out.below hb1 (Nat.le_refl _))).mono ?_
      rintro e w2 ⟨rfl, hb2⟩
      go_wp2_with fail
      go_ret2
      have h12 := hb1.trans (hb2.mono hb1.size)
      exact ⟨ret2 (by rw [HL2.out]; rfl) (by rw [HM2.out]; rfl), hbw.trans (h12.mono hbw.size)⟩

set_option maxHeartbeats 400000 in
theorem fracSign_any (n : Int) (b : List UInt8) (w : World) (h : (itoa n).length ≤ 100000) :
    Calls Tryz.prog 58 #[.agg #[.string ⟨(itoa n).toArray⟩, .string ⟨b.toArray⟩]] w fun e w' => e = .returned (.int .i64 (sgn n)) ∧ Below w.heap.size w w' := by
  have HS := Lib.hid (fun W => whSign_any n W h)
  generalize itoa n = l at *
  go_enter Tryz.func58, Tryz.ntmps58
  go_wp2_with (go_at_call 75; refine (HS.out _).mono ?_; rintro e w1 ⟨rfl, hw⟩; have hb1 : Below w.heap.size w w1 := (by rw [← hw]; exact (Below.refl _ _).alloc (Nat.le_refl _) _); clear hw)
  go_ret
  exact ⟨rfl, hb1⟩

theorem rat_cells {w w' : World} {a b : Value} {t : TypeId} (hb : Below (w.heap.size + 1) (w.alloc (.cells #[a, b] t)) w') : w'.cell? ⟨w.heap.size, 0, Option.none⟩ = some a ∧ w'.cell? ⟨w.heap.size, 1, Option.none⟩ = some b := by
  obtain ⟨h0, h1, _⟩ := two_below hb
  exact ⟨h0, h1⟩

set_option maxHeartbeats 1000000 in
theorem fracCheck_yes (n d : Int) (w : World) (hS : Std w) (hn : (decDigits n.natAbs).length ≤ 18) (hd : (decDigits d.natAbs).length ≤ 18) (hd0 : 0 < d) (hg : Nat.gcd n.natAbs d.natAbs = 1) :
    Calls Tryz.prog 57 #[.agg #[.string ⟨(itoa n).toArray⟩, .string ⟨(itoa d).toArray⟩]] w fun e w' => e = .returned (.int .i64 0) ∧ Below w.heap.size w w' := by
  have hln := itoa_len n
  have hld := itoa_len d
  have HN := Lib.hid (fun W => whCheck_split (itoa n) W (by omega) 0 (.inl ⟨⟨n, rfl, by omega⟩, rfl⟩))
  have HD := Lib.hid (fun W => whCheck_split (itoa d) W (by omega) 0 (.inl ⟨⟨d, rfl, by omega⟩, rfl⟩))
  have hsg : sgn d = 1 := by unfold sgn; rw [if_neg (by omega), if_neg (by omega)]
  have HSG := Lib.hid (fun W => whSign_any d W (by omega))
  rw [hsg] at HSG
  have HG := Lib.hid (fun W hW => whGcd_small n d W hW hn hd)
  rw [hg, dec_small (by omega)] at HG
  have HS := Lib.hid hS
  clear hsg hg hS hn hd hd0 hln hld
  generalize itoa n = a at *
  generalize itoa d = b at *
  go_enter Tryz.func57, Tryz.ntmps57
  go_wp2_with fail
  refine (HN.out _).mono ?_
  rintro e w1 ⟨rfl, hb1⟩
  rw [World.size_alloc] at hb1
  obtain ⟨q0, q1⟩ := rat_cells hb1
  go_wp2_with fail
  refine (HD.out _).mono ?_
  rintro e w2 ⟨rfl, hb2⟩
  have hb12 : Below (w.heap.size + 1) (w.alloc (.cells #[.string ⟨a.toArray⟩, .string ⟨b.toArray⟩] 38)) w2 := hb1.trans (hb2.mono (by have := hb1.size; simp at this; omega))
  clear q0 q1 hb1 hb2
  obtain ⟨q0, q1⟩ := rat_cells hb12
  go_wp2_with fail
  refine (HSG.out _).mono ?_
  rintro e w3 ⟨rfl, rfl⟩
  go_wp2_with fail
  have hs2 := HS.out.below (below_result hb12) (Nat.le_refl _)
  refine (HG.out _ hs2).mono ?_
  rintro e w4 ⟨rfl, hb4⟩
  go_wp2_with fail
  go_ret
  exact ⟨rfl, (below_result hb12).trans (hb4.mono (below_result hb12).size)⟩

end Go.Proofs.YtkoemgemnklmdaaGreatDoor
