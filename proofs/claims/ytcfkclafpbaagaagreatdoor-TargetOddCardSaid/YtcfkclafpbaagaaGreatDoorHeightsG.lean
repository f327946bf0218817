/- MonzoHeights: the walk. -/
import Derived.Test.YtcfkclafpbaagaaGreatDoorAddsG
import Derived.Test.YtcfkclafpbaagaaGreatDoorGI
namespace Go.Proofs.YtcfkclafpbaagaaGreatDoor
open Go.RowKit Go.Lib

theorem num_neg {p x : List Int} (h : x.length = p.length) : num p (timesTo x (-1) x.length) = den p x ∧ den p (timesTo x (-1) x.length) = num p x := by
  have hl : (timesTo x (-1) x.length).length = p.length := by rw [timesTo_len, h]
  rw [num_pp hl, den_pp hl, num_pp h, den_pp h]
  constructor
  · refine pp_congr p 0 _ fun i _ h2 => ?_
    unfold upE downE
    rw [timesTo_get x (-1) i _ (by omega)]
    omega
  · refine pp_congr p 0 _ fun i _ h2 => ?_
    unfold upE downE
    rw [timesTo_get x (-1) i _ (by omega)]
    omega

/-- Small exponents make short numbers. -/
theorem to_len9 {p x : List Int} (hp : ∀ k, k < p.length → 2 ≤ p[k]?.getD 0 ∧ p[k]?.getD 0 ≤ 97) (h : SmallRow p 9 x) (k : Nat) (hk : k ≤ x.length) : (decDigits (numTo p x k)).length ≤ 1 + 18 * k ∧ (decDigits (denTo p x k)).length ≤ 1 + 18 * k := by
  induction k with
  | zero => rw [numTo, denTo, dec_small (by omega)]; simp
  | succ k ih =>
    obtain ⟨h1, h2⟩ := ih (by omega)
    have hpk := hp k (by rw [← h.len]; omega)
    have hx := h.le k (by omega)
    have h3 : (decDigits ((p[k]?.getD 0).toNat ^ (x[k]?.getD 0).natAbs)).length ≤ 18 := by
      rw [dec_length]
      refine nDigits_le (by omega) ?_
      have h5 : (p[k]?.getD 0).toNat ^ (x[k]?.getD 0).natAbs ≤ 97 ^ (x[k]?.getD 0).natAbs := Nat.pow_le_pow_left (by omega) _
      have h6 : (97 : Nat) ^ (x[k]?.getD 0).natAbs ≤ 97 ^ 9 := Nat.pow_le_pow_right (by omega) (by omega)
      have h7 : (97 : Nat) ^ 9 < 10 ^ 18 := by decide
      omega
    rw [numTo, denTo]
    have h4 := dec_mul_len (numTo p x k) ((p[k]?.getD 0).toNat ^ (x[k]?.getD 0).natAbs)
    have h5 := dec_mul_len (denTo p x k) ((p[k]?.getD 0).toNat ^ (x[k]?.getD 0).natAbs)
    split
    · omega
    · omega
theorem num_len9 {p x : List Int} (hp : primeErr p = 0) (h : SmallRow p 9 x) : (decDigits (num p x)).length ≤ 109 ∧ (decDigits (den p x)).length ≤ 109 := by
  obtain ⟨h6, _, hpr⟩ := right_primes hp
  have h1 := to_len9 hpr h x.length (Nat.le_refl _)
  have := h.len
  unfold num den
  omega
theorem shortOut_short {l : List UInt8} (h : l.length ≤ 400) : shortOut l = .tuple #[.string ⟨l.toArray⟩, .int .i64 0] := by unfold shortOut; rw [if_pos h]
theorem max_len {a b m : Nat} (ha : (decDigits a).length ≤ m) (hb : (decDigits b).length ≤ m) : (decDigits (max a b)).length ≤ m := by
  rcases Nat.le_total a b with h | h
  · rw [Nat.max_eq_right h]; exact hb
  · rw [Nat.max_eq_left h]; exact ha

/-- One interval whose numerator and denominator are N and D in some order. -/
structure SidesOf (p z : List Int) (N D : Nat) : Prop where
  chk : chkAll p [z] = 0
  prod : num p z * den p z = N * D
  mx : max (num p z) (den p z) = max N D
  od : max (left 2 (num p z)) (left 2 (den p z)) = max (left 2 N) (left 2 D)
  n0 : 0 < num p z
  d0 : 0 < den p z

end Go.Proofs.YtcfkclafpbaagaaGreatDoor
