/- Plain arithmetic of decimal numerals and of pieces of nine digits; no program. -/
import Derived.Lib.ItoaNum
import Derived.Lib.AtoiAll
namespace Go.Proofs.YtkoemgemnklmdaaGreatDoor
open Go.Lib

/-! ### Numerals -/

/-- The value of a digit. -/
def dgv (c : UInt8) : Nat := c.toNat - 48
theorem dgv_eq (c : UInt8) : dgv c = c.toNat - 48 := rfl
attribute [irreducible] dgv

/-- The value of a list of digits behind an accumulated value. -/
def dval (acc : Nat) (l : List UInt8) : Nat := l.foldl (fun a c => 10 * a + dgv c) acc
theorem dval_nil (acc : Nat) : dval acc [] = acc := rfl
theorem dval_cons (acc : Nat) (c : UInt8) (r : List UInt8) : dval acc (c :: r) = dval (10 * acc + dgv c) r := rfl

def isDig (c : UInt8) : Prop := 48 ≤ c.toNat ∧ c.toNat ≤ 57
instance (c : UInt8) : Decidable (isDig c) := by unfold isDig; infer_instance
theorem dgv_lt {c : UInt8} (h : isDig c) : dgv c < 10 ∧ c.toNat = 48 + dgv c := by rw [dgv_eq]; unfold isDig at h; omega

theorem dval_append (l r : List UInt8) : ∀ acc, dval acc (l ++ r) = dval (dval acc l) r := fun _ => List.foldl_append

theorem ofNat_dig {d : Nat} (h : d < 10) : (UInt8.ofNat (48 + d)).toNat = 48 + d := by
  exact UInt8.toNat_ofNat'.trans (Nat.mod_eq_of_lt (show 48 + d < 256 by omega))

theorem dec_small {u : Nat} (h : u < 10) : decDigits u = [UInt8.ofNat (48 + u)] := by rw [decDigits, dif_pos h]
theorem dec_big {u : Nat} (h : ¬ u < 10) : decDigits u = decDigits (u / 10) ++ [UInt8.ofNat (48 + u % 10)] := by rw [decDigits, dif_neg h]

theorem dval_dec (u : Nat) : dval 0 (decDigits u) = u := by
  induction u using Nat.strongRecOn with
  | _ u ih =>
    by_cases h : u < 10
    · rw [dec_small h]; rw [dval_cons, dval_nil, dgv_eq, ofNat_dig h]; omega
    · rw [dec_big h, dval_append, ih (u / 10) (by omega)]
      rw [dval_cons, dval_nil, dgv_eq, ofNat_dig (show u % 10 < 10 by omega)]; omega

theorem dec_dig (u : Nat) : ∀ c ∈ decDigits u, isDig c := by
  induction u using Nat.strongRecOn with
  | _ u ih =>
    by_cases h : u < 10
    · rw [dec_small h]; intro c hc; rw [List.mem_singleton] at hc; subst hc; unfold isDig; rw [ofNat_dig h]; omega
    · rw [dec_big h]; intro c hc
      rcases List.mem_append.1 hc with hc | hc
      · exact ih _ (by omega) c hc
      · rw [List.mem_singleton] at hc; subst hc; unfold isDig; rw [ofNat_dig (by omega)]; omega

theorem dec_length (u : Nat) : (decDigits u).length = nDigits u := by
  induction u using Nat.strongRecOn with
  | _ u ih =>
    by_cases h : u < 10
    · rw [dec_small h, nDigits_small h]; rfl
    · rw [dec_big h, nDigits_big h]; simp [ih (u / 10) (by omega)]

theorem dec_ne_nil (u : Nat) : decDigits u ≠ [] := by
  intro h
  have := dec_length u
  rw [h] at this
  have := nDigits_pos u
  simp at *
  omega

theorem dec_inj {a b : Nat} (h : decDigits a = decDigits b) : a = b := by rw [← dval_dec a, h, dval_dec]

/-- The first digit is not 0, but of 0. -/
theorem dec_head (u : Nat) (h : 0 < u) : ∃ c r, decDigits u = c :: r ∧ c.toNat ≠ 48 := by
  induction u using Nat.strongRecOn with
  | _ u ih =>
    by_cases h9 : u < 10
    · exact ⟨_, _, dec_small h9, by rw [ofNat_dig h9]; omega⟩
    · obtain ⟨c, r, e, hc⟩ := ih (u / 10) (by omega) (by omega)
      exact ⟨c, r ++ [UInt8.ofNat (48 + u % 10)], by rw [dec_big h9, e]; rfl, hc⟩

/-- A canonical list of digits. -/
def Canon (l : List UInt8) : Prop := (∀ c ∈ l, isDig c) ∧ (l.length = 1 ∨ 1 < l.length ∧ ∃ c r, l = c :: r ∧ c.toNat ≠ 48)

theorem canon_dec (u : Nat) : Canon (decDigits u) := by
  refine ⟨dec_dig u, ?_⟩
  by_cases h : u < 10
  · left; rw [dec_small h]; rfl
  · right
    refine ⟨?_, dec_head u (by omega)⟩
    rw [dec_length, nDigits_big h]
    have := nDigits_pos (u / 10)
    omega

theorem dval_lt (l : List UInt8) : ∀ acc, (∀ c ∈ l, isDig c) → dval acc l < (acc + 1) * 10 ^ l.length := by
  induction l with
  | nil => intro acc _; simp [dval_nil]
  | cons c l ih =>
    intro acc h
    have hc : isDig c := h c (by simp)
    have hc2 := dgv_lt hc
    have := ih (10 * acc + dgv c) (fun x hx => h x (by simp [hx]))
    simp only [dval_cons, List.length_cons, Nat.pow_succ]
    have h2 : (10 * acc + dgv c + 1) * 10 ^ l.length ≤ (10 * acc + 10) * 10 ^ l.length := Nat.mul_le_mul_right _ (by omega)
    have h3 : (acc + 1) * (10 ^ l.length * 10) = (10 * acc + 10) * 10 ^ l.length := by
      rw [Nat.mul_comm (10 ^ l.length) 10, ← Nat.mul_assoc]; congr 1; omega
    omega

theorem dval_ge (l : List UInt8) : ∀ acc, acc * 10 ^ l.length ≤ dval acc l := by
  induction l with
  | nil => intro acc; simp [dval_nil]
  | cons c l ih =>
    intro acc
    have := ih (10 * acc + dgv c)
    simp only [dval_cons, List.length_cons, Nat.pow_succ]
    have h2 : (10 * acc) * 10 ^ l.length ≤ (10 * acc + dgv c) * 10 ^ l.length := Nat.mul_le_mul_right _ (by omega)
    have h3 : acc * (10 ^ l.length * 10) = (10 * acc) * 10 ^ l.length := by
      rw [Nat.mul_comm (10 ^ l.length) 10, ← Nat.mul_assoc]; congr 1; omega
    omega

theorem dec_snoc (l : List UInt8) (c : UInt8) (hc : isDig c) (h : decDigits (dval 0 l) = l) (hp : 0 < dval 0 l) : decDigits (dval 0 (l ++ [c])) = l ++ [c] := by
  have hc2 := dgv_lt hc
  rw [dval_append]
  simp only [dval_cons, dval_nil]
  rw [dec_big (by omega)]
  rw [show (10 * dval 0 l + dgv c) / 10 = dval 0 l by omega, show (10 * dval 0 l + dgv c) % 10 = dgv c by omega, h, show 48 + dgv c = c.toNat by omega]
  simp

theorem dec_cons (c : UInt8) (hc : isDig c) (h0 : c.toNat ≠ 48) : ∀ (n : Nat) (r : List UInt8), r.length = n → (∀ x ∈ r, isDig x) → decDigits (dval 0 (c :: r)) = c :: r := by
  intro n
  induction n with
  | zero =>
    intro r hr _
    have : r = [] := List.eq_nil_of_length_eq_zero hr
    subst this
    have hc2 := dgv_lt hc
    simp only [dval_cons, dval_nil]
    rw [dec_small (by omega), show 48 + (10 * 0 + dgv c) = c.toNat by omega]
    simp
  | succ n ih =>
    intro r hr hd
    have hne : r ≠ [] := by intro h; subst h; simp at hr
    obtain ⟨r', x, rfl⟩ : ∃ r' x, r = r' ++ [x] := ⟨r.dropLast, r.getLast hne, (List.dropLast_concat_getLast hne).symm⟩
    have hr' : r'.length = n := by simpa using hr
    have := ih r' hr' (fun y hy => hd y (by simp [hy]))
    have hp : 0 < dval 0 (c :: r') := by
      have h1 := dval_ge r' (10 * 0 + dgv c)
      have h2 : 0 < 10 ^ r'.length := Nat.pow_pos (by omega)
      have hc2 := dgv_lt hc
      simp only [dval_cons]
      have h3 : 1 * 10 ^ r'.length ≤ (10 * 0 + dgv c) * 10 ^ r'.length := Nat.mul_le_mul_right _ (by omega)
      omega
    have := dec_snoc (c :: r') x (hd x (by simp)) this hp
    simpa using this

theorem dec_of_canon (l : List UInt8) (h : Canon l) : decDigits (dval 0 l) = l := by
  obtain ⟨hd, h⟩ := h
  rcases h with h | ⟨h1, c, r, rfl, h0⟩
  · match l, h with
    | [c], _ =>
      have hc := hd c (by simp)
      have hc2 := dgv_lt hc
      simp only [dval_cons, dval_nil]
      rw [dec_small (by omega), show 48 + (10 * 0 + dgv c) = c.toNat by omega]
      simp
  · exact dec_cons c (hd c (by simp)) h0 _ r rfl (fun x hx => hd x (by simp [hx]))

theorem canon_iff (l : List UInt8) : Canon l ↔ ∃ n, l = decDigits n :=
  ⟨fun h => ⟨_, (dec_of_canon l h).symm⟩, fun ⟨n, h⟩ => h ▸ canon_dec n⟩

theorem dec_lt_pow (u : Nat) : u < 10 ^ (decDigits u).length := by rw [dec_length]; exact lt_pow_nDigits u

theorem nDigits_le {u k : Nat} (hk : 1 ≤ k) (h : u < 10 ^ k) : nDigits u ≤ k := by
  induction u using Nat.strongRecOn generalizing k with
  | _ u ih =>
    by_cases h9 : u < 10
    · rw [nDigits_small h9]; exact hk
    · rw [nDigits_big h9]
      obtain ⟨k, rfl⟩ : ∃ j, k = j + 1 := ⟨k - 1, by omega⟩
      rw [Nat.pow_succ] at h
      have hk1 : 1 ≤ k := by
        rcases Nat.eq_zero_or_pos k with h0 | h0
        · subst h0; simp at h; omega
        · exact h0
      have := ih (u / 10) (by omega) hk1 (by omega)
      omega

theorem pow_le_of_nDigits {u : Nat} (h : 0 < u) : 10 ^ (nDigits u - 1) ≤ u := by
  induction u using Nat.strongRecOn with
  | _ u ih =>
    by_cases h9 : u < 10
    · rw [nDigits_small h9]; exact h
    · rw [nDigits_big h9]
      have := ih (u / 10) (by omega) (by omega)
      have hp := nDigits_pos (u / 10)
      rw [show nDigits (u / 10) + 1 - 1 = (nDigits (u / 10) - 1) + 1 by omega, Nat.pow_succ]
      omega

theorem nDigits_lt_of {a b : Nat} (h : nDigits a < nDigits b) : a < b := by
  rcases Nat.eq_zero_or_pos b with h0 | h0
  · subst h0; have := nDigits_pos a; rw [nDigits_small (show 0 < 10 by omega)] at h; omega
  · have h1 := lt_pow_nDigits a
    have h2 := pow_le_of_nDigits h0
    have h3 : 10 ^ nDigits a ≤ 10 ^ (nDigits b - 1) := Nat.pow_le_pow_right (by omega) (by omega)
    omega

theorem nDigits_mono {a b : Nat} (h : a ≤ b) : nDigits a ≤ nDigits b := by
  rcases Nat.lt_or_ge (nDigits b) (nDigits a) with h1 | h1
  · have := nDigits_lt_of h1; omega
  · exact h1

/-! ### strconv's reading of a numeral -/

theorem parse_run (l : List UInt8) : ∀ acc, (∀ c ∈ l, isDig c) → dval acc l < 18446744073709551616 → parseUint10 acc l = .ok (dval acc l) := by
  induction l with
  | nil => intro acc _ _; rfl
  | cons c l ih =>
    intro acc hd hb
    have hc := hd c (by simp)
    have hc2 := dgv_lt hc
    simp only [dval_cons] at hb ⊢
    have hge := dval_ge l (10 * acc + dgv c)
    have hp : 1 ≤ 10 ^ l.length := Nat.one_le_pow _ _ (by omega)
    have hle : 10 * acc + dgv c ≤ (10 * acc + dgv c) * 10 ^ l.length := Nat.le_mul_of_pos_right _ (by omega)
    simp only [parseUint10]
    rw [← dgv_eq]
    rw [if_pos (show 48 ≤ c.toNat ∧ c.toNat ≤ 57 from hc), if_neg (by omega), if_neg (by omega), Nat.mul_comm acc 10]
    exact ih _ (fun x hx => hd x (by simp [hx])) hb

theorem parseMag_dec {n : Nat} (h : n < 18446744073709551616) : parseMag (decDigits n) = .ok n := by
  unfold parseMag
  rw [if_neg (dec_ne_nil n), parse_run _ 0 (dec_dig n) (by rw [dval_dec]; exact h), dval_dec]

theorem atoi_itoa (z : Int) (h1 : -9223372036854775808 ≤ z) (h2 : z ≤ 9223372036854775807) : atoiAll (itoa z) = .ok z := by
  unfold itoa
  split
  · rename_i hz
    simp only [atoiAll]
    have hm := parseMag_dec (n := z.natAbs) (by omega)
    simp only [show (45 : UInt8).toNat = 45 from rfl, or_true, if_true, hm]
    rw [if_neg (by simp), if_neg (by omega)]
    simp; omega
  · rename_i hz
    have hm := parseMag_dec (n := z.toNat) (by omega)
    have hd := dec_dig z.toNat
    generalize hl : decDigits z.toNat = l at hm hd
    match l, hm, hd with
    | [], hm, _ => exact absurd hl (dec_ne_nil _)
    | c :: r, hm, hd =>
      have hc := hd c (by simp)
      have hc2 := dgv_lt hc
      simp only [atoiAll]
      rw [if_neg (by omega), hm]
      simp only []
      rw [if_neg (by omega), if_neg (by omega)]
      rw [if_neg (by omega)]
      congr 1; omega

end Go.Proofs.YtkoemgemnklmdaaGreatDoor
