import Derived.Lib.ItoaNum
import Derived.Lib.AtoiAll
namespace Go.Proofs.YtaaeekahhhookaaGreatDoor
open Go.Lib
def dgv (c : UInt8) : Nat := c.toNat - 48
theorem dgv_eq (c : UInt8) : dgv c = c.toNat - 48 := rfl
attribute [irreducible] dgv
def dval (acc : Nat) (l : List UInt8) : Nat := l.foldl (fun a c => 10 * a + dgv c) acc
theorem dval_nil (acc : Nat) : dval acc [] = acc := rfl
theorem dval_cons (acc : Nat) (c : UInt8) (r : List UInt8) : dval acc (c :: r) = dval (10 * acc + dgv c) r := rfl
def isDig (c : UInt8) : Prop := 48 ≤ c.toNat ∧ c.toNat ≤ 57
instance (c : UInt8) : Decidable (isDig c) := by unfold isDig; infer_instance
theorem dgv_lt {c : UInt8} (h : isDig c) : dgv c < 10 ∧ c.toNat = 48 + dgv c := by rw [dgv_eq]; unfold isDig at h; omega
theorem dval_append (l r : List UInt8) : ∀ acc, dval acc (l ++ r) = dval (dval acc l) r := fun _ => List.foldl_append
theorem ofNat_dig {d : Nat} (h : d < 10) : (UInt8.ofNat (48 + d)).toNat = 48 + d := by
 exact UInt8.toNat_ofNat'.trans (Nat.mod_eq_of_lt (show 48 + d < 256 by omega))
theorem dec_small {u : Nat} (h : u < 10) : decDigits u = [UInt8.ofNat (48 + u)] := by rw [decDigits, dif_pos h]
theorem dec_big {u : Nat} (h : ¬ u < 10) : decDigits u = decDigits (u / 10) ++ [UInt8.ofNat (48 + u % 10)] := by rw [decDigits, dif_neg h]
theorem dval_dec (u : Nat) : dval 0 (decDigits u) = u := by
 induction u using Nat.strongRecOn with
 | _ u ih =>
   by_cases h : u < 10
   ·rw [dec_small h]; rw [dval_cons, dval_nil, dgv_eq, ofNat_dig h]; omega
   ·rw [dec_big h, dval_append, ih (u / 10) (by omega)]
    rw [dval_cons, dval_nil, dgv_eq, ofNat_dig (show u % 10 < 10 by omega)]; omega
theorem dec_dig (u : Nat) : ∀ c ∈ decDigits u, isDig c := by
 induction u using Nat.strongRecOn with
 | _ u ih =>
   by_cases h : u < 10
   ·rw [dec_small h]; intro c hc; rw [List.mem_singleton] at hc; subst hc; unfold isDig; rw [ofNat_dig h]; omega
   ·rw [dec_big h]; intro c hc
    rcases List.mem_append.1 hc with hc | hc
    ·exact ih _ (by omega) c hc
    ·rw [List.mem_singleton] at hc; subst hc; unfold isDig; rw [ofNat_dig (by omega)]; omega
theorem dec_length (u : Nat) : (decDigits u).length = nDigits u := by
 induction u using Nat.strongRecOn with
 | _ u ih =>
   by_cases h : u < 10
   ·rw [dec_small h, nDigits_small h]; rfl
   ·rw [dec_big h, nDigits_big h]; simp [ih (u / 10) (by omega)]
theorem dec_ne_nil (u : Nat) : decDigits u ≠ [] := by
 intro h
 have := dec_length u
 rw [h] at this
 have := nDigits_pos u
 simp at *
 omega
theorem dec_inj {a b : Nat} (h : decDigits a = decDigits b) : a = b := by rw [← dval_dec a, h, dval_dec]
theorem dec_head (u : Nat) (h : 0 < u) : ∃ c r, decDigits u = c :: r ∧ c.toNat ≠ 48 := by
 induction u using Nat.strongRecOn with
 | _ u ih =>
   by_cases h9 : u < 10
   ·exact ⟨_, _, dec_small h9, by rw [ofNat_dig h9]; omega⟩
   ·obtain ⟨c, r, e, hc⟩ := ih (u / 10) (by omega) (by omega)
    exact ⟨c, r ++ [UInt8.ofNat (48 + u % 10)], by rw [dec_big h9, e]; rfl, hc⟩
def Canon (l : List UInt8) : Prop := (∀ c ∈ l, isDig c) ∧ (l.length = 1 ∨ 1 < l.length ∧ ∃ c r, l = c :: r ∧ c.toNat ≠ 48)
theorem canon_dec (u : Nat) : Canon (decDigits u) := by
 refine ⟨dec_dig u, ?_⟩
 by_cases h : u < 10
 ·left; rw [dec_small h]; rfl
 ·right
  refine ⟨?_, dec_head u (by omega)⟩
  rw [dec_length, nDigits_big h]
  have := nDigits_pos (u / 10)
  omega
theorem dval_lt (l : List UInt8) : ∀ acc, (∀ c ∈ l, isDig c) → dval acc l < (acc + 1) * 10 ^ l.length := by
 induction l with
 | nil => intro acc _; simp [dval_nil]
 | cons c l ih =>
   intro acc h
   have hc : isDig c := h c (by simp)
   have hc2 := dgv_lt hc
   have := ih (10 * acc + dgv c) (fun x hx => h x (by simp [hx]))
   simp only [dval_cons, List.length_cons, Nat.pow_succ]
   have h2 : (10 * acc + dgv c + 1) * 10 ^ l.length ≤ (10 * acc + 10) * 10 ^ l.length := Nat.mul_le_mul_right _ (by omega)
   have h3 : (acc + 1) * (10 ^ l.length * 10) = (10 * acc + 10) * 10 ^ l.length := by
    rw [Nat.mul_comm (10 ^ l.length) 10, ← Nat.mul_assoc]; congr 1; omega
   omega
theorem dval_ge (l : List UInt8) : ∀ acc, acc * 10 ^ l.length ≤ dval acc l := by
 induction l with
 | nil => intro acc; simp [dval_nil]
 | cons c l ih =>
   intro acc
   have := ih (10 * acc + dgv c)
   simp only [dval_cons, List.length_cons, Nat.pow_succ]
   have h2 : (10 * acc) * 10 ^ l.length ≤ (10 * acc + dgv c) * 10 ^ l.length := Nat.mul_le_mul_right _ (by omega)
   have h3 : acc * (10 ^ l.length * 10) = (10 * acc) * 10 ^ l.length := by
    rw [Nat.mul_comm (10 ^ l.length) 10, ← Nat.mul_assoc]; congr 1; omega
   omega
theorem dec_snoc (l : List UInt8) (c : UInt8) (hc : isDig c) (h : decDigits (dval 0 l) = l) (hp : 0 < dval 0 l) : decDigits (dval 0 (l ++ [c])) = l ++ [c] := by
 have hc2 := dgv_lt hc
 rw [dval_append]
 simp only [dval_cons, dval_nil]
 rw [dec_big (by omega)]
 rw [show (10 * dval 0 l + dgv c) / 10 = dval 0 l by omega, show (10 * dval 0 l + dgv c) % 10 = dgv c by omega, h, show 48 + dgv c = c.toNat by omega]
 simp
theorem dec_cons (c : UInt8) (hc : isDig c) (h0 : c.toNat ≠ 48) : ∀ (n : Nat) (r : List UInt8), r.length = n → (∀ x ∈ r, isDig x) → decDigits (dval 0 (c :: r)) = c :: r := by
 intro n
 induction n with
 | zero =>
   intro r hr _
   have : r = [] := List.eq_nil_of_length_eq_zero hr
   subst this
   have hc2 := dgv_lt hc
   simp only [dval_cons, dval_nil]
   rw [dec_small (by omega), show 48 + (10 * 0 + dgv c) = c.toNat by omega]
   simp
 | succ n ih =>
   intro r hr hd
   have hne : r ≠ [] := by intro h; subst h; simp at hr
   obtain ⟨r', x, rfl⟩ : ∃ r' x, r = r' ++ [x] := ⟨r.dropLast, r.getLast hne, (List.dropLast_concat_getLast hne).symm⟩
   have hr' : r'.length = n := by simpa using hr
   have := ih r' hr' (fun y hy => hd y (by simp [hy]))
   have hp : 0 < dval 0 (c :: r') := by
    have h1 := dval_ge r' (10 * 0 + dgv c)
    have h2 : 0 < 10 ^ r'.length := Nat.pow_pos (by omega)
    have hc2 := dgv_lt hc
    simp only [dval_cons]
    have h3 : 1 * 10 ^ r'.length ≤ (10 * 0 + dgv c) * 10 ^ r'.length := Nat.mul_le_mul_right _ (by omega)
    omega
   have := dec_snoc (c :: r') x (hd x (by simp)) this hp
   simpa using this
theorem dec_of_canon (l : List UInt8) (h : Canon l) : decDigits (dval 0 l) = l := by
 obtain ⟨hd, h⟩ := h
 rcases h with h | ⟨h1, c, r, rfl, h0⟩
 ·match l, h with
  | [c], _ =>
    have hc := hd c (by simp)
    have hc2 := dgv_lt hc
    simp only [dval_cons, dval_nil]
    rw [dec_small (by omega), show 48 + (10 * 0 + dgv c) = c.toNat by omega]
    simp
 ·exact dec_cons c (hd c (by simp)) h0 _ r rfl (fun x hx => hd x (by simp [hx]))
theorem canon_iff (l : List UInt8) : Canon l ↔ ∃ n, l = decDigits n :=
 ⟨fun h => ⟨_, (dec_of_canon l h).symm⟩, fun ⟨n, h⟩ => h ▸ canon_dec n⟩
theorem dec_lt_pow (u : Nat) : u < 10 ^ (decDigits u).length := by rw [dec_length]; exact lt_pow_nDigits u
theorem nDigits_le {u k : Nat} (hk : 1 ≤ k) (h : u < 10 ^ k) : nDigits u ≤ k := by
 induction u using Nat.strongRecOn generalizing k with
 | _ u ih =>
   by_cases h9 : u < 10
   ·rw [nDigits_small h9]; exact hk
   ·rw [nDigits_big h9]
    obtain ⟨k, rfl⟩ : ∃ j, k = j + 1 := ⟨k - 1, by omega⟩
    rw [Nat.pow_succ] at h
    have hk1 : 1 ≤ k := by
     rcases Nat.eq_zero_or_pos k with h0 | h0
     ·subst h0; simp at h; omega
     ·exact h0
    have := ih (u / 10) (by omega) hk1 (by omega)
    omega
theorem pow_le_of_nDigits {u : Nat} (h : 0 < u) : 10 ^ (nDigits u - 1) ≤ u := by
 induction u using Nat.strongRecOn with
 | _ u ih =>
   by_cases h9 : u < 10
   ·rw [nDigits_small h9]; exact h
   ·rw [nDigits_big h9]
    have := ih (u / 10) (by omega) (by omega)
    have hp := nDigits_pos (u / 10)
    rw [show nDigits (u / 10) + 1 - 1 = (nDigits (u / 10) - 1) + 1 by omega, Nat.pow_succ]
    omega
theorem nDigits_lt_of {a b : Nat} (h : nDigits a < nDigits b) : a < b := by
 rcases Nat.eq_zero_or_pos b with h0 | h0
 ·subst h0; have := nDigits_pos a; rw [nDigits_small (show 0 < 10 by omega)] at h; omega
 ·have h1 := lt_pow_nDigits a
  have h2 := pow_le_of_nDigits h0
  have h3 : 10 ^ nDigits a ≤ 10 ^ (nDigits b - 1) := Nat.pow_le_pow_right (by omega) (by omega)
  omega
theorem nDigits_mono {a b : Nat} (h : a ≤ b) : nDigits a ≤ nDigits b := by
 rcases Nat.lt_or_ge (nDigits b) (nDigits a) with h1 | h1
 ·have := nDigits_lt_of h1; omega
 ·exact h1
theorem parse_run (l : List UInt8) : ∀ acc, (∀ c ∈ l, isDig c) → dval acc l < 18446744073709551616 → parseUint10 acc l = .ok (dval acc l) := by
 induction l with
 | nil => intro acc _ _; rfl
 | cons c l ih =>
   intro acc hd hb
   have hc := hd c (by simp)
   have hc2 := dgv_lt hc
   simp only [dval_cons] at hb ⊢
   have hge := dval_ge l (10 * acc + dgv c)
   have hp : 1 ≤ 10 ^ l.length := Nat.one_le_pow _ _ (by omega)
   have hle : 10 * acc + dgv c ≤ (10 * acc + dgv c) * 10 ^ l.length := Nat.le_mul_of_pos_right _ (by omega)
   simp only [parseUint10]
   rw [← dgv_eq]
   rw [if_pos (show 48 ≤ c.toNat ∧ c.toNat ≤ 57 from hc), if_neg (by omega), if_neg (by omega), Nat.mul_comm acc 10]
   exact ih _ (fun x hx => hd x (by simp [hx])) hb
theorem parseMag_dec {n : Nat} (h : n < 18446744073709551616) : parseMag (decDigits n) = .ok n := by
 unfold parseMag
 rw [if_neg (dec_ne_nil n), parse_run _ 0 (dec_dig n) (by rw [dval_dec]; exact h), dval_dec]
theorem atoi_itoa (z : Int) (h1 : -9223372036854775808 ≤ z) (h2 : z ≤ 9223372036854775807) : atoiAll (itoa z) = .ok z := by
 unfold itoa
 split
 ·rename_i hz
  simp only [atoiAll]
  have hm := parseMag_dec (n := z.natAbs) (by omega)
  simp only [show (45 : UInt8).toNat = 45 from rfl, or_true, if_true, hm]
  rw [if_neg (by simp), if_neg (by omega)]
  simp; omega
 ·rename_i hz
  have hm := parseMag_dec (n := z.toNat) (by omega)
  have hd := dec_dig z.toNat
  generalize hl : decDigits z.toNat = l at hm hd
  match l, hm, hd with
  | [], hm, _ => exact absurd hl (dec_ne_nil _)
  | c :: r, hm, hd =>
    have hc := hd c (by simp)
    have hc2 := dgv_lt hc
    simp only [atoiAll]
    rw [if_neg (by omega), hm]
    simp only []
    rw [if_neg (by omega), if_neg (by omega)]
    rw [if_neg (by omega)]
    congr 1; omega
def pv : List Nat → Nat
 | [] => 0
 | a :: l => a + 1000000000 * pv l
def pcs (n : Nat) : List Nat := if h : n = 0 then [] else n % 1000000000 :: pcs (n / 1000000000)
termination_by n
decreasing_by omega
def Pcs (l : List Nat) : Prop := ∀ x ∈ l, x < 1000000000
theorem pcs_zero : pcs 0 = [] := by rw [pcs]; rfl
theorem pcs_pos {n : Nat} (h : 0 < n) : pcs n = n % 1000000000 :: pcs (n / 1000000000) := by rw [pcs, dif_neg (by omega)]
theorem pv_pcs (n : Nat) : pv (pcs n) = n := by
 induction n using Nat.strongRecOn with
 | _ n ih =>
   rcases Nat.eq_zero_or_pos n with h | h
   ·subst h; rw [pcs_zero]; rfl
   ·rw [pcs_pos h, pv, ih _ (by omega)]; omega
theorem pcs_lt (n : Nat) : Pcs (pcs n) := by
 induction n using Nat.strongRecOn with
 | _ n ih =>
   rcases Nat.eq_zero_or_pos n with h | h
   ·subst h; rw [pcs_zero]; intro x hx; simp at hx
   ·rw [pcs_pos h]; intro x hx
    rcases List.mem_cons.1 hx with hx | hx
    ·omega
    ·exact ih _ (by omega) x hx
theorem pv_append (l r : List Nat) : pv (l ++ r) = pv l + 1000000000 ^ l.length * pv r := by
 induction l with
 | nil => simp [pv]
 | cons a l ih =>
   simp only [List.cons_append, pv, ih, List.length_cons, Nat.pow_succ]
   rw [Nat.mul_add, Nat.mul_comm (1000000000 ^ l.length) 1000000000, Nat.mul_assoc]; omega
theorem pv_zeros (l : List Nat) (h : ∀ x ∈ l, x = 0) : pv l = 0 := by
 induction l with
 | nil => rfl
 | cons a l ih => rw [pv, h a (by simp), ih (fun x hx => h x (by simp [hx]))]
theorem pv_lt (l : List Nat) (h : Pcs l) : pv l < 1000000000 ^ l.length := by
 induction l with
 | nil => simp [pv]
 | cons a l ih =>
   have ha := h a (by simp)
   have := ih (fun x hx => h x (by simp [hx]))
   simp only [pv, List.length_cons, Nat.pow_succ]
   omega
theorem pcs_of (l : List Nat) (h : Pcs l) (hn : ∀ x, l.getLast? = some x → x ≠ 0) : pcs (pv l) = l := by
 induction l with
 | nil => exact pcs_zero
 | cons a l ih =>
   have ha := h a (by simp)
   have hp : 0 < pv (a :: l) := by
    rw [pv]
    cases l with
    | nil => have := hn a (by simp); omega
    | cons b l =>
      have e := ih (fun x hx => h x (by simp [hx])) (fun x hx => hn x (by simpa [List.getLast?_cons_cons] using hx))
      rcases Nat.eq_zero_or_pos (pv (b :: l)) with h0 | h0
      ·rw [h0, pcs_zero] at e; cases e
      ·omega
   rw [pcs_pos hp, pv]
   have h1 : (a + 1000000000 * pv l) % 1000000000 = a := by omega
   have h2 : (a + 1000000000 * pv l) / 1000000000 = pv l := by omega
   rw [h1, h2]
   congr 1
   cases l with
   | nil => exact pcs_zero
   | cons b l => exact ih (fun x hx => h x (by simp [hx])) (fun x hx => hn x (by simpa [List.getLast?_cons_cons] using hx))
theorem trim_eq (l : List Nat) (k : Nat) (hl : Pcs l) (hk : k ≤ l.length) (hz : ∀ j, k ≤ j → j < l.length → l[j]?.getD 0 = 0) (hn : k = 0 ∨ l[k - 1]?.getD 0 ≠ 0) : l.take k = pcs (pv l) := by
 have e : pv l = pv (l.take k) := by
  have h0 : pv (l.drop k) = 0 := by
   refine pv_zeros _ fun x hx => ?_
   obtain ⟨j, hj, rfl⟩ := List.getElem_of_mem hx
   have h1 := hz (k + j) (by omega) (by simp at hj; omega)
   rw [List.getElem_drop]
   rw [List.getElem?_eq_getElem (by simp at hj; omega)] at h1
   simpa using h1
  conv => lhs; rw [← List.take_append_drop k l, pv_append, h0]
  simp
 rw [e]
 refine (pcs_of _ (fun x hx => hl x (List.mem_of_mem_take hx)) fun x hx => ?_).symm
 rcases hn with h | h
 ·subst h; simp at hx
 ·rw [List.getLast?_eq_getElem?, List.length_take, Nat.min_eq_left hk, List.getElem?_take] at hx
  split at hx
  ·rw [hx] at h; simpa using h
  ·cases hx
theorem trim_ex (l : List Nat) : ∀ n, n ≤ l.length → (∀ j, n ≤ j → j < l.length → l[j]?.getD 0 = 0) → ∃ k, k ≤ l.length ∧ (∀ j, k ≤ j → j < l.length → l[j]?.getD 0 = 0) ∧ (k = 0 ∨ l[k - 1]?.getD 0 ≠ 0)
 | 0, _, h => ⟨0, Nat.zero_le _, h, .inl rfl⟩
 | n + 1, hn, h => by
   by_cases hz : l[n]?.getD 0 = 0
   ·refine trim_ex l n (by omega) fun j h1 h2 => ?_
    by_cases hj : j = n
    ·rw [hj]; exact hz
    ·exact h j (by omega) h2
   ·exact ⟨n + 1, hn, h, .inr (by simpa using hz)⟩
theorem trim_take (l : List Nat) (hl : Pcs l) : (pcs (pv l)).length ≤ l.length ∧ l.take (pcs (pv l)).length = pcs (pv l) := by
 obtain ⟨k, hk, hz, hn⟩ := trim_ex l l.length (Nat.le_refl _) (fun j h1 h2 => by omega)
 have e := trim_eq l k hl hk hz hn
 have hlen : (pcs (pv l)).length = k := by rw [← e, List.length_take, Nat.min_eq_left hk]
 exact ⟨by omega, by rw [hlen]; exact e⟩
theorem pv_set (l : List Nat) : ∀ (j v : Nat), j < l.length → pv (l.set j v) + l[j]?.getD 0 * 1000000000 ^ j = pv l + v * 1000000000 ^ j := by
 induction l with
 | nil => intro j v h; simp at h
 | cons a l ih =>
   intro j v h
   cases j with
   | zero => simp [pv]; omega
   | succ j =>
     have := ih j v (by simpa using h)
     simp only [List.set_cons_succ, pv, List.getElem?_cons_succ, Nat.pow_succ]
     rw [← Nat.mul_assoc, ← Nat.mul_assoc]
     omega
theorem pcs_set {l : List Nat} {j v : Nat} (h : Pcs l) (hv : v < 1000000000) : Pcs (l.set j v) := by
 intro x hx
 rcases List.mem_or_eq_of_mem_set hx with hx | hx
 ·exact h x hx
 ·omega
theorem pcs_getD {l : List Nat} (h : Pcs l) (j : Nat) : l[j]?.getD 0 < 1000000000 := by
 cases e : l[j]? with
 | none => simp
 | some x => exact h x (List.mem_of_getElem? e)
theorem pv_take_succ (l : List Nat) (k : Nat) (h : k < l.length) : pv (l.take (k + 1)) = pv (l.take k) + 1000000000 ^ k * l[k]?.getD 0 := by
 rw [List.take_succ_eq_append_getElem h, pv_append, List.length_take, Nat.min_eq_left (by omega), List.getElem?_eq_getElem h]
 simp [pv]
theorem pv_drop (l : List Nat) (k : Nat) (h : k < l.length) : pv (l.drop k) = l[k]?.getD 0 + 1000000000 * pv (l.drop (k + 1)) := by
 rw [List.drop_eq_getElem_cons h, pv, List.getElem?_eq_getElem h]; rfl
def lows : Nat → Nat → List UInt8
 | 0, _ => []
 | k + 1, n => UInt8.ofNat (48 + n % 10) :: lows k (n / 10)
theorem lows_length (k : Nat) : ∀ n, (lows k n).length = k := by
 induction k with
 | zero => intro n; rfl
 | succ k ih => intro n; simp [lows, ih]
theorem lows_snoc (k : Nat) : ∀ n, lows (k + 1) n = lows k n ++ [UInt8.ofNat (48 + n / 10 ^ k % 10)] := by
 induction k with
 | zero => intro n; simp [lows]
 | succ k ih =>
   intro n
   have h := ih (n / 10)
   rw [lows, h]
   simp only [lows, List.cons_append]
   rw [Nat.div_div_eq_div_mul, Nat.pow_succ, Nat.mul_comm 10]
theorem dec_mul_add (m d : Nat) (hm : 0 < m) (hd : d < 10) : decDigits (10 * m + d) = decDigits m ++ [UInt8.ofNat (48 + d)] := by
 rw [dec_big (by omega), show (10 * m + d) / 10 = m by omega, show (10 * m + d) % 10 = d by omega]
theorem dec_lows (k : Nat) : ∀ (a m : Nat), a < 10 ^ k → 0 < m → decDigits (a + 10 ^ k * m) = decDigits m ++ (lows k a).reverse := by
 induction k with
 | zero => intro a m h _; simp at h; subst h; simp [lows]
 | succ k ih =>
   intro a m h hm
   rw [Nat.pow_succ] at h
   have h1 := ih (a / 10) m (by omega) hm
   have e : a + 10 ^ (k + 1) * m = 10 * (a / 10 + 10 ^ k * m) + a % 10 := by
    rw [Nat.pow_succ, Nat.mul_comm (10 ^ k) 10, Nat.mul_assoc]; omega
   have hp : 0 < 10 ^ k * m := Nat.mul_pos (Nat.pow_pos (by omega)) hm
   rw [e, dec_mul_add _ _ (by omega) (by omega), h1, lows]
   simp
theorem dec_eq_lows (n k : Nat) (h : n < 10 ^ k) (hn : k = 0 ∨ 10 ^ (k - 1) ≤ n) (h0 : 0 < n) : decDigits n = (lows k n).reverse := by
 induction k generalizing n with
 | zero => simp at h; omega
 | succ k ih =>
   rw [Nat.pow_succ] at h
   simp only [Nat.add_sub_cancel] at hn
   by_cases h9 : n < 10
   ·have hk : k = 0 := by
     rcases Nat.eq_zero_or_pos k with h1 | h1
     ·exact h1
     ·have : 10 ^ 1 ≤ 10 ^ k := Nat.pow_le_pow_right (by omega) h1
      omega
    subst hk
    rw [dec_small h9]
    simp [lows, Nat.mod_eq_of_lt h9]
   ·have hk : k ≠ 0 := by rintro rfl; simp at h; omega
    have hle : 10 ^ k ≤ n := by omega
    obtain ⟨j, rfl⟩ : ∃ j, k = j + 1 := ⟨k - 1, by omega⟩
    have := ih (n / 10) (by omega) (.inr (by rw [Nat.add_sub_cancel]; rw [Nat.pow_succ] at hle; omega)) (by omega)
    rw [dec_big h9, this]
    simp [lows]
def lowsAll (l : List Nat) : List UInt8 := l.flatMap (lows 9)
theorem dec_pieces (l : List Nat) : ∀ (m : Nat), Pcs l → 0 < m → decDigits (pv l + 1000000000 ^ l.length * m) = decDigits m ++ (lowsAll l).reverse := by
 induction l with
 | nil => intro m _ _; simp [pv, lowsAll]
 | cons a l ih =>
   intro m h hm
   have h1 := ih m (fun x hx => h x (by simp [hx])) hm
   have ha := h a (by simp)
   have hp : 0 < 1000000000 ^ l.length * m := Nat.mul_pos (Nat.pow_pos (by omega)) hm
   have e : pv (a :: l) + 1000000000 ^ (a :: l).length * m = a + 10 ^ 9 * (pv l + 1000000000 ^ l.length * m) := by
    simp only [pv, List.length_cons, Nat.pow_succ]
    rw [Nat.mul_comm (1000000000 ^ l.length) 1000000000, Nat.mul_assoc, Nat.mul_add]
    omega
   rw [e, dec_lows 9 a _ ha (by omega), h1]
   simp [lowsAll]
theorem dval_acc (l : List UInt8) : ∀ acc, dval acc l = acc * 10 ^ l.length + dval 0 l := by
 induction l with
 | nil => intro acc; simp [dval_nil]
 | cons c l ih =>
   intro acc
   simp only [dval_cons, List.length_cons]
   rw [ih (10 * acc + dgv c), ih (10 * 0 + dgv c), Nat.pow_succ]
   rw [Nat.mul_comm (10 ^ l.length) 10, ← Nat.mul_assoc, Nat.mul_comm acc 10]
   simp only [Nat.add_mul, Nat.mul_zero, Nat.zero_add]
   omega
theorem dval_snoc (l : List UInt8) (c : UInt8) (acc : Nat) : dval acc (l ++ [c]) = 10 * dval acc l + dgv c := by rw [dval_append]; rfl
theorem dval_lt0 (l : List UInt8) (h : ∀ c ∈ l, isDig c) : dval 0 l < 10 ^ l.length := by
 have := dval_lt l 0 h
 simpa using this
theorem cut_round (x : List UInt8) (n end' : Nat) (l : List Nat) (he : end' ≤ x.length) (h0 : 0 < end')
  (hv : pv l + 1000000000 ^ l.length * dval 0 (x.take end') = n) :
  pv (l ++ [dval 0 ((x.take end').drop (end' - 9))]) + 1000000000 ^ (l.length + 1) * dval 0 (x.take (end' - 9)) = n := by
 have e : x.take end' = x.take (end' - 9) ++ (x.take end').drop (end' - 9) := by
  conv => lhs; rw [← List.take_append_drop (end' - 9) (x.take end'), List.take_take, Nat.min_eq_left (by omega)]
 rw [← hv, pv_append]
 simp only [pv, Nat.mul_zero, Nat.add_zero]
 conv => rhs; rw [e, dval_append, dval_acc]
 rw [Nat.mul_add, Nat.pow_succ]
 have hlen : ((x.take end').drop (end' - 9)).length = if 9 ≤ end' then 9 else end' := by
  simp only [List.length_drop, List.length_take]; split <;> omega
 by_cases h9 : 9 ≤ end'
 ·rw [hlen, if_pos h9, Nat.mul_comm (dval 0 (x.take (end' - 9))) (10 ^ 9), ← Nat.mul_assoc]
  simp only [show (10 : Nat) ^ 9 = 1000000000 from rfl]
  omega
 ·rw [show end' - 9 = 0 by omega]
  simp [dval_nil]
structure SmallAt (l : List Nat) (n i rest : Nat) (o : List Nat) : Prop where
 len : o.length = l.length
 pcs : Pcs o
 lt : rest < n
 val : pv (o.drop i) * n + rest = pv (l.drop i)
theorem small_at_start (l : List Nat) (n : Nat) (hn : 0 < n) : SmallAt l n l.length 0 (List.replicate l.length 0) :=
 ⟨by simp, fun x hx => by rw [List.eq_of_mem_replicate hx]; omega, hn, by simp [pv]⟩
theorem drop_set_succ (o : List Nat) (i v : Nat) : (o.set i v).drop (i + 1) = o.drop (i + 1) := by
 rw [List.drop_set, if_pos (by omega)]
theorem small_at_step {l : List Nat} {n i rest : Nat} {o : List Nat} (h : SmallAt l n (i + 1) rest o) (hi : i < l.length) (a : Nat) (ha : l[i]?.getD 0 = a) (hl : a < 1000000000) :
  SmallAt l n i ((rest * 1000000000 + a) % n) (o.set i ((rest * 1000000000 + a) / n)) := by
 have hlt := h.lt
 have hq : (rest * 1000000000 + a) / n < 1000000000 := by
  rw [Nat.div_lt_iff_lt_mul (by omega)]
  have : (rest + 1) * 1000000000 ≤ n * 1000000000 := Nat.mul_le_mul_right _ (by omega)
  rw [Nat.mul_comm 1000000000 n]
  omega
 refine ⟨by simp [h.len], pcs_set h.pcs hq, Nat.mod_lt _ (by omega), ?_⟩
 have hv := h.val
 rw [pv_drop _ i (by simp [h.len]; exact hi), pv_drop l i hi, ha, drop_set_succ, List.getElem?_set_self (by rw [h.len]; exact hi), ← hv]
 have e := Nat.div_add_mod (rest * 1000000000 + a) n
 generalize (rest * 1000000000 + a) / n = q at *
 generalize (rest * 1000000000 + a) % n = r at *
 generalize pv (o.drop (i + 1)) = z at *
 simp only [Option.getD_some]
 rw [Nat.add_mul, Nat.mul_add, Nat.mul_assoc, Nat.mul_comm q n]
 omega
theorem small_at_end {l : List Nat} {n rest : Nat} {o : List Nat} (h : SmallAt l n 0 rest o) : pv o = pv l / n ∧ rest = pv l % n := by
 have hv := h.val
 have hlt := h.lt
 simp only [List.drop_zero] at hv
 have e1 : pv l / n = pv o := by
  rw [← hv, Nat.mul_comm, Nat.mul_add_div (by omega), Nat.div_eq_of_lt hlt]; omega
 have e2 : pv l % n = rest := by
  rw [← hv, Nat.mul_comm, Nat.mul_add_mod, Nat.mod_eq_of_lt hlt]
 exact ⟨e1.symm, e2.symm⟩
theorem pv_split (l : List Nat) (i : Nat) (hi : i ≤ l.length) : pv l = pv (l.take i) + 1000000000 ^ i * pv (l.drop i) := by
 conv => lhs; rw [← List.take_append_drop i l, pv_append, List.length_take, Nat.min_eq_left hi]
theorem pv_lt_at {l r : List Nat} {i : Nat} (hl : Pcs l) (hlen : l.length = r.length) (hi : i < l.length) (hd : l.drop (i + 1) = r.drop (i + 1)) (h : l[i]?.getD 0 < r[i]?.getD 0) : pv l < pv r := by
 have e1 := pv_split l i (by omega)
 have e2 := pv_split r i (by omega)
 rw [pv_drop l i hi] at e1
 rw [pv_drop r i (by omega), ← hd] at e2
 have h1 : pv (l.take i) < 1000000000 ^ i := by
  have := pv_lt (l.take i) (fun x hx => hl x (List.mem_of_mem_take hx))
  rwa [List.length_take, Nat.min_eq_left (by omega)] at this
 generalize l[i]?.getD 0 = a at *
 generalize r[i]?.getD 0 = b at *
 generalize pv (l.drop (i + 1)) = z at *
 generalize (1000000000 : Nat) ^ i = P at *
 have h2 : P * (a + 1 + 1000000000 * z) ≤ P * (b + 1000000000 * z) := Nat.mul_le_mul_left _ (by omega)
 have h3 : P * (a + 1 + 1000000000 * z) = P * (a + 1000000000 * z) + P := by rw [show a + 1 + 1000000000 * z = (a + 1000000000 * z) + 1 by omega, Nat.mul_add, Nat.mul_one]
 omega
theorem pcs_ge (x : Nat) (h : 0 < x) : 1000000000 ^ ((pcs x).length - 1) ≤ x := by
 induction x using Nat.strongRecOn with
 | _ x ih =>
   rw [pcs_pos h]
   rcases Nat.eq_zero_or_pos (x / 1000000000) with h0 | h0
   ·rw [h0, pcs_zero]; simp; exact h
   ·have := ih (x / 1000000000) (by omega) h0
    have hl : 0 < (pcs (x / 1000000000)).length := by rw [pcs_pos h0]; simp
    simp only [List.length_cons, Nat.add_sub_cancel]
    obtain ⟨k, hk⟩ : ∃ k, (pcs (x / 1000000000)).length = k + 1 := ⟨_, (Nat.succ_pred_eq_of_pos hl).symm⟩
    rw [hk] at this ⊢
    simp only [Nat.add_sub_cancel] at this
    rw [Nat.pow_succ]
    omega
theorem pcs_len_lt {x y : Nat} (h : (pcs x).length < (pcs y).length) : x < y := by
 rcases Nat.eq_zero_or_pos y with h0 | h0
 ·subst h0; rw [pcs_zero] at h; simp at h
 ·have h1 := pv_lt _ (pcs_lt x)
  rw [pv_pcs] at h1
  have h2 := pcs_ge y h0
  have h3 : (1000000000 : Nat) ^ (pcs x).length ≤ 1000000000 ^ ((pcs y).length - 1) := Nat.pow_le_pow_right (by omega) (by omega)
  omega
theorem pcs_len_mono {x y : Nat} (h : x ≤ y) : (pcs x).length ≤ (pcs y).length := by
 rcases Nat.lt_or_ge (pcs y).length (pcs x).length with h1 | h1
 ·have := pcs_len_lt h1; omega
 ·exact h1
structure TakeAt (a q : List Nat) (n at' k cy bo : Nat) (o : List Nat) : Prop where
 len : o.length = a.length
 pcs : Pcs o
 cyl : cy < 1000000000
 bol : bo ≤ 1
 val : pv o + 1000000000 ^ at' * (n * pv (q.take k)) = pv a + (cy + bo) * 1000000000 ^ (at' + k)
 low : ∀ j, j < at' → o[j]?.getD 0 = a[j]?.getD 0
 high : ∀ j, at' + k ≤ j → o[j]?.getD 0 = a[j]?.getD 0
theorem take_at_start (a q : List Nat) (n at' : Nat) (h : Pcs a) : TakeAt a q n at' 0 0 0 a :=
 ⟨rfl, h, by omega, by omega, by simp [pv], fun _ _ => rfl, fun _ _ => rfl⟩
theorem pow_at (at' k : Nat) : (1000000000 : Nat) ^ (at' + (k + 1)) = 1000000000 ^ (at' + k) * 1000000000 := by rw [← Nat.add_assoc, Nat.pow_succ]
theorem take_at_step {a q : List Nat} {n at' k cy bo : Nat} {o : List Nat} (h : TakeAt a q n at' k cy bo o) (x y c d b : Nat) (hx : a[at' + k]?.getD 0 = x) (hk : at' + k < a.length) (hn : n < 1000000000) (hq : Pcs q)
  (hy : q[k]?.getD 0 = y) (hc : c = cy + n * y) (hb : b ≤ 1) (hd : d < 1000000000) (hdb : d + c % 1000000000 + bo = x + 1000000000 * b) :
  TakeAt a q n at' (k + 1) (c / 1000000000) b (o.set (at' + k) d) := by
 have hyy : y < 1000000000 := by rw [← hy]; exact pcs_getD hq _
 have hny : n * y ≤ 999999999 * 999999999 := Nat.mul_le_mul (by omega) (by omega)
 have hcy := h.cyl
 refine ⟨by simp [h.len], pcs_set h.pcs hd, by omega, hb, ?_, ?_, ?_⟩
 ·have e0 := pv_set o (at' + k) d (by rw [h.len]; exact hk)
  rw [h.high _ (Nat.le_refl _), hx] at e0
  have e1 := h.val
  have e2 : pv (q.take (k + 1)) = pv (q.take k) + 1000000000 ^ k * y := by
   by_cases hkl : k < q.length
   ·rw [pv_take_succ q k hkl, hy]
   ·rw [List.take_of_length_le (by omega), List.take_of_length_le (by omega), ← hy, List.getElem?_eq_none (by omega)]; simp
  rw [e2, pow_at]
  have e3 : 1000000000 ^ at' * (n * (pv (q.take k) + 1000000000 ^ k * y)) = 1000000000 ^ at' * (n * pv (q.take k)) + n * y * 1000000000 ^ (at' + k) := by
   rw [Nat.pow_add]; generalize (1000000000 : Nat) ^ at' = P; generalize (1000000000 : Nat) ^ k = Q; grind
  rw [e3]
  generalize (1000000000 : Nat) ^ (at' + k) = P at *
  have hdm := Nat.div_add_mod c 1000000000
  generalize c / 1000000000 = s at *
  generalize c % 1000000000 = r at *
  have e4 : (d + r + bo) * P = (x + 1000000000 * b) * P := by rw [hdb]
  have e5 : (1000000000 * s + r) * P = (cy + n * y) * P := by rw [hdm, hc]
  grind
 ·intro j hj
  rw [List.getElem?_set_ne (by omega)]
  exact h.low j hj
 ·intro j hj
  rw [List.getElem?_set_ne (by omega)]
  exact h.high j (by omega)
structure BackAt (a q : List Nat) (at' k cy : Nat) (o : List Nat) : Prop where
 len : o.length = a.length
 pcs : Pcs o
 cyl : cy ≤ 1
 val : pv o + cy * 1000000000 ^ (at' + k) = pv a + 1000000000 ^ at' * pv (q.take k)
 low : ∀ j, j < at' → o[j]?.getD 0 = a[j]?.getD 0
 high : ∀ j, at' + k ≤ j → o[j]?.getD 0 = a[j]?.getD 0
theorem back_at_start (a q : List Nat) (at' : Nat) (h : Pcs a) : BackAt a q at' 0 0 a :=
 ⟨rfl, h, by omega, by simp [pv], fun _ _ => rfl, fun _ _ => rfl⟩
theorem back_at_step {a q : List Nat} {at' k cy : Nat} {o : List Nat} (h : BackAt a q at' k cy o) (ha : Pcs a) (x y c : Nat) (hx : a[at' + k]?.getD 0 = x) (hk : at' + k < a.length) (hq : Pcs q)
  (hy : q[k]?.getD 0 = y) (hc : c = cy + x + y) : BackAt a q at' (k + 1) (c / 1000000000) (o.set (at' + k) (c % 1000000000)) := by
 have hyy : y < 1000000000 := by rw [← hy]; exact pcs_getD hq _
 have hxx : x < 1000000000 := by rw [← hx]; exact pcs_getD ha _
 have hcy := h.cyl
 refine ⟨by simp [h.len], pcs_set h.pcs (by omega), by omega, ?_, ?_, ?_⟩
 ·have e0 := pv_set o (at' + k) (c % 1000000000) (by rw [h.len]; exact hk)
  rw [h.high _ (Nat.le_refl _), hx] at e0
  have e1 := h.val
  have e2 : pv (q.take (k + 1)) = pv (q.take k) + 1000000000 ^ k * y := by
   by_cases hkl : k < q.length
   ·rw [pv_take_succ q k hkl, hy]
   ·rw [List.take_of_length_le (by omega), List.take_of_length_le (by omega), ← hy, List.getElem?_eq_none (by omega)]; simp
  rw [e2, pow_at]
  have e3 : 1000000000 ^ at' * (pv (q.take k) + 1000000000 ^ k * y) = 1000000000 ^ at' * pv (q.take k) + y * 1000000000 ^ (at' + k) := by
   rw [Nat.pow_add]; generalize (1000000000 : Nat) ^ at' = P; generalize (1000000000 : Nat) ^ k = Q; grind
  rw [e3]
  generalize (1000000000 : Nat) ^ (at' + k) = P at *
  have hdm := Nat.div_add_mod c 1000000000
  generalize c / 1000000000 = s at *
  generalize c % 1000000000 = r at *
  have e5 : (1000000000 * s + r) * P = (cy + x + y) * P := by rw [hdm, hc]
  grind
 ·intro j hj
  rw [List.getElem?_set_ne (by omega)]
  exact h.low j hj
 ·intro j hj
  rw [List.getElem?_set_ne (by omega)]
  exact h.high j (by omega)
structure DigitAt (A b P hi a2 b1 b2 : Nat) : Prop where
 pos : 0 < P
 one : 1 ≤ b1
 b2l : b2 < 1000000000
 alo : (hi * 1000000000 + a2) * P ≤ A
 ahi : A < (hi * 1000000000 + a2 + 1) * P
 a2l : a2 < 1000000000
 blo : (b1 * 1000000000 + b2) * P ≤ b
 bhi : b < (b1 * 1000000000 + b2 + 1) * P
theorem DigitAt.bpos {A b P hi a2 b1 b2 : Nat} (h : DigitAt A b P hi a2 b1 b2) : 0 < b := by
 have h1 := h.blo
 have h2 : 1 * P ≤ (b1 * 1000000000 + b2) * P := Nat.mul_le_mul_right _ (by have := h.one; omega)
 have := h.pos
 omega
theorem lt_of_mul {a b c : Nat} (h : a * c < b * c) : a < b := Nat.lt_of_mul_lt_mul_right h
theorem guess_start {A b P hi a2 b1 b2 : Nat} (h : DigitAt A b P hi a2 b1 b2) : A / b ≤ hi / b1 := by
 rw [Nat.le_div_iff_mul_le (by have := h.one; omega)]
 have h1 : A / b * b ≤ A := Nat.div_mul_le_self _ _
 generalize A / b = q at *
 have h2 : q * ((b1 * 1000000000 + b2) * P) ≤ q * b := Nat.mul_le_mul_left _ h.blo
 have h3 : q * b1 * 1000000000 * P ≤ q * ((b1 * 1000000000 + b2) * P) := by
  have : q * ((b1 * 1000000000 + b2) * P) = q * b1 * 1000000000 * P + q * b2 * P := by grind
  omega
 have h4 : q * b1 * 1000000000 * P < (hi * 1000000000 + a2 + 1) * P := by have := h.ahi; omega
 have h5 := lt_of_mul h4
 have := h.a2l
 omega
theorem guess_step {A b P hi a2 b1 b2 g r : Nat} (h : DigitAt A b P hi a2 b1 b2) (hv : g * b1 + r = hi) (hc : r * 1000000000 + a2 < g * b2) : A / b < g := by
 have h1 : A / b * b ≤ A := Nat.div_mul_le_self _ _
 generalize A / b = q at *
 have h2 : (hi * 1000000000 + a2 + 1) ≤ g * (b1 * 1000000000 + b2) := by
  have : g * (b1 * 1000000000 + b2) = g * b1 * 1000000000 + g * b2 := by grind
  omega
 have h3 : (hi * 1000000000 + a2 + 1) * P ≤ g * (b1 * 1000000000 + b2) * P := Nat.mul_le_mul_right _ h2
 have h4 : g * (b1 * 1000000000 + b2) * P ≤ g * b := by rw [Nat.mul_assoc]; exact Nat.mul_le_mul_left _ h.blo
 have h5 := h.ahi
 exact lt_of_mul (c := b) (by omega)
theorem guess_end {A b P hi a2 b1 b2 g r : Nat} (h : DigitAt A b P hi a2 b1 b2) (hv : g * b1 + r = hi) (hg : g < 1000000000) (hc : ¬ (r < 1000000000 ∧ r * 1000000000 + a2 < g * b2)) : g ≤ A / b + 1 := by
 have hb := h.bpos
 have hle : (g - 1) * b ≤ A := by
  have h5 := h.alo
  by_cases hr : r < 1000000000
  ·have h1 : g * b2 ≤ r * 1000000000 + a2 := by omega
   have h2 : g * (b1 * 1000000000 + b2) ≤ hi * 1000000000 + a2 := by
    have : g * (b1 * 1000000000 + b2) = g * b1 * 1000000000 + g * b2 := by grind
    omega
   have h3 : g * (b1 * 1000000000 + b2) * P ≤ (hi * 1000000000 + a2) * P := Nat.mul_le_mul_right _ h2
   have h4 : g * b ≤ g * ((b1 * 1000000000 + b2 + 1) * P) := Nat.mul_le_mul_left _ (by have := h.bhi; omega)
   have h6 : g * ((b1 * 1000000000 + b2 + 1) * P) = g * (b1 * 1000000000 + b2) * P + g * P := by grind
   have h7 : g * P ≤ (b1 * 1000000000 + b2) * P := Nat.mul_le_mul_right _ (by have := h.one; omega)
   have h8 := h.blo
   have h9 : (g - 1) * b = g * b - b := by rw [Nat.sub_mul, Nat.one_mul]
   omega
  ·have h1 : (g - 1) * b ≤ g * b := Nat.mul_le_mul_right _ (by omega)
   have h2 : g * b ≤ g * ((b1 + 1) * 1000000000 * P) := Nat.mul_le_mul_left _ (by
    have := h.bhi
    have h3 : (b1 * 1000000000 + b2 + 1) * P ≤ (b1 + 1) * 1000000000 * P := Nat.mul_le_mul_right _ (by have := h.b2l; omega)
    omega)
   have h3 : g * ((b1 + 1) * 1000000000 * P) = (g * b1 + g) * 1000000000 * P := by grind
   have h4 : (g * b1 + g) * 1000000000 * P ≤ (hi * 1000000000 + a2) * P := Nat.mul_le_mul_right _ (by omega)
   omega
 have := (Nat.le_div_iff_mul_le hb).2 hle
 omega
theorem getLast_pos (x : Nat) (h : 0 < x) : 0 < (pcs x)[(pcs x).length - 1]?.getD 0 := by
 induction x using Nat.strongRecOn with
 | _ x ih =>
   rw [pcs_pos h]
   rcases Nat.eq_zero_or_pos (x / 1000000000) with h0 | h0
   ·rw [h0, pcs_zero]; simp; omega
   ·have := ih _ (by omega) h0
    rw [pcs_pos h0] at this ⊢
    simpa using this
theorem drop_lt_zero {l : List Nat} {n : Nat} (h : pv l < 1000000000 ^ n) : ∀ j, n ≤ j → l[j]?.getD 0 = 0 := by
 intro j hj
 by_cases hjl : j < l.length
 ·have e := pv_split l j (by omega)
  rw [pv_drop l j hjl] at e
  have hp : 1000000000 ^ n ≤ 1000000000 ^ j := Nat.pow_le_pow_right (by omega) hj
  rcases Nat.eq_zero_or_pos (l[j]?.getD 0) with h0 | h0
  ·exact h0
  ·have : 1000000000 ^ j * 1 ≤ 1000000000 ^ j * (l[j]?.getD 0 + 1000000000 * pv (l.drop (j + 1))) := Nat.mul_le_mul_left _ (by omega)
   omega
 ·rw [List.getElem?_eq_none (by omega)]; rfl
theorem pv_zero_from (l : List Nat) (n : Nat) (h : ∀ j, n ≤ j → l[j]?.getD 0 = 0) : pv (l.drop n) = 0 := by
 refine pv_zeros _ fun x hx => ?_
 obtain ⟨j, hj, rfl⟩ := List.getElem_of_mem hx
 have h1 := h (n + j) (by omega)
 rw [List.getElem_drop]
 simp at hj
 rw [List.getElem?_eq_getElem (by omega)] at h1
 simpa using h1
theorem pv_lt_of_zero (l : List Nat) (n : Nat) (hl : Pcs l) (h : ∀ j, n ≤ j → l[j]?.getD 0 = 0) : pv l < 1000000000 ^ n := by
 by_cases hn : n ≤ l.length
 ·have e := pv_split l n hn
  rw [pv_zero_from l n h] at e
  have h1 := pv_lt (l.take n) (fun x hx => hl x (List.mem_of_mem_take hx))
  rw [List.length_take, Nat.min_eq_left hn] at h1
  omega
 ·have h1 := pv_lt l hl
  have : (1000000000 : Nat) ^ l.length ≤ 1000000000 ^ n := Nat.pow_le_pow_right (by omega) (by omega)
  omega
theorem Pcs.drop {l : List Nat} (h : Pcs l) (k : Nat) : Pcs (l.drop k) := fun x hx => h x (List.mem_of_mem_drop hx)
theorem Pcs.take {l : List Nat} (h : Pcs l) (k : Nat) : Pcs (l.take k) := fun x hx => h x (List.mem_of_mem_take hx)
theorem getD_drop (l : List Nat) (i j : Nat) : (l.drop i)[j]?.getD 0 = l[i + j]?.getD 0 := by rw [List.getElem?_drop]
theorem three_high (l : List Nat) (n : Nat) (hn : 2 ≤ n) (hl : n < l.length) (hp : Pcs l) (hz : ∀ j, n + 1 ≤ j → l[j]?.getD 0 = 0) :
  ∃ lo, lo < 1000000000 ^ (n - 2) ∧ pv l = lo + 1000000000 ^ (n - 2) * ((l[n]?.getD 0 * 1000000000 + l[n - 1]?.getD 0) * 1000000000 + l[n - 2]?.getD 0) := by
 refine ⟨pv (l.take (n - 2)), ?_, ?_⟩
 ·have := pv_lt _ (hp.take (n - 2))
  rwa [List.length_take, Nat.min_eq_left (by omega)] at this
 ·have e := pv_split l (n - 2) (by omega)
  rw [pv_drop l (n - 2) (by omega), show n - 2 + 1 = n - 1 by omega, pv_drop l (n - 1) (by omega), show n - 1 + 1 = n by omega, pv_drop l n (by omega), pv_zero_from l (n + 1) hz] at e
  rw [e]
  congr 2
  omega
theorem two_high (l : List Nat) (n : Nat) (hn : 2 ≤ n) (hl : l.length = n) (hp : Pcs l) :
  ∃ lo, lo < 1000000000 ^ (n - 2) ∧ pv l = lo + 1000000000 ^ (n - 2) * (l[n - 1]?.getD 0 * 1000000000 + l[n - 2]?.getD 0) := by
 refine ⟨pv (l.take (n - 2)), ?_, ?_⟩
 ·have := pv_lt _ (hp.take (n - 2))
  rwa [List.length_take, Nat.min_eq_left (by omega)] at this
 ·have e := pv_split l (n - 2) (by omega)
  rw [pv_drop l (n - 2) (by omega), show n - 2 + 1 = n - 1 by omega, pv_drop l (n - 1) (by omega), List.drop_of_length_le (by omega)] at e
  rw [e]
  congr 2
  simp [pv]
  omega
structure DivAt (x b n m i : Nat) (a o : List Nat) : Prop where
 alen : a.length = m
 apcs : Pcs a
 olen : o.length = m - n
 opcs : Pcs o
 val : pv a + b * (1000000000 ^ i * pv (o.drop i)) = x
 lt : pv (a.drop i) < b
theorem div_at_start (x b n m : Nat) (a : List Nat) (ha : a = pcs x ++ [0]) (hm : a.length = m) (hn : (pcs b).length = n) (hnm : n < m) (hb : 0 < b) (h1 : 1 ≤ n) : DivAt x b n m (m - n) a (List.replicate (m - n) 0) := by
 have hap : Pcs a := by
  rw [ha]; intro y hy
  rcases List.mem_append.1 hy with hy | hy
  ·exact pcs_lt x y hy
  ·rw [List.mem_singleton] at hy; omega
 have hv : pv a = x := by rw [ha, pv_append, pv_pcs]; simp [pv]
 refine ⟨hm, hap, by simp, fun y hy => by rw [List.eq_of_mem_replicate hy]; omega, ?_, ?_⟩
 ·rw [List.drop_of_length_le (by simp)]; simp [pv, hv]
 ·have h2 := pcs_ge b hb
  rw [hn] at h2
  have h3 : pv (a.drop (m - n)) < 1000000000 ^ (n - 1) := by
   refine pv_lt_of_zero _ _ (hap.drop _) fun j hj => ?_
   rw [getD_drop]
   by_cases hj2 : m - n + j < m - 1
   ·omega
   ·by_cases hj3 : m - n + j = m - 1
    ·rw [hj3, ha, List.getElem?_append_right (by rw [ha] at hm; simp at hm; omega)]
     rw [show m - 1 - (pcs x).length = 0 by rw [ha] at hm; simp at hm; omega]
     rfl
    ·rw [List.getElem?_eq_none (by omega)]; rfl
  omega
theorem hi_bounds {A lo P X : Nat} (h : lo < P) (e : A = lo + P * X) : X * P ≤ A ∧ A < (X + 1) * P := by
 rw [e, Nat.add_mul, Nat.mul_comm X P]; omega
theorem DivAt.digit {x b n m i : Nat} {a o : List Nat} (h : DivAt x b n m (i + 1) a o) (hb : (pcs b).length = n) (hn : 2 ≤ n) (hi : i + n < m) :
  DigitAt (pv (a.drop i)) b (1000000000 ^ (n - 2)) (a[i + n]?.getD 0 * 1000000000 + a[i + (n - 1)]?.getD 0) (a[i + (n - 2)]?.getD 0) ((pcs b)[n - 1]?.getD 0) ((pcs b)[n - 2]?.getD 0) ∧
  pv (a.drop i) / b < 1000000000 ∧ (∀ j, i + n + 1 ≤ j → a[j]?.getD 0 = 0) := by
 have hb0 : 0 < b := by have := h.lt; omega
 have hbl : b < 1000000000 ^ n := by have := pv_lt _ (pcs_lt b); rwa [pv_pcs, hb] at this
 have hz0 := drop_lt_zero (l := a.drop (i + 1)) (n := n) (by have := h.lt; omega)
 have hz : ∀ j, i + n + 1 ≤ j → a[j]?.getD 0 = 0 := fun j hj => by
  have := hz0 (j - (i + 1)) (by omega)
  rwa [getD_drop, show i + 1 + (j - (i + 1)) = j by omega] at this
 have e3 := three_high (a.drop i) n hn (by rw [List.length_drop, h.alen]; omega) (h.apcs.drop _) (fun j hj => by rw [getD_drop]; exact hz _ (by omega))
 rw [getD_drop, getD_drop, getD_drop] at e3
 obtain ⟨lo, hlo, e3⟩ := e3
 obtain ⟨lb, hlb, e4⟩ := two_high (pcs b) n hn hb (pcs_lt b)
 rw [pv_pcs] at e4
 have hP : 0 < 1000000000 ^ (n - 2) := Nat.pow_pos (by omega)
 have hl := getLast_pos b hb0
 rw [hb] at hl
 have ha2 := pcs_getD h.apcs (i + (n - 2))
 have hb2 := pcs_getD (pcs_lt b) (n - 2)
 have ba := hi_bounds hlo e3
 have bb := hi_bounds hlb e4
 refine ⟨⟨hP, hl, hb2, ba.1, ba.2, ha2, bb.1, bb.2⟩, ?_, hz⟩
 ·rw [Nat.div_lt_iff_lt_mul hb0, pv_drop a i (by rw [h.alen]; omega)]
  have h1 := h.lt
  have h2 := pcs_getD h.apcs i
  have h3 : (pv (a.drop (i + 1)) + 1) * 1000000000 ≤ b * 1000000000 := Nat.mul_le_mul_right _ (by omega)
  omega
theorem take_same {a o : List Nat} {i : Nat} (hl : o.length = a.length) (h : ∀ j, j < i → o[j]?.getD 0 = a[j]?.getD 0) : o.take i = a.take i := by
 refine List.ext_getElem (by simp [hl]) fun j h1 h2 => ?_
 have := h j (by simp at h1; omega)
 simp at h1 h2
 rw [List.getElem?_eq_getElem (by omega), List.getElem?_eq_getElem (by omega)] at this
 simpa using this
theorem drop_val {a o : List Nat} {i u v : Nat} (hl : o.length = a.length) (hi : i ≤ a.length) (h : ∀ j, j < i → o[j]?.getD 0 = a[j]?.getD 0) (e : pv o + 1000000000 ^ i * u = pv a + 1000000000 ^ i * v) : pv (o.drop i) + u = pv (a.drop i) + v := by
 have e1 := pv_split o i (by omega)
 have e2 := pv_split a i hi
 rw [take_same hl h] at e1
 have hP : 0 < 1000000000 ^ i := Nat.pow_pos (by omega)
 have : 1000000000 ^ i * (pv (o.drop i) + u) = 1000000000 ^ i * (pv (a.drop i) + v) := by rw [Nat.mul_add, Nat.mul_add]; omega
 exact Nat.eq_of_mul_eq_mul_left hP this
theorem DivAt.next {x b n m i : Nat} {a o a' : List Nat} (h : DivAt x b n m (i + 1) a o) (hi : i + n < m) (hl : a'.length = a.length) (hp : Pcs a') (hlow : ∀ j, j < i → a'[j]?.getD 0 = a[j]?.getD 0)
  (hv : pv (a'.drop i) = pv (a.drop i) % b) (hq : pv (a.drop i) / b < 1000000000) : DivAt x b n m i a' (o.set i (pv (a.drop i) / b)) := by
 have hb0 : 0 < b := by have := h.lt; omega
 refine ⟨by rw [hl, h.alen], hp, by simp [h.olen], pcs_set h.opcs hq, ?_, ?_⟩
 ·have e1 := pv_split a' i (by rw [hl, h.alen]; omega)
  have e2 := pv_split a i (by rw [h.alen]; omega)
  rw [take_same hl hlow, hv] at e1
  have e3 := h.val
  rw [pv_drop _ i (by simp [h.olen]; omega), drop_set_succ, List.getElem?_set_self (by rw [h.olen]; omega), e1, ← e3]
  conv => rhs; rw [e2]
  have e4 := Nat.div_add_mod (pv (a.drop i)) b
  generalize pv (a.drop i) / b = q at *
  generalize pv (a.drop i) % b = r at *
  generalize pv (o.drop (i + 1)) = z at *
  generalize pv (a.take i) = t at *
  simp only [Option.getD_some]
  rw [Nat.pow_succ]
  generalize (1000000000 : Nat) ^ i = P at *
  rw [← e4]
  grind
 ·rw [hv]; exact Nat.mod_lt _ hb0
theorem DivAt.right {x b n m i g : Nat} {a o a' : List Nat} (h : DivAt x b n m (i + 1) a o) (hb : (pcs b).length = n) (hn : 2 ≤ n) (hi : i + n < m) (hg : pv (a.drop i) / b ≤ g) (ht : TakeAt a (pcs b) g i (n + 1) 0 0 a') :
  DivAt x b n m i a' (o.set i g) := by
 obtain ⟨_, hq, hz⟩ := h.digit hb hn hi
 have hb0 : 0 < b := by have := h.lt; omega
 have e := ht.val
 rw [List.take_of_length_le (by omega), pv_pcs] at e
 have e2 := drop_val (u := g * b) (v := 0) ht.len (by rw [h.alen]; omega) ht.low (by omega)
 have hle : g ≤ pv (a.drop i) / b := (Nat.le_div_iff_mul_le hb0).2 (by omega)
 obtain rfl : g = pv (a.drop i) / b := by omega
 refine h.next hi ht.len ht.pcs ht.low ?_ hq
 have := Nat.div_add_mod (pv (a.drop i)) b
 rw [Nat.mul_comm] at this
 omega
theorem DivAt.over {x b n m i g cy : Nat} {a o a' a2 : List Nat} (h : DivAt x b n m (i + 1) a o) (hb : (pcs b).length = n) (hn : 2 ≤ n) (hi : i + n < m) (hg : g ≤ pv (a.drop i) / b + 1) (ht : TakeAt a (pcs b) g i (n + 1) 0 1 a')
  (hk : BackAt a' (pcs b) i (n + 1) cy a2) : 1 ≤ g ∧ DivAt x b n m i a2 (o.set i (g - 1)) := by
 obtain ⟨_, hq, hz⟩ := h.digit hb hn hi
 have hb0 : 0 < b := by have := h.lt; omega
 have hbl : b < 1000000000 ^ n := by have := pv_lt _ (pcs_lt b); rwa [pv_pcs, hb] at this
 have e := ht.val
 rw [List.take_of_length_le (by omega), pv_pcs, Nat.pow_add] at e
 have e2 := drop_val (u := g * b) (v := 1000000000 ^ (n + 1)) ht.len (by rw [h.alen]; omega) ht.low (by rw [e]; omega)
 have hz1 : ∀ j, n + 1 ≤ j → (a'.drop i)[j]?.getD 0 = 0 := fun j hj => by rw [getD_drop, ht.high _ (by omega)]; exact hz _ (by omega)
 have hl1 := pv_lt_of_zero (a'.drop i) (n + 1) (ht.pcs.drop _) hz1
 have hz2 : ∀ j, n + 1 ≤ j → (a2.drop i)[j]?.getD 0 = 0 := fun j hj => by rw [getD_drop, hk.high _ (by omega), ← getD_drop]; exact hz1 _ hj
 have hl2 := pv_lt_of_zero (a2.drop i) (n + 1) (hk.pcs.drop _) hz2
 have hgt : pv (a.drop i) / b < g := by
  rw [Nat.div_lt_iff_lt_mul hb0]; omega
 obtain rfl : g = pv (a.drop i) / b + 1 := by omega
 have f := hk.val
 rw [List.take_of_length_le (by omega), pv_pcs, Nat.pow_add] at f
 have f2 := drop_val (u := cy * 1000000000 ^ (n + 1)) (v := b) hk.len (by rw [ht.len, h.alen]; omega) hk.low (by rw [← f]; grind)
 have hm := Nat.div_add_mod (pv (a.drop i)) b
 have hr := Nat.mod_lt (pv (a.drop i)) hb0
 have hP : 1000000000 ^ (n + 1) = 1000000000 ^ n * 1000000000 := Nat.pow_succ ..
 refine ⟨Nat.le_add_left 1 _, ?_⟩
 rw [Nat.add_sub_cancel]
 refine h.next hi (by rw [hk.len, ht.len]) hk.pcs (fun j hj => by rw [hk.low j hj, ht.low j hj]) ?_ hq
 have e5 : (pv (a.drop i) / b + 1) * b = b * (pv (a.drop i) / b) + b := by rw [Nat.add_mul, Nat.one_mul, Nat.mul_comm]
 have hcy := hk.cyl
 have hcy2 : cy = 0 ∨ cy = 1 := by omega
 rw [e5] at e2
 generalize pv (a.drop i) / b = Q at *
 generalize pv (a.drop i) % b = R at *
 generalize pv (a.drop i) = A at *
 generalize pv (a'.drop i) = A1 at *
 generalize pv (a2.drop i) = A2 at *
 generalize (1000000000 : Nat) ^ n = P at *
 generalize (1000000000 : Nat) ^ (n + 1) = P1 at *
 generalize b * Q = bQ at *
 rcases hcy2 with rfl | rfl
 ·omega
 ·omega
theorem div_at_end {x b n m : Nat} {a o : List Nat} (h : DivAt x b n m 0 a o) : pv o = x / b ∧ pv a = x % b := by
 have hv := h.val
 have hl := h.lt
 simp only [List.drop_zero, Nat.pow_zero, Nat.one_mul] at hv hl
 have hb0 : 0 < b := by omega
 constructor
 ·rw [← hv, Nat.add_mul_div_left _ _ hb0, Nat.div_eq_of_lt hl, Nat.zero_add]
 ·rw [← hv, Nat.add_mul_mod_self_left, Nat.mod_eq_of_lt hl]
end Go.Proofs.YtaaeekahhhookaaGreatDoor
