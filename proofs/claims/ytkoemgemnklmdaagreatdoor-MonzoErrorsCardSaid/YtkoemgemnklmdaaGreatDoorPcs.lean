/- Plain arithmetic of pieces (base 1000000000, the least significant one first); no program. -/
import Derived.Test.YtkoemgemnklmdaaGreatDoorNum
namespace Go.Proofs.YtkoemgemnklmdaaGreatDoor
open Go.Lib

/-- The value of pieces. -/
def pv : List Nat → Nat
  | [] => 0
  | a :: l => a + 1000000000 * pv l

/-- The pieces of a number. -/
def pcs (n : Nat) : List Nat := if h : n = 0 then [] else n % 1000000000 :: pcs (n / 1000000000)
termination_by n
decreasing_by omega

def Pcs (l : List Nat) : Prop := ∀ x ∈ l, x < 1000000000

theorem pcs_zero : pcs 0 = [] := by rw [pcs]; rfl
theorem pcs_pos {n : Nat} (h : 0 < n) : pcs n = n % 1000000000 :: pcs (n / 1000000000) := by rw [pcs, dif_neg (by omega)]

theorem pv_pcs (n : Nat) : pv (pcs n) = n := by
  induction n using Nat.strongRecOn with
  | _ n ih =>
    rcases Nat.eq_zero_or_pos n with h | h
    · subst h; rw [pcs_zero]; rfl
    · rw [pcs_pos h, pv, ih _ (by omega)]; omega

theorem pcs_lt (n : Nat) : Pcs (pcs n) := by
  induction n using Nat.strongRecOn with
  | _ n ih =>
    rcases Nat.eq_zero_or_pos n with h | h
    · subst h; rw [pcs_zero]; intro x hx; simp at hx
    · rw [pcs_pos h]; intro x hx
      rcases List.mem_cons.1 hx with hx | hx
      · omega
      · exact ih _ (by omega) x hx

theorem pcs_inj {a b : Nat} (h : pcs a = pcs b) : a = b := by rw [← pv_pcs a, h, pv_pcs]

theorem pv_append (l r : List Nat) : pv (l ++ r) = pv l + 1000000000 ^ l.length * pv r := by
  induction l with
  | nil => simp [pv]
  | cons a l ih =>
    simp only [List.cons_append, pv, ih, List.length_cons, Nat.pow_succ]
    rw [Nat.mul_add, Nat.mul_comm (1000000000 ^ l.length) 1000000000, Nat.mul_assoc]; omega

theorem pv_zeros (l : List Nat) (h : ∀ x ∈ l, x = 0) : pv l = 0 := by
  induction l with
  | nil => rfl
  | cons a l ih => rw [pv, h a (by simp), ih (fun x hx => h x (by simp [hx]))]

theorem pv_lt (l : List Nat) (h : Pcs l) : pv l < 1000000000 ^ l.length := by
  induction l with
  | nil => simp [pv]
  | cons a l ih =>
    have ha := h a (by simp)
    have := ih (fun x hx => h x (by simp [hx]))
    simp only [pv, List.length_cons, Nat.pow_succ]
    omega

/-- Pieces without a 0 at the end are the pieces of their value. -/
theorem pcs_of (l : List Nat) (h : Pcs l) (hn : ∀ x, l.getLast? = some x → x ≠ 0) : pcs (pv l) = l := by
  induction l with
  | nil => exact pcs_zero
  | cons a l ih =>
    have ha := h a (by simp)
    have hp : 0 < pv (a :: l) := by
      rw [pv]
      cases l with
      | nil => have := hn a (by simp); omega
      | cons b l =>
        have e := ih (fun x hx => h x (by simp [hx])) (fun x hx => hn x (by simpa [List.getLast?_cons_cons] using hx))
        rcases Nat.eq_zero_or_pos (pv (b :: l)) with h0 | h0
        · rw [h0, pcs_zero] at e; cases e
        · omega
    rw [pcs_pos hp, pv]
    have h1 : (a + 1000000000 * pv l) % 1000000000 = a := by omega
    have h2 : (a + 1000000000 * pv l) / 1000000000 = pv l := by omega
    rw [h1, h2]
    congr 1
    cases l with
    | nil => exact pcs_zero
    | cons b l => exact ih (fun x hx => h x (by simp [hx])) (fun x hx => hn x (by simpa [List.getLast?_cons_cons] using hx))

/-- What trim leaves: k pieces, of which the last one is not 0, and zeros behind them. -/
theorem trim_eq (l : List Nat) (k : Nat) (hl : Pcs l) (hk : k ≤ l.length) (hz : ∀ j, k ≤ j → j < l.length → l[j]?.getD 0 = 0) (hn : k = 0 ∨ l[k - 1]?.getD 0 ≠ 0) : l.take k = pcs (pv l) := by
  have e : pv l = pv (l.take k) := by
    have h0 : pv (l.drop k) = 0 := by
      refine pv_zeros _ fun x hx => ?_
      obtain ⟨j, hj, rfl⟩ := List.getElem_of_mem hx
      have h1 := hz (k + j) (by omega) (by simp at hj; omega)
      rw [List.getElem_drop]
      rw [List.getElem?_eq_getElem (by simp at hj; omega)] at h1
      simpa using h1
    conv => lhs; rw [← List.take_append_drop k l, pv_append, h0]
    simp
  rw [e]
  refine (pcs_of _ (fun x hx => hl x (List.mem_of_mem_take hx)) fun x hx => ?_).symm
  rcases hn with h | h
  · subst h; simp at hx
  · rw [List.getLast?_eq_getElem?, List.length_take, Nat.min_eq_left hk, List.getElem?_take] at hx
    split at hx
    · rw [hx] at h; simpa using h
    · cases hx

theorem trim_ex (l : List Nat) : ∀ n, n ≤ l.length → (∀ j, n ≤ j → j < l.length → l[j]?.getD 0 = 0) → ∃ k, k ≤ l.length ∧ (∀ j, k ≤ j → j < l.length → l[j]?.getD 0 = 0) ∧ (k = 0 ∨ l[k - 1]?.getD 0 ≠ 0)
  | 0, _, h => ⟨0, Nat.zero_le _, h, .inl rfl⟩
  | n + 1, hn, h => by
    by_cases hz : l[n]?.getD 0 = 0
    · refine trim_ex l n (by omega) fun j h1 h2 => ?_
      by_cases hj : j = n
      · rw [hj]; exact hz
      · exact h j (by omega) h2
    · exact ⟨n + 1, hn, h, .inr (by simpa using hz)⟩

theorem trim_take (l : List Nat) (hl : Pcs l) : (pcs (pv l)).length ≤ l.length ∧ l.take (pcs (pv l)).length = pcs (pv l) := by
  obtain ⟨k, hk, hz, hn⟩ := trim_ex l l.length (Nat.le_refl _) (fun j h1 h2 => by omega)
  have e := trim_eq l k hl hk hz hn
  have hlen : (pcs (pv l)).length = k := by rw [← e, List.length_take, Nat.min_eq_left hk]
  exact ⟨by omega, by rw [hlen]; exact e⟩

theorem pv_set (l : List Nat) : ∀ (j v : Nat), j < l.length → pv (l.set j v) + l[j]?.getD 0 * 1000000000 ^ j = pv l + v * 1000000000 ^ j := by
  induction l with
  | nil => intro j v h; simp at h
  | cons a l ih =>
    intro j v h
    cases j with
    | zero => simp [pv]; omega
    | succ j =>
      have := ih j v (by simpa using h)
      simp only [List.set_cons_succ, pv, List.getElem?_cons_succ, Nat.pow_succ]
      rw [← Nat.mul_assoc, ← Nat.mul_assoc]
      omega

theorem pcs_set {l : List Nat} {j v : Nat} (h : Pcs l) (hv : v < 1000000000) : Pcs (l.set j v) := by
  intro x hx
  rcases List.mem_or_eq_of_mem_set hx with hx | hx
  · exact h x hx
  · omega

theorem pcs_getD {l : List Nat} (h : Pcs l) (j : Nat) : l[j]?.getD 0 < 1000000000 := by
  cases e : l[j]? with
  | none => simp
  | some x => exact h x (List.mem_of_getElem? e)

theorem pv_take_succ (l : List Nat) (k : Nat) (h : k < l.length) : pv (l.take (k + 1)) = pv (l.take k) + 1000000000 ^ k * l[k]?.getD 0 := by
  rw [List.take_succ_eq_append_getElem h, pv_append, List.length_take, Nat.min_eq_left (by omega), List.getElem?_eq_getElem h]
  simp [pv]

theorem pv_drop (l : List Nat) (k : Nat) (h : k < l.length) : pv (l.drop k) = l[k]?.getD 0 + 1000000000 * pv (l.drop (k + 1)) := by
  rw [List.drop_eq_getElem_cons h, pv, List.getElem?_eq_getElem h]; rfl

/-! ### The digits of pieces -/

/-- The k low digits of a number, the least significant one first. -/
def lows : Nat → Nat → List UInt8
  | 0, _ => []
  | k + 1, n => UInt8.ofNat (48 + n % 10) :: lows k (n / 10)

theorem lows_length (k : Nat) : ∀ n, (lows k n).length = k := by
  induction k with
  | zero => intro n; rfl
  | succ k ih => intro n; simp [lows, ih]

theorem lows_snoc (k : Nat) : ∀ n, lows (k + 1) n = lows k n ++ [UInt8.ofNat (48 + n / 10 ^ k % 10)] := by
  induction k with
  | zero => intro n; simp [lows]
  | succ k ih =>
    intro n
    have h := ih (n / 10)
    rw [lows, h]
    simp only [lows, List.cons_append]
    rw [Nat.div_div_eq_div_mul, Nat.pow_succ, Nat.mul_comm 10]

theorem dec_mul_add (m d : Nat) (hm : 0 < m) (hd : d < 10) : decDigits (10 * m + d) = decDigits m ++ [UInt8.ofNat (48 + d)] := by
  rw [dec_big (by omega), show (10 * m + d) / 10 = m by omega, show (10 * m + d) % 10 = d by omega]

theorem dec_lows (k : Nat) : ∀ (a m : Nat), a < 10 ^ k → 0 < m → decDigits (a + 10 ^ k * m) = decDigits m ++ (lows k a).reverse := by
  induction k with
  | zero => intro a m h _; simp at h; subst h; simp [lows]
  | succ k ih =>
    intro a m h hm
    rw [Nat.pow_succ] at h
    have h1 := ih (a / 10) m (by omega) hm
    have e : a + 10 ^ (k + 1) * m = 10 * (a / 10 + 10 ^ k * m) + a % 10 := by
      rw [Nat.pow_succ, Nat.mul_comm (10 ^ k) 10, Nat.mul_assoc]; omega
    have hp : 0 < 10 ^ k * m := Nat.mul_pos (Nat.pow_pos (by omega)) hm
    rw [e, dec_mul_add _ _ (by omega) (by omega), h1, lows]
    simp

/-- The digits of a number greater than 0 as its low digits. -/
theorem dec_eq_lows (n k : Nat) (h : n < 10 ^ k) (hn : k = 0 ∨ 10 ^ (k - 1) ≤ n) (h0 : 0 < n) : decDigits n = (lows k n).reverse := by
  induction k generalizing n with
  | zero => simp at h; omega
  | succ k ih =>
    rw [Nat.pow_succ] at h
    simp only [Nat.add_sub_cancel] at hn
    by_cases h9 : n < 10
    · have hk : k = 0 := by
        rcases Nat.eq_zero_or_pos k with h1 | h1
        · exact h1
        · have : 10 ^ 1 ≤ 10 ^ k := Nat.pow_le_pow_right (by omega) h1
          omega
      subst hk
      rw [dec_small h9]
      simp [lows, Nat.mod_eq_of_lt h9]
    · have hk : k ≠ 0 := by rintro rfl; simp at h; omega
      have hle : 10 ^ k ≤ n := by omega
      obtain ⟨j, rfl⟩ : ∃ j, k = j + 1 := ⟨k - 1, by omega⟩
      have := ih (n / 10) (by omega) (.inr (by rw [Nat.add_sub_cancel]; rw [Nat.pow_succ] at hle; omega)) (by omega)
      rw [dec_big h9, this]
      simp [lows]

/-- The digits of all pieces but the last one are written whole. -/
def lowsAll (l : List Nat) : List UInt8 := l.flatMap (lows 9)

theorem dec_pieces (l : List Nat) : ∀ (m : Nat), Pcs l → 0 < m → decDigits (pv l + 1000000000 ^ l.length * m) = decDigits m ++ (lowsAll l).reverse := by
  induction l with
  | nil => intro m _ _; simp [pv, lowsAll]
  | cons a l ih =>
    intro m h hm
    have h1 := ih m (fun x hx => h x (by simp [hx])) hm
    have ha := h a (by simp)
    have hp : 0 < 1000000000 ^ l.length * m := Nat.mul_pos (Nat.pow_pos (by omega)) hm
    have e : pv (a :: l) + 1000000000 ^ (a :: l).length * m = a + 10 ^ 9 * (pv l + 1000000000 ^ l.length * m) := by
      simp only [pv, List.length_cons, Nat.pow_succ]
      rw [Nat.mul_comm (1000000000 ^ l.length) 1000000000, Nat.mul_assoc, Nat.mul_add]
      omega
    rw [e, dec_lows 9 a _ ha (by omega), h1]
    simp [lowsAll]

/-! ### The pieces of digits -/

theorem dval_acc (l : List UInt8) : ∀ acc, dval acc l = acc * 10 ^ l.length + dval 0 l := by
  induction l with
  | nil => intro acc; simp [dval_nil]
  | cons c l ih =>
    intro acc
    simp only [dval_cons, List.length_cons]
    rw [ih (10 * acc + dgv c), ih (10 * 0 + dgv c), Nat.pow_succ]
    rw [Nat.mul_comm (10 ^ l.length) 10, ← Nat.mul_assoc, Nat.mul_comm acc 10]
    simp only [Nat.add_mul, Nat.mul_zero, Nat.zero_add]
    omega

theorem dval_snoc (l : List UInt8) (c : UInt8) (acc : Nat) : dval acc (l ++ [c]) = 10 * dval acc l + dgv c := by rw [dval_append]; rfl

theorem dval_lt0 (l : List UInt8) (h : ∀ c ∈ l, isDig c) : dval 0 l < 10 ^ l.length := by
  have := dval_lt l 0 h
  simpa using this

/-- One round of cut: the last nine digits (or all) become a piece. -/
theorem cut_round (x : List UInt8) (n end' : Nat) (l : List Nat) (he : end' ≤ x.length) (h0 : 0 < end')
    (hv : pv l + 1000000000 ^ l.length * dval 0 (x.take end') = n) :
    pv (l ++ [dval 0 ((x.take end').drop (end' - 9))]) + 1000000000 ^ (l.length + 1) * dval 0 (x.take (end' - 9)) = n := by
  have e : x.take end' = x.take (end' - 9) ++ (x.take end').drop (end' - 9) := by
    conv => lhs; rw [← List.take_append_drop (end' - 9) (x.take end'), List.take_take, Nat.min_eq_left (by omega)]
  rw [← hv, pv_append]
  simp only [pv, Nat.mul_zero, Nat.add_zero]
  conv => rhs; rw [e, dval_append, dval_acc]
  rw [Nat.mul_add, Nat.pow_succ]
  have hlen : ((x.take end').drop (end' - 9)).length = if 9 ≤ end' then 9 else end' := by
    simp only [List.length_drop, List.length_take]; split <;> omega
  by_cases h9 : 9 ≤ end'
  · rw [hlen, if_pos h9, Nat.mul_comm (dval 0 (x.take (end' - 9))) (10 ^ 9), ← Nat.mul_assoc]
    simp only [show (10 : Nat) ^ 9 = 1000000000 from rfl]
    omega
  · rw [show end' - 9 = 0 by omega]
    simp [dval_nil]

end Go.Proofs.YtkoemgemnklmdaaGreatDoor
