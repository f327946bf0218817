/- whole: split, join, Sign, Abs; the checks of integers. -/
import Derived.Test.YtkoemgemnklmdaaGreatDoorPow
namespace Go.Proofs.YtkoemgemnklmdaaGreatDoor
open Go.RowKit Go.Lib

theorem ba_ext {a b : ByteArray} (h : a.data.toList = b.data.toList) : a = b := by
  obtain ⟨⟨x⟩⟩ := a
  obtain ⟨⟨y⟩⟩ := b
  simp at h
  rw [h]
theorem ba_tail (c : UInt8) (r : List UInt8) : (⟨(c :: r).toArray⟩ : ByteArray).extract 1 (r.length + 1) = ⟨r.toArray⟩ := ba_ext (by
  rw [ext_eq, mk_toList, mk_toList, List.take_of_length_le (by simp)]; rfl)
theorem ba_append (l r : List UInt8) : (⟨l.toArray⟩ ++ ⟨r.toArray⟩ : ByteArray) = ⟨(l ++ r).toArray⟩ := ba_ext (by simp)
theorem ret2 {a b c d : Value} (h1 : a = c) (h2 : b = d) : Ending.returned (.tuple #[a, b]) = .returned (.tuple #[c, d]) := by rw [h1, h2]
theorem ret1 {a b : Value} (h : a = b) : Ending.returned a = .returned b := by rw [h]

set_option maxHeartbeats 400000 in
theorem split_neg (r : List UInt8) (w : World) (hr : r.length ≤ 1000000) :
    Calls Tryz.prog 76 #[.string ⟨(45 :: r).toArray⟩] w fun e w' => e = .returned (.tuple #[.bool true, .string ⟨r.toArray⟩]) ∧ Below w.heap.size w w' := by
  go_enter Tryz.func76, Tryz.ntmps76
  go_wp2
  go_quiet (fail)
  go_wp2
  go_ret2
  exact ⟨ret2 rfl (congrArg Value.string (ba_tail 45 r)), below_drewN (Below.refl _ _) _⟩

set_option maxHeartbeats 400000 in
theorem split_pos (c : UInt8) (r : List UInt8) (w : World) (_hr : r.length ≤ 1000000) (hc : ((c.toNat : Int) == 45) = false) :
    Calls Tryz.prog 76 #[.string ⟨(c :: r).toArray⟩] w fun e w' => e = .returned (.tuple #[.bool false, .string ⟨(c :: r).toArray⟩]) ∧ w = w' := by
  have hx : ∀ h, (⟨(c :: r).toArray⟩ : ByteArray)[0]'h = c := fun _ => rfl
  go_enter Tryz.func76, Tryz.ntmps76
  go_wp2
  go_ret2
  exact ⟨rfl, rfl⟩

set_option maxHeartbeats 400000 in
theorem split_nil (w : World) :
    Calls Tryz.prog 76 #[.string ⟨#[]⟩] w fun e w' => e = .returned (.tuple #[.bool false, .string ⟨#[]⟩]) ∧ w = w' := by
  go_enter Tryz.func76, Tryz.ntmps76
  go_wp2
  go_ret2
  exact ⟨rfl, rfl⟩

set_option maxHeartbeats 400000 in
theorem join_false (l : List UInt8) (w : World) :
    Calls Tryz.prog 78 #[.bool false, .string ⟨l.toArray⟩] w fun e w' => e = .returned (.string ⟨l.toArray⟩) ∧ w = w' := by
  go_enter Tryz.func78, Tryz.ntmps78
  go_wp2
  go_ret
  exact ⟨rfl, rfl⟩

set_option maxHeartbeats 400000 in
theorem join_true (l : List UInt8) (w : World) (h : (l == [48]) = false) (_h' : (l != [48]) = true) (hl : l.length ≤ 1000000) :
    Calls Tryz.prog 78 #[.bool true, .string ⟨l.toArray⟩] w fun e w' => e = .returned (.string ⟨(45 :: l).toArray⟩) ∧ w = w' := by
  go_enter Tryz.func78, Tryz.ntmps78
  go_wp2
  go_ret
  exact ⟨ret1 (congrArg Value.string (ba_append [45] l)), rfl⟩

set_option maxHeartbeats 400000 in
theorem join_zero (w : World) :
    Calls Tryz.prog 78 #[.bool true, .string ⟨#[48]⟩] w fun e w' => e = .returned (.string ⟨#[48]⟩) ∧ w = w' := by
  go_enter Tryz.func78, Tryz.ntmps78
  go_wp2
  go_ret
  exact ⟨rfl, rfl⟩

/-! ### Integers as texts -/

theorem itoa_cases (z : Int) : (z < 0 ∧ itoa z = 45 :: decDigits z.natAbs) ∨ (0 ≤ z ∧ itoa z = decDigits z.natAbs) := by
  unfold itoa
  split
  · exact .inl ⟨by omega, rfl⟩
  · exact .inr ⟨by omega, by rw [show z.toNat = z.natAbs by omega]⟩

theorem dec_first (n : Nat) : ∃ c r, decDigits n = c :: r ∧ ((c.toNat : Int) == 45) = false ∧ r.length + 1 = (decDigits n).length := by
  have hd := dec_dig n
  have hn := dec_ne_nil n
  generalize decDigits n = l at *
  match l, hn with
  | c :: r, _ =>
    have := hd c (by simp)
    unfold isDig at this
    exact ⟨c, r, rfl, by simp; omega, by simp⟩

/-- The sign and the magnitude. -/
theorem split_any (z : Int) (w : World) (h : (itoa z).length ≤ 100000) :
    Calls Tryz.prog 76 #[.string ⟨(itoa z).toArray⟩] w fun e w' => e = .returned (.tuple #[.bool (decide (z < 0)), .string ⟨(decDigits z.natAbs).toArray⟩]) ∧ Below w.heap.size w w' := by
  rcases itoa_cases z with ⟨hz, e⟩ | ⟨hz, e⟩
  · rw [e] at h ⊢
    rw [decide_eq_true hz]
    exact split_neg _ w (by simp at h; omega)
  · rw [e] at h ⊢
    rw [decide_eq_false (by omega)]
    obtain ⟨c, r, e2, hc, hl⟩ := dec_first z.natAbs
    rw [e2] at h ⊢
    exact (split_pos c r w (by simp at h; omega) hc).mono fun _ _ ⟨h1, h2⟩ => ⟨h1, h2 ▸ Below.refl _ _⟩

theorem dec_eq_zero (n : Nat) : (decDigits n == [48]) = decide (n = 0) := by
  rw [Bool.eq_iff_iff, beq_iff_eq, decide_eq_true_iff]
  constructor
  · intro h
    have h2 := dval_dec n
    rw [h, dval_cons, dval_nil, dgv_eq] at h2
    have e : (48 : UInt8).toNat = 48 := rfl
    omega
  · intro h; subst h; rw [dec_small (by omega)]; rfl

theorem dec_eq_one (n : Nat) : (decDigits n == [49]) = decide (n = 1) := by
  rw [Bool.eq_iff_iff, beq_iff_eq, decide_eq_true_iff]
  constructor
  · intro h
    have h2 := dval_dec n
    rw [h, dval_cons, dval_nil, dgv_eq] at h2
    have e : (49 : UInt8).toNat = 49 := rfl
    omega
  · intro h; subst h; rw [dec_small (by omega)]; rfl

/-- The integer of a sign and a magnitude. -/
def signed (neg : Bool) (n : Nat) : Int := if neg then -(n : Int) else n

theorem join_any (b : Bool) (n : Nat) (w : World) (h : (decDigits n).length ≤ 100000) :
    Calls Tryz.prog 78 #[.bool b, .string ⟨(decDigits n).toArray⟩] w fun e w' => e = .returned (.string ⟨(itoa (signed b n)).toArray⟩) ∧ w = w' := by
  cases b with
  | false =>
    have e : itoa (signed false n) = decDigits n := itoa_nat n
    rw [e]
    exact join_false _ w
  | true =>
    by_cases h0 : n = 0
    · subst h0
      have e : itoa (signed true 0) = decDigits 0 := itoa_nat 0
      rw [e, dec_small (by omega)]
      exact join_zero w
    · have e : itoa (signed true n) = 45 :: decDigits n := itoa_neg n (by omega)
      rw [e]
      have h1 := dec_eq_zero n
      rw [decide_eq_false h0] at h1
      exact join_true _ w h1 (by simp only [bne, h1]; rfl) (by omega)

end Go.Proofs.YtkoemgemnklmdaaGreatDoor
