/- decimal: Compare. -/
import Derived.Test.YtkoemgemnklmdaaGreatDoorMul
namespace Go.Proofs.YtkoemgemnklmdaaGreatDoor
open Go.RowKit Go.Lib

def cmpN (a b : Nat) : Int := if a < b then -1 else if a = b then 0 else 1

theorem less_dig : ∀ (l r : List UInt8), l.length = r.length → (∀ c ∈ l, isDig c) → (∀ c ∈ r, isDig c) → Op.bytesLess l r = decide (dval 0 l < dval 0 r)
  | [], [], _, _, _ => by simp [Op.bytesLess]
  | [], _ :: _, h, _, _ => by simp at h
  | _ :: _, [], h, _, _ => by simp at h
  | c :: l, d :: r, h, hl, hr => by
    have hlen : l.length = r.length := by simpa using h
    have ih := less_dig l r hlen (fun x hx => hl x (by simp [hx])) (fun x hx => hr x (by simp [hx]))
    have hc := dgv_lt (hl c (by simp))
    have hd := dgv_lt (hr d (by simp))
    have h1 := dval_lt0 l (fun x hx => hl x (by simp [hx]))
    have h2 := dval_lt0 r (fun x hx => hr x (by simp [hx]))
    rw [← hlen] at h2
    simp only [Op.bytesLess, ih, dval_cons, Nat.mul_zero, Nat.zero_add]
    rw [dval_acc l (dgv c), dval_acc r (dgv d), ← hlen]
    rw [Bool.eq_iff_iff]
    simp only [Bool.or_eq_true, Bool.and_eq_true, decide_eq_true_eq, beq_iff_eq, UInt8.lt_iff_toNat_lt]
    rcases Nat.lt_trichotomy (dgv c) (dgv d) with hlt | heq | hgt
    · have h3 : (dgv c + 1) * 10 ^ l.length ≤ dgv d * 10 ^ l.length := Nat.mul_le_mul_right _ hlt
      rw [Nat.add_mul] at h3
      constructor
      · intro _; omega
      · intro _; left; omega
    · have e : c = d := UInt8.toNat_inj.1 (by omega)
      subst e
      simp
    · have h3 : (dgv d + 1) * 10 ^ l.length ≤ dgv c * 10 ^ l.length := Nat.mul_le_mul_right _ hgt
      rw [Nat.add_mul] at h3
      constructor
      · rintro (h | ⟨h, _⟩)
        · omega
        · subst h; omega
      · intro _; omega

theorem less_dec (a b : Nat) (h : (decDigits a).length = (decDigits b).length) : Op.bytesLess (decDigits a) (decDigits b) = decide (a < b) := by
  rw [less_dig _ _ h (dec_dig a) (dec_dig b), dval_dec, dval_dec]

theorem dec_len_lt {a b : Nat} (h : (decDigits a).length < (decDigits b).length) : a < b := by
  rw [dec_length, dec_length] at h
  exact nDigits_lt_of h

theorem ret_int {k : IntKind} {a b : Int} (h : a = b) : Ending.returned (.int k a) = .returned (.int k b) := by rw [h]

set_option maxHeartbeats 400000 in
theorem compare_any (a b : Nat) (w : World) (ha : (decDigits a).length ≤ 1000000) (hb : (decDigits b).length ≤ 1000000) :
    Calls Tryz.prog 73 #[.string ⟨(decDigits a).toArray⟩, .string ⟨(decDigits b).toArray⟩] w fun e w' => e = .returned (.int .i64 (cmpN a b)) ∧ w = w' := by
  rcases Nat.lt_trichotomy (decDigits a).length (decDigits b).length with hlt | heq | hgt
  · have hc : cmpN a b = -1 := by unfold cmpN; rw [if_pos (dec_len_lt hlt)]
    rw [hc]
    clear hc
    generalize decDigits a = l at *
    generalize decDigits b = r at *
    go_enter Tryz.func73, Tryz.ntmps73
    go_wp2
    go_ret
    refine ⟨?_, rfl⟩
    refine ret_int ?_
    omega
  · have hl1 := less_dec a b heq
    have heq2 : (decDigits a == decDigits b) = decide (a = b) := by
      rw [Bool.eq_iff_iff, beq_iff_eq, decide_eq_true_iff]
      exact ⟨dec_inj, fun h => by rw [h]⟩
    rcases Nat.lt_trichotomy a b with h | h | h
    · have hc : cmpN a b = -1 := by unfold cmpN; rw [if_pos h]
      rw [decide_eq_true h] at hl1
      rw [hc]
      clear hc heq2
      generalize decDigits a = l at *
      generalize decDigits b = r at *
      go_enter Tryz.func73, Tryz.ntmps73
      go_wp2
      go_ret
      exact ⟨rfl, rfl⟩
    · have hc : cmpN a b = 0 := by unfold cmpN; rw [if_neg (by omega), if_pos h]
      rw [decide_eq_false (by omega)] at hl1
      rw [hc]
      subst h
      clear hc heq2
      generalize decDigits a = l at *
      go_enter Tryz.func73, Tryz.ntmps73
      go_wp2
      go_ret
      exact ⟨rfl, rfl⟩
    · have hc : cmpN a b = 1 := by unfold cmpN; rw [if_neg (by omega), if_neg (by omega)]
      rw [decide_eq_false (by omega)] at hl1
      rw [decide_eq_false (by omega)] at heq2
      rw [hc]
      clear hc
      generalize decDigits a = l at *
      generalize decDigits b = r at *
      go_enter Tryz.func73, Tryz.ntmps73
      go_wp2
      go_ret
      exact ⟨rfl, rfl⟩
  · have hc : cmpN a b = 1 := by
      have := dec_len_lt hgt
      unfold cmpN; rw [if_neg (by omega), if_neg (by omega)]
    rw [hc]
    clear hc
    generalize decDigits a = l at *
    generalize decDigits b = r at *
    go_enter Tryz.func73, Tryz.ntmps73
    go_wp2
    go_ret
    refine ⟨?_, rfl⟩
    refine ret_int ?_
    omega

end Go.Proofs.YtkoemgemnklmdaaGreatDoor
