/- schismaref04.Parts. -/
import Derived.Test.YtagfnnongamneaaGreatDoorFrCG
namespace Go.Proofs.YtagfnnongamneaaGreatDoor
open Go.RowKit Go.Lib

def IntOut (l : List UInt8) (v : Value) : Prop := (∃ z : Int, l = itoa z ∧ z.natAbs < 10 ^ 13 ∧ v = .tuple #[.int .i64 z, .bool true]) ∨ (¬ intB l ∧ v = .tuple #[.int .i64 0, .bool false])

theorem itoa_nonempty (z : Int) : itoa z ≠ [] := by
  rcases itoa_cases z with ⟨_, e⟩ | ⟨_, e⟩
  · rw [e]; simp
  · rw [e]; obtain ⟨c, r, e2, _⟩ := dec_first z.natAbs; rw [e2]; simp
theorem dec13 {n : Nat} (h : (decDigits n).length ≤ 13) : n < 10 ^ 13 := Nat.lt_of_lt_of_le (dec_lt_pow n) (Nat.pow_le_pow_right (by omega) h)

/-- What Parts returns. -/
def PartsOut (a b : List UInt8) (v : Value) : Prop :=
  (∃ n d : Int, a = itoa n ∧ b = itoa d ∧ n.natAbs < 10 ^ 13 ∧ d.natAbs < 10 ^ 13 ∧ 0 < d ∧ Nat.gcd n.natAbs d.natAbs = 1 ∧ v = .tuple #[.int .i64 n, .int .i64 d, .bool true]) ∨
  (¬ FracB a b ∧ v = .tuple #[.int .i64 0, .int .i64 0, .bool false])

theorem frac_intB {a b : List UInt8} (h : FracB a b) : intB a ∧ intB b := by
  obtain ⟨n, d, h1, h2, h3, h4, _⟩ := h
  exact ⟨⟨n, h1, h3⟩, ⟨d, h2, h4⟩⟩
theorem itoa_inj {n m : Int} (h : itoa n = itoa m) : n = m := by
  rcases itoa_cases n with ⟨hn, e⟩ | ⟨hn, e⟩ <;> rcases itoa_cases m with ⟨hm, e2⟩ | ⟨hm, e2⟩
  · rw [e, e2] at h
    injection h with _ h
    have := congrArg (dval 0) h
    rw [dval_dec, dval_dec] at this
    omega
  · rw [e, e2] at h
    obtain ⟨c, r, e3, hc, _⟩ := dec_first m.natAbs
    rw [e3] at h
    injection h with h _
    subst h
    simp at hc
  · rw [e, e2] at h
    obtain ⟨c, r, e3, hc, _⟩ := dec_first n.natAbs
    rw [e3] at h
    injection h with h _
    subst h
    simp at hc
  · rw [e, e2] at h
    have := congrArg (dval 0) h
    rw [dval_dec, dval_dec] at this
    omega

end Go.Proofs.YtagfnnongamneaaGreatDoor
