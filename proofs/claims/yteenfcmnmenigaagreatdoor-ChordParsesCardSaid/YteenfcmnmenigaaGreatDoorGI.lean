/- schismalaw12.Value, most, odd. monzo: greater, exponent of any number, Greater, Odd, Superparticular of right intervals. -/
import Derived.Test.YteenfcmnmenigaaGreatDoorGF
import Derived.Test.YteenfcmnmenigaaGreatDoorGE
import Derived.Test.YteenfcmnmenigaaGreatDoorGG
namespace Go.Proofs.YteenfcmnmenigaaGreatDoor
open Go.RowKit Go.Lib

theorem whMul_nat (a b : Nat) (w : World) (hS : Std w) (ha : (decDigits a).length ≤ 50000) (hb : (decDigits b).length ≤ 50000) :
    Calls Tryz.prog 91 #[.string ⟨(decDigits a).toArray⟩, .string ⟨(decDigits b).toArray⟩] w fun e w' => e = .returned (.string ⟨(decDigits (a * b)).toArray⟩) ∧ Below w.heap.size w w' := by
  have h := whMul_any (a : Int) (b : Int) w hS (by rw [itoa_nat]; exact ha) (by rw [itoa_nat]; exact hb)
  rw [itoa_nat, itoa_nat, ← Int.natCast_mul, itoa_nat] at h
  exact h
theorem whCompare_nat (a b : Nat) (w : World) (ha : (decDigits a).length ≤ 100000) (hb : (decDigits b).length ≤ 100000) :
    Calls Tryz.prog 251 #[.string ⟨(decDigits a).toArray⟩, .string ⟨(decDigits b).toArray⟩] w fun e w' => e = .returned (.int .i64 (cmpN a b)) ∧ Below w.heap.size w w' := by
  have h := whCompare_any (a : Int) (b : Int) w (by rw [itoa_nat]; exact ha) (by rw [itoa_nat]; exact hb)
  rw [itoa_nat, itoa_nat, cmpZ_nat] at h
  exact h
theorem whDivMod_nat (x y : Nat) (w : World) (hS : Std w) (hx : (decDigits x).length ≤ 50000) (hy : (decDigits y).length ≤ 50000) (h0 : 0 < y) :
    Calls Tryz.prog 157 #[.string ⟨(decDigits x).toArray⟩, .string ⟨(decDigits y).toArray⟩] w fun e w' => e = .returned (.tuple #[.string ⟨(decDigits (x / y)).toArray⟩, .string ⟨(decDigits (x % y)).toArray⟩, .int .i64 0]) ∧ Below w.heap.size w w' := by
  have h := whDivMod_any (x : Int) y w hS (by rw [itoa_nat]; exact hx) hy h0
  rw [itoa_nat, ← Int.natCast_ediv, ← Int.natCast_emod, itoa_nat, itoa_nat] at h
  exact h

theorem pow_len {a n b : Nat} (ha : a ≤ 97) (hn : n ≤ 1000) (hb : (decDigits b).length ≤ 13000) : (decDigits (b * a ^ n)).length ≤ 20000 := by
  have h1 := dec_mul_len b (a ^ n)
  have h2 := pow_digits (a := a) (n := n) ha hn
  omega

end Go.Proofs.YteenfcmnmenigaaGreatDoor

namespace Go.Proofs.YteenfcmnmenigaaGreatDoor
open Go.RowKit Go.Lib

theorem mult_le_len (p n : Nat) : mult p n ≤ 4 * (decDigits n).length := by
  rcases Nat.eq_zero_or_pos n with h0 | h0
  · rw [mult_no (by omega)]; omega
  · have h1 := mult_pow p n h0
    have h2 := dec_lt_pow n
    have h3 : (10 : Nat) ^ (decDigits n).length ≤ 16 ^ (decDigits n).length := Nat.pow_le_pow_left (by omega) _
    have h4 : (16 : Nat) ^ (decDigits n).length = 2 ^ (4 * (decDigits n).length) := by rw [Nat.pow_mul]
    rcases Nat.lt_or_ge (4 * (decDigits n).length) (mult p n) with h | h
    · have h5 : (2 : Nat) ^ (4 * (decDigits n).length) ≤ 2 ^ mult p n := Nat.pow_le_pow_right (by omega) (by omega)
      omega
    · exact h

end Go.Proofs.YteenfcmnmenigaaGreatDoor
