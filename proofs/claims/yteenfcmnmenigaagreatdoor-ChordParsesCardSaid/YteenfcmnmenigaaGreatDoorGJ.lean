/- fraction.Parse of any text: what it reads, as a plain function, and the walk. fraction.Parse of any text: the walk. fraction.Parse of any text with a slash or a point: the walk. fraction.Parse of any text with a point: the walk. -/
import Derived.Test.YteenfcmnmenigaaGreatDoorFAnyG
import Derived.Deep.RegionHeld3
import Derived.Laws.Runes
namespace Go.Proofs.YteenfcmnmenigaaGreatDoor
open Go.RowKit Go.Lib

def okDig (l : List UInt8) : Bool := !l.isEmpty && l.all digB
def digS (l : List UInt8) : List UInt8 := if okDig l then decDigits (dval 0 l) else []
theorem digOut_eq (l : List UInt8) : digOut l = .tuple #[.string ⟨(digS l).toArray⟩, .bool (okDig l)] := by
  by_cases h : l ≠ [] ∧ l.all digB = true
  · have h2 : okDig l = true := by unfold okDig; rw [h.2]; cases l with | nil => exact absurd rfl h.1 | cons _ _ => rfl
    unfold digOut digS
    rw [if_pos h, h2, if_pos rfl]
  · have h2 : okDig l = false := by
      unfold okDig
      cases l with
      | nil => rfl
      | cons c t =>
        cases hd : (c :: t).all digB with
        | false => rfl
        | true => exact absurd ⟨by simp, hd⟩ h
    unfold digOut digS
    rw [if_neg h, h2, if_neg (by decide)]
theorem okDig_all {l : List UInt8} (h : okDig l = true) : l ≠ [] ∧ l.all digB = true := by
  unfold okDig at h
  rw [Bool.and_eq_true] at h
  refine ⟨fun e => ?_, h.2⟩
  subst e
  exact absurd h.1 (by decide)
theorem okDig_append {a b : List UInt8} (h1 : okDig a = true) (h2 : okDig b = true) : okDig (a ++ b) = true := by
  obtain ⟨x1, x2⟩ := okDig_all h1
  obtain ⟨_, y2⟩ := okDig_all h2
  unfold okDig
  rw [List.all_append, x2, y2]
  cases a with
  | nil => exact absurd rfl x1
  | cons _ _ => rfl
theorem dval_len {l : List UInt8} (h : okDig l = true) : (decDigits (dval 0 l)).length ≤ l.length := by
  obtain ⟨h0, h1⟩ := okDig_all h
  obtain ⟨z1, z2⟩ := trim_zeros l h1
  rcases Nat.eq_zero_or_pos (dval 0 l) with hz | hz
  · rw [hz, dec_small (by omega)]
    cases l with
    | nil => exact absurd rfl h0
    | cons _ _ => simp
  · rw [← z2 hz]
    exact (List.dropWhile_suffix _).length_le
theorem dec_pow10 : ∀ m : Nat, decDigits (10 ^ m) = 49 :: List.replicate m 48
  | 0 => by rw [Nat.pow_zero, dec_small (by omega)]; rfl
  | m + 1 => by
    have hp : 0 < 10 ^ m := Nat.pow_pos (by omega)
    rw [Nat.pow_succ, Nat.mul_comm, show 10 * 10 ^ m = 10 * 10 ^ m + 0 from rfl, dec_mul_add _ 0 hp (by omega), dec_pow10 m, List.replicate_succ']
    rfl

theorem repeat_zeros (n : Nat) (w : World) (hn : n ≤ 1000000) : Calls Tryz.prog 173 #[.string ⟨#[48]⟩, .int .i64 n] w fun e w' => e = .returned (.string ⟨(List.replicate n 48).toArray⟩) ∧ Below w.heap.size w w' := by
  have h := repeat_any [48] n w hn (by simp)
  have e : ∀ m : Nat, Lib.repeatL [48] m = List.replicate m 48 := by
    intro m
    induction m with
    | zero => rfl
    | succ m ih => rw [Lib.repeatL, ih, List.replicate_succ]; rfl
  rw [e n] at h
  exact h

/-- What is read: an error, or a numerator and a denominator. -/
inductive Frd where
  | bad (e : Int)
  | good (n d : Nat)
def fracRead (t : List UInt8) (k : Int) : Frd :=
  if k < 0 then (if okDig t then .good (dval 0 t) 1 else .bad 15)
  else if (t[k.toNat]?.getD 0) = 47 then
    (if okDig (t.take k.toNat) && okDig (t.drop (k.toNat + 1)) then (if dval 0 (t.drop (k.toNat + 1)) = 0 then .bad 17 else .good (dval 0 (t.take k.toNat)) (dval 0 (t.drop (k.toNat + 1)))) else .bad 15)
  else (if okDig (t.take k.toNat) && okDig (t.drop (k.toNat + 1)) then .good (dval 0 (t.take k.toNat ++ t.drop (k.toNat + 1))) (10 ^ (t.length - k.toNat - 1)) else .bad 15)
def sgnd (b : Bool) (n : Nat) : Int := if b then -(n : Int) else n
def frdOut (b : Bool) : Frd → Value
  | .bad e => .tuple #[.agg #[.string ⟨#[]⟩, .string ⟨#[]⟩], .int .i64 e]
  | .good n d => .tuple #[.agg #[.string ⟨(itoa (lowN (sgnd b n) d)).toArray⟩, .string ⟨(itoa (lowD (sgnd b n) d)).toArray⟩], .int .i64 0]
theorem frdOut_bad (b : Bool) (e : Int) : frdOut b (.bad e) = .tuple #[.agg #[.string ⟨#[]⟩, .string ⟨#[]⟩], .int .i64 e] := rfl
theorem frdOut_good (b : Bool) (n d : Nat) : frdOut b (.good n d) = .tuple #[.agg #[.string ⟨(itoa (lowN (sgnd b n) d)).toArray⟩, .string ⟨(itoa (lowD (sgnd b n) d)).toArray⟩], .int .i64 0] := rfl

/-- The end of every good reading: the sign, then lowest. -/
theorem low_read (b : Bool) (n d : Nat) (w : World) (hS : Std w) (hn : (decDigits n).length ≤ 40000) (hd : (decDigits d).length ≤ 40000) (hd0 : 0 < d) :
    Calls Tryz.prog 113 #[.string ⟨(itoa (sgnd b n)).toArray⟩, .string ⟨(decDigits d).toArray⟩] w fun e w' => e = .returned (.agg #[.string ⟨(itoa (lowN (sgnd b n) d)).toArray⟩, .string ⟨(itoa (lowD (sgnd b n) d)).toArray⟩]) ∧ Below w.heap.size w w' := by
  have h := lowest_any (sgnd b n) (d : Int) w hS (by
    have := itoa_len (sgnd b n)
    have e : (sgnd b n).natAbs = n := by unfold sgnd; split <;> omega
    rw [e] at this
    omega) (by rw [itoa_nat]; omega) (by omega)
  rw [itoa_nat] at h
  exact h

end Go.Proofs.YteenfcmnmenigaaGreatDoor

namespace Go.Proofs.YteenfcmnmenigaaGreatDoor
open Go.RowKit Go.Lib

end Go.Proofs.YteenfcmnmenigaaGreatDoor

namespace Go.Proofs.YteenfcmnmenigaaGreatDoor
open Go.RowKit Go.Lib

end Go.Proofs.YteenfcmnmenigaaGreatDoor

namespace Go.Proofs.YteenfcmnmenigaaGreatDoor
open Go.RowKit Go.Lib

end Go.Proofs.YteenfcmnmenigaaGreatDoor
