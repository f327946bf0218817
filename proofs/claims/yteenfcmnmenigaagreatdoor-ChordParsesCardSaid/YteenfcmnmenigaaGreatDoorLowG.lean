/- fraction.lowest for any denominator greater than 0; small facts on worlds. -/
import Derived.Test.YteenfcmnmenigaaGreatDoorDigG
namespace Go.Proofs.YteenfcmnmenigaaGreatDoor
open Go.RowKit Go.Lib

theorem cells_of_below {w w' : World} {cs : Array Value} {T : TypeId} (hb : Below (w.heap.size + 1) (w.alloc (.cells cs T)) w') : Cells w' w.heap.size T cs.toList := (Cells.new w T cs).below hb (Nat.lt_succ_self _)
theorem below_to_drew {B : Nat} {w0 w1 : World} (h : Below B w0 w1) : Below B w0 w1.drew := ⟨h.os, h.tape, h.output, h.size, h.block⟩

/-- What lowest returns. -/
def lowN (n d : Int) : Int := n / (Nat.gcd n.natAbs d.natAbs : Nat)
def lowD (n d : Int) : Int := d / (Nat.gcd n.natAbs d.natAbs : Nat)
theorem lowest_any (n d : Int) (w : World) (hS : Std w) (hn : (itoa n).length ≤ 50000) (hd : (itoa d).length ≤ 50000) (hd0 : 0 < d) :
    Calls Tryz.prog 113 #[.string ⟨(itoa n).toArray⟩, .string ⟨(itoa d).toArray⟩] w fun e w' => e = .returned (.agg #[.string ⟨(itoa (lowN n d)).toArray⟩, .string ⟨(itoa (lowD n d)).toArray⟩]) ∧ Below w.heap.size w w' := by
  by_cases hg : Nat.gcd n.natAbs d.natAbs = 1
  · have h1 : lowN n d = n := by unfold lowN; rw [hg]; simp
    have h2 : lowD n d = d := by unfold lowD; rw [hg]; simp
    rw [h1, h2]
    exact lowest_one n d w hS hn hd hd0 hg
  · exact lowest_more n d w hS hn hd hd0 hg

theorem low_pos {n d : Int} (hd0 : 0 < d) : 0 < lowD n d ∧ Nat.gcd (lowN n d).natAbs (lowD n d).natAbs = 1 := by
  have hg : 0 < Nat.gcd n.natAbs d.natAbs := Nat.gcd_pos_of_pos_right _ (by omega)
  obtain ⟨a, ha⟩ : ((Nat.gcd n.natAbs d.natAbs : Nat) : Int) ∣ n := Int.ofNat_dvd_left.2 (Nat.gcd_dvd_left _ _)
  obtain ⟨b, hb⟩ : ((Nat.gcd n.natAbs d.natAbs : Nat) : Int) ∣ d := Int.ofNat_dvd_left.2 (Nat.gcd_dvd_right _ _)
  have hN : lowN n d = a := Int.ediv_eq_of_eq_mul_right (by omega) ha
  have hD : lowD n d = b := Int.ediv_eq_of_eq_mul_right (by omega) hb
  rw [hN, hD]
  have ha' : n.natAbs = Nat.gcd n.natAbs d.natAbs * a.natAbs := by have := congrArg Int.natAbs ha; rw [Int.natAbs_mul, Int.natAbs_natCast] at this; exact this
  have hb' : d.natAbs = Nat.gcd n.natAbs d.natAbs * b.natAbs := by have := congrArg Int.natAbs hb; rw [Int.natAbs_mul, Int.natAbs_natCast] at this; exact this
  generalize hgg : Nat.gcd n.natAbs d.natAbs = g at *
  refine ⟨?_, ?_⟩
  · rcases (show 0 < b ∨ b ≤ 0 by omega) with h | h
    · exact h
    · exfalso
      have : (g : Int) * b ≤ 0 := Int.mul_nonpos_of_nonneg_of_nonpos (by omega) h
      omega
  · rw [ha', hb', Nat.gcd_mul_left] at hgg
    have : g * Nat.gcd a.natAbs b.natAbs = g * 1 := by omega
    exact Nat.eq_of_mul_eq_mul_left hg this

end Go.Proofs.YteenfcmnmenigaaGreatDoor
