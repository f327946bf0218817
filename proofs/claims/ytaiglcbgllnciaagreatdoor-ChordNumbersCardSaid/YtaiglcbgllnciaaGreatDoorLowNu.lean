/- fraction.lowest for any denominator greater than 0; small facts on worlds. -/
import Derived.Test.YtaiglcbgllnciaaGreatDoorDigNu
namespace Go.Proofs.YtaiglcbgllnciaaGreatDoor
open Go.RowKit Go.Lib

theorem cells_of_below {w w' : World} {cs : Array Value} {T : TypeId} (hb : Below (w.heap.size + 1) (w.alloc (.cells cs T)) w') : Cells w' w.heap.size T cs.toList := (Cells.new w T cs).below hb (Nat.lt_succ_self _)
/-- What lowest returns. -/
def lowN (n d : Int) : Int := n / (Nat.gcd n.natAbs d.natAbs : Nat)
def lowD (n d : Int) : Int := d / (Nat.gcd n.natAbs d.natAbs : Nat)
theorem lowest_any (n d : Int) (w : World) (hS : Std w) (hn : (itoa n).length ≤ 50000) (hd : (itoa d).length ≤ 50000) (hd0 : 0 < d) :
    Calls Tryz.prog 136 #[.string ⟨(itoa n).toArray⟩, .string ⟨(itoa d).toArray⟩] w fun e w' => e = .returned (.agg #[.string ⟨(itoa (lowN n d)).toArray⟩, .string ⟨(itoa (lowD n d)).toArray⟩]) ∧ Below w.heap.size w w' := by
  by_cases hg : Nat.gcd n.natAbs d.natAbs = 1
  · have h1 : lowN n d = n := by unfold lowN; rw [hg]; simp
    have h2 : lowD n d = d := by unfold lowD; rw [hg]; simp
    rw [h1, h2]
    exact lowest_one n d w hS hn hd hd0 hg
  · exact lowest_more n d w hS hn hd hd0 hg

end Go.Proofs.YtaiglcbgllnciaaGreatDoor
