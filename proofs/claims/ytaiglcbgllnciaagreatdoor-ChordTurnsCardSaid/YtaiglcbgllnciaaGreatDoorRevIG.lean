/- slices.Reverse of numbers. -/
import Derived.Test.YtaiglcbgllnciaaGreatDoorGCF
import Derived.Test.YtaiglcbgllnciaaGreatDoorShelf
import Derived.Lib.OwnBridge
namespace Go.Proofs.YtaiglcbgllnciaaGreatDoor
open Go.RowKit Go.Lib

def encS (t : List UInt8) : Value := .string ⟨t.toArray⟩
theorem strs_enc (l : List (List UInt8)) : strs l = l.map encS := rfl
theorem revI_any (base : Nat) (A : Option Addr) (c n : Nat) (l : List (List UInt8)) (w : World) (hn : l.length = n) (h : w.ownsRow base 51 1 (.slice A n c) n (strs l)) (h0 : 0 < n) :
    Calls Tryz.prog 21 #[.slice A n c] w fun e w' => e = .returned (.tuple #[]) ∧ Row w' w'.heap.size 1 A n (strs l.reverse) ∧ Below base w w' := by
  subst hn
  rw [strs_enc] at h
  obtain ⟨g, cap, hv, hg, hglt, hnc, hcm, _, hH⟩ := Lib.holds_of_ownsRow h (show ¬ (Value.slice A l.length c = .slice Option.none 0 0) from fun e => by injection e with _ e _; omega)
  injection hv with e1 _ e3
  subst e1
  subst e3
  unfold maxLen at hcm
  refine (Tryz.slices_Reverse_f21 encS (fun _ => rfl) g 0 c l w hH (by omega)).mono ?_
  rintro e w' ⟨rfl, m, rfl⟩
  refine ⟨rfl, ?_, Lib.below_putRow (Below.refl _ _) hg⟩
  have h2 := Lib.ownsRow_putRow (q := m) (ys := l.reverse) h (by simp) (Nat.le_refl _)
  rw [List.take_of_length_le (by simp)] at h2
  obtain ⟨A2, c2, e1, _, _, hrow⟩ := Row.of_own h2
  injection e1 with e1 _ _
  subst e1
  rw [strs_enc]
  exact hrow

end Go.Proofs.YtaiglcbgllnciaaGreatDoor
