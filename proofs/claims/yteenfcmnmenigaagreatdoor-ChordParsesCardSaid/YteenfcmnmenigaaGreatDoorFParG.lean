/- fraction.Parse of the text of a right fraction. -/
import Derived.Test.YteenfcmnmenigaaGreatDoorDigG
import Derived.Lib.IndexAny
import Derived.Test.YteenfcmnmenigaaGreatDoorGE
namespace Go.Proofs.YteenfcmnmenigaaGreatDoor
open Go.RowKit Go.Lib

theorem index_none : ∀ (l : List UInt8), (∀ c ∈ l, isDig c) → Lib.indexAny l [47, 46] = -1
  | [], _ => rfl
  | c :: t, h => by
    have hc := h c (by simp)
    unfold isDig at hc
    have h1 : ([47, 46] : List UInt8).contains c = false := by
      rw [← Bool.not_eq_true, List.contains_iff_mem]
      intro hm
      simp at hm
      rcases hm with rfl | rfl
      · exact absurd hc.1 (by decide)
      · exact absurd hc.1 (by decide)
    rw [Lib.indexAny, h1, index_none t (fun x hx => h x (by simp [hx]))]
    rfl
theorem index_at : ∀ (l r : List UInt8), (∀ c ∈ l, isDig c) → Lib.indexAny (l ++ 47 :: r) [47, 46] = l.length
  | [], r, _ => rfl
  | c :: t, r, h => by
    have hc := h c (by simp)
    unfold isDig at hc
    have h1 : ([47, 46] : List UInt8).contains c = false := by
      rw [← Bool.not_eq_true, List.contains_iff_mem]
      intro hm
      simp at hm
      rcases hm with rfl | rfl
      · exact absurd hc.1 (by decide)
      · exact absurd hc.1 (by decide)
    have h2 := index_at t r (fun x hx => h x (by simp [hx]))
    rw [List.cons_append, Lib.indexAny, h1, h2, if_neg (by decide), if_neg (by rw [beq_iff_eq]; omega), List.length_cons]
    rfl

theorem dec_all (n : Nat) : (decDigits n).all digB = true := List.all_eq_true.2 fun c hc => decide_eq_true (dec_dig n c hc)
theorem digOut_dec (n : Nat) : digOut (decDigits n) = .tuple #[.string ⟨(decDigits n).toArray⟩, .bool true] := by
  unfold digOut
  rw [if_pos ⟨by obtain ⟨c, r, e, _⟩ := dec_first n; rw [e]; simp, dec_all n⟩, dval_dec]
theorem rat_no_dash {N : Nat} {t : List UInt8} : Lib.hasPrefix (decDigits N ++ t) [45] = false := by
  obtain ⟨c, r, e, hc, _⟩ := dec_first N
  rw [e]
  have : c ≠ 45 := fun h => by subst h; simp at hc
  unfold Lib.hasPrefix
  simp [List.isPrefixOf, Ne.symm this]
theorem trim_no {s p : List UInt8} (h : Lib.hasPrefix s p = false) : Lib.trimPrefix s p = s := by unfold Lib.trimPrefix; rw [h]; rfl

end Go.Proofs.YteenfcmnmenigaaGreatDoor
