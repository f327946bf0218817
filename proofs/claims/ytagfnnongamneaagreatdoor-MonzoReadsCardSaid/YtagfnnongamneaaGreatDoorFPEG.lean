/- fraction.Parse of any text: the whole contract. -/
import Derived.Test.YtagfnnongamneaaGreatDoorGJ
import Derived.Test.YtagfnnongamneaaGreatDoorLex0G
namespace Go.Proofs.YtagfnnongamneaaGreatDoor
open Go.RowKit Go.Lib

theorem part_at {t : List UInt8} {j : Nat} (h : j < t.length) : t = t.take j ++ (t[j]?.getD 0) :: t.drop (j + 1) := by
  rw [List.getElem?_eq_getElem h, Option.getD_some, ← List.drop_eq_getElem_cons h, List.take_append_drop]

theorem fParse_gen (s t : List UInt8) (b : Bool) (k : Int) (w : World) (hS : Std w) (hl : s.length ≤ 400) (ht : t.length ≤ s.length) (hc : CutIs s t b) (hi : IdxIs t k) (hk : k = -1 ∨ ∃ j : Nat, k = j ∧ j < t.length ∧ (t[j]?.getD 0 = 47 ∨ t[j]?.getD 0 = 46)) :
    Calls Tryz.prog 41 #[.string ⟨s.toArray⟩] w fun e w' => e = .returned (frdOut b (fracRead t k)) ∧ Below w.heap.size w w' := by
  rcases hk with rfl | ⟨j, rfl, hj, h⟩
  · have e : fracRead t (-1) = (if okDig t then .good (dval 0 t) 1 else .bad 15) := by unfold fracRead; rw [if_pos (by omega)]
    rw [e]
    exact fParse_none s t b w hS hl ht hc hi
  · have hp := part_at hj
    have hjl : (t.take j).length = j := by rw [List.length_take]; omega
    have hdl : (t.drop (j + 1)).length = t.length - j - 1 := by rw [List.length_drop]; omega
    rcases h with h | h
    · have e : fracRead t (j : Int) = (if okDig (t.take j) && okDig (t.drop (j + 1)) then (if dval 0 (t.drop (j + 1)) = 0 then .bad 17 else .good (dval 0 (t.take j)) (dval 0 (t.drop (j + 1)))) else .bad 15) := by
        unfold fracRead; rw [if_neg (by omega), Int.toNat_natCast, if_pos h]
      rw [e]
      rw [h] at hp
      refine fParse_sl s _ _ b w hS hl ?_ ?_ ?_
      · rw [← hp]; exact ht
      · rw [← hp]; exact hc
      · rw [← hp, hjl]; exact hi
    · have e : fracRead t (j : Int) = (if okDig (t.take j) && okDig (t.drop (j + 1)) then .good (dval 0 (t.take j ++ t.drop (j + 1))) (10 ^ (t.drop (j + 1)).length) else .bad 15) := by
        unfold fracRead; rw [if_neg (by omega), Int.toNat_natCast, if_neg (by rw [h]; decide), hdl]
      rw [e]
      rw [h] at hp
      refine fParse_pt s _ _ b w hS hl ?_ ?_ ?_
      · rw [← hp]; exact ht
      · rw [← hp]; exact hc
      · rw [← hp, hjl]; exact hi

theorem cut_is (s : List UInt8) : CutIs s (Lib.trimPrefix s [45]) (Lib.hasPrefix s [45]) := fun W => cutPrefix_any s [45] W

theorem indexAny_place : ∀ (t : List UInt8), Lib.indexAny t [47, 46] = -1 ∨ ∃ j : Nat, Lib.indexAny t [47, 46] = j ∧ j < t.length ∧ (t[j]?.getD 0 = 47 ∨ t[j]?.getD 0 = 46)
  | [] => .inl rfl
  | c :: t => by
    rw [Lib.indexAny]
    cases hc : ([47, 46] : List UInt8).contains c with
    | true =>
      rw [if_pos rfl]
      refine .inr ⟨0, rfl, by simp, ?_⟩
      rw [List.contains_iff_mem] at hc
      simpa using hc
    | false =>
      rw [if_neg (by decide)]
      rcases indexAny_place t with h | ⟨j, h, hj, hx⟩
      · rw [h]; exact .inl rfl
      · rw [h, if_neg (by rw [beq_iff_eq]; omega)]
        exact .inr ⟨j + 1, by omega, by simp; omega, by simpa using hx⟩

/-- fraction.Parse of any text of ASCII bytes. -/
theorem fParse_ascii (s : List UInt8) (w : World) (hS : Std w) (hl : s.length ≤ 1000000) (ha : ∀ x ∈ s, x.toNat < 128) :
    Calls Tryz.prog 41 #[.string ⟨s.toArray⟩] w fun e w' => e = .returned (frdOut (isNeg s) (fracOf s)) ∧ Below w.heap.size w w' := by
  unfold isNeg fracOf
  by_cases h : 400 < s.length
  · rw [if_pos h, if_pos h]; exact fParse_long s w h hl
  · rw [if_neg h, if_neg h]
    have htl := trimPre_len s [45]
    refine fParse_gen s _ _ _ w hS (by omega) htl (cut_is s) (fun W => indexAny_ascii _ [47, 46] W (by omega) (by decide) (fun x hx => ha x ?_) (by decide)) (indexAny_place _)
    unfold Lib.trimPrefix at hx
    split at hx
    · exact List.mem_of_mem_drop hx
    · exact hx

end Go.Proofs.YtagfnnongamneaaGreatDoor
