/- schismaref04.Int of short texts. -/
import Derived.Test.YtjgpjhaeoiddbaaGreatDoorGC
namespace Go.Proofs.YtjgpjhaeoiddbaaGreatDoor
open Go.RowKit Go.Lib

def posOut (s : Int) (l : List UInt8) : Value := if canonB l = true then .tuple #[.int .i64 (s * (dval 0 l : Nat)), .bool true] else .tuple #[.int .i64 0, .bool false]

theorem ba_at (l : List UInt8) (k : Nat) : ∀ h, (⟨l.toArray⟩ : ByteArray)[k]'h = l[k]?.getD 0 := by
  intro h
  have hk : k < l.length := by simpa [ByteArray.size] using h
  rw [List.getElem?_eq_getElem hk]; rfl
theorem all_dig {l : List UInt8} (h : l.all digB = true) : ∀ c ∈ l, isDig c := fun c hc => of_decide_eq_true (List.all_eq_true.1 h c hc)
theorem take_dig {l : List UInt8} {k m : Nat} (h : (l.take k).all digB = true) (hk : k ≤ m) : dval 0 (l.take k) < 10 ^ m := by
  have h1 := dval_lt0 (l.take k) (all_dig h)
  have h2 : (l.take k).length ≤ k := by simp; omega
  exact Nat.lt_of_lt_of_le h1 (Nat.pow_le_pow_right (by omega) (by omega))
theorem posOut_no {s : Int} {l : List UInt8} (h : canonB l = false) : posOut s l = .tuple #[.int .i64 0, .bool false] := by unfold posOut; rw [h]; rfl
theorem posOut_yes {s : Int} {l : List UInt8} (h : canonB l = true) : posOut s l = .tuple #[.int .i64 (s * (dval 0 l : Nat)), .bool true] := by unfold posOut; rw [if_pos h]
theorem canon_zero {l : List UInt8} (h1 : 1 < l.length) (h2 : (l[0]?.getD 0).toNat = 48) : canonB l = false := by
  unfold canonB headB
  rw [h2]
  have : (l.length == 1) = false := by rw [beq_eq_false_iff_ne]; omega
  simp [this]
theorem canon_bad {l : List UInt8} {k : Nat} (hlt : k < l.length) (h : digB (l[k]?.getD 0) = false) : canonB l = false := by
  unfold canonB
  rw [Bool.and_eq_false_iff]
  left
  rw [List.all_eq_false]
  exact ⟨l[k], List.getElem_mem hlt, by rw [List.getElem?_eq_getElem hlt] at h; simpa using h⟩
theorem canon_good {l : List UInt8} (h : l.all digB = true) (h0 : l.length = 1 ∨ (1 < l.length ∧ (l[0]?.getD 0).toNat ≠ 48)) : canonB l = true := by
  unfold canonB headB
  rw [h, Bool.true_and]
  rcases h0 with h0 | ⟨h1, h2⟩
  · rw [h0]; rfl
  · simp [h1, h2]
theorem all_succ {l : List UInt8} {k : Nat} (hlt : k < l.length) : (l.take (k + 1)).all digB = ((l.take k).all digB && digB (l[k]?.getD 0)) := by
  rw [List.take_succ_eq_append_getElem hlt, List.all_append, List.getElem?_eq_getElem hlt]; simp

def negOut (l : List UInt8) : Value := if (l[0]?.getD 0).toNat = 48 then .tuple #[.int .i64 0, .bool false] else posOut (-1) l
theorem negOut_zero {l : List UInt8} (h : (l[0]?.getD 0).toNat = 48) : negOut l = .tuple #[.int .i64 0, .bool false] := by unfold negOut; rw [if_pos h]
theorem negOut_other {l : List UInt8} (h : (l[0]?.getD 0).toNat ≠ 48) : negOut l = posOut (-1) l := by unfold negOut; rw [if_neg h]

end Go.Proofs.YtjgpjhaeoiddbaaGreatDoor
