/- schismaref04.Int of short texts. -/
import Derived.Test.YtkoemgemnklmdaaGreatDoorGC
namespace Go.Proofs.YtkoemgemnklmdaaGreatDoor
open Go.RowKit Go.Lib

def posOut (s : Int) (l : List UInt8) : Value := if canonB l = true then .tuple #[.int .i64 (s * (dval 0 l : Nat)), .bool true] else .tuple #[.int .i64 0, .bool false]

theorem ba_at (l : List UInt8) (k : Nat) : ∀ h, (⟨l.toArray⟩ : ByteArray)[k]'h = l[k]?.getD 0 := by
  intro h
  have hk : k < l.length := by simpa [ByteArray.size] using h
  rw [List.getElem?_eq_getElem hk]; rfl
theorem all_dig {l : List UInt8} (h : l.all digB = true) : ∀ c ∈ l, isDig c := fun c hc => of_decide_eq_true (List.all_eq_true.1 h c hc)
theorem take_dig {l : List UInt8} {k m : Nat} (h : (l.take k).all digB = true) (hk : k ≤ m) : dval 0 (l.take k) < 10 ^ m := by
  have h1 := dval_lt0 (l.take k) (all_dig h)
  have h2 : (l.take k).length ≤ k := by simp; omega
  exact Nat.lt_of_lt_of_le h1 (Nat.pow_le_pow_right (by omega) (by omega))
theorem posOut_no {s : Int} {l : List UInt8} (h : canonB l = false) : posOut s l = .tuple #[.int .i64 0, .bool false] := by unfold posOut; rw [h]; rfl
theorem posOut_yes {s : Int} {l : List UInt8} (h : canonB l = true) : posOut s l = .tuple #[.int .i64 (s * (dval 0 l : Nat)), .bool true] := by unfold posOut; rw [if_pos h]
theorem canon_zero {l : List UInt8} (h1 : 1 < l.length) (h2 : (l[0]?.getD 0).toNat = 48) : canonB l = false := by
  unfold canonB headB
  rw [h2]
  have : (l.length == 1) = false := by rw [beq_eq_false_iff_ne]; omega
  simp [this]
theorem canon_bad {l : List UInt8} {k : Nat} (hlt : k < l.length) (h : digB (l[k]?.getD 0) = false) : canonB l = false := by
  unfold canonB
  rw [Bool.and_eq_false_iff]
  left
  rw [List.all_eq_false]
  exact ⟨l[k], List.getElem_mem hlt, by rw [List.getElem?_eq_getElem hlt] at h; simpa using h⟩
theorem canon_good {l : List UInt8} (h : l.all digB = true) (h0 : l.length = 1 ∨ (1 < l.length ∧ (l[0]?.getD 0).toNat ≠ 48)) : canonB l = true := by
  unfold canonB headB
  rw [h, Bool.true_and]
  rcases h0 with h0 | ⟨h1, h2⟩
  · rw [h0]; rfl
  · simp [h1, h2]
theorem all_succ {l : List UInt8} {k : Nat} (hlt : k < l.length) : (l.take (k + 1)).all digB = ((l.take k).all digB && digB (l[k]?.getD 0)) := by
  rw [List.take_succ_eq_append_getElem hlt, List.all_append, List.getElem?_eq_getElem hlt]; simp

set_option maxRecDepth 100000 in
set_option maxHeartbeats 1000000 in
theorem refInt_pos (c : UInt8) (t l : List UInt8) (w : World) (e0 : l = c :: t) (hl : l.length ≤ 13) (hc : ((c.toNat : Int) == 45) = false) :
    Calls Tryz.prog 61 #[.string ⟨l.toArray⟩] w fun e w' => e = .returned (posOut 1 l) ∧ Below w.heap.size w w' := by
  have hx : ∀ h, (⟨l.toArray⟩ : ByteArray)[0]'h = c := by subst e0; exact fun _ => rfl
  have hl0 : 1 ≤ l.length := by subst e0; simp
  have hz : ((l.length : Int) == 0) = false := by simp; intro h; subst h; simp at hl0
  have hc0 : l[0]?.getD 0 = c := by subst e0; rfl
  clear e0
  have HC0 : Box (l[0]?.getD 0 = c) := ⟨hc0⟩
  clear hc0
  by_cases h48 : c.toNat = 48 ∧ 1 < l.length
  · obtain ⟨h1, h2⟩ := h48
    have h1' : ((c.toNat : Int) == 48) = true := by rw [h1]; rfl
    rw [posOut_no (canon_zero h2 (by rw [HC0.out]; exact h1))]
    go_enter Tryz.func61, Tryz.ntmps61
    go_wp2
    go_ret2
    exact ⟨rfl, Below.refl _ _⟩
  · have HG : Box (l.length = 1 ∨ (1 < l.length ∧ (l[0]?.getD 0).toNat ≠ 48)) := ⟨by rw [HC0.out]; omega⟩
    have HPN := Lib.hid (fun h => posOut_no (s := 1) (l := l) h)
    have HPY := Lib.hid (fun h => posOut_yes (s := 1) (l := l) h)
    generalize posOut 1 l = out at *
    go_enter Tryz.func61, Tryz.ntmps61
    by_cases h1 : c.toNat = 48
    · have h1' : ((c.toNat : Int) == 48) = true := by rw [h1]; rfl
      have h2 : l.length = 1 := by omega
      have h2' : decide ((1 : Int) < (l.length : Int)) = false := by rw [h2]; rfl
      go_wp2
      go_loopw [6, 7] (fun n i wr => ∃ k : Nat, k ≤ l.length ∧ i = .int .i64 k ∧ n = .int .i64 ((dval 0 (l.take k) : Nat) : Int) ∧ Box ((l.take k).all digB = true) ∧ Below w.heap.size w wr) (fun _ i _ => l.length - (intOf i).toNat)
      case atStart => exact ⟨0, Nat.zero_le _, rfl, rfl, ⟨rfl⟩, Below.refl _ _⟩
      case round =>
        obtain ⟨k, hk, rfl, rfl, HD, hbw⟩ := hrel
        by_cases hlt : k < l.length
        · have hxk := ba_at l k
          have HB := Lib.hid (fun h => canon_bad (l := l) (k := k) hlt h)
          have HV := Lib.hid (dval_take_succ l k hlt)
          have hdv : dval 0 (l.take k) < 10 ^ 13 := take_dig HD.out (by omega)
          have HSU := Lib.hid (all_succ (l := l) (k := k) hlt)
          have HDB : Box (digB (l[k]?.getD 0) = decide (48 ≤ (l[k]?.getD 0).toNat ∧ (l[k]?.getD 0).toNat ≤ 57)) := ⟨rfl⟩
          have HG2 := Lib.hid (dgv_eq (l[k]?.getD 0))
          generalize l[k]?.getD 0 = ck at *
          generalize dval 0 (l.take k) = dv at *
          by_cases hc1 : ck.toNat < 48
          · go_wp2
            go_ret2
            exact ⟨by rw [HPN.out (HB.out (by rw [HDB.out]; simp; omega))]; rfl, hbw⟩
          · by_cases hc2 : 57 < ck.toNat
            · go_wp2
              go_ret2
              exact ⟨by rw [HPN.out (HB.out (by rw [HDB.out]; simp; omega))]; rfl, hbw⟩
            · go_wp2
              go_roundw
              case rel => exact ⟨k + 1, by omega, by go_num, by rw [HV.out, HG2.out]; go_num, ⟨by rw [HSU.out, HD.out, HDB.out]; simp; omega⟩, hbw⟩
              case measure => simp [intOf]; omega
        · obtain rfl : k = l.length := by omega
          have HTL : Box (l.take l.length = l) := ⟨List.take_of_length_le (Nat.le_refl _)⟩
          have hdv : dval 0 (l.take l.length) < 10 ^ 13 := take_dig HD.out (by omega)
          have HY := Lib.hid (HPY.out (canon_good (by rw [← HTL.out]; exact HD.out) HG.out))
          rw [HTL.out] at hdv ⊢
          generalize dval 0 l = dv at *
          go_wp2
          go_ret2
          exact ⟨by rw [HY.out]; first | (rw [Int.one_mul]; rfl) | rfl | (rw [Int.neg_mul, Int.one_mul]; rfl), hbw⟩
    · have h2 : ((c.toNat : Int) == 48) = false := by simp; omega
      go_wp2
      go_loopw [6, 7] (fun n i wr => ∃ k : Nat, k ≤ l.length ∧ i = .int .i64 k ∧ n = .int .i64 ((dval 0 (l.take k) : Nat) : Int) ∧ Box ((l.take k).all digB = true) ∧ Below w.heap.size w wr) (fun _ i _ => l.length - (intOf i).toNat)
      case atStart => exact ⟨0, Nat.zero_le _, rfl, rfl, ⟨rfl⟩, Below.refl _ _⟩
      case round =>
        obtain ⟨k, hk, rfl, rfl, HD, hbw⟩ := hrel
        by_cases hlt : k < l.length
        · have hxk := ba_at l k
          have HB := Lib.hid (fun h => canon_bad (l := l) (k := k) hlt h)
          have HV := Lib.hid (dval_take_succ l k hlt)
          have hdv : dval 0 (l.take k) < 10 ^ 13 := take_dig HD.out (by omega)
          have HSU := Lib.hid (all_succ (l := l) (k := k) hlt)
          have HDB : Box (digB (l[k]?.getD 0) = decide (48 ≤ (l[k]?.getD 0).toNat ∧ (l[k]?.getD 0).toNat ≤ 57)) := ⟨rfl⟩
          have HG2 := Lib.hid (dgv_eq (l[k]?.getD 0))
          generalize l[k]?.getD 0 = ck at *
          generalize dval 0 (l.take k) = dv at *
          by_cases hc1 : ck.toNat < 48
          · go_wp2
            go_ret2
            exact ⟨by rw [HPN.out (HB.out (by rw [HDB.out]; simp; omega))]; rfl, hbw⟩
          · by_cases hc2 : 57 < ck.toNat
            · go_wp2
              go_ret2
              exact ⟨by rw [HPN.out (HB.out (by rw [HDB.out]; simp; omega))]; rfl, hbw⟩
            · go_wp2
              go_roundw
              case rel => exact ⟨k + 1, by omega, by go_num, by rw [HV.out, HG2.out]; go_num, ⟨by rw [HSU.out, HD.out, HDB.out]; simp; omega⟩, hbw⟩
              case measure => simp [intOf]; omega
        · obtain rfl : k = l.length := by omega
          have HTL : Box (l.take l.length = l) := ⟨List.take_of_length_le (Nat.le_refl _)⟩
          have hdv : dval 0 (l.take l.length) < 10 ^ 13 := take_dig HD.out (by omega)
          have HY := Lib.hid (HPY.out (canon_good (by rw [← HTL.out]; exact HD.out) HG.out))
          rw [HTL.out] at hdv ⊢
          generalize dval 0 l = dv at *
          go_wp2
          go_ret2
          exact ⟨by rw [HY.out]; first | (rw [Int.one_mul]; rfl) | rfl | (rw [Int.neg_mul, Int.one_mul]; rfl), hbw⟩

def negOut (l : List UInt8) : Value := if (l[0]?.getD 0).toNat = 48 then .tuple #[.int .i64 0, .bool false] else posOut (-1) l
theorem negOut_zero {l : List UInt8} (h : (l[0]?.getD 0).toNat = 48) : negOut l = .tuple #[.int .i64 0, .bool false] := by unfold negOut; rw [if_pos h]
theorem negOut_other {l : List UInt8} (h : (l[0]?.getD 0).toNat ≠ 48) : negOut l = posOut (-1) l := by unfold negOut; rw [if_neg h]

set_option maxRecDepth 100000 in
set_option maxHeartbeats 1000000 in
theorem refInt_none (w : World) : Calls Tryz.prog 61 #[.string ⟨#[]⟩] w fun e w' => e = .returned (.tuple #[.int .i64 0, .bool false]) ∧ Below w.heap.size w w' := by
  go_enter Tryz.func61, Tryz.ntmps61
  go_wp2
  go_ret2
  exact ⟨rfl, Below.refl _ _⟩

set_option maxRecDepth 100000 in
set_option maxHeartbeats 1000000 in
theorem refInt_dash (w : World) : Calls Tryz.prog 61 #[.string ⟨#[45]⟩] w fun e w' => e = .returned (.tuple #[.int .i64 0, .bool false]) ∧ Below w.heap.size w w' := by
  go_enter Tryz.func61, Tryz.ntmps61
  go_wp2
  go_quiet (fail)
  go_wp2
  go_ret2
  exact ⟨rfl, below_drewN (Below.refl _ _) _⟩

set_option maxRecDepth 100000 in
set_option maxHeartbeats 1000000 in
theorem refInt_neg (c : UInt8) (t l : List UInt8) (w : World) (e0 : l = c :: t) (hl : l.length ≤ 12) :
    Calls Tryz.prog 61 #[.string ⟨(45 :: l).toArray⟩] w fun e w' => e = .returned (negOut l) ∧ Below w.heap.size w w' := by
  have hx : ∀ h, (⟨l.toArray⟩ : ByteArray)[0]'h = c := by subst e0; exact fun _ => rfl
  have hl0 : 1 ≤ l.length := by subst e0; simp
  have hz : ((l.length : Int) == 0) = false := by simp; intro h; subst h; simp at hl0
  have hc0 : l[0]?.getD 0 = c := by subst e0; rfl
  clear e0
  have HC0 : Box (l[0]?.getD 0 = c) := ⟨hc0⟩
  clear hc0
  have hbt := ba_tail 45 l
  by_cases h48 : c.toNat = 48
  · have h1' : ((c.toNat : Int) == 48) = true := by rw [h48]; rfl
    rw [negOut_zero (by rw [HC0.out]; exact h48)]
    go_enter Tryz.func61, Tryz.ntmps61
    go_wp2
    go_quiet (fail)
    go_wp2
    all_goals
      go_ret2
      exact ⟨rfl, below_drewN (Below.refl _ _) _⟩
  · rw [negOut_other (by rw [HC0.out]; exact h48)]
    have HG : Box (l.length = 1 ∨ (1 < l.length ∧ (l[0]?.getD 0).toNat ≠ 48)) := ⟨by rw [HC0.out]; omega⟩
    have HPN := Lib.hid (fun h => posOut_no (s := -1) (l := l) h)
    have HPY := Lib.hid (fun h => posOut_yes (s := -1) (l := l) h)
    generalize posOut (-1) l = out at *
    have h2 : ((c.toNat : Int) == 48) = false := by simp; omega
    go_enter Tryz.func61, Tryz.ntmps61
    go_wp2
    go_quiet (fail)
    go_wp2
    go_loopw [6, 7] (fun n i wr => ∃ k : Nat, k ≤ l.length ∧ i = .int .i64 k ∧ n = .int .i64 ((dval 0 (l.take k) : Nat) : Int) ∧ Box ((l.take k).all digB = true) ∧ Below w.heap.size w wr) (fun _ i _ => l.length - (intOf i).toNat)
    case atStart => exact ⟨0, Nat.zero_le _, rfl, rfl, ⟨rfl⟩, below_drewN (Below.refl _ _) _⟩
    case round =>
      obtain ⟨k, hk, rfl, rfl, HD, hbw⟩ := hrel
      by_cases hlt : k < l.length
      · have hxk := ba_at l k
        have HB := Lib.hid (fun h => canon_bad (l := l) (k := k) hlt h)
        have HV := Lib.hid (dval_take_succ l k hlt)
        have hdv : dval 0 (l.take k) < 10 ^ 13 := take_dig HD.out (by omega)
        have HSU := Lib.hid (all_succ (l := l) (k := k) hlt)
        have HDB : Box (digB (l[k]?.getD 0) = decide (48 ≤ (l[k]?.getD 0).toNat ∧ (l[k]?.getD 0).toNat ≤ 57)) := ⟨rfl⟩
        have HG2 := Lib.hid (dgv_eq (l[k]?.getD 0))
        generalize l[k]?.getD 0 = ck at *
        generalize dval 0 (l.take k) = dv at *
        by_cases hc1 : ck.toNat < 48
        · go_wp2
          go_ret2
          exact ⟨by rw [HPN.out (HB.out (by rw [HDB.out]; simp; omega))]; rfl, hbw⟩
        · by_cases hc2 : 57 < ck.toNat
          · go_wp2
            go_ret2
            exact ⟨by rw [HPN.out (HB.out (by rw [HDB.out]; simp; omega))]; rfl, hbw⟩
          · go_wp2
            go_roundw
            case rel => exact ⟨k + 1, by omega, by go_num, by rw [HV.out, HG2.out]; go_num, ⟨by rw [HSU.out, HD.out, HDB.out]; simp; omega⟩, hbw⟩
            case measure => simp [intOf]; omega
      · obtain rfl : k = l.length := by omega
        have HTL : Box (l.take l.length = l) := ⟨List.take_of_length_le (Nat.le_refl _)⟩
        have hdv : dval 0 (l.take l.length) < 10 ^ 13 := take_dig HD.out (by omega)
        have HY := Lib.hid (HPY.out (canon_good (by rw [← HTL.out]; exact HD.out) HG.out))
        rw [HTL.out] at hdv ⊢
        generalize dval 0 l = dv at *
        go_wp2
        go_ret2
        exact ⟨by rw [HY.out]; first | (rw [Int.one_mul]; rfl) | rfl | (rw [Int.neg_mul, Int.one_mul]; rfl), hbw⟩

end Go.Proofs.YtkoemgemnklmdaaGreatDoor
