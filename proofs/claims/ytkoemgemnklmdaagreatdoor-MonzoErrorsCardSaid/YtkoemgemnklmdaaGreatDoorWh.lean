/- Small integers: decimal.Of, whole.Of, little, Small, both, split, join. -/
import Derived.Test.YtkoemgemnklmdaaGreatDoorStd
import Derived.Deep.QuietTactic
import Derived.BigQuiet
import Derived.WideLaws
namespace Go.Proofs.YtkoemgemnklmdaaGreatDoor
open Go.RowKit Go.Lib

theorem itoa_nat (n : Nat) : itoa (n : Int) = decDigits n := by unfold itoa; rw [if_neg (by omega)]; rfl
theorem itoa_neg (n : Nat) (h : 0 < n) : itoa (-(n : Int)) = 45 :: decDigits n := by unfold itoa; rw [if_pos (by omega)]; congr 2; omega
theorem itoa_len_lt {z : Int} {k : Nat} (h : (itoa z).length ≤ k) : z.natAbs < 10 ^ k := by
  have hp : 10 ^ (decDigits z.natAbs).length ≤ 10 ^ k := by
    refine Nat.pow_le_pow_right (by omega) ?_
    unfold itoa at h
    split at h
    · simp at h; omega
    · rename_i hz
      rw [show z.toNat = z.natAbs by omega] at h
      exact h
  exact Nat.lt_of_lt_of_le (dec_lt_pow _) hp

theorem bytes_below' {w w' : World} {e : TypeId} (h : w' = w ∨ ∃ t, w' = Lib.bytesWorld w e t) : Below w.heap.size w w' := by
  rcases h with rfl | ⟨t, rfl⟩
  · exact Below.refl _ _
  · exact bytes_below w e t

theorem grow_below {w w' : World} (h : ∃ k os, w' = Sort.grow (w.drewN k) os) : Below w.heap.size w w' := by
  obtain ⟨k, os, rfl⟩ := h
  exact Lib.below_grow _ w (Nat.le_refl _) k os

theorem decOf_any (u : Nat) (w : World) (hu64 : u < 18446744073709551616) (hS : Std w) :
    Calls Tryz.prog 105 #[.int .u64 u] w fun e w' => e = .returned (.string ⟨(decDigits u).toArray⟩) ∧ Below w.heap.size w w' := by
  have HF := Lib.hid (formatUint_any u w hu64 hS)
  clear hS
  go_enter Tryz.func105, Tryz.ntmps105
  go_wp2_with (first | (go_at_call 169; refine HF.out.mono ?_; rintro e w' ⟨rfl, hb⟩) | (go_at_call 138; go_in))
  go_ret
  exact ⟨rfl, hb⟩

theorem whOf_any (z : Int) (w : World) (h0 : -9223372036854775808 ≤ z) (h1 : z ≤ 9223372036854775807) (hS : Std w) :
    Calls Tryz.prog 63 #[.int .i64 z] w fun e w' => e = .returned (.string ⟨(itoa z).toArray⟩) ∧ Below w.heap.size w w' := by
  have HF := Lib.hid (Tryz.strconv_Itoa z h0 h1 w hS.tab)
  clear hS
  go_enter Tryz.func63, Tryz.ntmps63
  go_wp2_with (go_at_call 54; refine HF.out.mono ?_; rintro e w' ⟨rfl, hw⟩; have hb := grow_below hw; clear hw)
  go_ret
  exact ⟨rfl, hb⟩

set_option maxHeartbeats 400000 in
theorem little_yes (z : Int) (m : Nat) (w : World) (hl : (itoa z).length ≤ m) (hm : m ≤ 18) :
    Calls Tryz.prog 77 #[.string ⟨(itoa z).toArray⟩, .int .i64 m] w fun e w' => e = .returned (.tuple #[.int .i64 z, .bool true]) ∧ Below w.heap.size w w' := by
  have hz := itoa_len_lt hl
  have h18 : 10 ^ m ≤ 10 ^ 18 := Nat.pow_le_pow_right (by omega) hm
  have ha := atoi_itoa z (by omega) (by omega)
  have HF := Lib.hid (Tryz.strconv_Atoi_ok ⟨(itoa z).toArray⟩ (by simp [ByteArray.size]; omega) z (by simpa using ha) w)
  clear hz h18 ha
  generalize itoa z = l at *
  go_enter Tryz.func77, Tryz.ntmps77
  go_wp2_with (go_at_call 90; refine HF.out.mono ?_; rintro e w' ⟨rfl, hw⟩; have hb := bytes_below' hw; clear hw)
  go_quiet (fail)
  go_wp2
  go_ret2
  exact ⟨rfl, below_drewN hb _⟩

set_option maxHeartbeats 400000 in
theorem little_no (l : List UInt8) (m : Nat) (w : World) (hl : m < l.length) (_hm : l.length ≤ 1000000) :
    Calls Tryz.prog 77 #[.string ⟨l.toArray⟩, .int .i64 m] w fun e w' => e = .returned (.tuple #[.int .i64 0, .bool false]) ∧ w = w' := by
  go_enter Tryz.func77, Tryz.ntmps77
  go_wp2
  go_ret2
  exact ⟨rfl, rfl⟩

theorem parseM_run (l : List UInt8) : ∀ acc, (∀ c ∈ l, isDig c) → dval acc l < 18446744073709551616 → parseUintM (2 ^ 64 - 1) acc l = .ok (dval acc l) := by
  induction l with
  | nil => intro acc _ _; rfl
  | cons c l ih =>
    intro acc hd hb
    have hc := hd c (by simp)
    have hc2 := dgv_lt hc
    simp only [dval_cons] at hb ⊢
    have hge := dval_ge l (10 * acc + dgv c)
    have hp : 1 ≤ 10 ^ l.length := Nat.one_le_pow _ _ (by omega)
    have hle : 10 * acc + dgv c ≤ (10 * acc + dgv c) * 10 ^ l.length := Nat.le_mul_of_pos_right _ (by omega)
    simp only [parseUintM]
    rw [← dgv_eq]
    rw [if_pos (show 48 ≤ c.toNat ∧ c.toNat ≤ 57 from hc), if_neg (by omega), if_neg (by omega), Nat.mul_comm acc 10]
    exact ih _ (fun x hx => hd x (by simp [hx])) hb

theorem parseUintB_dec {n : Nat} (h : n < 18446744073709551616) : parseUintB 64 (decDigits n) = .ok n := by
  unfold parseUintB
  rw [if_neg (dec_ne_nil n), parseM_run _ 0 (dec_dig n) (by rw [dval_dec]; exact h), dval_dec]

set_option maxHeartbeats 400000 in
theorem small_yes (n : Nat) (w : World) (h : n < 18446744073709551616) :
    Calls Tryz.prog 107 #[.string ⟨(decDigits n).toArray⟩] w fun e w' => e = .returned (.tuple #[.int .u64 n, .bool true]) ∧ Below w.heap.size w w' := by
  have hl : (decDigits n).length ≤ 20 := by rw [dec_length]; exact nDigits_le20 h
  have HF := Lib.hid (Tryz.strconv_ParseUint_10_at64_ok ⟨(decDigits n).toArray⟩ (by simp [ByteArray.size]; omega) n (by simpa using parseUintB_dec h) w)
  generalize decDigits n = l at *
  go_enter Tryz.func107, Tryz.ntmps107
  go_wp2_with (go_at_call 139; refine HF.out.mono ?_; rintro e w' ⟨rfl, hw⟩; have hb := bytes_below' (hw.imp id (fun h => ⟨_, h⟩)); clear hw)
  go_ret2
  exact ⟨rfl, hb⟩

set_option maxHeartbeats 400000 in
theorem both_yes (a b : Nat) (w : World) (ha : (decDigits a).length ≤ 18) (hb : (decDigits b).length ≤ 18) :
    Calls Tryz.prog 111 #[.string ⟨(decDigits a).toArray⟩, .string ⟨(decDigits b).toArray⟩] w fun e w' => e = .returned (.tuple #[.int .u64 a, .int .u64 b, .bool true]) ∧ Below w.heap.size w w' := by
  have h1 : a < 10 ^ 18 := Nat.lt_of_lt_of_le (dec_lt_pow a) (Nat.pow_le_pow_right (by omega) ha)
  have h2 : b < 10 ^ 18 := Nat.lt_of_lt_of_le (dec_lt_pow b) (Nat.pow_le_pow_right (by omega) hb)
  have HA := Lib.hid (fun W => small_yes a W (by omega))
  have HB := Lib.hid (fun W => small_yes b W (by omega))
  generalize decDigits a = l at *
  generalize decDigits b = r at *
  go_enter Tryz.func111, Tryz.ntmps111
  go_wp2_with fail
  refine (HA.out _).mono ?_
  rintro e w1 ⟨rfl, hb1⟩
  go_wp2_with fail
  refine (HB.out _).mono ?_
  rintro e w2 ⟨rfl, hb2⟩
  go_wp2_with fail
  go_ret3
  exact ⟨rfl, hb1.trans (hb2.mono hb1.size)⟩

set_option maxHeartbeats 400000 in
theorem both_no (l r : List UInt8) (w : World) (h : 18 < l.length ∨ 18 < r.length) (_h1 : l.length ≤ 1000000) (_h2 : r.length ≤ 1000000) :
    Calls Tryz.prog 111 #[.string ⟨l.toArray⟩, .string ⟨r.toArray⟩] w fun e w' => e = .returned (.tuple #[.int .u64 0, .int .u64 0, .bool false]) ∧ w = w' := by
  by_cases hl : 18 < l.length
  · clear h
    go_enter Tryz.func111, Tryz.ntmps111
    go_wp2
    go_ret3
    exact ⟨rfl, rfl⟩
  · have hr : 18 < r.length := by omega
    clear h
    go_enter Tryz.func111, Tryz.ntmps111
    go_wp2
    go_ret3
    exact ⟨rfl, rfl⟩

end Go.Proofs.YtkoemgemnklmdaaGreatDoor
