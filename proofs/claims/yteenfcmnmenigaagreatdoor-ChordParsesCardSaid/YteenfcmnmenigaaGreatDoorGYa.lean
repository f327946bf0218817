/- schismaref04.Int of short texts. fraction.Check and monzo.Of of right long fractions. schismaref04.Gcd. fraction.Check and monzo.Of of wrong fractions; schismaref04.Parts. schismaref04.Parts. -/
import Derived.Test.YteenfcmnmenigaaGreatDoorGC
import Derived.Test.YteenfcmnmenigaaGreatDoorGI
import Derived.Test.YteenfcmnmenigaaGreatDoorGF
namespace Go.Proofs.YteenfcmnmenigaaGreatDoor
open Go.RowKit Go.Lib

def posOut (s : Int) (l : List UInt8) : Value := if canonB l = true then .tuple #[.int .i64 (s * (dval 0 l : Nat)), .bool true] else .tuple #[.int .i64 0, .bool false]

theorem ba_at (l : List UInt8) (k : Nat) : ∀ h, (⟨l.toArray⟩ : ByteArray)[k]'h = l[k]?.getD 0 := by
  intro h
  have hk : k < l.length := by simpa [ByteArray.size] using h
  rw [List.getElem?_eq_getElem hk]; rfl
theorem all_dig {l : List UInt8} (h : l.all digB = true) : ∀ c ∈ l, isDig c := fun c hc => of_decide_eq_true (List.all_eq_true.1 h c hc)
theorem take_dig {l : List UInt8} {k m : Nat} (h : (l.take k).all digB = true) (hk : k ≤ m) : dval 0 (l.take k) < 10 ^ m := by
  have h1 := dval_lt0 (l.take k) (all_dig h)
  have h2 : (l.take k).length ≤ k := by simp; omega
  exact Nat.lt_of_lt_of_le h1 (Nat.pow_le_pow_right (by omega) (by omega))
theorem posOut_no {s : Int} {l : List UInt8} (h : canonB l = false) : posOut s l = .tuple #[.int .i64 0, .bool false] := by unfold posOut; rw [h]; rfl
theorem posOut_yes {s : Int} {l : List UInt8} (h : canonB l = true) : posOut s l = .tuple #[.int .i64 (s * (dval 0 l : Nat)), .bool true] := by unfold posOut; rw [if_pos h]
theorem canon_zero {l : List UInt8} (h1 : 1 < l.length) (h2 : (l[0]?.getD 0).toNat = 48) : canonB l = false := by
  unfold canonB headB
  rw [h2]
  have : (l.length == 1) = false := by rw [beq_eq_false_iff_ne]; omega
  simp [this]
theorem canon_bad {l : List UInt8} {k : Nat} (hlt : k < l.length) (h : digB (l[k]?.getD 0) = false) : canonB l = false := by
  unfold canonB
  rw [Bool.and_eq_false_iff]
  left
  rw [List.all_eq_false]
  exact ⟨l[k], List.getElem_mem hlt, by rw [List.getElem?_eq_getElem hlt] at h; simpa using h⟩
theorem canon_good {l : List UInt8} (h : l.all digB = true) (h0 : l.length = 1 ∨ (1 < l.length ∧ (l[0]?.getD 0).toNat ≠ 48)) : canonB l = true := by
  unfold canonB headB
  rw [h, Bool.true_and]
  rcases h0 with h0 | ⟨h1, h2⟩
  · rw [h0]; rfl
  · simp [h1, h2]
theorem all_succ {l : List UInt8} {k : Nat} (hlt : k < l.length) : (l.take (k + 1)).all digB = ((l.take k).all digB && digB (l[k]?.getD 0)) := by
  rw [List.take_succ_eq_append_getElem hlt, List.all_append, List.getElem?_eq_getElem hlt]; simp

def negOut (l : List UInt8) : Value := if (l[0]?.getD 0).toNat = 48 then .tuple #[.int .i64 0, .bool false] else posOut (-1) l
theorem negOut_zero {l : List UInt8} (h : (l[0]?.getD 0).toNat = 48) : negOut l = .tuple #[.int .i64 0, .bool false] := by unfold negOut; rw [if_pos h]
theorem negOut_other {l : List UInt8} (h : (l[0]?.getD 0).toNat ≠ 48) : negOut l = posOut (-1) l := by unfold negOut; rw [if_neg h]

end Go.Proofs.YteenfcmnmenigaaGreatDoor

namespace Go.Proofs.YteenfcmnmenigaaGreatDoor
open Go.RowKit Go.Lib

set_option maxHeartbeats 1000000 in
theorem fracCheck_long (n d : Int) (w : World) (hS : Std w) (hn : (decDigits n.natAbs).length ≤ 400) (hd : (decDigits d.natAbs).length ≤ 400) (hd0 : 0 < d) (hg : Nat.gcd n.natAbs d.natAbs = 1) :
    Calls Tryz.prog 114 #[.agg #[.string ⟨(itoa n).toArray⟩, .string ⟨(itoa d).toArray⟩]] w fun e w' => e = .returned (.int .i64 0) ∧ Below w.heap.size w w' := by
  have hln := itoa_len n
  have hld := itoa_len d
  have HN := Lib.hid (fun W => whCheck_split (itoa n) W (by omega) 0 (.inl ⟨⟨n, rfl, by omega⟩, rfl⟩))
  have HD := Lib.hid (fun W => whCheck_split (itoa d) W (by omega) 0 (.inl ⟨⟨d, rfl, by omega⟩, rfl⟩))
  have hsg : sgn d = 1 := by unfold sgn; rw [if_neg (by omega), if_neg (by omega)]
  have HSG := Lib.hid (fun W => whSign_any d W (by omega))
  rw [hsg] at HSG
  have HG := Lib.hid (fun W hW => whGcd_any n d W hW (by omega) (by omega))
  rw [hg, dec_small (by omega)] at HG
  have HS := Lib.hid hS
  clear hsg hg hS hn hd hd0 hln hld
  generalize itoa n = a at *
  generalize itoa d = b at *
  go_enter Tryz.func114, Tryz.ntmps114
  go_wp2_with fail
  refine (HN.out _).mono ?_
  rintro e w1 ⟨rfl, hb1⟩
  rw [World.size_alloc] at hb1
  obtain ⟨q0, q1⟩ := rat_cells hb1
  go_wp2_with fail
  refine (HD.out _).mono ?_
  rintro e w2 ⟨rfl, hb2⟩
  have hb12 : Below (w.heap.size + 1) (w.alloc (.cells #[.string ⟨a.toArray⟩, .string ⟨b.toArray⟩] 72)) w2 := hb1.trans (hb2.mono (by have := hb1.size; simp at this; omega))
  clear q0 q1 hb1 hb2
  obtain ⟨q0, q1⟩ := rat_cells hb12
  go_wp2_with fail
  refine (HSG.out _).mono ?_
  rintro e w3 ⟨rfl, rfl⟩
  go_wp2_with fail
  have hs2 := HS.out.below (below_result hb12) (Nat.le_refl _)
  refine (HG.out _ hs2).mono ?_
  rintro e w4 ⟨rfl, hb4⟩
  go_wp2_with fail
  go_ret
  exact ⟨rfl, (below_result hb12).trans (hb4.mono (below_result hb12).size)⟩

end Go.Proofs.YteenfcmnmenigaaGreatDoor

namespace Go.Proofs.YteenfcmnmenigaaGreatDoor
open Go.RowKit Go.Lib

end Go.Proofs.YteenfcmnmenigaaGreatDoor

namespace Go.Proofs.YteenfcmnmenigaaGreatDoor
open Go.RowKit Go.Lib

/-- A right fraction, as text. -/
def FracB (a b : List UInt8) : Prop := ∃ n d : Int, a = itoa n ∧ b = itoa d ∧ (decDigits n.natAbs).length ≤ 400 ∧ (decDigits d.natAbs).length ≤ 400 ∧ 0 < d ∧ Nat.gcd n.natAbs d.natAbs = 1

set_option maxRecDepth 100000 in
set_option maxHeartbeats 1000000 in
theorem fracCheck_no1 (a b : List UInt8) (w : World) (ha : a.length ≤ 100000) (h : ¬ intB a) :
    Calls Tryz.prog 114 #[.agg #[.string ⟨a.toArray⟩, .string ⟨b.toArray⟩]] w fun e w' => e = .returned (.int .i64 2) ∧ Below w.heap.size w w' := by
  have HN := Lib.hid (fun W => whCheck_split a W ha 2 (.inr ⟨h, rfl⟩))
  clear h
  go_enter Tryz.func114, Tryz.ntmps114
  go_wp2_with fail
  refine (HN.out _).mono ?_
  rintro e w1 ⟨rfl, hb1⟩
  rw [World.size_alloc] at hb1
  go_wp2_with fail
  go_ret
  exact ⟨rfl, below_result hb1⟩

set_option maxRecDepth 100000 in
set_option maxHeartbeats 1000000 in
theorem fracCheck_no2 (a b : List UInt8) (w : World) (ha : a.length ≤ 100000) (hb : b.length ≤ 100000) (h : intB a) (h2 : ¬ intB b) :
    Calls Tryz.prog 114 #[.agg #[.string ⟨a.toArray⟩, .string ⟨b.toArray⟩]] w fun e w' => e = .returned (.int .i64 2) ∧ Below w.heap.size w w' := by
  have HN := Lib.hid (fun W => whCheck_split a W ha 0 (.inl ⟨h, rfl⟩))
  have HD := Lib.hid (fun W => whCheck_split b W hb 2 (.inr ⟨h2, rfl⟩))
  clear h h2
  go_enter Tryz.func114, Tryz.ntmps114
  go_wp2_with fail
  refine (HN.out _).mono ?_
  rintro e w1 ⟨rfl, hb1⟩
  rw [World.size_alloc] at hb1
  obtain ⟨q0, q1⟩ := rat_cells hb1
  go_wp2_with fail
  refine (HD.out _).mono ?_
  rintro e w2 ⟨rfl, hb2⟩
  have hb12 : Below (w.heap.size + 1) (w.alloc (.cells #[.string ⟨a.toArray⟩, .string ⟨b.toArray⟩] 72)) w2 := hb1.trans (hb2.mono (by have := hb1.size; simp at this; omega))
  clear q0 q1 hb1 hb2
  go_wp2_with fail
  go_ret
  exact ⟨rfl, below_result hb12⟩

set_option maxRecDepth 100000 in
set_option maxHeartbeats 1000000 in
theorem fracCheck_no3 (n d : Int) (w : World) (hn : (decDigits n.natAbs).length ≤ 400) (hd : (decDigits d.natAbs).length ≤ 400) (hd0 : d ≤ 0) :
    Calls Tryz.prog 114 #[.agg #[.string ⟨(itoa n).toArray⟩, .string ⟨(itoa d).toArray⟩]] w fun e w' => e = .returned (.int .i64 2) ∧ Below w.heap.size w w' := by
  have hln := itoa_len n
  have hld := itoa_len d
  have HN := Lib.hid (fun W => whCheck_split (itoa n) W (by omega) 0 (.inl ⟨⟨n, rfl, by omega⟩, rfl⟩))
  have HD := Lib.hid (fun W => whCheck_split (itoa d) W (by omega) 0 (.inl ⟨⟨d, rfl, by omega⟩, rfl⟩))
  have hsg : sgn d ≤ 0 := by unfold sgn; split <;> (try split) <;> omega
  have HSG := Lib.hid (fun W => whSign_any d W (by omega))
  clear hn hd hd0 hln hld
  generalize itoa n = a at *
  generalize itoa d = b at *
  generalize sgn d = sg at *
  go_enter Tryz.func114, Tryz.ntmps114
  go_wp2_with fail
  refine (HN.out _).mono ?_
  rintro e w1 ⟨rfl, hb1⟩
  rw [World.size_alloc] at hb1
  obtain ⟨q0, q1⟩ := rat_cells hb1
  go_wp2_with fail
  refine (HD.out _).mono ?_
  rintro e w2 ⟨rfl, hb2⟩
  have hb12 : Below (w.heap.size + 1) (w.alloc (.cells #[.string ⟨a.toArray⟩, .string ⟨b.toArray⟩] 72)) w2 := hb1.trans (hb2.mono (by have := hb1.size; simp at this; omega))
  clear q0 q1 hb1 hb2
  obtain ⟨q0, q1⟩ := rat_cells hb12
  go_wp2_with fail
  refine (HSG.out _).mono ?_
  rintro e w3 ⟨rfl, rfl⟩
  go_wp2_with fail
  go_ret
  exact ⟨rfl, below_result hb12⟩

set_option maxRecDepth 100000 in
set_option maxHeartbeats 1000000 in
theorem fracCheck_no4 (n d : Int) (w : World) (hS : Std w) (hn : (decDigits n.natAbs).length ≤ 400) (hd : (decDigits d.natAbs).length ≤ 400) (hd0 : 0 < d) (hg : Nat.gcd n.natAbs d.natAbs ≠ 1) :
    Calls Tryz.prog 114 #[.agg #[.string ⟨(itoa n).toArray⟩, .string ⟨(itoa d).toArray⟩]] w fun e w' => e = .returned (.int .i64 2) ∧ Below w.heap.size w w' := by
  have hln := itoa_len n
  have hld := itoa_len d
  have HN := Lib.hid (fun W => whCheck_split (itoa n) W (by omega) 0 (.inl ⟨⟨n, rfl, by omega⟩, rfl⟩))
  have HD := Lib.hid (fun W => whCheck_split (itoa d) W (by omega) 0 (.inl ⟨⟨d, rfl, by omega⟩, rfl⟩))
  have hsg : sgn d = 1 := by unfold sgn; rw [if_neg (by omega), if_neg (by omega)]
  have HSG := Lib.hid (fun W => whSign_any d W (by omega))
  rw [hsg] at HSG
  have HG := Lib.hid (fun W hW => whGcd_any n d W hW (by omega) (by omega))
  have hg1 := dec_eq_one (Nat.gcd n.natAbs d.natAbs)
  rw [decide_eq_false hg] at hg1
  have hg2 : (decDigits (Nat.gcd n.natAbs d.natAbs) != [49]) = true := by simp only [bne, hg1]; rfl
  generalize decDigits (Nat.gcd n.natAbs d.natAbs) = lg at *
  have HS := Lib.hid hS
  clear hsg hg hS hn hd hd0 hln hld
  generalize itoa n = a at *
  generalize itoa d = b at *
  go_enter Tryz.func114, Tryz.ntmps114
  go_wp2_with fail
  refine (HN.out _).mono ?_
  rintro e w1 ⟨rfl, hb1⟩
  rw [World.size_alloc] at hb1
  obtain ⟨q0, q1⟩ := rat_cells hb1
  go_wp2_with fail
  refine (HD.out _).mono ?_
  rintro e w2 ⟨rfl, hb2⟩
  have hb12 : Below (w.heap.size + 1) (w.alloc (.cells #[.string ⟨a.toArray⟩, .string ⟨b.toArray⟩] 72)) w2 := hb1.trans (hb2.mono (by have := hb1.size; simp at this; omega))
  clear q0 q1 hb1 hb2
  obtain ⟨q0, q1⟩ := rat_cells hb12
  go_wp2_with fail
  refine (HSG.out _).mono ?_
  rintro e w3 ⟨rfl, rfl⟩
  go_wp2_with fail
  have hs2 := HS.out.below (below_result hb12) (Nat.le_refl _)
  refine (HG.out _ hs2).mono ?_
  rintro e w4 ⟨rfl, hb4⟩
  go_wp2_with fail
  go_ret
  exact ⟨rfl, (below_result hb12).trans (hb4.mono (below_result hb12).size)⟩

theorem fracCheck_no (a b : List UInt8) (w : World) (hS : Std w) (ha : a.length ≤ 100000) (hb : b.length ≤ 100000) (h : ¬ FracB a b) :
    Calls Tryz.prog 114 #[.agg #[.string ⟨a.toArray⟩, .string ⟨b.toArray⟩]] w fun e w' => e = .returned (.int .i64 2) ∧ Below w.heap.size w w' := by
  by_cases h1 : intB a
  · by_cases h2 : intB b
    · obtain ⟨n, rfl, hn⟩ := h1
      obtain ⟨d, rfl, hd⟩ := h2
      by_cases hd0 : 0 < d
      · exact fracCheck_no4 n d w hS hn hd hd0 (fun hg => h ⟨n, d, rfl, rfl, hn, hd, hd0, hg⟩)
      · exact fracCheck_no3 n d w hn hd (by omega)
    · exact fracCheck_no2 a b w ha hb h1 h2
  · exact fracCheck_no1 a b w ha h1

end Go.Proofs.YteenfcmnmenigaaGreatDoor

namespace Go.Proofs.YteenfcmnmenigaaGreatDoor
open Go.RowKit Go.Lib

def IntOut (l : List UInt8) (v : Value) : Prop := (∃ z : Int, l = itoa z ∧ z.natAbs < 10 ^ 13 ∧ v = .tuple #[.int .i64 z, .bool true]) ∨ (¬ intB l ∧ v = .tuple #[.int .i64 0, .bool false])

theorem itoa_nonempty (z : Int) : itoa z ≠ [] := by
  rcases itoa_cases z with ⟨_, e⟩ | ⟨_, e⟩
  · rw [e]; simp
  · rw [e]; obtain ⟨c, r, e2, _⟩ := dec_first z.natAbs; rw [e2]; simp
theorem dec13 {n : Nat} (h : (decDigits n).length ≤ 13) : n < 10 ^ 13 := Nat.lt_of_lt_of_le (dec_lt_pow n) (Nat.pow_le_pow_right (by omega) h)

/-- What Parts returns. -/
def PartsOut (a b : List UInt8) (v : Value) : Prop :=
  (∃ n d : Int, a = itoa n ∧ b = itoa d ∧ n.natAbs < 10 ^ 13 ∧ d.natAbs < 10 ^ 13 ∧ 0 < d ∧ Nat.gcd n.natAbs d.natAbs = 1 ∧ v = .tuple #[.int .i64 n, .int .i64 d, .bool true]) ∨
  (¬ FracB a b ∧ v = .tuple #[.int .i64 0, .int .i64 0, .bool false])

theorem frac_intB {a b : List UInt8} (h : FracB a b) : intB a ∧ intB b := by
  obtain ⟨n, d, h1, h2, h3, h4, _⟩ := h
  exact ⟨⟨n, h1, h3⟩, ⟨d, h2, h4⟩⟩
theorem itoa_inj {n m : Int} (h : itoa n = itoa m) : n = m := by
  rcases itoa_cases n with ⟨hn, e⟩ | ⟨hn, e⟩ <;> rcases itoa_cases m with ⟨hm, e2⟩ | ⟨hm, e2⟩
  · rw [e, e2] at h
    injection h with _ h
    have := congrArg (dval 0) h
    rw [dval_dec, dval_dec] at this
    omega
  · rw [e, e2] at h
    obtain ⟨c, r, e3, hc, _⟩ := dec_first m.natAbs
    rw [e3] at h
    injection h with h _
    subst h
    simp at hc
  · rw [e, e2] at h
    obtain ⟨c, r, e3, hc, _⟩ := dec_first n.natAbs
    rw [e3] at h
    injection h with h _
    subst h
    simp at hc
  · rw [e, e2] at h
    have := congrArg (dval 0) h
    rw [dval_dec, dval_dec] at this
    omega

end Go.Proofs.YteenfcmnmenigaaGreatDoor
