/- fraction.Check and monzo.Of of wrong fractions; schismaref04.Parts. -/
import Derived.Test.YtagfnnongamneaaGreatDoorOfBG
import Derived.Test.YtagfnnongamneaaGreatDoorRIntG
import Derived.Test.YtagfnnongamneaaGreatDoorRGcdG
namespace Go.Proofs.YtagfnnongamneaaGreatDoor
open Go.RowKit Go.Lib

/-- A right fraction, as text. -/
def FracB (a b : List UInt8) : Prop := ∃ n d : Int, a = itoa n ∧ b = itoa d ∧ (decDigits n.natAbs).length ≤ 400 ∧ (decDigits d.natAbs).length ≤ 400 ∧ 0 < d ∧ Nat.gcd n.natAbs d.natAbs = 1

set_option maxRecDepth 100000 in
set_option maxHeartbeats 1000000 in
theorem fracCheck_no1 (a b : List UInt8) (w : World) (ha : a.length ≤ 100000) (h : ¬ intB a) :
    Calls Tryz.prog 80 #[.agg #[.string ⟨a.toArray⟩, .string ⟨b.toArray⟩]] w fun e w' => e = .returned (.int .i64 2) ∧ Below w.heap.size w w' := by
  have HN := Lib.hid (fun W => whCheck_split a W ha 2 (.inr ⟨h, rfl⟩))
  clear h
  go_enter Tryz.func80, Tryz.ntmps80
  go_wp2_with fail
  refine (HN.out _).mono ?_
  rintro e w1 ⟨rfl, hb1⟩
  rw [World.size_alloc] at hb1
  go_wp2_with fail
  go_ret
  exact ⟨rfl, below_result hb1⟩

set_option maxRecDepth 100000 in
set_option maxHeartbeats 1000000 in
theorem fracCheck_no2 (a b : List UInt8) (w : World) (ha : a.length ≤ 100000) (hb : b.length ≤ 100000) (h : intB a) (h2 : ¬ intB b) :
    Calls Tryz.prog 80 #[.agg #[.string ⟨a.toArray⟩, .string ⟨b.toArray⟩]] w fun e w' => e = .returned (.int .i64 2) ∧ Below w.heap.size w w' := by
  have HN := Lib.hid (fun W => whCheck_split a W ha 0 (.inl ⟨h, rfl⟩))
  have HD := Lib.hid (fun W => whCheck_split b W hb 2 (.inr ⟨h2, rfl⟩))
  clear h h2
  go_enter Tryz.func80, Tryz.ntmps80
  go_wp2_with fail
  refine (HN.out _).mono ?_
  rintro e w1 ⟨rfl, hb1⟩
  rw [World.size_alloc] at hb1
  obtain ⟨q0, q1⟩ := rat_cells hb1
  go_wp2_with fail
  refine (HD.out _).mono ?_
  rintro e w2 ⟨rfl, hb2⟩
  have hb12 : Below (w.heap.size + 1) (w.alloc (.cells #[.string ⟨a.toArray⟩, .string ⟨b.toArray⟩] 39)) w2 := hb1.trans (hb2.mono (by have := hb1.size; simp at this; omega))
  clear q0 q1 hb1 hb2
  go_wp2_with fail
  go_ret
  exact ⟨rfl, below_result hb12⟩

set_option maxRecDepth 100000 in
set_option maxHeartbeats 1000000 in
theorem fracCheck_no3 (n d : Int) (w : World) (hn : (decDigits n.natAbs).length ≤ 400) (hd : (decDigits d.natAbs).length ≤ 400) (hd0 : d ≤ 0) :
    Calls Tryz.prog 80 #[.agg #[.string ⟨(itoa n).toArray⟩, .string ⟨(itoa d).toArray⟩]] w fun e w' => e = .returned (.int .i64 2) ∧ Below w.heap.size w w' := by
  have hln := itoa_len n
  have hld := itoa_len d
  have HN := Lib.hid (fun W => whCheck_split (itoa n) W (by omega) 0 (.inl ⟨⟨n, rfl, by omega⟩, rfl⟩))
  have HD := Lib.hid (fun W => whCheck_split (itoa d) W (by omega) 0 (.inl ⟨⟨d, rfl, by omega⟩, rfl⟩))
  have hsg : sgn d ≤ 0 := by unfold sgn; split <;> (try split) <;> omega
  have HSG := Lib.hid (fun W => whSign_any d W (by omega))
  clear hn hd hd0 hln hld
  generalize itoa n = a at *
  generalize itoa d = b at *
  generalize sgn d = sg at *
  go_enter Tryz.func80, Tryz.ntmps80
  go_wp2_with fail
  refine (HN.out _).mono ?_
  rintro e w1 ⟨rfl, hb1⟩
  rw [World.size_alloc] at hb1
  obtain ⟨q0, q1⟩ := rat_cells hb1
  go_wp2_with fail
  refine (HD.out _).mono ?_
  rintro e w2 ⟨rfl, hb2⟩
  have hb12 : Below (w.heap.size + 1) (w.alloc (.cells #[.string ⟨a.toArray⟩, .string ⟨b.toArray⟩] 39)) w2 := hb1.trans (hb2.mono (by have := hb1.size; simp at this; omega))
  clear q0 q1 hb1 hb2
  obtain ⟨q0, q1⟩ := rat_cells hb12
  go_wp2_with fail
  refine (HSG.out _).mono ?_
  rintro e w3 ⟨rfl, rfl⟩
  go_wp2_with fail
  go_ret
  exact ⟨rfl, below_result hb12⟩

set_option maxRecDepth 100000 in
set_option maxHeartbeats 1000000 in
theorem fracCheck_no4 (n d : Int) (w : World) (hS : Std w) (hn : (decDigits n.natAbs).length ≤ 400) (hd : (decDigits d.natAbs).length ≤ 400) (hd0 : 0 < d) (hg : Nat.gcd n.natAbs d.natAbs ≠ 1) :
    Calls Tryz.prog 80 #[.agg #[.string ⟨(itoa n).toArray⟩, .string ⟨(itoa d).toArray⟩]] w fun e w' => e = .returned (.int .i64 2) ∧ Below w.heap.size w w' := by
  have hln := itoa_len n
  have hld := itoa_len d
  have HN := Lib.hid (fun W => whCheck_split (itoa n) W (by omega) 0 (.inl ⟨⟨n, rfl, by omega⟩, rfl⟩))
  have HD := Lib.hid (fun W => whCheck_split (itoa d) W (by omega) 0 (.inl ⟨⟨d, rfl, by omega⟩, rfl⟩))
  have hsg : sgn d = 1 := by unfold sgn; rw [if_neg (by omega), if_neg (by omega)]
  have HSG := Lib.hid (fun W => whSign_any d W (by omega))
  rw [hsg] at HSG
  have HG := Lib.hid (fun W hW => whGcd_any n d W hW (by omega) (by omega))
  have hg1 := dec_eq_one (Nat.gcd n.natAbs d.natAbs)
  rw [decide_eq_false hg] at hg1
  have hg2 : (decDigits (Nat.gcd n.natAbs d.natAbs) != [49]) = true := by simp only [bne, hg1]; rfl
  generalize decDigits (Nat.gcd n.natAbs d.natAbs) = lg at *
  have HS := Lib.hid hS
  clear hsg hg hS hn hd hd0 hln hld
  generalize itoa n = a at *
  generalize itoa d = b at *
  go_enter Tryz.func80, Tryz.ntmps80
  go_wp2_with fail
  refine (HN.out _).mono ?_
  rintro e w1 ⟨rfl, hb1⟩
  rw [World.size_alloc] at hb1
  obtain ⟨q0, q1⟩ := rat_cells hb1
  go_wp2_with fail
  refine (HD.out _).mono ?_
  rintro e w2 ⟨rfl, hb2⟩
  have hb12 : Below (w.heap.size + 1) (w.alloc (.cells #[.string ⟨a.toArray⟩, .string ⟨b.toArray⟩] 39)) w2 := hb1.trans (hb2.mono (by have := hb1.size; simp at this; omega))
  clear q0 q1 hb1 hb2
  obtain ⟨q0, q1⟩ := rat_cells hb12
  go_wp2_with fail
  refine (HSG.out _).mono ?_
  rintro e w3 ⟨rfl, rfl⟩
  go_wp2_with fail
  have hs2 := HS.out.below (below_result hb12) (Nat.le_refl _)
  refine (HG.out _ hs2).mono ?_
  rintro e w4 ⟨rfl, hb4⟩
  go_wp2_with fail
  go_ret
  exact ⟨rfl, (below_result hb12).trans (hb4.mono (below_result hb12).size)⟩

theorem fracCheck_no (a b : List UInt8) (w : World) (hS : Std w) (ha : a.length ≤ 100000) (hb : b.length ≤ 100000) (h : ¬ FracB a b) :
    Calls Tryz.prog 80 #[.agg #[.string ⟨a.toArray⟩, .string ⟨b.toArray⟩]] w fun e w' => e = .returned (.int .i64 2) ∧ Below w.heap.size w w' := by
  by_cases h1 : intB a
  · by_cases h2 : intB b
    · obtain ⟨n, rfl, hn⟩ := h1
      obtain ⟨d, rfl, hd⟩ := h2
      by_cases hd0 : 0 < d
      · exact fracCheck_no4 n d w hS hn hd hd0 (fun hg => h ⟨n, d, rfl, rfl, hn, hd, hd0, hg⟩)
      · exact fracCheck_no3 n d w hn hd (by omega)
    · exact fracCheck_no2 a b w ha hb h1 h2
  · exact fracCheck_no1 a b w ha h1

set_option maxRecDepth 100000 in
set_option maxHeartbeats 2000000 in
theorem of_bad (pv : Value) (p : List Int) (la lb : List UInt8) (w : World) (hS : Std w) (hpv : IsRow w w.heap.size pv p) (hp : primeErr p = 0) (ha : la.length ≤ 100000) (hb : lb.length ≤ 100000) (h : ¬ FracB la lb) :
    Calls Tryz.prog 42 #[pv, .agg #[.string ⟨la.toArray⟩, .string ⟨lb.toArray⟩]] w fun e w' => e = .returned (.tuple #[.slice Option.none 0 0, .int .i64 2]) ∧ Below w.heap.size w w' := by
  have HPC := Lib.hid (fun W h => primeCheck_any pv p W.heap.size W h)
  rw [hp] at HPC
  have HFC := Lib.hid (fun W hW => fracCheck_no la lb W hW ha hb h)
  have HS := Lib.hid hS
  have HPV := Lib.hid hpv
  obtain ⟨AP, cp, rfl, _⟩ := hpv
  clear hS hp h
  go_enter Tryz.func42, Tryz.ntmps42
  go_wp2_with fail
  refine (HPC.out _ ((HPV.out.alloc (Nat.le_refl _) _).up (by simp))).mono ?_
  rintro e w1 ⟨rfl, hw1⟩
  have hb1 : Below (w.heap.size + 1) (w.alloc (.cells #[.string ⟨la.toArray⟩, .string ⟨lb.toArray⟩] 39)) w1 := by rw [hw1]; exact Below.refl _ _
  clear hw1
  obtain ⟨q0, q1⟩ := rat_cells hb1
  go_wp2_with fail
  have hs1 := HS.out.below (below_result hb1) (Nat.le_refl _)
  refine (HFC.out _ hs1).mono ?_
  rintro e w2 ⟨rfl, hb2⟩
  have hb12 := hb1.trans (hb2.mono (by have := hb1.size; simp at this; omega))
  go_wp2_with fail
  go_ret2
  exact ⟨rfl, below_result hb12⟩

set_option maxRecDepth 100000 in
set_option maxHeartbeats 2000000 in
theorem of_neg (pv : Value) (p : List Int) (n d : Int) (w : World) (hS : Std w) (hpv : IsRow w w.heap.size pv p) (hp : primeErr p = 0) (hn : (decDigits n.natAbs).length ≤ 400) (hd : (decDigits d.natAbs).length ≤ 400) (hd0 : 0 < d) (hg : Nat.gcd n.natAbs d.natAbs = 1) (hn0 : n ≤ 0) :
    Calls Tryz.prog 42 #[pv, .agg #[.string ⟨(itoa n).toArray⟩, .string ⟨(itoa d).toArray⟩]] w fun e w' => e = .returned (.tuple #[.slice Option.none 0 0, .int .i64 3]) ∧ Below w.heap.size w w' := by
  have HPC := Lib.hid (fun W h => primeCheck_any pv p W.heap.size W h)
  rw [hp] at HPC
  have HFC := Lib.hid (fun W hW => fracCheck_long n d W hW hn hd hd0 hg)
  have hln := itoa_len n
  have HSG := Lib.hid (fun W => fracSign_any n (itoa d) W (by omega))
  have hsg : sgn n ≤ 0 := by unfold sgn; split <;> (try split) <;> omega
  generalize sgn n = sg at *
  generalize itoa n = la at *
  generalize itoa d = lb at *
  have HS := Lib.hid hS
  have HPV := Lib.hid hpv
  obtain ⟨AP, cp, rfl, _⟩ := hpv
  clear hS hp hn hd hd0 hg hn0 hln
  go_enter Tryz.func42, Tryz.ntmps42
  go_wp2_with fail
  refine (HPC.out _ ((HPV.out.alloc (Nat.le_refl _) _).up (by simp))).mono ?_
  rintro e w1 ⟨rfl, hw1⟩
  have hb1 : Below (w.heap.size + 1) (w.alloc (.cells #[.string ⟨la.toArray⟩, .string ⟨lb.toArray⟩] 39)) w1 := by rw [hw1]; exact Below.refl _ _
  clear hw1
  obtain ⟨q0, q1⟩ := rat_cells hb1
  go_wp2_with fail
  have hs1 := HS.out.below (below_result hb1) (Nat.le_refl _)
  refine (HFC.out _ hs1).mono ?_
  rintro e w2 ⟨rfl, hb2⟩
  have hb12 := hb1.trans (hb2.mono (by have := hb1.size; simp at this; omega))
  clear q0 q1
  obtain ⟨q0, q1⟩ := rat_cells hb12
  go_wp2_with fail
  refine (HSG.out _).mono ?_
  rintro e w3 ⟨rfl, hb3⟩
  have hb13 := hb12.trans (hb3.mono (by have := hb12.size; simp at this; omega))
  go_wp2_with fail
  go_ret2
  exact ⟨rfl, below_result hb13⟩

end Go.Proofs.YtagfnnongamneaaGreatDoor
