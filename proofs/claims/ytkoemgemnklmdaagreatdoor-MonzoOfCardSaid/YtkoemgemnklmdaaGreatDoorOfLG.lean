/- MonzoOf: the walk. -/
import Derived.Test.YtkoemgemnklmdaaGreatDoorLawOfG
import Derived.Test.YtkoemgemnklmdaaGreatDoorLawsG
import Derived.Test.YtkoemgemnklmdaaGreatDoorGH
namespace Go.Proofs.YtkoemgemnklmdaaGreatDoor
open Go.RowKit Go.Lib

theorem len400 {n : Nat} (h : n < 10 ^ 13) : (decDigits n).length ≤ 13 := by rw [dec_length]; exact nDigits_le (by omega) h

theorem parts_no (a b : List UInt8) (w : World) (ha : a.length ≤ 13) (hb : b.length ≤ 13) (h : ¬ FracB a b) :
    Calls Tryz.prog 24 #[.agg #[.string ⟨a.toArray⟩, .string ⟨b.toArray⟩]] w fun e w' => e = .returned (.tuple #[.int .i64 0, .int .i64 0, .bool false]) ∧ Below w.heap.size w w' := by
  refine (parts_any a b w ha hb).mono fun e w' ⟨v, he, ho, hbw⟩ => ⟨?_, hbw⟩
  rcases ho with ⟨n, d, e1, e2, h1, h2, h3, h4, _⟩ | ⟨_, rfl⟩
  · have l1 := len400 h1
    have l2 := len400 h2
    exact absurd ⟨n, d, e1, e2, by omega, by omega, h3, h4⟩ h
  · exact he
theorem parts_yes (n d : Int) (w : World) (ha : (itoa n).length ≤ 13) (hb : (itoa d).length ≤ 13) (h : FracB (itoa n) (itoa d)) :
    Calls Tryz.prog 24 #[.agg #[.string ⟨(itoa n).toArray⟩, .string ⟨(itoa d).toArray⟩]] w fun e w' => e = .returned (.tuple #[.int .i64 n, .int .i64 d, .bool true]) ∧ Below w.heap.size w w' := by
  refine (parts_any _ _ w ha hb).mono fun e w' ⟨v, he, ho, hbw⟩ => ⟨?_, hbw⟩
  rcases ho with ⟨n', d', e1, e2, _, _, _, _, rfl⟩ | ⟨hno, _⟩
  · rw [itoa_inj e1, itoa_inj e2]; exact he
  · exact absurd h hno

theorem natAbs13 {z : Int} (h : (itoa z).length ≤ 13) : (decDigits z.natAbs).length ≤ 13 ∧ z.natAbs < 10 ^ 13 := by
  have h1 : (decDigits z.natAbs).length ≤ 13 := by
    rcases itoa_cases z with ⟨_, e⟩ | ⟨_, e⟩
    · rw [e, List.length_cons] at h; omega
    · rw [e] at h; exact h
  exact ⟨h1, dec13 h1⟩

theorem of_good {p : List Int} {n d : Nat} {e : Ending} {w' : World} (hL : leftTo p n p.length = 1 ∧ leftTo p d p.length = 1) (h : OfPost p n d e w') : ∃ A c, e = .returned (.tuple #[.slice A (expsTo p n d p.length).length c, .int .i64 0]) ∧ IsRow w' w'.heap.size (.slice A (expsTo p n d p.length).length c) (expsTo p n d p.length) := by
  rcases h with ⟨_, _, v, rfl, hr⟩ | ⟨hn, _⟩
  · have hr' := hr
    obtain ⟨A, c, rfl, _⟩ := hr'
    exact ⟨A, c, rfl, hr⟩
  · exact absurd hL hn
theorem of_none {p : List Int} {n d : Nat} {e : Ending} {w' : World} (hL : ¬ (leftTo p n p.length = 1 ∧ leftTo p d p.length = 1)) (h : OfPost p n d e w') : e = .returned (.tuple #[.slice Option.none 0 0, .int .i64 25]) := by
  rcases h with ⟨h1, h2, _⟩ | ⟨_, rfl⟩
  · exact absurd ⟨h1, h2⟩ hL
  · rfl

theorem nil_row (w : World) : IsRow w w.heap.size (.slice Option.none ([] : List Int).length 0) [] :=
  IsRow.of_own (base := 0) (World.ownsRow_nil _ _ _ _)

set_option maxRecDepth 100000 in
set_option maxHeartbeats 4000000 in
theorem ofL_walk (n0 : Nat) (s1 t1 : List UInt8) (w : World) (hS : Std w) (hn : n0 ≤ 255) (hs : s1.length ≤ maxLen) (ht : t1.length ≤ maxLen) :
    Calls Tryz.prog 4 #[.int .u8 n0, .agg #[.string ⟨s1.toArray⟩, .string ⟨t1.toArray⟩]] w fun e w' => e = .returned (.bool true) ∧ Below w.heap.size w w' := by
  have HS := Lib.hid hS
  have HM := Lib.hid (fun W => primes_any n0 W hn)
  have HK := Lib.hid (fun W hW => known_any W hW)
  have H0 : Box (primeErr (primesOf n0) = 0) := ⟨(primesOf_ok n0).1⟩
  have hp4 := (primesOf_ok n0).2
  have hsm : (s1.length : Int) ≤ 9223372036854775807 := by unfold maxLen at hs; omega
  have htm : (t1.length : Int) ≤ 9223372036854775807 := by unfold maxLen at ht; omega
  clear hS
  go_enter Tryz.func4, Tryz.ntmps4
  go_wp2_with fail
  obtain ⟨W3, hW3⟩ : ∃ W3 : World, W3 = w.alloc (.cells #[.string ⟨s1.toArray⟩, .string ⟨t1.toArray⟩] 38) := ⟨_, rfl⟩
  rw [← hW3]
  have hbw : Below w.heap.size w W3 := by rw [hW3]; exact (Below.refl _ _).alloc (Nat.le_refl _) _
  have CP : Hid (Cells W3 w.heap.size 38 [.string ⟨s1.toArray⟩, .string ⟨t1.toArray⟩]) := Lib.hid (by rw [hW3]; exact Cells.new w _ _)
  clear hW3
  replace HS := Lib.hid (HS.out.below hbw (Nat.le_refl _))
  go_wp2_with fail
  refine (HK.out _ HS.out).mono ?_
  rintro e wk1 ⟨rfl, hbk⟩
  replace CP := Lib.hid (CP.out.below hbk CP.out.lt)
  replace HS := Lib.hid (HS.out.below hbk (Nat.le_refl _))
  replace hbw := hbw.trans (hbk.mono hbw.size)
  clear hbk
  have q0 := CP.out.cell 0
  have q1 := CP.out.cell 1
  simp only [List.getElem?_cons_succ, List.getElem?_cons_zero] at q0 q1
  by_cases hs13 : 13 < s1.length
  · skip
    have hi : (13 : Int) < (s1.length : Int) := by omega
    clear hs ht
    go_wp2_with fail
    refine (HK.out _ HS.out).mono ?_
    rintro e wk2 ⟨rfl, hbk⟩
    replace CP := Lib.hid (CP.out.below hbk CP.out.lt)
    replace HS := Lib.hid (HS.out.below hbk (Nat.le_refl _))
    replace hbw := hbw.trans (hbk.mono hbw.size)
    clear hbk
    go_wp2_with fail
    go_ret
    exact ⟨rfl, hbw⟩
  by_cases ht13 : 13 < t1.length
  · skip
    have hi2 : (s1.length : Int) ≤ 13 := by omega
    have hi : (13 : Int) < (t1.length : Int) := by omega
    clear hs ht
    go_wp2_with fail
    refine (HK.out _ HS.out).mono ?_
    rintro e wk3 ⟨rfl, hbk⟩
    replace CP := Lib.hid (CP.out.below hbk CP.out.lt)
    replace HS := Lib.hid (HS.out.below hbk (Nat.le_refl _))
    replace hbw := hbw.trans (hbk.mono hbw.size)
    clear hbk
    go_wp2_with fail
    go_ret
    exact ⟨rfl, hbw⟩
  have hi : (s1.length : Int) ≤ 13 := by omega
  have hi2 : (t1.length : Int) ≤ 13 := by omega
  have HLN : Box (s1.length ≤ 13 ∧ t1.length ≤ 13) := ⟨by omega, by omega⟩
  clear hs ht hsm htm hs13 ht13
  go_wp2_with fail
  refine (HM.out _).mono ?_
  rintro e wk4 ⟨⟨AP, cp, rfl, hp⟩, hbk⟩
  clear q0 q1
  replace CP := Lib.hid (CP.out.below hbk CP.out.lt)
  replace HS := Lib.hid (HS.out.below hbk (Nat.le_refl _))
  replace hbw := hbw.trans (hbk.mono hbw.size)
  have HP := Lib.hid hp
  clear hp hbk HM HK hi hi2
  have q0 := CP.out.cell 0
  have q1 := CP.out.cell 1
  simp only [List.getElem?_cons_succ, List.getElem?_cons_zero] at q0 q1
  generalize primesOf n0 = p at *
  by_cases hF : FracB s1 t1
  · obtain ⟨n, d, rfl, rfl, h1, h2, h3, h4⟩ := hF
    have F2 := Lib.hid (fun W => parts_yes n d W HLN.out.1 HLN.out.2 ⟨n, d, rfl, rfl, h1, h2, h3, h4⟩)
    have hna := natAbs13 HLN.out.1
    have hda := natAbs13 HLN.out.2
    by_cases hn0 : n ≤ 0
    · skip
      have F1 := Lib.hid (fun W hW hp => of_neg (.slice AP p.length cp) p n d W hW hp H0.out h1 h2 h3 h4 hn0)
      have F3 := Lib.hid (fun W hp => lawOf_neg (.slice AP p.length cp) p n d W hp hn0)
      clear h1 h2 h3 h4 hna hda hn0
      generalize itoa n = s1 at *
      generalize itoa d = t1 at *
      go_wp2_with fail
      refine (F1.out _ HS.out HP.out).mono ?_
      rintro e wk5 ⟨rfl, hbk⟩
      replace HP := Lib.hid (HP.out.lift hbk)
      replace CP := Lib.hid (CP.out.below hbk CP.out.lt)
      replace HS := Lib.hid (HS.out.below hbk (Nat.le_refl _))
      replace hbw := hbw.trans (hbk.mono hbw.size)
      clear hbk
      clear q0 q1
      have q0 := CP.out.cell 0
      have q1 := CP.out.cell 1
      simp only [List.getElem?_cons_succ, List.getElem?_cons_zero] at q0 q1
      go_wp2_with fail
      refine (F2.out _).mono ?_
      rintro e wk6 ⟨rfl, hbk⟩
      replace HP := Lib.hid (HP.out.lift hbk)
      replace CP := Lib.hid (CP.out.below hbk CP.out.lt)
      replace HS := Lib.hid (HS.out.below hbk (Nat.le_refl _))
      replace hbw := hbw.trans (hbk.mono hbw.size)
      clear hbk
      clear q0 q1
      go_wp2_with fail
      refine (F3.out _ HP.out).mono ?_
      rintro e wk7 ⟨rfl, hbk⟩
      replace HP := Lib.hid (HP.out.lift hbk)
      replace HS := Lib.hid (HS.out.below hbk (Nat.le_refl _))
      replace hbw := hbw.trans (hbk.mono hbw.size)
      clear hbk
      go_wp2_with fail
      refine (same_eq (nil_row _) (nil_row _) rfl).mono ?_
      rintro e wk8 ⟨rfl, hbk⟩
      replace HP := Lib.hid (HP.out.lift hbk)
      replace HS := Lib.hid (HS.out.below hbk (Nat.le_refl _))
      replace hbw := hbw.trans (hbk.mono hbw.size)
      clear hbk
      go_wp2_with fail
      go_ret
      exact ⟨rfl, hbw⟩
    · obtain ⟨N, rfl⟩ : ∃ N : Nat, n = (N : Int) := ⟨n.toNat, by omega⟩
      obtain ⟨D, rfl⟩ : ∃ D : Nat, d = (D : Int) := ⟨d.toNat, by omega⟩
      rw [Int.natAbs_natCast] at hna hda h4 h1 h2
      rw [Int.natAbs_natCast] at h4
      have hN0 : 0 < N := by omega
      have hD0 : 0 < D := by omega
      have hpr := right_primes H0.out
      have F1 := Lib.hid (fun W hW hp => of_yes (.slice AP p.length cp) p N D W hW hp H0.out (by omega) (by omega) hN0 hD0 h4)
      have F3 := Lib.hid (fun W hp => lawOf_any (.slice AP p.length cp) p N D W hp hpr.1 hpr.2.2 hna.2 hda.2 hN0 hD0)
      clear h1 h2 h3 h4 hna hda hn0 hN0 hD0 hpr
      rw [← itoa_nat N, ← itoa_nat D] at F1
      generalize itoa (N : Int) = s1 at *
      generalize itoa (D : Int) = t1 at *
      by_cases hL : leftTo p N p.length = 1 ∧ leftTo p D p.length = 1
      · skip
        have G1 := Lib.hid (fun W hW hp => (F1.out W hW hp).mono fun e w' h => And.intro (of_good hL h.1) h.2)
        have G3 := Lib.hid (fun W hp => (F3.out W hp).mono fun e w' h => And.intro (of_good hL h.1) h.2)
        clear F1 F3 hL
        generalize expsTo p N D p.length = x at *
        go_wp2_with fail
        refine (G1.out _ HS.out HP.out).mono ?_
        rintro e wk9 ⟨⟨AX, cx, rfl, hx⟩, hbk⟩
        clear q0 q1
        replace HP := Lib.hid (HP.out.lift hbk)
        replace CP := Lib.hid (CP.out.below hbk CP.out.lt)
        replace HS := Lib.hid (HS.out.below hbk (Nat.le_refl _))
        replace hbw := hbw.trans (hbk.mono hbw.size)
        have HX := Lib.hid hx
        clear hx hbk
        have q0 := CP.out.cell 0
        have q1 := CP.out.cell 1
        simp only [List.getElem?_cons_succ, List.getElem?_cons_zero] at q0 q1
        go_wp2_with fail
        refine (F2.out _).mono ?_
        rintro e wk10 ⟨rfl, hbk⟩
        replace HP := Lib.hid (HP.out.lift hbk)
        replace HX := Lib.hid (HX.out.lift hbk)
        replace CP := Lib.hid (CP.out.below hbk CP.out.lt)
        replace HS := Lib.hid (HS.out.below hbk (Nat.le_refl _))
        replace hbw := hbw.trans (hbk.mono hbw.size)
        clear hbk
        clear q0 q1 CP
        go_wp2_with fail
        refine (G3.out _ HP.out).mono ?_
        rintro e wk11 ⟨⟨AY, cy, rfl, hy⟩, hbk⟩
        replace HP := Lib.hid (HP.out.lift hbk)
        replace HX := Lib.hid (HX.out.lift hbk)
        replace HS := Lib.hid (HS.out.below hbk (Nat.le_refl _))
        replace hbw := hbw.trans (hbk.mono hbw.size)
        have HY := Lib.hid hy
        clear hy hbk
        go_wp2_with fail
        refine (same_eq HX.out HY.out rfl).mono ?_
        rintro e wk12 ⟨rfl, hbk⟩
        replace HP := Lib.hid (HP.out.lift hbk)
        replace HX := Lib.hid (HX.out.lift hbk)
        replace HY := Lib.hid (HY.out.lift hbk)
        replace HS := Lib.hid (HS.out.below hbk (Nat.le_refl _))
        replace hbw := hbw.trans (hbk.mono hbw.size)
        clear hbk
        go_wp2_with fail
        go_ret
        exact ⟨rfl, hbw⟩
      · skip
        have G1 := Lib.hid (fun W hW hp => (F1.out W hW hp).mono fun e w' h => And.intro (of_none hL h.1) h.2)
        have G3 := Lib.hid (fun W hp => (F3.out W hp).mono fun e w' h => And.intro (of_none hL h.1) h.2)
        clear F1 F3 hL
        go_wp2_with fail
        refine (G1.out _ HS.out HP.out).mono ?_
        rintro e wk13 ⟨rfl, hbk⟩
        replace HP := Lib.hid (HP.out.lift hbk)
        replace CP := Lib.hid (CP.out.below hbk CP.out.lt)
        replace HS := Lib.hid (HS.out.below hbk (Nat.le_refl _))
        replace hbw := hbw.trans (hbk.mono hbw.size)
        clear hbk
        clear q0 q1
        have q0 := CP.out.cell 0
        have q1 := CP.out.cell 1
        simp only [List.getElem?_cons_succ, List.getElem?_cons_zero] at q0 q1
        go_wp2_with fail
        refine (F2.out _).mono ?_
        rintro e wk14 ⟨rfl, hbk⟩
        replace HP := Lib.hid (HP.out.lift hbk)
        replace CP := Lib.hid (CP.out.below hbk CP.out.lt)
        replace HS := Lib.hid (HS.out.below hbk (Nat.le_refl _))
        replace hbw := hbw.trans (hbk.mono hbw.size)
        clear hbk
        clear q0 q1 CP
        go_wp2_with fail
        refine (G3.out _ HP.out).mono ?_
        rintro e wk15 ⟨rfl, hbk⟩
        replace HP := Lib.hid (HP.out.lift hbk)
        replace HS := Lib.hid (HS.out.below hbk (Nat.le_refl _))
        replace hbw := hbw.trans (hbk.mono hbw.size)
        clear hbk
        go_wp2_with fail
        refine (same_eq (nil_row _) (nil_row _) rfl).mono ?_
        rintro e wk16 ⟨rfl, hbk⟩
        replace HP := Lib.hid (HP.out.lift hbk)
        replace HS := Lib.hid (HS.out.below hbk (Nat.le_refl _))
        replace hbw := hbw.trans (hbk.mono hbw.size)
        clear hbk
        go_wp2_with fail
        go_ret
        exact ⟨rfl, hbw⟩
  · skip
    have F1 := Lib.hid (fun W hW hp => of_bad (.slice AP p.length cp) p s1 t1 W hW hp H0.out (by have := HLN.out; omega) (by have := HLN.out; omega) hF)
    have F2 := Lib.hid (fun W => parts_no s1 t1 W HLN.out.1 HLN.out.2 hF)
    clear hF
    go_wp2_with fail
    refine (F1.out _ HS.out HP.out).mono ?_
    rintro e wk17 ⟨rfl, hbk⟩
    replace HP := Lib.hid (HP.out.lift hbk)
    replace CP := Lib.hid (CP.out.below hbk CP.out.lt)
    replace HS := Lib.hid (HS.out.below hbk (Nat.le_refl _))
    replace hbw := hbw.trans (hbk.mono hbw.size)
    clear hbk
    clear q0 q1
    have q0 := CP.out.cell 0
    have q1 := CP.out.cell 1
    simp only [List.getElem?_cons_succ, List.getElem?_cons_zero] at q0 q1
    go_wp2_with fail
    refine (F2.out _).mono ?_
    rintro e wk18 ⟨rfl, hbk⟩
    replace HP := Lib.hid (HP.out.lift hbk)
    replace CP := Lib.hid (CP.out.below hbk CP.out.lt)
    replace HS := Lib.hid (HS.out.below hbk (Nat.le_refl _))
    replace hbw := hbw.trans (hbk.mono hbw.size)
    clear hbk
    go_wp2_with fail
    go_ret
    exact ⟨rfl, hbw⟩

end Go.Proofs.YtkoemgemnklmdaaGreatDoor
