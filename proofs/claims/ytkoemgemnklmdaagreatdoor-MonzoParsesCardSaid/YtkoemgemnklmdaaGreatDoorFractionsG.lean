/- MonzoFractions: the walk. -/
import Derived.Test.YtkoemgemnklmdaaGreatDoorHeightsG
import Derived.Test.YtkoemgemnklmdaaGreatDoorOfBG
import Derived.Test.YtkoemgemnklmdaaGreatDoorLawsG
namespace Go.Proofs.YtkoemgemnklmdaaGreatDoor
open Go.RowKit Go.Lib

theorem pp_cop_left (p : List Int) (f : Nat → Nat) (r : Nat) : ∀ n, (∀ i, i < n → Nat.Coprime ((p[i]?.getD 0).toNat ^ f i) r) → Nat.Coprime (pp p f 0 n) r
  | 0, _ => Nat.coprime_one_left r
  | n + 1, h => by
    rw [pp, Nat.zero_add]
    exact (pp_cop_left p f r n fun i h1 => h i (by omega)).mul_left (h n (by omega))
theorem pp_cop_right (p : List Int) (g : Nat → Nat) (r : Nat) : ∀ n, (∀ i, i < n → Nat.Coprime r ((p[i]?.getD 0).toNat ^ g i)) → Nat.Coprime r (pp p g 0 n)
  | 0, _ => Nat.coprime_one_right r
  | n + 1, h => by
    rw [pp, Nat.zero_add]
    exact (pp_cop_right p g r n fun i h1 => h i (by omega)).mul_right (h n (by omega))
theorem pp_disj {p : List Int} (hp : Primed p) (f g : Nat → Nat) (h : ∀ i, f i = 0 ∨ g i = 0) : Nat.Coprime (pp p f 0 p.length) (pp p g 0 p.length) := by
  refine pp_cop_left p f _ _ fun i hi => pp_cop_right p g _ _ fun j hj => ?_
  rcases h i with h0 | h0
  · rw [h0, Nat.pow_zero]; exact Nat.coprime_one_left _
  · rcases Nat.lt_trichotomy i j with hij | rfl | hij
    · exact ((hp.cop i j hij hj).pow_left _).pow_right _
    · rw [h0, Nat.pow_zero]; exact Nat.coprime_one_right _
    · exact (((hp.cop j i hij hi).symm).pow_left _).pow_right _
theorem num_den_coprime {p x : List Int} (hp : Primed p) (h : x.length = p.length) : Nat.gcd (num p x) (den p x) = 1 := by
  rw [num_pp h, den_pp h]
  exact pp_disj hp _ _ fun i => by unfold upE downE; omega

/-- monzo.Of of the fraction of a right interval. -/
theorem of_sides {pv : Value} {p x : List Int} {w : World} (hS : Std w) (hpv : IsRow w w.heap.size pv p) (hp : primeErr p = 0) (hx : SmallRow p 9 x) :
    Calls Tryz.prog 23 #[pv, .agg #[.string ⟨(decDigits (num p x)).toArray⟩, .string ⟨(decDigits (den p x)).toArray⟩]] w fun e w' => (∃ A c, e = .returned (.tuple #[.slice A x.length c, .int .i64 0]) ∧ IsRow w' w'.heap.size (.slice A x.length c) x) ∧ Below w.heap.size w w' := by
  have hpp := primed hp
  obtain ⟨e1, e2, e3⟩ := of_num_den hpp hx.len
  obtain ⟨l1, l2⟩ := num_len9 hp hx
  refine (of_long pv p (num p x) (den p x) w hS hpv hp (by omega) (by omega) (num_pos hpp hx.len) (den_pos hpp hx.len) (num_den_coprime hpp hx.len) (by rw [e3]; exact hx.chk hp (by omega))).mono fun e w' ⟨ho, hb⟩ => ⟨?_, hb⟩
  rcases ho with ⟨_, _, v, rfl, hr⟩ | ⟨hn, _⟩
  · rw [e3] at hr
    have hr' := hr
    obtain ⟨A, c, rfl, _⟩ := hr'
    exact ⟨A, c, rfl, hr⟩
  · exact absurd ⟨e1, e2⟩ hn

theorem rat_same (a b : List UInt8) (w : World) : (binOp .eql 38 (.agg #[.string ⟨a.toArray⟩, .string ⟨b.toArray⟩]) (.agg #[.string ⟨a.toArray⟩, .string ⟨b.toArray⟩])).run Tryz.prog w = .ok (.bool true) w := by
  have hS : Tryz.prog.underlying 38 = some (.struct (Tryz.prog.fieldsOf 38)) := by kernel_rfl
  have hp : Tryz.prog.stoodInHeld 38 = false := by kernel_rfl
  rw [run_eql_struct, show (10000 : Nat) = 9999 + 1 from rfl, run_equalIn_agg w 9999 38 _ _ hS hp]
  simp only [Program.fieldsOf, Tryz.underlying38]
  have u := Tryz.underlying36
  go_simp

set_option maxRecDepth 100000 in
set_option maxHeartbeats 4000000 in
theorem fractions_walk (n0 : Nat) (a0 b0 c0 d0 : Int) (w : World) (hS : Std w) (hn : n0 ≤ 255) (h4 : Four [a0, b0, c0, d0]) :
    Calls Tryz.prog 5 #[.agg #[.int .u8 n0, .int .i8 a0, .int .i8 b0, .int .i8 c0, .int .i8 d0]] w fun e w' => e = .returned (.bool true) ∧ Below w.heap.size w w' := by
  have HS := Lib.hid hS
  have HM := Lib.hid (fun W => make_any n0 a0 b0 c0 d0 W hn h4)
  have HK := Lib.hid (fun W hW => known_any W hW)
  have h0 := (primesOf_ok n0).1
  have hp4 := (primesOf_ok n0).2
  clear hS h4
  generalize hx : [a0, b0, c0, d0] = lx at *
  clear hx
  go_enter Tryz.func5, Tryz.ntmps5
  go_wp2_with fail
  obtain ⟨W3, hW3⟩ : ∃ W3 : World, W3 = w.alloc (.cells #[.int .u8 n0, .int .i8 a0, .int .i8 b0, .int .i8 c0, .int .i8 d0] 50) := ⟨_, rfl⟩
  rw [← hW3]
  have hbw : Below w.heap.size w W3 := by rw [hW3]; exact (Below.refl _ _).alloc (Nat.le_refl _) _
  have CP : Hid (Cells W3 w.heap.size 50 [.int .u8 n0, .int .i8 a0, .int .i8 b0, .int .i8 c0, .int .i8 d0]) := Lib.hid (by rw [hW3]; exact Cells.new w _ _)
  clear hW3
  replace HS := Lib.hid (HS.out.below hbw (Nat.le_refl _))
  go_wp2_with fail
  refine (HK.out _ HS.out).mono ?_
  rintro e wk1 ⟨rfl, hbk⟩
  replace CP := Lib.hid (CP.out.below hbk CP.out.lt)
  replace HS := Lib.hid (HS.out.below hbk (Nat.le_refl _))
  replace hbw := hbw.trans (hbk.mono hbw.size)
  clear hbk
  have q0 := CP.out.cell 0
  have q1 := CP.out.cell 1
  have q2 := CP.out.cell 2
  have q3 := CP.out.cell 3
  have q4 := CP.out.cell 4
  simp only [List.getElem?_cons_succ, List.getElem?_cons_zero] at q0 q1 q2 q3 q4
  go_wp2_with fail
  refine (HM.out _).mono ?_
  rintro e wk2 ⟨⟨AP, cp, AX, cx, rfl, hp, hx⟩, hbk⟩
  clear q0 q1 q2 q3 q4 CP
  replace HS := Lib.hid (HS.out.below hbk (Nat.le_refl _))
  replace hbw := hbw.trans (hbk.mono hbw.size)
  have HP := Lib.hid hp
  have HX := Lib.hid hx
  clear hp hx hbk HM HK
  have SX : Box (SmallRow (primesOf n0) 9 (ivlTo lx (primesOf n0).length)) := ⟨ivl_small⟩
  have H0 : Box (primeErr (primesOf n0) = 0) := ⟨h0⟩
  clear h0
  generalize ivlTo lx (primesOf n0).length = x at *
  generalize primesOf n0 = p at *
  have HC : Box (chkAll p [x] = 0) := ⟨SX.out.chk H0.out (by omega)⟩
  obtain ⟨hl1, hl2⟩ := num_len9 H0.out SX.out
  have E1 : Box (fracOut (decDigits (num p x)) (decDigits (den p x)) = .tuple #[.agg #[.string ⟨(decDigits (num p x)).toArray⟩, .string ⟨(decDigits (den p x)).toArray⟩], .int .i64 0]) := ⟨by unfold fracOut; rw [if_pos (by omega)]⟩
  have F1 := Lib.hid (fun W hW hp hx => lawValue_any (.slice AP p.length cp) (.slice AX x.length cx) p x W hW hp hx (right_of HC.out))
  have F2 := Lib.hid (fun W hW hp hx => fraction_any (.slice AP p.length cp) (.slice AX x.length cx) p x W hW hp hx HC.out)
  rw [E1.out] at F2
  have F3 := Lib.hid (fun W hW hp hx => monText_yes (.slice AP p.length cp) (.slice AX x.length cx) p x (decDigits (num p x)) (decDigits (den p x)) W (by omega) (by omega) ⟨_, _, rfl⟩ ⟨_, _, rfl⟩ (Lib.hid (F2.out W hW hp hx)))
  have F4 := Lib.hid (fun W hW hp => of_sides (pv := .slice AP p.length cp) (w := W) hW hp H0.out SX.out)
  have F5 := Lib.hid (fun W => fracText_any (decDigits (num p x)) (decDigits (den p x)) W (by omega) (by omega))
  clear hl1 hl2 E1
  generalize decDigits (num p x) = la at *
  generalize decDigits (den p x) = lb at *
  generalize ratText la lb = lt at *
  go_wp2_with fail
  refine (F1.out _ HS.out HP.out HX.out).mono ?_
  rintro e wk3 ⟨rfl, hbk⟩
  replace HP := Lib.hid (HP.out.lift hbk)
  replace HX := Lib.hid (HX.out.lift hbk)
  replace HS := Lib.hid (HS.out.below hbk (Nat.le_refl _))
  replace hbw := hbw.trans (hbk.mono hbw.size)
  clear hbk
  go_wp2_with fail
  refine (F2.out _ HS.out HP.out HX.out).mono ?_
  rintro e wk4 ⟨rfl, hbk⟩
  replace HP := Lib.hid (HP.out.lift hbk)
  replace HX := Lib.hid (HX.out.lift hbk)
  replace HS := Lib.hid (HS.out.below hbk (Nat.le_refl _))
  replace hbw := hbw.trans (hbk.mono hbw.size)
  clear hbk
  go_wp2_with fail
  have hbk : Below wk4.heap.size wk4 (wk4.alloc (.cells #[.string ⟨la.toArray⟩, .string ⟨lb.toArray⟩] 38)) := (Below.refl _ _).alloc (Nat.le_refl _) _
  have CQ := Lib.hid (Cells.new wk4 38 #[.string ⟨la.toArray⟩, .string ⟨lb.toArray⟩])
  generalize hWQ : wk4.alloc (.cells #[.string ⟨la.toArray⟩, .string ⟨lb.toArray⟩] 38) = WQ at *
  clear hWQ
  replace HP := Lib.hid (HP.out.lift hbk)
  replace HX := Lib.hid (HX.out.lift hbk)
  replace HS := Lib.hid (HS.out.below hbk (Nat.le_refl _))
  replace hbw := hbw.trans (hbk.mono hbw.size)
  clear hbk
  go_wp2_with fail
  refine (F3.out _ HS.out HP.out HX.out).mono ?_
  rintro e wk5 ⟨rfl, hbk⟩
  replace HP := Lib.hid (HP.out.lift hbk)
  replace HX := Lib.hid (HX.out.lift hbk)
  replace CQ := Lib.hid (CQ.out.below hbk CQ.out.lt)
  replace HS := Lib.hid (HS.out.below hbk (Nat.le_refl _))
  replace hbw := hbw.trans (hbk.mono hbw.size)
  clear hbk
  have q0 := CQ.out.cell 0
  have q1 := CQ.out.cell 1
  simp only [List.getElem?_cons_succ, List.getElem?_cons_zero] at q0 q1
  go_wp2_with fail
  refine (F4.out _ HS.out HP.out).mono ?_
  rintro e wk6 ⟨⟨AY, cy, rfl, hy⟩, hbk⟩
  replace HP := Lib.hid (HP.out.lift hbk)
  replace HX := Lib.hid (HX.out.lift hbk)
  replace CQ := Lib.hid (CQ.out.below hbk CQ.out.lt)
  replace HS := Lib.hid (HS.out.below hbk (Nat.le_refl _))
  replace hbw := hbw.trans (hbk.mono hbw.size)
  have HY := Lib.hid hy
  clear hy hbk q0 q1
  have q0 := CQ.out.cell 0
  have q1 := CQ.out.cell 1
  simp only [List.getElem?_cons_succ, List.getElem?_cons_zero] at q0 q1
  have hre := rat_same la lb
  go_wp2_with fail
  refine (F5.out _).mono ?_
  rintro e wk7 ⟨rfl, hbk⟩
  replace HP := Lib.hid (HP.out.lift hbk)
  replace HX := Lib.hid (HX.out.lift hbk)
  replace HY := Lib.hid (HY.out.lift hbk)
  replace HS := Lib.hid (HS.out.below hbk (Nat.le_refl _))
  replace hbw := hbw.trans (hbk.mono hbw.size)
  clear hbk
  go_wp2_with fail
  refine (same_eq HX.out HY.out rfl).mono ?_
  rintro e wk8 ⟨rfl, hbk⟩
  replace HP := Lib.hid (HP.out.lift hbk)
  replace HX := Lib.hid (HX.out.lift hbk)
  replace HY := Lib.hid (HY.out.lift hbk)
  replace HS := Lib.hid (HS.out.below hbk (Nat.le_refl _))
  replace hbw := hbw.trans (hbk.mono hbw.size)
  clear hbk
  go_wp2_with fail
  go_ret
  exact ⟨rfl, hbw⟩

end Go.Proofs.YtkoemgemnklmdaaGreatDoor
