/- MonzoOrders: the walk. -/
import Derived.Test.YtkoemgemnklmdaaGreatDoorLawsG
import Derived.Test.YtkoemgemnklmdaaGreatDoorGI
namespace Go.Proofs.YtkoemgemnklmdaaGreatDoor
open Go.RowKit Go.Lib

set_option maxHeartbeats 400000 in
theorem sign_ok (pv xv : Value) (p x : List Int) (w : World) (hS : Std w) (hp : IsRow w w.heap.size pv p) (hx : IsRow w w.heap.size xv x) (h : chkAll p [x] = 0) :
    Calls Tryz.prog 36 #[pv, xv] w fun e w' => e = .returned (.tuple #[.int .i64 (cmpN (num p x) (den p x)), .int .i64 0]) ∧ Below w.heap.size w w' := by
  have HC := Lib.hid (check_any _ _ p x w hp hx)
  rw [h] at HC
  have hr := right_of h
  have HSD := Lib.hid (fun W hW hp hx => sides_any pv xv p x W hW hp hx hr)
  obtain ⟨hl1, hl2⟩ := num_len hr
  have HCM := Lib.hid (fun W => compare_any (num p x) (den p x) W (by omega) (by omega))
  have HS := Lib.hid hS
  have HP := Lib.hid hp
  have HX := Lib.hid hx
  obtain ⟨AP, cp, rfl⟩ := hp.shape
  obtain ⟨AX, cx, rfl⟩ := hx.shape
  clear hS hp hx h hr hl1 hl2
  go_enter Tryz.func36, Tryz.ntmps36
  go_wp2_with fail
  refine HC.out.mono ?_
  rintro e w1 ⟨rfl, hb1⟩
  go_wp2_with fail
  refine (HSD.out _ (HS.out.below hb1 (Nat.le_refl _)) (HP.out.lift hb1) (HX.out.lift hb1)).mono ?_
  rintro e w2 ⟨rfl, hb2⟩
  go_wp2_with fail
  refine (HCM.out _).mono ?_
  rintro e wk1 ⟨rfl, rfl⟩
  go_wp2_with fail
  go_ret2
  exact ⟨rfl, hb1.trans (hb2.mono hb1.size)⟩

set_option maxRecDepth 100000 in
set_option maxHeartbeats 4000000 in
theorem orders_walk (n0 : Nat) (a0 b0 c0 d0 a1 b1 c1 d1 a2 b2 c2 d2 : Int) (w : World) (hS : Std w) (hn : n0 ≤ 255) (h4 : Four [a0, b0, c0, d0]) (h5 : Four [a1, b1, c1, d1]) (h6 : Four [a2, b2, c2, d2]) :
    Calls Tryz.prog 9 #[.agg #[.int .u8 n0, .int .i8 a0, .int .i8 b0, .int .i8 c0, .int .i8 d0], .agg #[.int .i8 a1, .int .i8 b1, .int .i8 c1, .int .i8 d1], .agg #[.int .i8 a2, .int .i8 b2, .int .i8 c2, .int .i8 d2]] w fun e w' => e = .returned (.bool true) ∧ Below w.heap.size w w' := by
  have HS := Lib.hid hS
  have HM := Lib.hid (fun W => make_any n0 a0 b0 c0 d0 W hn h4)
  have HK := Lib.hid (fun W hW => known_any W hW)
  have HI1 := Lib.hid (fun W A cp => interval_any A cp (primesOf n0).length a1 b1 c1 d1 W (primesOf_ok n0).2 h5)
  have HI2 := Lib.hid (fun W A cp => interval_any A cp (primesOf n0).length a2 b2 c2 d2 W (primesOf_ok n0).2 h6)
  have h0 := (primesOf_ok n0).1
  clear hS h4 h5 h6
  generalize hx : [a0, b0, c0, d0] = lx at *
  generalize hy : [a1, b1, c1, d1] = ly at *
  generalize hz : [a2, b2, c2, d2] = lz at *
  have HEQ : Box (lx = lx) := ⟨rfl⟩
  clear hx hy hz
  go_enter Tryz.func9, Tryz.ntmps9
  go_wp2_with fail
  obtain ⟨W3, hW3⟩ : ∃ W3 : World, W3 = ((w.alloc (.cells #[.int .u8 n0, .int .i8 a0, .int .i8 b0, .int .i8 c0, .int .i8 d0] 50)).alloc (.cells #[.int .i8 a1, .int .i8 b1, .int .i8 c1, .int .i8 d1] 48)).alloc (.cells #[.int .i8 a2, .int .i8 b2, .int .i8 c2, .int .i8 d2] 48) := ⟨_, rfl⟩
  rw [← hW3]
  have hbw : Below w.heap.size w W3 := by rw [hW3]; exact (((Below.refl _ _).alloc (Nat.le_refl _) _).alloc (by simp) _).alloc (by simp; omega) _
  have CP : Hid (Cells W3 w.heap.size 50 [.int .u8 n0, .int .i8 a0, .int .i8 b0, .int .i8 c0, .int .i8 d0]) := Lib.hid (by rw [hW3]; exact ((Cells.new w _ _).alloc _).alloc _)
  have CL : Hid (Cells W3 (w.heap.size + 1) 48 [.int .i8 a1, .int .i8 b1, .int .i8 c1, .int .i8 d1]) := Lib.hid (by rw [hW3]; have h := (Cells.new (w.alloc (.cells #[.int .u8 n0, .int .i8 a0, .int .i8 b0, .int .i8 c0, .int .i8 d0] 50)) 48 #[.int .i8 a1, .int .i8 b1, .int .i8 c1, .int .i8 d1]); rw [World.size_alloc] at h; exact h.alloc _)
  have CM : Hid (Cells W3 (w.heap.size + 1 + 1) 48 [.int .i8 a2, .int .i8 b2, .int .i8 c2, .int .i8 d2]) := Lib.hid (by rw [hW3]; have h := (Cells.new ((w.alloc (.cells #[.int .u8 n0, .int .i8 a0, .int .i8 b0, .int .i8 c0, .int .i8 d0] 50)).alloc (.cells #[.int .i8 a1, .int .i8 b1, .int .i8 c1, .int .i8 d1] 48)) 48 #[.int .i8 a2, .int .i8 b2, .int .i8 c2, .int .i8 d2]); rw [World.size_alloc, World.size_alloc] at h; exact h)
  clear hW3
  replace HS := Lib.hid (HS.out.below hbw (Nat.le_refl _))
  go_wp2_with fail
  refine (HK.out _ HS.out).mono ?_
  rintro e wk2 ⟨rfl, hbk⟩
  replace CP := Lib.hid (CP.out.below hbk CP.out.lt)
  replace CL := Lib.hid (CL.out.below hbk CL.out.lt)
  replace CM := Lib.hid (CM.out.below hbk CM.out.lt)
  replace HS := Lib.hid (HS.out.below hbk (Nat.le_refl _))
  replace hbw := hbw.trans (hbk.mono hbw.size)
  clear hbk
  have q0 := CP.out.cell 0
  have q1 := CP.out.cell 1
  have q2 := CP.out.cell 2
  have q3 := CP.out.cell 3
  have q4 := CP.out.cell 4
  simp only [List.getElem?_cons_succ, List.getElem?_cons_zero] at q0 q1 q2 q3 q4
  go_wp2_with fail
  refine (HM.out _).mono ?_
  rintro e wk3 ⟨⟨AP, cp, AX, cx, rfl, hp, hx⟩, hbk⟩
  clear q0 q1 q2 q3 q4
  replace CP := Lib.hid (CP.out.below hbk CP.out.lt)
  replace CL := Lib.hid (CL.out.below hbk CL.out.lt)
  replace CM := Lib.hid (CM.out.below hbk CM.out.lt)
  replace HS := Lib.hid (HS.out.below hbk (Nat.le_refl _))
  replace hbw := hbw.trans (hbk.mono hbw.size)
  have HP := Lib.hid hp
  have HX := Lib.hid hx
  clear hp hx hbk
  have q0 := CL.out.cell 0
  have q1 := CL.out.cell 1
  have q2 := CL.out.cell 2
  have q3 := CL.out.cell 3
  have r0 := CM.out.cell 0
  have r1 := CM.out.cell 1
  have r2 := CM.out.cell 2
  have r3 := CM.out.cell 3
  simp only [List.getElem?_cons_succ, List.getElem?_cons_zero] at q0 q1 q2 q3 r0 r1 r2 r3
  go_wp2_with fail
  go_region_held3 (fun w' => w'.cell? ⟨w.heap.size + 1, 0, Option.none⟩ = some (.int .i8 a1) ∧ w'.cell? ⟨w.heap.size + 1, 1, Option.none⟩ = some (.int .i8 b1) ∧ w'.cell? ⟨w.heap.size + 1, 2, Option.none⟩ = some (.int .i8 c1) ∧ w'.cell? ⟨w.heap.size + 1, 3, Option.none⟩ = some (.int .i8 d1) ∧ w'.cell? ⟨w.heap.size + 1 + 1, 0, Option.none⟩ = some (.int .i8 a2) ∧ w'.cell? ⟨w.heap.size + 1 + 1, 1, Option.none⟩ = some (.int .i8 b2) ∧ w'.cell? ⟨w.heap.size + 1 + 1, 2, Option.none⟩ = some (.int .i8 c2) ∧ w'.cell? ⟨w.heap.size + 1 + 1, 3, Option.none⟩ = some (.int .i8 d2))
    (first | go_keep | exact ⟨keep_drew q0 hbk, keep_drew q1 hbk, keep_drew q2 hbk, keep_drew q3 hbk, keep_drew r0 hbk, keep_drew r1 hbk, keep_drew r2 hbk, keep_drew r3 hbk⟩ | exact ⟨keep_cell (keep_drew q0 hbk) hbk2, keep_cell (keep_drew q1 hbk) hbk2, keep_cell (keep_drew q2 hbk) hbk2, keep_cell (keep_drew q3 hbk) hbk2, keep_cell (keep_drew r0 hbk) hbk2, keep_cell (keep_drew r1 hbk) hbk2, keep_cell (keep_drew r2 hbk) hbk2, keep_cell (keep_drew r3 hbk) hbk2⟩)
    ((first | (go_at_call 38; (with_reducible refine (HI1.out _ _ _).mono ?_); rintro e wy ⟨⟨AY, cy, rfl, hy⟩, hbk⟩) | (go_at_call 38; (with_reducible refine (HI2.out _ _ _).mono ?_); rintro e wz ⟨⟨AZ, cz, rfl, hz⟩, hbk2⟩)))
  clear q0 q1 q2 q3 r0 r1 r2 r3 CP CL CM
  replace hbk := below_of_drew hbk
  replace HP := Lib.hid (HP.out.lift hbk)
  replace HX := Lib.hid (HX.out.lift hbk)
  replace HS := Lib.hid (HS.out.below hbk (Nat.le_refl _))
  replace hbw := hbw.trans (hbk.mono hbw.size)
  have HY := Lib.hid hy
  replace HP := Lib.hid (HP.out.lift hbk2)
  replace HX := Lib.hid (HX.out.lift hbk2)
  replace HY := Lib.hid (HY.out.lift hbk2)
  replace HS := Lib.hid (HS.out.below hbk2 (Nat.le_refl _))
  replace hbw := hbw.trans (hbk2.mono hbw.size)
  have HZ := Lib.hid hz
  clear hbk hbk2 hy hz HM HI1 HI2 HK
  have SX : Box (SmallRow (primesOf n0) 9 (ivlTo lx (primesOf n0).length)) := ⟨ivl_small⟩
  have SY : Box (SmallRow (primesOf n0) 9 (ivlTo ly (primesOf n0).length)) := ⟨ivl_small⟩
  have SZ : Box (SmallRow (primesOf n0) 9 (ivlTo lz (primesOf n0).length)) := ⟨ivl_small⟩
  have H0 : Box (primeErr (primesOf n0) = 0) := ⟨h0⟩
  clear h0
  generalize ivlTo lx (primesOf n0).length = x at *
  generalize ivlTo ly (primesOf n0).length = y at *
  generalize ivlTo lz (primesOf n0).length = z at *
  generalize primesOf n0 = p at *
  have hrx := right_of (SX.out.chk H0.out (by omega))
  have hry := right_of (SY.out.chk H0.out (by omega))
  have HRX : Box (Right p x) := ⟨hrx⟩
  have HRY : Box (Right p y) := ⟨hry⟩
  have HNL : Box (((decDigits (num p x)).length ≤ 15000 ∧ (decDigits (den p x)).length ≤ 15000) ∧ (decDigits (num p y)).length ≤ 15000 ∧ (decDigits (den p y)).length ≤ 15000) := ⟨num_len hrx, num_len hry⟩
  clear hrx hry
  go_wp2_with fail
  refine (lawValue_any _ _ p x _ HS.out HP.out HX.out HRX.out).mono ?_
  rintro e wk4 ⟨rfl, hbk⟩
  replace HP := Lib.hid (HP.out.lift hbk)
  replace HX := Lib.hid (HX.out.lift hbk)
  replace HY := Lib.hid (HY.out.lift hbk)
  replace HZ := Lib.hid (HZ.out.lift hbk)
  replace HS := Lib.hid (HS.out.below hbk (Nat.le_refl _))
  replace hbw := hbw.trans (hbk.mono hbw.size)
  clear hbk
  go_wp2_with fail
  refine (sign_ok _ _ p x _ HS.out HP.out HX.out (SX.out.chk H0.out (by omega))).mono ?_
  rintro e wk5 ⟨rfl, hbk⟩
  replace HP := Lib.hid (HP.out.lift hbk)
  replace HX := Lib.hid (HX.out.lift hbk)
  replace HY := Lib.hid (HY.out.lift hbk)
  replace HZ := Lib.hid (HZ.out.lift hbk)
  replace HS := Lib.hid (HS.out.below hbk (Nat.le_refl _))
  replace hbw := hbw.trans (hbk.mono hbw.size)
  clear hbk
  go_wp2_with fail
  refine (compare_mon _ _ _ p x y _ HP.out HX.out HY.out (chk_both (SX.out.chk H0.out (by omega)) (SY.out.chk H0.out (by omega))) HS.out).mono ?_
  rintro e wk6 ⟨rfl, hbk⟩
  replace HP := Lib.hid (HP.out.lift hbk)
  replace HX := Lib.hid (HX.out.lift hbk)
  replace HY := Lib.hid (HY.out.lift hbk)
  replace HZ := Lib.hid (HZ.out.lift hbk)
  replace HS := Lib.hid (HS.out.below hbk (Nat.le_refl _))
  replace hbw := hbw.trans (hbk.mono hbw.size)
  clear hbk
  go_wp2_with fail
  refine (compare_mon _ _ _ p y x _ HP.out HY.out HX.out (chk_both (SY.out.chk H0.out (by omega)) (SX.out.chk H0.out (by omega))) HS.out).mono ?_
  rintro e wk7 ⟨rfl, hbk⟩
  replace HP := Lib.hid (HP.out.lift hbk)
  replace HX := Lib.hid (HX.out.lift hbk)
  replace HY := Lib.hid (HY.out.lift hbk)
  replace HZ := Lib.hid (HZ.out.lift hbk)
  replace HS := Lib.hid (HS.out.below hbk (Nat.le_refl _))
  replace hbw := hbw.trans (hbk.mono hbw.size)
  clear hbk
  go_wp2_with fail
  refine (add_small HP.out HX.out HZ.out H0.out SX.out SZ.out (by omega) (by omega) (by omega)).mono ?_
  rintro e wk8 ⟨⟨AU, cu, rfl, hr⟩, hbk⟩
  replace HP := Lib.hid (HP.out.lift hbk)
  replace HX := Lib.hid (HX.out.lift hbk)
  replace HY := Lib.hid (HY.out.lift hbk)
  replace HZ := Lib.hid (HZ.out.lift hbk)
  replace HS := Lib.hid (HS.out.below hbk (Nat.le_refl _))
  replace hbw := hbw.trans (hbk.mono hbw.size)
  have HU := Lib.hid hr
  clear hr hbk
  go_wp2_with fail
  refine (add_small HP.out HY.out HZ.out H0.out SY.out SZ.out (by omega) (by omega) (by omega)).mono ?_
  rintro e wk9 ⟨⟨AV, cv, rfl, hr⟩, hbk⟩
  replace HP := Lib.hid (HP.out.lift hbk)
  replace HX := Lib.hid (HX.out.lift hbk)
  replace HY := Lib.hid (HY.out.lift hbk)
  replace HZ := Lib.hid (HZ.out.lift hbk)
  replace HU := Lib.hid (HU.out.lift hbk)
  replace HS := Lib.hid (HS.out.below hbk (Nat.le_refl _))
  replace hbw := hbw.trans (hbk.mono hbw.size)
  have HV := Lib.hid hr
  clear hr hbk
  have SU : Box (SmallRow p 18 (sumTo x z 1 x.length)) := ⟨SX.out.sum SZ.out 1 (.inl rfl)⟩
  have SV : Box (SmallRow p 18 (sumTo y z 1 y.length)) := ⟨SY.out.sum SZ.out 1 (.inl rfl)⟩
  go_wp2_with fail
  refine (compare_mon _ _ _ p _ _ _ HP.out HU.out HV.out (chk_both (SU.out.chk H0.out (by omega)) (SV.out.chk H0.out (by omega))) HS.out).mono ?_
  rintro e wk10 ⟨rfl, hbk⟩
  replace HP := Lib.hid (HP.out.lift hbk)
  replace HX := Lib.hid (HX.out.lift hbk)
  replace HY := Lib.hid (HY.out.lift hbk)
  replace HZ := Lib.hid (HZ.out.lift hbk)
  replace HU := Lib.hid (HU.out.lift hbk)
  replace HV := Lib.hid (HV.out.lift hbk)
  replace HS := Lib.hid (HS.out.below hbk (Nat.le_refl _))
  replace hbw := hbw.trans (hbk.mono hbw.size)
  clear hbk
  go_wp2_with fail
  refine (lawValue_any _ _ p y _ HS.out HP.out HY.out HRY.out).mono ?_
  rintro e wk11 ⟨rfl, hbk⟩
  replace HP := Lib.hid (HP.out.lift hbk)
  replace HX := Lib.hid (HX.out.lift hbk)
  replace HY := Lib.hid (HY.out.lift hbk)
  replace HZ := Lib.hid (HZ.out.lift hbk)
  replace HU := Lib.hid (HU.out.lift hbk)
  replace HV := Lib.hid (HV.out.lift hbk)
  replace HS := Lib.hid (HS.out.below hbk (Nat.le_refl _))
  replace hbw := hbw.trans (hbk.mono hbw.size)
  clear hbk
  have hpp := primed H0.out
  have E1 : Box (cmpN (num p y * den p x) (num p x * den p y) = -cmpN (num p x * den p y) (num p y * den p x)) := ⟨cmpN_neg _ _⟩
  have E2 : Box (cmpN (num p (sumTo x z 1 x.length) * den p (sumTo y z 1 y.length)) (num p (sumTo y z 1 y.length) * den p (sumTo x z 1 x.length)) = cmpN (num p x * den p y) (num p y * den p x)) :=
    ⟨cmp_moved (z := z) hpp SX.out.len SY.out.len SZ.out.len SU.out.len SV.out.len (fun j hj => by rw [sumTo_get x z 1 j _ (by rw [SX.out.len]; exact hj)]; omega) (fun j hj => by rw [sumTo_get y z 1 j _ (by rw [SY.out.len]; exact hj)]; omega)⟩
  have E3 : Box ((cmpN (num p x * den p y) (num p y * den p x) == 0) = sameB x y) := ⟨by
    unfold sameB
    rw [Bool.eq_iff_iff, beq_iff_eq, decide_eq_true_iff, cmpN_zero]
    exact ⟨cross_inj hpp SX.out.len SY.out.len, fun h => by rw [h]⟩⟩
  clear hpp
  rw [E1.out, E2.out]
  have hm1 := dec_mul_len (num p x) (den p y)
  have hm2 := dec_mul_len (num p y) (den p x)
  have hnl := HNL.out
  have C1 := Lib.hid (fun W => whCompare_nat (num p x) (den p x) W (by omega) (by omega))
  have C2 := Lib.hid (fun W hW => whMul_nat (num p x) (den p y) W hW (by omega) (by omega))
  have C3 := Lib.hid (fun W hW => whMul_nat (num p y) (den p x) W hW (by omega) (by omega))
  have C4 := Lib.hid (fun W => whCompare_nat (num p x * den p y) (num p y * den p x) W (by omega) (by omega))
  have C5 := Lib.hid (fun W hx hy => same_any (.slice AX x.length cx) (.slice AY y.length cy) x y W hx hy)
  have hob : -1 ≤ cmpN (num p x * den p y) (num p y * den p x) ∧ cmpN (num p x * den p y) (num p y * den p x) ≤ 1 := by unfold cmpN; split <;> (try split) <;> omega
  have hse := E3.out
  rw [← hse] at C5
  clear hm1 hm2 hnl hse E1 E2 E3
  generalize cmpN (num p x * den p y) (num p y * den p x) = o at *
  generalize cmpN (num p x) (den p x) = sg at *
  have h0o : (-o == 0 - o) = true := by simp
  go_wp2_with fail
  refine (C1.out _).mono ?_
  rintro e wk12 ⟨rfl, hbk⟩
  replace HP := Lib.hid (HP.out.lift hbk)
  replace HX := Lib.hid (HX.out.lift hbk)
  replace HY := Lib.hid (HY.out.lift hbk)
  replace HZ := Lib.hid (HZ.out.lift hbk)
  replace HU := Lib.hid (HU.out.lift hbk)
  replace HV := Lib.hid (HV.out.lift hbk)
  replace HS := Lib.hid (HS.out.below hbk (Nat.le_refl _))
  replace hbw := hbw.trans (hbk.mono hbw.size)
  clear hbk
  go_wp2_with fail
  refine (C2.out _ HS.out).mono ?_
  rintro e wk13 ⟨rfl, hbk⟩
  replace HP := Lib.hid (HP.out.lift hbk)
  replace HX := Lib.hid (HX.out.lift hbk)
  replace HY := Lib.hid (HY.out.lift hbk)
  replace HZ := Lib.hid (HZ.out.lift hbk)
  replace HU := Lib.hid (HU.out.lift hbk)
  replace HV := Lib.hid (HV.out.lift hbk)
  replace HS := Lib.hid (HS.out.below hbk (Nat.le_refl _))
  replace hbw := hbw.trans (hbk.mono hbw.size)
  clear hbk
  go_wp2_with fail
  refine (C3.out _ HS.out).mono ?_
  rintro e wk14 ⟨rfl, hbk⟩
  replace HP := Lib.hid (HP.out.lift hbk)
  replace HX := Lib.hid (HX.out.lift hbk)
  replace HY := Lib.hid (HY.out.lift hbk)
  replace HZ := Lib.hid (HZ.out.lift hbk)
  replace HU := Lib.hid (HU.out.lift hbk)
  replace HV := Lib.hid (HV.out.lift hbk)
  replace HS := Lib.hid (HS.out.below hbk (Nat.le_refl _))
  replace hbw := hbw.trans (hbk.mono hbw.size)
  clear hbk
  go_wp2_with fail
  refine (C4.out _).mono ?_
  rintro e wk15 ⟨rfl, hbk⟩
  replace HP := Lib.hid (HP.out.lift hbk)
  replace HX := Lib.hid (HX.out.lift hbk)
  replace HY := Lib.hid (HY.out.lift hbk)
  replace HZ := Lib.hid (HZ.out.lift hbk)
  replace HU := Lib.hid (HU.out.lift hbk)
  replace HV := Lib.hid (HV.out.lift hbk)
  replace HS := Lib.hid (HS.out.below hbk (Nat.le_refl _))
  replace hbw := hbw.trans (hbk.mono hbw.size)
  clear hbk
  go_wp2_with fail
  refine (C5.out _ HX.out HY.out).mono ?_
  rintro e wk16 ⟨rfl, hbk⟩
  replace HP := Lib.hid (HP.out.lift hbk)
  replace HX := Lib.hid (HX.out.lift hbk)
  replace HY := Lib.hid (HY.out.lift hbk)
  replace HZ := Lib.hid (HZ.out.lift hbk)
  replace HU := Lib.hid (HU.out.lift hbk)
  replace HV := Lib.hid (HV.out.lift hbk)
  replace HS := Lib.hid (HS.out.below hbk (Nat.le_refl _))
  replace hbw := hbw.trans (hbk.mono hbw.size)
  clear hbk
  go_wp2_with fail
  go_ret
  exact ⟨rfl, hbw⟩

end Go.Proofs.YtkoemgemnklmdaaGreatDoor
