/- MonzoLaws: the walk. -/
import Derived.Test.YtkoemgemnklmdaaGreatDoorGH
import Derived.Test.YtkoemgemnklmdaaGreatDoorGD
import Derived.Test.YtkoemgemnklmdaaGreatDoorGG
namespace Go.Proofs.YtkoemgemnklmdaaGreatDoor
open Go.RowKit Go.Lib

theorem rat_eql1 (w : World) : (binOp .eql 38 (.agg #[.string ⟨#[49]⟩, .string ⟨#[49]⟩]) (.agg #[.string ⟨#[49]⟩, .string ⟨#[49]⟩])).run Tryz.prog w = .ok (.bool true) w := by kernel_rfl

theorem keep_cell {w0 w1 : World} {p : Addr} {v : Value} (h : w0.cell? p = some v) (hb : Below w0.heap.size w0 w1) : w1.cell? p = some v := (hb.cell (cell_lt h)).trans h
theorem keep_drew {w0 w1 : World} {p : Addr} {v : Value} (h : w0.cell? p = some v) (hb : Below w0.drew.heap.size w0.drew w1) : w1.cell? p = some v := keep_cell (w0 := w0.drew) h hb

theorem same_eq {xv yv : Value} {x y : List Int} {w : World} (hx : IsRow w w.heap.size xv x) (hy : IsRow w w.heap.size yv y) (h : x = y) :
    Calls Tryz.prog 26 #[xv, yv] w fun e w' => e = .returned (.bool true) ∧ Below w.heap.size w w' := by
  have := same_any xv yv x y w hx hy
  rw [show sameB x y = true by unfold sameB; simpa using h] at this
  exact this

/-- The fraction of the interval of 1. -/
theorem fraction_one {pv xv : Value} {p x : List Int} {w : World} (hS : Std w) (hp : IsRow w w.heap.size pv p) (hx : IsRow w w.heap.size xv x) (h0 : primeErr p = 0) (hz : x = zeros p.length) :
    Calls Tryz.prog 29 #[pv, xv] w fun e w' => e = .returned (.tuple #[.agg #[.string ⟨#[49]⟩, .string ⟨#[49]⟩], .int .i64 0]) ∧ Below w.heap.size w w' := by
  subst hz
  have h := fraction_any pv xv p _ w hS hp hx ((SmallRow.zeros (p := p) (m := 0) (by omega)).chk h0 (by omega))
  rw [(num_zeros p p.length).1, (num_zeros p p.length).2, d1] at h
  exact h

set_option maxRecDepth 100000 in
set_option maxHeartbeats 4000000 in
theorem laws_walk (n0 : Nat) (a0 b0 c0 d0 a1 b1 c1 d1 a2 b2 c2 d2 : Int) (w : World) (hS : Std w) (hn : n0 ≤ 255) (h4 : Four [a0, b0, c0, d0]) (h5 : Four [a1, b1, c1, d1]) (h6 : Four [a2, b2, c2, d2]) :
    Calls Tryz.prog 8 #[.agg #[.int .u8 n0, .int .i8 a0, .int .i8 b0, .int .i8 c0, .int .i8 d0], .agg #[.int .i8 a1, .int .i8 b1, .int .i8 c1, .int .i8 d1], .agg #[.int .i8 a2, .int .i8 b2, .int .i8 c2, .int .i8 d2]] w fun e w' => e = .returned (.bool true) ∧ Below w.heap.size w w' := by
  have HS := Lib.hid hS
  have HM := Lib.hid (fun W => make_any n0 a0 b0 c0 d0 W hn h4)
  have HK := Lib.hid (fun W hW => known_any W hW)
  have HI1 := Lib.hid (fun W A cp => interval_any A cp (primesOf n0).length a1 b1 c1 d1 W (primesOf_ok n0).2 h5)
  have HI2 := Lib.hid (fun W A cp => interval_any A cp (primesOf n0).length a2 b2 c2 d2 W (primesOf_ok n0).2 h6)
  have h0 := (primesOf_ok n0).1
  clear hS h4 h5 h6
  generalize hx : [a0, b0, c0, d0] = lx at *
  generalize hy : [a1, b1, c1, d1] = ly at *
  generalize hz : [a2, b2, c2, d2] = lz at *
  have HEQ : Box (lx = lx) := ⟨rfl⟩
  clear hx hy hz
  go_enter Tryz.func8, Tryz.ntmps8
  go_wp2_with fail
  obtain ⟨W3, hW3⟩ : ∃ W3 : World, W3 = ((w.alloc (.cells #[.int .u8 n0, .int .i8 a0, .int .i8 b0, .int .i8 c0, .int .i8 d0] 50)).alloc (.cells #[.int .i8 a1, .int .i8 b1, .int .i8 c1, .int .i8 d1] 48)).alloc (.cells #[.int .i8 a2, .int .i8 b2, .int .i8 c2, .int .i8 d2] 48) := ⟨_, rfl⟩
  rw [← hW3]
  have hbw : Below w.heap.size w W3 := by rw [hW3]; exact (((Below.refl _ _).alloc (Nat.le_refl _) _).alloc (by simp) _).alloc (by simp; omega) _
  have CP : Hid (Cells W3 w.heap.size 50 [.int .u8 n0, .int .i8 a0, .int .i8 b0, .int .i8 c0, .int .i8 d0]) := Lib.hid (by rw [hW3]; exact ((Cells.new w _ _).alloc _).alloc _)
  have CL : Hid (Cells W3 (w.heap.size + 1) 48 [.int .i8 a1, .int .i8 b1, .int .i8 c1, .int .i8 d1]) := Lib.hid (by rw [hW3]; have h := (Cells.new (w.alloc (.cells #[.int .u8 n0, .int .i8 a0, .int .i8 b0, .int .i8 c0, .int .i8 d0] 50)) 48 #[.int .i8 a1, .int .i8 b1, .int .i8 c1, .int .i8 d1]); rw [World.size_alloc] at h; exact h.alloc _)
  have CM : Hid (Cells W3 (w.heap.size + 1 + 1) 48 [.int .i8 a2, .int .i8 b2, .int .i8 c2, .int .i8 d2]) := Lib.hid (by rw [hW3]; have h := (Cells.new ((w.alloc (.cells #[.int .u8 n0, .int .i8 a0, .int .i8 b0, .int .i8 c0, .int .i8 d0] 50)).alloc (.cells #[.int .i8 a1, .int .i8 b1, .int .i8 c1, .int .i8 d1] 48)) 48 #[.int .i8 a2, .int .i8 b2, .int .i8 c2, .int .i8 d2]); rw [World.size_alloc, World.size_alloc] at h; exact h)
  clear hW3
  replace HS := Lib.hid (HS.out.below hbw (Nat.le_refl _))
  go_wp2_with fail
  refine (HK.out _ HS.out).mono ?_
  rintro e wk1 ⟨rfl, hbk⟩
  replace CP := Lib.hid (CP.out.below hbk CP.out.lt)
  replace CL := Lib.hid (CL.out.below hbk CL.out.lt)
  replace CM := Lib.hid (CM.out.below hbk CM.out.lt)
  replace HS := Lib.hid (HS.out.below hbk (Nat.le_refl _))
  replace hbw := hbw.trans (hbk.mono hbw.size)
  clear hbk
  have q0 := CP.out.cell 0
  have q1 := CP.out.cell 1
  have q2 := CP.out.cell 2
  have q3 := CP.out.cell 3
  have q4 := CP.out.cell 4
  simp only [List.getElem?_cons_succ, List.getElem?_cons_zero] at q0 q1 q2 q3 q4
  go_wp2_with fail
  refine (HM.out _).mono ?_
  rintro e wk2 ⟨⟨AP, cp, AX, cx, rfl, hp, hx⟩, hbk⟩
  clear q0 q1 q2 q3 q4
  replace CP := Lib.hid (CP.out.below hbk CP.out.lt)
  replace CL := Lib.hid (CL.out.below hbk CL.out.lt)
  replace CM := Lib.hid (CM.out.below hbk CM.out.lt)
  replace HS := Lib.hid (HS.out.below hbk (Nat.le_refl _))
  replace hbw := hbw.trans (hbk.mono hbw.size)
  have HP := Lib.hid hp
  have HX := Lib.hid hx
  clear hp hx hbk
  have q0 := CL.out.cell 0
  have q1 := CL.out.cell 1
  have q2 := CL.out.cell 2
  have q3 := CL.out.cell 3
  have r0 := CM.out.cell 0
  have r1 := CM.out.cell 1
  have r2 := CM.out.cell 2
  have r3 := CM.out.cell 3
  simp only [List.getElem?_cons_succ, List.getElem?_cons_zero] at q0 q1 q2 q3 r0 r1 r2 r3
  go_wp2_with fail
  go_region_held3 (fun w' => w'.cell? ⟨w.heap.size + 1, 0, Option.none⟩ = some (.int .i8 a1) ∧ w'.cell? ⟨w.heap.size + 1, 1, Option.none⟩ = some (.int .i8 b1) ∧ w'.cell? ⟨w.heap.size + 1, 2, Option.none⟩ = some (.int .i8 c1) ∧ w'.cell? ⟨w.heap.size + 1, 3, Option.none⟩ = some (.int .i8 d1) ∧ w'.cell? ⟨w.heap.size + 1 + 1, 0, Option.none⟩ = some (.int .i8 a2) ∧ w'.cell? ⟨w.heap.size + 1 + 1, 1, Option.none⟩ = some (.int .i8 b2) ∧ w'.cell? ⟨w.heap.size + 1 + 1, 2, Option.none⟩ = some (.int .i8 c2) ∧ w'.cell? ⟨w.heap.size + 1 + 1, 3, Option.none⟩ = some (.int .i8 d2))
    (first | go_keep | exact ⟨keep_drew q0 hbk, keep_drew q1 hbk, keep_drew q2 hbk, keep_drew q3 hbk, keep_drew r0 hbk, keep_drew r1 hbk, keep_drew r2 hbk, keep_drew r3 hbk⟩ | exact ⟨keep_cell (keep_drew q0 hbk) hbk2, keep_cell (keep_drew q1 hbk) hbk2, keep_cell (keep_drew q2 hbk) hbk2, keep_cell (keep_drew q3 hbk) hbk2, keep_cell (keep_drew r0 hbk) hbk2, keep_cell (keep_drew r1 hbk) hbk2, keep_cell (keep_drew r2 hbk) hbk2, keep_cell (keep_drew r3 hbk) hbk2⟩)
    ((first | (go_at_call 38; (with_reducible refine (HI1.out _ _ _).mono ?_); rintro e wy ⟨⟨AY, cy, rfl, hy⟩, hbk⟩) | (go_at_call 38; (with_reducible refine (HI2.out _ _ _).mono ?_); rintro e wz ⟨⟨AZ, cz, rfl, hz⟩, hbk2⟩)))
  clear q0 q1 q2 q3 r0 r1 r2 r3 CP CL CM
  replace hbk := below_of_drew hbk
  replace HP := Lib.hid (HP.out.lift hbk)
  replace HX := Lib.hid (HX.out.lift hbk)
  replace HS := Lib.hid (HS.out.below hbk (Nat.le_refl _))
  replace hbw := hbw.trans (hbk.mono hbw.size)
  have HY := Lib.hid hy
  replace HP := Lib.hid (HP.out.lift hbk2)
  replace HX := Lib.hid (HX.out.lift hbk2)
  replace HY := Lib.hid (HY.out.lift hbk2)
  replace HS := Lib.hid (HS.out.below hbk2 (Nat.le_refl _))
  replace hbw := hbw.trans (hbk2.mono hbw.size)
  have HZ := Lib.hid hz
  clear hbk hbk2 hy hz HM HI1 HI2 HK
  have SX : Box (SmallRow (primesOf n0) 9 (ivlTo lx (primesOf n0).length)) := ⟨ivl_small⟩
  have SY : Box (SmallRow (primesOf n0) 9 (ivlTo ly (primesOf n0).length)) := ⟨ivl_small⟩
  have SZ : Box (SmallRow (primesOf n0) 9 (ivlTo lz (primesOf n0).length)) := ⟨ivl_small⟩
  have H0 : Box (primeErr (primesOf n0) = 0) := ⟨h0⟩
  clear h0
  generalize ivlTo lx (primesOf n0).length = x at *
  generalize ivlTo ly (primesOf n0).length = y at *
  generalize ivlTo lz (primesOf n0).length = z at *
  generalize primesOf n0 = p at *
  go_wp2_with fail
  refine (add_small HP.out HX.out HY.out H0.out SX.out SY.out (by omega) (by omega) (by omega)).mono ?_
  rintro e wk3 ⟨⟨AHXY, cHXY, rfl, hr⟩, hbk⟩
  replace HP := Lib.hid (HP.out.lift hbk)
  replace HX := Lib.hid (HX.out.lift hbk)
  replace HY := Lib.hid (HY.out.lift hbk)
  replace HZ := Lib.hid (HZ.out.lift hbk)
  replace HS := Lib.hid (HS.out.below hbk (Nat.le_refl _))
  replace hbw := hbw.trans (hbk.mono hbw.size)
  have HXY := Lib.hid hr
  clear hr hbk
  go_wp2_with fail
  refine (add_small HP.out HY.out HX.out H0.out SY.out SX.out (by omega) (by omega) (by omega)).mono ?_
  rintro e wk4 ⟨⟨AHYX, cHYX, rfl, hr⟩, hbk⟩
  replace HP := Lib.hid (HP.out.lift hbk)
  replace HX := Lib.hid (HX.out.lift hbk)
  replace HY := Lib.hid (HY.out.lift hbk)
  replace HZ := Lib.hid (HZ.out.lift hbk)
  replace HXY := Lib.hid (HXY.out.lift hbk)
  replace HS := Lib.hid (HS.out.below hbk (Nat.le_refl _))
  replace hbw := hbw.trans (hbk.mono hbw.size)
  have HYX := Lib.hid hr
  clear hr hbk
  go_wp2_with fail
  refine (add_small HP.out HY.out HZ.out H0.out SY.out SZ.out (by omega) (by omega) (by omega)).mono ?_
  rintro e wk5 ⟨⟨AHYZ, cHYZ, rfl, hr⟩, hbk⟩
  replace HP := Lib.hid (HP.out.lift hbk)
  replace HX := Lib.hid (HX.out.lift hbk)
  replace HY := Lib.hid (HY.out.lift hbk)
  replace HZ := Lib.hid (HZ.out.lift hbk)
  replace HXY := Lib.hid (HXY.out.lift hbk)
  replace HYX := Lib.hid (HYX.out.lift hbk)
  replace HS := Lib.hid (HS.out.below hbk (Nat.le_refl _))
  replace hbw := hbw.trans (hbk.mono hbw.size)
  have HYZ := Lib.hid hr
  clear hr hbk
  go_wp2_with fail
  refine (add_small HP.out HXY.out HZ.out H0.out (SX.out.sum SY.out 1 (.inl rfl)) SZ.out (by omega) (by omega) (by omega)).mono ?_
  rintro e wk6 ⟨⟨AHL, cHL, rfl, hr⟩, hbk⟩
  replace HP := Lib.hid (HP.out.lift hbk)
  replace HX := Lib.hid (HX.out.lift hbk)
  replace HY := Lib.hid (HY.out.lift hbk)
  replace HZ := Lib.hid (HZ.out.lift hbk)
  replace HXY := Lib.hid (HXY.out.lift hbk)
  replace HYX := Lib.hid (HYX.out.lift hbk)
  replace HYZ := Lib.hid (HYZ.out.lift hbk)
  replace HS := Lib.hid (HS.out.below hbk (Nat.le_refl _))
  replace hbw := hbw.trans (hbk.mono hbw.size)
  have HL := Lib.hid hr
  clear hr hbk
  go_wp2_with fail
  refine (add_small HP.out HX.out HYZ.out H0.out SX.out (SY.out.sum SZ.out 1 (.inl rfl)) (by omega) (by omega) (by omega)).mono ?_
  rintro e wk7 ⟨⟨AHR, cHR, rfl, hr⟩, hbk⟩
  replace HP := Lib.hid (HP.out.lift hbk)
  replace HX := Lib.hid (HX.out.lift hbk)
  replace HY := Lib.hid (HY.out.lift hbk)
  replace HZ := Lib.hid (HZ.out.lift hbk)
  replace HXY := Lib.hid (HXY.out.lift hbk)
  replace HYX := Lib.hid (HYX.out.lift hbk)
  replace HYZ := Lib.hid (HYZ.out.lift hbk)
  replace HL := Lib.hid (HL.out.lift hbk)
  replace HS := Lib.hid (HS.out.below hbk (Nat.le_refl _))
  replace hbw := hbw.trans (hbk.mono hbw.size)
  have HR := Lib.hid hr
  clear hr hbk
  go_wp2_with fail
  refine (sub_small HP.out HX.out HX.out H0.out SX.out SX.out (by omega) (by omega) (by omega)).mono ?_
  rintro e wk8 ⟨⟨AHN, cHN, rfl, hr⟩, hbk⟩
  replace HP := Lib.hid (HP.out.lift hbk)
  replace HX := Lib.hid (HX.out.lift hbk)
  replace HY := Lib.hid (HY.out.lift hbk)
  replace HZ := Lib.hid (HZ.out.lift hbk)
  replace HXY := Lib.hid (HXY.out.lift hbk)
  replace HYX := Lib.hid (HYX.out.lift hbk)
  replace HYZ := Lib.hid (HYZ.out.lift hbk)
  replace HL := Lib.hid (HL.out.lift hbk)
  replace HR := Lib.hid (HR.out.lift hbk)
  replace HS := Lib.hid (HS.out.below hbk (Nat.le_refl _))
  replace hbw := hbw.trans (hbk.mono hbw.size)
  have HN := Lib.hid hr
  clear hr hbk
  go_wp2_with fail
  refine (neg_small HP.out HX.out H0.out SX.out (by omega)).mono ?_
  rintro e wk9 ⟨⟨AHG, cHG, rfl, hr⟩, hbk⟩
  replace HP := Lib.hid (HP.out.lift hbk)
  replace HX := Lib.hid (HX.out.lift hbk)
  replace HY := Lib.hid (HY.out.lift hbk)
  replace HZ := Lib.hid (HZ.out.lift hbk)
  replace HXY := Lib.hid (HXY.out.lift hbk)
  replace HYX := Lib.hid (HYX.out.lift hbk)
  replace HYZ := Lib.hid (HYZ.out.lift hbk)
  replace HL := Lib.hid (HL.out.lift hbk)
  replace HR := Lib.hid (HR.out.lift hbk)
  replace HN := Lib.hid (HN.out.lift hbk)
  replace HS := Lib.hid (HS.out.below hbk (Nat.le_refl _))
  replace hbw := hbw.trans (hbk.mono hbw.size)
  have HG := Lib.hid hr
  clear hr hbk
  go_wp2_with fail
  refine (add_small HP.out HX.out HG.out H0.out SX.out SX.out.neg (by omega) (by omega) (by omega)).mono ?_
  rintro e wk10 ⟨⟨AHO, cHO, rfl, hr⟩, hbk⟩
  replace HP := Lib.hid (HP.out.lift hbk)
  replace HX := Lib.hid (HX.out.lift hbk)
  replace HY := Lib.hid (HY.out.lift hbk)
  replace HZ := Lib.hid (HZ.out.lift hbk)
  replace HXY := Lib.hid (HXY.out.lift hbk)
  replace HYX := Lib.hid (HYX.out.lift hbk)
  replace HYZ := Lib.hid (HYZ.out.lift hbk)
  replace HL := Lib.hid (HL.out.lift hbk)
  replace HR := Lib.hid (HR.out.lift hbk)
  replace HN := Lib.hid (HN.out.lift hbk)
  replace HG := Lib.hid (HG.out.lift hbk)
  replace HS := Lib.hid (HS.out.below hbk (Nat.le_refl _))
  replace hbw := hbw.trans (hbk.mono hbw.size)
  have HO := Lib.hid hr
  clear hr hbk
  have E1 : Box (sumTo x y 1 x.length = sumTo y x 1 y.length) := ⟨sum_comm (by rw [SX.out.len, SY.out.len])⟩
  have E2 : Box (sumTo (sumTo x y 1 x.length) z 1 (sumTo x y 1 x.length).length = sumTo x (sumTo y z 1 y.length) 1 x.length) := ⟨sum_assoc (by rw [SX.out.len, SY.out.len])⟩
  have E3 : Box (sumTo x x (-1) x.length = zeros p.length) := ⟨by rw [sum_self, SX.out.len]⟩
  have E4 : Box (sumTo x (timesTo x (-1) x.length) 1 x.length = zeros p.length) := ⟨by rw [sum_neg, SX.out.len]⟩
  go_wp2_with fail
  refine (fraction_one HS.out HP.out HN.out H0.out E3.out).mono ?_
  rintro e wk11 ⟨rfl, hbk⟩
  replace HP := Lib.hid (HP.out.lift hbk)
  replace HX := Lib.hid (HX.out.lift hbk)
  replace HY := Lib.hid (HY.out.lift hbk)
  replace HZ := Lib.hid (HZ.out.lift hbk)
  replace HXY := Lib.hid (HXY.out.lift hbk)
  replace HYX := Lib.hid (HYX.out.lift hbk)
  replace HYZ := Lib.hid (HYZ.out.lift hbk)
  replace HL := Lib.hid (HL.out.lift hbk)
  replace HR := Lib.hid (HR.out.lift hbk)
  replace HN := Lib.hid (HN.out.lift hbk)
  replace HG := Lib.hid (HG.out.lift hbk)
  replace HO := Lib.hid (HO.out.lift hbk)
  replace HS := Lib.hid (HS.out.below hbk (Nat.le_refl _))
  replace hbw := hbw.trans (hbk.mono hbw.size)
  clear hbk
  have hq := rat_eql1
  go_wp2_with fail
  have hbk : Below wk11.heap.size wk11 (wk11.alloc (.cells #[.string ⟨#[49]⟩, .string ⟨#[49]⟩] 38)) := (Below.refl _ _).alloc (Nat.le_refl _) _
  have CQ := Lib.hid (Cells.new wk11 38 #[.string ⟨#[49]⟩, .string ⟨#[49]⟩])
  replace HP := Lib.hid (HP.out.lift hbk)
  replace HX := Lib.hid (HX.out.lift hbk)
  replace HY := Lib.hid (HY.out.lift hbk)
  replace HZ := Lib.hid (HZ.out.lift hbk)
  replace HXY := Lib.hid (HXY.out.lift hbk)
  replace HYX := Lib.hid (HYX.out.lift hbk)
  replace HYZ := Lib.hid (HYZ.out.lift hbk)
  replace HL := Lib.hid (HL.out.lift hbk)
  replace HR := Lib.hid (HR.out.lift hbk)
  replace HN := Lib.hid (HN.out.lift hbk)
  replace HG := Lib.hid (HG.out.lift hbk)
  replace HO := Lib.hid (HO.out.lift hbk)
  replace HS := Lib.hid (HS.out.below hbk (Nat.le_refl _))
  replace hbw := hbw.trans (hbk.mono hbw.size)
  clear hbk
  go_wp2_with fail
  refine (same_eq HXY.out HYX.out E1.out).mono ?_
  rintro e wk12 ⟨rfl, hbk⟩
  replace HP := Lib.hid (HP.out.lift hbk)
  replace HX := Lib.hid (HX.out.lift hbk)
  replace HY := Lib.hid (HY.out.lift hbk)
  replace HZ := Lib.hid (HZ.out.lift hbk)
  replace HXY := Lib.hid (HXY.out.lift hbk)
  replace HYX := Lib.hid (HYX.out.lift hbk)
  replace HYZ := Lib.hid (HYZ.out.lift hbk)
  replace HL := Lib.hid (HL.out.lift hbk)
  replace HR := Lib.hid (HR.out.lift hbk)
  replace HN := Lib.hid (HN.out.lift hbk)
  replace HG := Lib.hid (HG.out.lift hbk)
  replace HO := Lib.hid (HO.out.lift hbk)
  replace CQ := Lib.hid (CQ.out.below hbk CQ.out.lt)
  replace HS := Lib.hid (HS.out.below hbk (Nat.le_refl _))
  replace hbw := hbw.trans (hbk.mono hbw.size)
  clear hbk
  go_wp2_with fail
  refine (same_eq HL.out HR.out E2.out).mono ?_
  rintro e wk13 ⟨rfl, hbk⟩
  replace HP := Lib.hid (HP.out.lift hbk)
  replace HX := Lib.hid (HX.out.lift hbk)
  replace HY := Lib.hid (HY.out.lift hbk)
  replace HZ := Lib.hid (HZ.out.lift hbk)
  replace HXY := Lib.hid (HXY.out.lift hbk)
  replace HYX := Lib.hid (HYX.out.lift hbk)
  replace HYZ := Lib.hid (HYZ.out.lift hbk)
  replace HL := Lib.hid (HL.out.lift hbk)
  replace HR := Lib.hid (HR.out.lift hbk)
  replace HN := Lib.hid (HN.out.lift hbk)
  replace HG := Lib.hid (HG.out.lift hbk)
  replace HO := Lib.hid (HO.out.lift hbk)
  replace CQ := Lib.hid (CQ.out.below hbk CQ.out.lt)
  replace HS := Lib.hid (HS.out.below hbk (Nat.le_refl _))
  replace hbw := hbw.trans (hbk.mono hbw.size)
  clear hbk
  go_wp2_with fail
  refine (same_eq HN.out HO.out (E3.out.trans E4.out.symm)).mono ?_
  rintro e wk14 ⟨rfl, hbk⟩
  replace HP := Lib.hid (HP.out.lift hbk)
  replace HX := Lib.hid (HX.out.lift hbk)
  replace HY := Lib.hid (HY.out.lift hbk)
  replace HZ := Lib.hid (HZ.out.lift hbk)
  replace HXY := Lib.hid (HXY.out.lift hbk)
  replace HYX := Lib.hid (HYX.out.lift hbk)
  replace HYZ := Lib.hid (HYZ.out.lift hbk)
  replace HL := Lib.hid (HL.out.lift hbk)
  replace HR := Lib.hid (HR.out.lift hbk)
  replace HN := Lib.hid (HN.out.lift hbk)
  replace HG := Lib.hid (HG.out.lift hbk)
  replace HO := Lib.hid (HO.out.lift hbk)
  replace CQ := Lib.hid (CQ.out.below hbk CQ.out.lt)
  replace HS := Lib.hid (HS.out.below hbk (Nat.le_refl _))
  replace hbw := hbw.trans (hbk.mono hbw.size)
  clear hbk
  have q0 := CQ.out.cell 0
  have q1 := CQ.out.cell 1
  simp only [List.getElem?_cons_succ, List.getElem?_cons_zero] at q0 q1
  go_wp2_with fail
  go_ret
  exact ⟨rfl, hbw⟩

end Go.Proofs.YtkoemgemnklmdaaGreatDoor
