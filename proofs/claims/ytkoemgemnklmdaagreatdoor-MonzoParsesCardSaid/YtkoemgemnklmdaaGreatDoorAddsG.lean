/- MonzoAdds: the walk. -/
import Derived.Test.YtkoemgemnklmdaaGreatDoorAddsPG
import Derived.Test.YtkoemgemnklmdaaGreatDoorLawsG
namespace Go.Proofs.YtkoemgemnklmdaaGreatDoor
open Go.RowKit Go.Lib

set_option maxHeartbeats 400000 in
theorem lawAbs_any (v : Int) (w : World) (h : -1000000 ≤ v ∧ v ≤ 1000000) :
    Calls Tryz.prog 32 #[.int .i64 v] w fun e w' => e = .returned (.int .i64 (absI v)) ∧ w = w' := by
  by_cases hv : v < 0
  · have e : absI v = 0 - v := by unfold absI; rw [if_pos hv]
    rw [e]
    clear e
    go_enter Tryz.func32, Tryz.ntmps32
    go_wp2
    go_ret
    exact ⟨ret_int (by omega), rfl⟩
  · have e : absI v = v := by unfold absI; rw [if_neg hv]
    rw [e]
    clear e
    go_enter Tryz.func32, Tryz.ntmps32
    go_wp2
    go_ret
    exact ⟨rfl, rfl⟩

theorem IsRow.at_ {w : World} {B n c j : Nat} {A : Option Addr} {x : List Int} (h : IsRow w B (.slice A n c) x) (hj : j < n) : ∃ ad, A = some ad ∧ ad.block < B ∧ w.cell? (ad.add j) = some (.int .i64 (x[j]?.getD 0)) := by
  obtain ⟨A', c', e, _, _, hr⟩ := h
  injection e with e1 e2 e3
  subst e1 e2 e3
  exact hr.i_at hj

theorem div_bound (m : Int) (h : 1 ≤ m ∧ m ≤ 9) : 0 ≤ 1000 / m ∧ 1000 / m ≤ 1000 := by
  have hv : m = 1 ∨ m = 2 ∨ m = 3 ∨ m = 4 ∨ m = 5 ∨ m = 6 ∨ m = 7 ∨ m = 8 ∨ m = 9 := by omega
  rcases hv with rfl | rfl | rfl | rfl | rfl | rfl | rfl | rfl | rfl <;> decide

/-- What Power returned: a slice and an error. -/
def PowOut (p x : List Int) (k : Int) (w : World) (A : Option Addr) (n c : Nat) (h : Int) : Prop :=
  (chkAll p [timesTo x (clampK k) x.length] = 0 ∧ h = 0 ∧ n = x.length ∧ IsRow w w.heap.size (.slice A n c) (timesTo x (clampK k) x.length)) ∨ (chkAll p [timesTo x (clampK k) x.length] ≠ 0 ∧ h = 4 ∧ n = 0)
theorem powOut {p x : List Int} {k : Int} {e : Ending} {w : World} (h : ResPost p (timesTo x (clampK k) x.length) e w) : ∃ A n c hh, e = .returned (.tuple #[.slice A n c, .int .i64 hh]) ∧ Box (PowOut p x k w A n c hh) := by
  rcases h with ⟨h0, v, rfl, hv⟩ | ⟨h0, rfl⟩
  · obtain ⟨A, c, rfl⟩ := hv.shape
    exact ⟨A, _, c, 0, rfl, ⟨.inl ⟨h0, rfl, timesTo_len _ _ _, hv⟩⟩⟩
  · exact ⟨_, _, _, 4, rfl, ⟨.inr ⟨h0, rfl, rfl⟩⟩⟩

set_option maxRecDepth 100000 in
set_option maxHeartbeats 4000000 in
theorem adds_walk (n0 : Nat) (a0 b0 c0 d0 a1 b1 c1 d1 k2 : Int) (w : World) (hS : Std w) (hn : n0 ≤ 255) (h4 : Four [a0, b0, c0, d0]) (h5 : Four [a1, b1, c1, d1]) (hk1 : -9223372036854775808 ≤ k2) (hk2 : k2 ≤ 9223372036854775807) :
    Calls Tryz.prog 7 #[.agg #[.int .u8 n0, .int .i8 a0, .int .i8 b0, .int .i8 c0, .int .i8 d0], .agg #[.int .i8 a1, .int .i8 b1, .int .i8 c1, .int .i8 d1], .int .i64 k2] w fun e w' => e = .returned (.bool true) ∧ Below w.heap.size w w' := by
  have HS := Lib.hid hS
  have HM := Lib.hid (fun W => make_any n0 a0 b0 c0 d0 W hn h4)
  have HK := Lib.hid (fun W hW => known_any W hW)
  have HI1 := Lib.hid (fun W A cp => interval_any A cp (primesOf n0).length a1 b1 c1 d1 W (primesOf_ok n0).2 h5)
  have h0 := (primesOf_ok n0).1
  have hp4 := (primesOf_ok n0).2
  have HB : Box (-9223372036854775808 ≤ k2 ∧ k2 ≤ 9223372036854775807) := ⟨hk1, hk2⟩
  clear hS h4 h5 hk1 hk2
  generalize hx : [a0, b0, c0, d0] = lx at *
  generalize hy : [a1, b1, c1, d1] = ly at *
  clear hx hy
  go_enter Tryz.func7, Tryz.ntmps7
  go_wp2_with fail
  obtain ⟨W3, hW3⟩ : ∃ W3 : World, W3 = (w.alloc (.cells #[.int .u8 n0, .int .i8 a0, .int .i8 b0, .int .i8 c0, .int .i8 d0] 50)).alloc (.cells #[.int .i8 a1, .int .i8 b1, .int .i8 c1, .int .i8 d1] 48) := ⟨_, rfl⟩
  rw [← hW3]
  have hbw : Below w.heap.size w W3 := by rw [hW3]; exact ((Below.refl _ _).alloc (Nat.le_refl _) _).alloc (by simp) _
  have CP : Hid (Cells W3 w.heap.size 50 [.int .u8 n0, .int .i8 a0, .int .i8 b0, .int .i8 c0, .int .i8 d0]) := Lib.hid (by rw [hW3]; exact (Cells.new w _ _).alloc _)
  have CL : Hid (Cells W3 (w.heap.size + 1) 48 [.int .i8 a1, .int .i8 b1, .int .i8 c1, .int .i8 d1]) := Lib.hid (by rw [hW3]; have h := (Cells.new (w.alloc (.cells #[.int .u8 n0, .int .i8 a0, .int .i8 b0, .int .i8 c0, .int .i8 d0] 50)) 48 #[.int .i8 a1, .int .i8 b1, .int .i8 c1, .int .i8 d1]); rw [World.size_alloc] at h; exact h)
  clear hW3
  replace HS := Lib.hid (HS.out.below hbw (Nat.le_refl _))
  go_wp2_with fail
  refine (HK.out _ HS.out).mono ?_
  rintro e wk1 ⟨rfl, hbk⟩
  replace CP := Lib.hid (CP.out.below hbk CP.out.lt)
  replace CL := Lib.hid (CL.out.below hbk CL.out.lt)
  replace HS := Lib.hid (HS.out.below hbk (Nat.le_refl _))
  replace hbw := hbw.trans (hbk.mono hbw.size)
  clear hbk
  have q0 := CP.out.cell 0
  have q1 := CP.out.cell 1
  have q2 := CP.out.cell 2
  have q3 := CP.out.cell 3
  have q4 := CP.out.cell 4
  simp only [List.getElem?_cons_succ, List.getElem?_cons_zero] at q0 q1 q2 q3 q4
  go_wp2_with fail
  refine (HM.out _).mono ?_
  rintro e wk2 ⟨⟨AP, cp, AX, cx, rfl, hp, hx⟩, hbk⟩
  clear q0 q1 q2 q3 q4
  replace CP := Lib.hid (CP.out.below hbk CP.out.lt)
  replace CL := Lib.hid (CL.out.below hbk CL.out.lt)
  replace HS := Lib.hid (HS.out.below hbk (Nat.le_refl _))
  replace hbw := hbw.trans (hbk.mono hbw.size)
  have HP := Lib.hid hp
  have HX := Lib.hid hx
  clear hp hx hbk
  have q0 := CL.out.cell 0
  have q1 := CL.out.cell 1
  have q2 := CL.out.cell 2
  have q3 := CL.out.cell 3
  simp only [List.getElem?_cons_succ, List.getElem?_cons_zero] at q0 q1 q2 q3
  go_wp2_with fail
  refine (HI1.out _ _ _).mono ?_
  rintro e wk3 ⟨⟨AY, cy, rfl, hy⟩, hbk⟩
  clear q0 q1 q2 q3 CP CL
  replace HP := Lib.hid (HP.out.lift hbk)
  replace HX := Lib.hid (HX.out.lift hbk)
  replace HS := Lib.hid (HS.out.below hbk (Nat.le_refl _))
  replace hbw := hbw.trans (hbk.mono hbw.size)
  have HY := Lib.hid hy
  clear hy hbk HM HI1 HK
  have SX : Box (SmallRow (primesOf n0) 9 (ivlTo lx (primesOf n0).length)) := ⟨ivl_small⟩
  have SY : Box (SmallRow (primesOf n0) 9 (ivlTo ly (primesOf n0).length)) := ⟨ivl_small⟩
  have H0 : Box (primeErr (primesOf n0) = 0) := ⟨h0⟩
  clear h0
  generalize ivlTo lx (primesOf n0).length = x at *
  generalize ivlTo ly (primesOf n0).length = y at *
  generalize primesOf n0 = p at *
  go_wp2_with fail
  refine (add_small HP.out HX.out HY.out H0.out SX.out SY.out (by omega) (by omega) (by omega)).mono ?_
  rintro e wk4 ⟨⟨AU, cu, rfl, hr⟩, hbk⟩
  replace HP := Lib.hid (HP.out.lift hbk)
  replace HX := Lib.hid (HX.out.lift hbk)
  replace HY := Lib.hid (HY.out.lift hbk)
  replace HS := Lib.hid (HS.out.below hbk (Nat.le_refl _))
  replace hbw := hbw.trans (hbk.mono hbw.size)
  have HU := Lib.hid hr
  clear hr hbk
  go_wp2_with fail
  refine (sub_small HP.out HX.out HY.out H0.out SX.out SY.out (by omega) (by omega) (by omega)).mono ?_
  rintro e wk5 ⟨⟨AV, cv, rfl, hr⟩, hbk⟩
  replace HP := Lib.hid (HP.out.lift hbk)
  replace HX := Lib.hid (HX.out.lift hbk)
  replace HY := Lib.hid (HY.out.lift hbk)
  replace HU := Lib.hid (HU.out.lift hbk)
  replace HS := Lib.hid (HS.out.below hbk (Nat.le_refl _))
  replace hbw := hbw.trans (hbk.mono hbw.size)
  have HV := Lib.hid hr
  clear hr hbk
  go_wp2_with fail
  refine (neg_small HP.out HX.out H0.out SX.out (by omega)).mono ?_
  rintro e wk6 ⟨⟨AG, cg, rfl, hr⟩, hbk⟩
  replace HP := Lib.hid (HP.out.lift hbk)
  replace HX := Lib.hid (HX.out.lift hbk)
  replace HY := Lib.hid (HY.out.lift hbk)
  replace HU := Lib.hid (HU.out.lift hbk)
  replace HV := Lib.hid (HV.out.lift hbk)
  replace HS := Lib.hid (HS.out.below hbk (Nat.le_refl _))
  replace hbw := hbw.trans (hbk.mono hbw.size)
  have HG := Lib.hid hr
  clear hr hbk
  go_wp2_with fail
  refine (power_ok _ _ _ _ p x k2 _ HP.out HX.out (SX.out.chk H0.out (by omega))).mono ?_
  rintro e wk7 ⟨hr, hbk⟩
  obtain ⟨AW, nw, cw, hh, rfl, HPOW⟩ := powOut hr
  replace HP := Lib.hid (HP.out.lift hbk)
  replace HX := Lib.hid (HX.out.lift hbk)
  replace HY := Lib.hid (HY.out.lift hbk)
  replace HU := Lib.hid (HU.out.lift hbk)
  replace HV := Lib.hid (HV.out.lift hbk)
  replace HG := Lib.hid (HG.out.lift hbk)
  replace HS := Lib.hid (HS.out.below hbk (Nat.le_refl _))
  replace hbw := hbw.trans (hbk.mono hbw.size)
  clear hr hbk
  have hxl := SX.out.len
  have hyl := SY.out.len
  simp only [sumTo_len, timesTo_len, hxl, hyl] at HU HV HG HX HY ⊢
  have HXL := Lib.hid hxl
  have HYL := Lib.hid hyl
  clear hxl hyl
  go_wp2_with fail
  go_loopw [18, 19] (fun r i wr => ∃ j : Nat, j ≤ p.length ∧ i = .int .i64 j ∧ r = .bool (rightTo x k2 j) ∧ Below wk7.heap.size wk7 wr) (fun _ i _ => p.length - (intOf i).toNat)
  case atStart => exact ⟨0, Nat.zero_le _, rfl, rfl, Below.refl _ _⟩
  case round =>
    obtain ⟨j, hj, rfl, rfl, hb7⟩ := hrel
    by_cases hlt : j < p.length
    · have hlt' : j < x.length := by rw [HXL.out]; exact hlt
      obtain ⟨adx, rfl, _, hcx⟩ := (HX.out.lift hb7).at_ hlt
      obtain ⟨ady, rfl, _, hcy⟩ := (HY.out.lift hb7).at_ hlt
      obtain ⟨adu, rfl, _, hcu⟩ := (HU.out.lift hb7).at_ hlt
      obtain ⟨adv, rfl, _, hcv⟩ := (HV.out.lift hb7).at_ hlt
      obtain ⟨adg, rfl, _, hcg⟩ := (HG.out.lift hb7).at_ hlt
      rw [← HXL.out, sumTo_get x y 1 j _ hlt'] at hcu
      rw [← HXL.out, sumTo_get x y (-1) j _ hlt'] at hcv
      rw [← HXL.out, timesTo_get x (-1) j _ hlt'] at hcg
      have hxa := SX.out.le j hlt'
      have hya := SY.out.le j (by rw [HYL.out]; exact hlt)
      have hst : rightTo x k2 (j + 1) = (rightTo x k2 j && oneB (x[j]?.getD 0) k2) := rfl
      generalize x[j]?.getD 0 = a at *
      generalize y[j]?.getD 0 = b at *
      rw [show a + 1 * b = a + b by omega] at hcu
      rw [show a + (-1) * b = a - b by omega] at hcv
      rw [show (-1) * a = 0 - a by omega] at hcg
      have HST := Lib.hid hst
      clear hst hlt'
      go_wp2_with fail
      have e1 : IntKind.i64.wrap (a + b) = a + b := IntWalk.i64_in _ (by omega)
      have e2 : IntKind.i64.wrap (a - b) = a - b := IntWalk.i64_in _ (by omega)
      have e3 : IntKind.i64.wrap (0 - a) = 0 - a := IntWalk.i64_in _ (by omega)
      have hj0 : (0 : Int) ≤ (j : Int) := by omega
      have hjl : (j : Int) < (p.length : Int) := by omega
      go_quiet (fail)
      clear e1 e2 e3 hcu hcv hcg hcy
      have hbq := below_drewN hb7 nq
      generalize hr : rightTo x k2 j = r at *
      cases r
      · have HE : Box (rightTo x k2 (j + 1) = false) := ⟨by rw [HST.out]; rfl⟩
        clear hr HST
        go_wp2_with fail
        go_roundw
        case rel => exact ⟨j + 1, by omega, by go_num, by rw [HE.out], hbq⟩
        case measure => (simp [intOf]; try omega)
      · have HE : Box (rightTo x k2 (j + 1) = oneB a k2) := ⟨by rw [HST.out]; rfl⟩
        clear hr HST
        by_cases ha0 : a = 0
        · have HF : Box (rightTo x k2 (j + 1) = true) := ⟨by rw [HE.out]; unfold oneB; rw [decide_eq_true ha0]; rfl⟩
          have hab : (a == 0) = true := by simpa using ha0
          clear ha0
          go_wp2_with fail
          go_roundw
          case rel => exact ⟨j + 1, by omega, by go_num, by rw [HF.out], hbq⟩
          case measure => (simp [intOf]; try omega)
        · have hab : (a == 0) = false := by simpa using ha0
          have HA := Lib.hid (fun W => lawAbs_any a W (by omega))
          have hm : 1 ≤ absI a ∧ absI a ≤ 9 := by unfold absI; split <;> omega
          have HV : Box (rightTo x k2 (j + 1) = (decide (k2 ≤ 1000 / absI a) && decide (0 - 1000 / absI a ≤ k2))) := ⟨by rw [HE.out]; unfold oneB; rw [decide_eq_false ha0]; rfl⟩
          generalize absI a = m at *
          have hd := div_bound m hm
          by_cases hk1 : k2 ≤ 1000 / m
          · by_cases hk2 : 0 - 1000 / m ≤ k2
            · have HF : Box (rightTo x k2 (j + 1) = true) := ⟨by rw [HV.out, decide_eq_true hk1, decide_eq_true hk2]; rfl⟩
              go_wp2_with (go_at_call 32; refine (HA.out _).mono ?_; rintro e w5 ⟨rfl, rfl⟩)
              go_roundw
              case rel => exact ⟨j + 1, by omega, by go_num, by rw [HF.out]; exact congrArg Value.bool (decide_eq_true (by omega)), hbq⟩
              case measure => (simp [intOf]; try omega)
            · have HF : Box (rightTo x k2 (j + 1) = false) := ⟨by rw [HV.out, decide_eq_false hk2, Bool.and_false]⟩
              go_wp2_with (go_at_call 32; refine (HA.out _).mono ?_; rintro e w5 ⟨rfl, rfl⟩)
              go_roundw
              case rel => exact ⟨j + 1, by omega, by go_num, by rw [HF.out]; exact congrArg Value.bool (decide_eq_false (by omega)), hbq⟩
              case measure => (simp [intOf]; try omega)
          · have HF : Box (rightTo x k2 (j + 1) = false) := ⟨by rw [HV.out, decide_eq_false hk1]; rfl⟩
            go_wp2_with (go_at_call 32; refine (HA.out _).mono ?_; rintro e w5 ⟨rfl, rfl⟩)
            go_roundw
            case rel => exact ⟨j + 1, by omega, by go_num, by rw [HF.out], hbq⟩
            case measure => (simp [intOf]; try omega)
    · obtain rfl : j = p.length := by omega
      have hrp := right_power (k := k2) H0.out SX.out
      rw [HXL.out] at hrp
      have hbw8 := hbw.trans (hb7.mono hbw.size)
      by_cases hr : rightTo x k2 p.length = true
      · rcases HPOW.out with ⟨h0, rfl, hn0, hrow⟩ | ⟨h0, _, _⟩
        · have HROW := Lib.hid (hrow.lift hb7)
          have HCL : Box (∀ j, j < x.length → x[j]?.getD 0 ≠ 0 → clampK k2 = k2) := ⟨fun j hj h => oneB_clamp _ k2 (SX.out.le j hj) ((rightTo_iff x k2 p.length).1 hr j (by rw [← HXL.out]; exact hj)) h⟩
          have HPR := Lib.hid (right_of h0)
          rw [hr]
          obtain rfl : nw = p.length := by rw [hn0, HXL.out]
          clear hrp hr hrow h0 hn0
          go_wp2_with fail
          go_loopw [20] (fun i wq => ∃ j : Nat, j ≤ p.length ∧ i = .int .i64 j ∧ Below wr.heap.size wr wq) (fun i _ => p.length - (intOf i).toNat)
          case atStart => exact ⟨0, Nat.zero_le _, rfl, Below.refl _ _⟩
          case round =>
            obtain ⟨j, hj, rfl, hb9⟩ := hrel
            rename_i wq
            by_cases hlt : j < p.length
            · have hlt' : j < x.length := by rw [HXL.out]; exact hlt
              obtain ⟨adx, rfl, _, hcx⟩ := ((HX.out.lift hb7).lift hb9).at_ hlt
              obtain ⟨adw, rfl, _, hcw⟩ := (HROW.out.lift hb9).at_ hlt
              have hpx := HPR.out.ex j (by rw [timesTo_len]; exact hlt')
              rw [timesTo_get x _ j _ hlt'] at hpx hcw
              have hxa := SX.out.le j hlt'
              have hcl := HCL.out j hlt'
              generalize x[j]?.getD 0 = a at *
              have hj0 : (0 : Int) ≤ (j : Int) := by omega
              have hjl : (j : Int) < (p.length : Int) := by omega
              clear hlt'
              by_cases ha0 : a = 0
              · subst ha0
                rw [Int.mul_zero] at hcw
                clear hcl hpx
                go_wp2_with fail
                go_quiet (fail)
                go_wp2_with fail
                go_roundw
                case rel => exact ⟨j + 1, by omega, by go_num, below_drewN hb9 _⟩
                case measure => (simp [intOf]; try omega)
              · rw [hcl ha0] at hcw hpx
                have hab : (a == 0) = false := by simpa using ha0
                have han : (a != 0) = true := by simpa using ha0
                clear hcl ha0
                go_wp2_with fail
                have hw : IntKind.i64.wrap (k2 * a) = k2 * a := IntWalk.i64_in _ (by omega)
                go_quiet (fail)
                clear hw
                go_wp2_with fail
                go_roundw
                case rel => exact ⟨j + 1, by omega, by go_num, below_drewN hb9 _⟩
                case measure => (simp [intOf]; try omega)
            · obtain rfl : j = p.length := by omega
              go_wp2_with fail
              go_ret
              exact ⟨rfl, hbw8.trans (hb9.mono hbw8.size)⟩
        · exact absurd (by rw [← HXL.out] at hr; exact (right_power H0.out SX.out).1 hr) h0
      · rcases HPOW.out with ⟨h0, _, _, _⟩ | ⟨h0, rfl, rfl⟩
        · exact absurd (hrp.2 (by rw [← HXL.out]; exact h0)) hr
        · rw [show rightTo x k2 p.length = false by simpa using hr]
          clear hrp hr h0
          go_wp2_with fail
          go_ret
          exact ⟨rfl, hbw8⟩

end Go.Proofs.YtkoemgemnklmdaaGreatDoor
