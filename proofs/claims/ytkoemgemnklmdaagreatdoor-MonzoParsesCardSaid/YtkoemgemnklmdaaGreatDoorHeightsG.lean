/- MonzoHeights: the walk. -/
import Derived.Test.YtkoemgemnklmdaaGreatDoorAddsG
import Derived.Test.YtkoemgemnklmdaaGreatDoorGI
namespace Go.Proofs.YtkoemgemnklmdaaGreatDoor
open Go.RowKit Go.Lib

theorem num_neg {p x : List Int} (h : x.length = p.length) : num p (timesTo x (-1) x.length) = den p x ∧ den p (timesTo x (-1) x.length) = num p x := by
  have hl : (timesTo x (-1) x.length).length = p.length := by rw [timesTo_len, h]
  rw [num_pp hl, den_pp hl, num_pp h, den_pp h]
  constructor
  · refine pp_congr p 0 _ fun i _ h2 => ?_
    unfold upE downE
    rw [timesTo_get x (-1) i _ (by omega)]
    omega
  · refine pp_congr p 0 _ fun i _ h2 => ?_
    unfold upE downE
    rw [timesTo_get x (-1) i _ (by omega)]
    omega

/-- Small exponents make short numbers. -/
theorem to_len9 {p x : List Int} (hp : ∀ k, k < p.length → 2 ≤ p[k]?.getD 0 ∧ p[k]?.getD 0 ≤ 97) (h : SmallRow p 9 x) (k : Nat) (hk : k ≤ x.length) : (decDigits (numTo p x k)).length ≤ 1 + 18 * k ∧ (decDigits (denTo p x k)).length ≤ 1 + 18 * k := by
  induction k with
  | zero => rw [numTo, denTo, dec_small (by omega)]; simp
  | succ k ih =>
    obtain ⟨h1, h2⟩ := ih (by omega)
    have hpk := hp k (by rw [← h.len]; omega)
    have hx := h.le k (by omega)
    have h3 : (decDigits ((p[k]?.getD 0).toNat ^ (x[k]?.getD 0).natAbs)).length ≤ 18 := by
      rw [dec_length]
      refine nDigits_le (by omega) ?_
      have h5 : (p[k]?.getD 0).toNat ^ (x[k]?.getD 0).natAbs ≤ 97 ^ (x[k]?.getD 0).natAbs := Nat.pow_le_pow_left (by omega) _
      have h6 : (97 : Nat) ^ (x[k]?.getD 0).natAbs ≤ 97 ^ 9 := Nat.pow_le_pow_right (by omega) (by omega)
      have h7 : (97 : Nat) ^ 9 < 10 ^ 18 := by decide
      omega
    rw [numTo, denTo]
    have h4 := dec_mul_len (numTo p x k) ((p[k]?.getD 0).toNat ^ (x[k]?.getD 0).natAbs)
    have h5 := dec_mul_len (denTo p x k) ((p[k]?.getD 0).toNat ^ (x[k]?.getD 0).natAbs)
    split
    · omega
    · omega
theorem num_len9 {p x : List Int} (hp : primeErr p = 0) (h : SmallRow p 9 x) : (decDigits (num p x)).length ≤ 109 ∧ (decDigits (den p x)).length ≤ 109 := by
  obtain ⟨h6, _, hpr⟩ := right_primes hp
  have h1 := to_len9 hpr h x.length (Nat.le_refl _)
  have := h.len
  unfold num den
  omega
theorem shortOut_short {l : List UInt8} (h : l.length ≤ 400) : shortOut l = .tuple #[.string ⟨l.toArray⟩, .int .i64 0] := by unfold shortOut; rw [if_pos h]
theorem max_len {a b m : Nat} (ha : (decDigits a).length ≤ m) (hb : (decDigits b).length ≤ m) : (decDigits (max a b)).length ≤ m := by
  rcases Nat.le_total a b with h | h
  · rw [Nat.max_eq_right h]; exact hb
  · rw [Nat.max_eq_left h]; exact ha

/-- One interval whose numerator and denominator are N and D in some order. -/
structure SidesOf (p z : List Int) (N D : Nat) : Prop where
  chk : chkAll p [z] = 0
  prod : num p z * den p z = N * D
  mx : max (num p z) (den p z) = max N D
  od : max (left 2 (num p z)) (left 2 (den p z)) = max (left 2 N) (left 2 D)
  n0 : 0 < num p z
  d0 : 0 < den p z

set_option maxRecDepth 100000 in
set_option maxHeartbeats 4000000 in
theorem heights_walk (n0 : Nat) (a0 b0 c0 d0 : Int) (w : World) (hS : Std w) (hn : n0 ≤ 255) (h4 : Four [a0, b0, c0, d0]) :
    Calls Tryz.prog 11 #[.agg #[.int .u8 n0, .int .i8 a0, .int .i8 b0, .int .i8 c0, .int .i8 d0]] w fun e w' => e = .returned (.bool true) ∧ Below w.heap.size w w' := by
  have HS := Lib.hid hS
  have HM := Lib.hid (fun W => make_any n0 a0 b0 c0 d0 W hn h4)
  have HK := Lib.hid (fun W hW => known_any W hW)
  have h0 := (primesOf_ok n0).1
  have hp4 := (primesOf_ok n0).2
  clear hS h4
  generalize hx : [a0, b0, c0, d0] = lx at *
  clear hx
  go_enter Tryz.func11, Tryz.ntmps11
  go_wp2_with fail
  obtain ⟨W3, hW3⟩ : ∃ W3 : World, W3 = w.alloc (.cells #[.int .u8 n0, .int .i8 a0, .int .i8 b0, .int .i8 c0, .int .i8 d0] 50) := ⟨_, rfl⟩
  rw [← hW3]
  have hbw : Below w.heap.size w W3 := by rw [hW3]; exact (Below.refl _ _).alloc (Nat.le_refl _) _
  have CP : Hid (Cells W3 w.heap.size 50 [.int .u8 n0, .int .i8 a0, .int .i8 b0, .int .i8 c0, .int .i8 d0]) := Lib.hid (by rw [hW3]; exact Cells.new w _ _)
  clear hW3
  replace HS := Lib.hid (HS.out.below hbw (Nat.le_refl _))
  go_wp2_with fail
  refine (HK.out _ HS.out).mono ?_
  rintro e wk1 ⟨rfl, hbk⟩
  replace CP := Lib.hid (CP.out.below hbk CP.out.lt)
  replace HS := Lib.hid (HS.out.below hbk (Nat.le_refl _))
  replace hbw := hbw.trans (hbk.mono hbw.size)
  clear hbk
  have q0 := CP.out.cell 0
  have q1 := CP.out.cell 1
  have q2 := CP.out.cell 2
  have q3 := CP.out.cell 3
  have q4 := CP.out.cell 4
  simp only [List.getElem?_cons_succ, List.getElem?_cons_zero] at q0 q1 q2 q3 q4
  go_wp2_with fail
  refine (HM.out _).mono ?_
  rintro e wk2 ⟨⟨AP, cp, AX, cx, rfl, hp, hx⟩, hbk⟩
  clear q0 q1 q2 q3 q4 CP
  replace HS := Lib.hid (HS.out.below hbk (Nat.le_refl _))
  replace hbw := hbw.trans (hbk.mono hbw.size)
  have HP := Lib.hid hp
  have HX := Lib.hid hx
  clear hp hx hbk HM HK
  have SX : Box (SmallRow (primesOf n0) 9 (ivlTo lx (primesOf n0).length)) := ⟨ivl_small⟩
  have H0 : Box (primeErr (primesOf n0) = 0) := ⟨h0⟩
  clear h0
  generalize ivlTo lx (primesOf n0).length = x at *
  generalize primesOf n0 = p at *
  go_wp2_with fail
  refine (lawValue_any _ _ p x _ HS.out HP.out HX.out (right_of (SX.out.chk H0.out (by omega)))).mono ?_
  rintro e wk3 ⟨rfl, hbk⟩
  replace HP := Lib.hid (HP.out.lift hbk)
  replace HX := Lib.hid (HX.out.lift hbk)
  replace HS := Lib.hid (HS.out.below hbk (Nat.le_refl _))
  replace hbw := hbw.trans (hbk.mono hbw.size)
  clear hbk
  go_wp2_with fail
  refine (neg_small HP.out HX.out H0.out SX.out (by omega)).mono ?_
  rintro e wk4 ⟨⟨AY, cy, rfl, hr⟩, hbk⟩
  replace HP := Lib.hid (HP.out.lift hbk)
  replace HX := Lib.hid (HX.out.lift hbk)
  replace HS := Lib.hid (HS.out.below hbk (Nat.le_refl _))
  replace hbw := hbw.trans (hbk.mono hbw.size)
  have HY := Lib.hid hr
  clear hr hbk
  have hpp := primed H0.out
  have hnn := num_neg (p := p) SX.out.len
  have hN0 := num_pos hpp SX.out.len
  have hD0 := den_pos hpp SX.out.len
  have ZX : Box (SidesOf p x (num p x) (den p x)) := ⟨SX.out.chk H0.out (by omega), rfl, rfl, rfl, hN0, hD0⟩
  have ZY : Box (SidesOf p (timesTo x (-1) x.length) (num p x) (den p x)) := ⟨SX.out.neg.chk H0.out (by omega), by rw [hnn.1, hnn.2, Nat.mul_comm], by rw [hnn.1, hnn.2, Nat.max_comm], by rw [hnn.1, hnn.2, Nat.max_comm], by rw [hnn.1]; exact hD0, by rw [hnn.2]; exact hN0⟩
  obtain ⟨hl1, hl2⟩ := num_len9 H0.out SX.out
  have hl3 := dec_mul_len (num p x) (den p x)
  have hl4 := max_len hl1 hl2
  have ho1 := dec_le_len (left_le 2 (num p x)).1
  have ho2 := dec_le_len (left_le 2 (den p x)).1
  have hl5 : (decDigits (max (left 2 (num p x)) (left 2 (den p x)))).length ≤ 109 := max_len (by omega) (by omega)
  have C1 := Lib.hid (fun W hW => whMul_nat (num p x) (den p x) W hW (by omega) (by omega))
  have C2 := Lib.hid (fun W => most_any (num p x) (den p x) W (by omega) (by omega))
  have C3 := Lib.hid (fun W hW => odd_any (num p x) W hW (by omega) hN0 (by have := mult_le_len 2 (num p x); omega))
  have C4 := Lib.hid (fun W hW => odd_any (den p x) W hW (by omega) hD0 (by have := mult_le_len 2 (den p x); omega))
  have C5 := Lib.hid (fun W => most_any (left 2 (num p x)) (left 2 (den p x)) W (by omega) (by omega))
  have C6 := Lib.hid (fun W hW => whAdd_any (den p x : Int) 1 W hW (by rw [itoa_nat]; omega) (by rw [show (1 : Int) = ((1 : Nat) : Int) from rfl, itoa_nat, dec_small (by omega)]; simp))
  rw [show ((den p x : Int) + 1) = ((den p x + 1 : Nat) : Int) from rfl, itoa_nat, itoa_nat, show (1 : Int) = ((1 : Nat) : Int) from rfl, itoa_nat, show decDigits 1 = [49] by rw [dec_small (by omega)]; rfl] at C6
  have C7 := Lib.hid (fun W hW hp hx => superp_ok (.slice AP p.length cp) (.slice AX x.length cx) p x W hW hp hx (SX.out.chk H0.out (by omega)))
  have S1 : Box (shortOut (decDigits (num p x * den p x)) = .tuple #[.string ⟨(decDigits (num p x * den p x)).toArray⟩, .int .i64 0]) := ⟨shortOut_short (by omega)⟩
  have S2 : Box (shortOut (decDigits (max (num p x) (den p x))) = .tuple #[.string ⟨(decDigits (max (num p x) (den p x))).toArray⟩, .int .i64 0]) := ⟨shortOut_short (by omega)⟩
  have S3 : Box (shortOut (decDigits (max (left 2 (num p x)) (left 2 (den p x)))) = .tuple #[.string ⟨(decDigits (max (left 2 (num p x)) (left 2 (den p x)))).toArray⟩, .int .i64 0]) := ⟨shortOut_short (by omega)⟩
  clear hpp hnn hN0 hD0 hl1 hl2 hl3 hl4 hl5 ho1 ho2
  have HXL : Box ((timesTo x (-1) x.length).length = x.length) := ⟨timesTo_len _ _ _⟩
  generalize hyy : timesTo x (-1) x.length = y at *
  clear hyy
  generalize num p x = N at *
  generalize den p x = D at *
  go_wp2_with fail
  obtain ⟨g4, hg4⟩ : ∃ g : Nat, g = wk4.heap.size := ⟨_, rfl⟩
  obtain ⟨W4, hW4⟩ : ∃ W : World, W = wk4.alloc (.cells #[.slice AX x.length cx, .slice AY y.length cy] 24) := ⟨_, rfl⟩
  have hbk : Below wk4.heap.size wk4 W4 := by rw [hW4]; exact (Below.refl _ _).alloc (Nat.le_refl _) _
  have CZ : Hid (Cells W4 g4 24 [.slice AX x.length cx, .slice AY y.length cy]) := Lib.hid (by rw [hW4, hg4]; exact Cells.new wk4 _ _)
  rw [← hW4, ← hg4]
  clear hW4 hg4
  replace HP := Lib.hid (HP.out.lift hbk)
  replace HX := Lib.hid (HX.out.lift hbk)
  replace HY := Lib.hid (HY.out.lift hbk)
  replace HS := Lib.hid (HS.out.below hbk (Nat.le_refl _))
  replace hbw := hbw.trans (hbk.mono hbw.size)
  clear hbk
  go_loopw [42] (fun i wr => ∃ k : Nat, k ≤ 2 ∧ i = .int .i64 k ∧ Below W4.heap.size W4 wr) (fun i _ => 2 - (intOf i).toNat)
  case atStart => exact ⟨0, by omega, rfl, Below.refl _ _⟩
  case round =>
    obtain ⟨k, hk, rfl, hb4⟩ := hrel
    by_cases hlt : k < 2
    · obtain ⟨AZ, z, cz, hcz, hrz, hsz⟩ : ∃ AZ z cz, wr.cell? ⟨g4, k, Option.none⟩ = some (.slice AZ (List.length z) cz) ∧ IsRow wr wr.heap.size (.slice AZ (List.length z) cz) z ∧ SidesOf p z N D := by
        have hc := (CZ.out.below hb4 CZ.out.lt).cell k
        rcases (show k = 0 ∨ k = 1 by omega) with rfl | rfl
        · exact ⟨AX, x, cx, hc, HX.out.lift hb4, ZX.out⟩
        · exact ⟨AY, y, cy, hc, HY.out.lift hb4, ZY.out⟩
      have HZ := Lib.hid hrz
      have HSZ : Box (SidesOf p z N D) := ⟨hsz⟩
      have HP1 := Lib.hid (HP.out.lift hb4)
      have HS1 := Lib.hid (HS.out.below hb4 (Nat.le_refl _))
      have hb5 := hb4
      clear hrz hsz
      have D1 := Lib.hid (fun W hp hz hS => product_any (.slice AP p.length cp) (.slice AZ (List.length z) cz) p z W hp hz HSZ.out.chk hS)
      rw [HSZ.out.prod, S1.out] at D1
      have D2 := Lib.hid (fun W hp hz hS => greater_mon (.slice AP p.length cp) (.slice AZ (List.length z) cz) p z W hp hz HSZ.out.chk hS)
      rw [HSZ.out.mx, S2.out] at D2
      have D3 := Lib.hid (fun W hp hz hS => odd_mon (.slice AP p.length cp) (.slice AZ (List.length z) cz) p z W hp hz HSZ.out.chk hS HSZ.out.n0 HSZ.out.d0)
      rw [HSZ.out.od, S3.out] at D3
      go_wp2_with fail
      refine (D1.out _ HP1.out HZ.out HS1.out).mono ?_
      rintro e wk5 ⟨rfl, hbk⟩
      replace HP1 := Lib.hid (HP1.out.lift hbk)
      replace HZ := Lib.hid (HZ.out.lift hbk)
      replace HS1 := Lib.hid (HS1.out.below hbk (Nat.le_refl _))
      replace hb5 := hb5.trans (hbk.mono hb5.size)
      clear hbk
      go_wp2_with fail
      refine (D2.out _ HP1.out HZ.out HS1.out).mono ?_
      rintro e wk6 ⟨rfl, hbk⟩
      replace HP1 := Lib.hid (HP1.out.lift hbk)
      replace HZ := Lib.hid (HZ.out.lift hbk)
      replace HS1 := Lib.hid (HS1.out.below hbk (Nat.le_refl _))
      replace hb5 := hb5.trans (hbk.mono hb5.size)
      clear hbk
      go_wp2_with fail
      refine (D3.out _ HP1.out HZ.out HS1.out).mono ?_
      rintro e wk7 ⟨rfl, hbk⟩
      replace HP1 := Lib.hid (HP1.out.lift hbk)
      replace HZ := Lib.hid (HZ.out.lift hbk)
      replace HS1 := Lib.hid (HS1.out.below hbk (Nat.le_refl _))
      replace hb5 := hb5.trans (hbk.mono hb5.size)
      clear hbk
      go_wp2_with fail
      refine (C1.out _ HS1.out).mono ?_
      rintro e wk8 ⟨rfl, hbk⟩
      replace HP1 := Lib.hid (HP1.out.lift hbk)
      replace HZ := Lib.hid (HZ.out.lift hbk)
      replace HS1 := Lib.hid (HS1.out.below hbk (Nat.le_refl _))
      replace hb5 := hb5.trans (hbk.mono hb5.size)
      clear hbk
      go_wp2_with fail
      refine (C2.out _).mono ?_
      rintro e wk9 ⟨rfl, hbk⟩
      replace HP1 := Lib.hid (HP1.out.lift hbk)
      replace HZ := Lib.hid (HZ.out.lift hbk)
      replace HS1 := Lib.hid (HS1.out.below hbk (Nat.le_refl _))
      replace hb5 := hb5.trans (hbk.mono hb5.size)
      clear hbk
      go_wp2_with fail
      refine (C3.out _ HS1.out).mono ?_
      rintro e wk10 ⟨rfl, hbk⟩
      replace HP1 := Lib.hid (HP1.out.lift hbk)
      replace HZ := Lib.hid (HZ.out.lift hbk)
      replace HS1 := Lib.hid (HS1.out.below hbk (Nat.le_refl _))
      replace hb5 := hb5.trans (hbk.mono hb5.size)
      clear hbk
      go_wp2_with fail
      refine (C4.out _ HS1.out).mono ?_
      rintro e wk11 ⟨rfl, hbk⟩
      replace HP1 := Lib.hid (HP1.out.lift hbk)
      replace HZ := Lib.hid (HZ.out.lift hbk)
      replace HS1 := Lib.hid (HS1.out.below hbk (Nat.le_refl _))
      replace hb5 := hb5.trans (hbk.mono hb5.size)
      clear hbk
      go_wp2_with fail
      refine (C5.out _).mono ?_
      rintro e wk12 ⟨rfl, hbk⟩
      replace HP1 := Lib.hid (HP1.out.lift hbk)
      replace HZ := Lib.hid (HZ.out.lift hbk)
      replace HS1 := Lib.hid (HS1.out.below hbk (Nat.le_refl _))
      replace hb5 := hb5.trans (hbk.mono hb5.size)
      clear hbk
      go_wp2_with fail
      go_roundw
      case rel => exact ⟨k + 1, by omega, by go_num, hb5⟩
      case measure => (simp [intOf]; try omega)
    · obtain rfl : k = 2 := by omega
      have HP1 := Lib.hid (HP.out.lift hb4)
      have HX1 := Lib.hid (HX.out.lift hb4)
      have HS1 := Lib.hid (HS.out.below hb4 (Nat.le_refl _))
      replace hbw := hbw.trans (hb4.mono hbw.size)
      go_wp2_with fail
      refine (C7.out _ HS1.out HP1.out HX1.out).mono ?_
      rintro e wk13 ⟨rfl, hbk⟩
      replace HP1 := Lib.hid (HP1.out.lift hbk)
      replace HX1 := Lib.hid (HX1.out.lift hbk)
      replace HS1 := Lib.hid (HS1.out.below hbk (Nat.le_refl _))
      replace hbw := hbw.trans (hbk.mono hbw.size)
      clear hbk
      go_wp2_with fail
      refine (C6.out _ HS1.out).mono ?_
      rintro e wk14 ⟨rfl, hbk⟩
      replace HP1 := Lib.hid (HP1.out.lift hbk)
      replace HX1 := Lib.hid (HX1.out.lift hbk)
      replace HS1 := Lib.hid (HS1.out.below hbk (Nat.le_refl _))
      replace hbw := hbw.trans (hbk.mono hbw.size)
      clear hbk
      go_wp2_with fail
      go_ret
      exact ⟨rfl, hbw⟩

end Go.Proofs.YtkoemgemnklmdaaGreatDoor
