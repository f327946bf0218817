/- MonzoParses: monzo.Parse of right texts, and the walk. -/
import Derived.Test.YtkoemgemnklmdaaGreatDoorFractionsG
import Derived.Test.YtkoemgemnklmdaaGreatDoorFParG
import Derived.Test.YtkoemgemnklmdaaGreatDoorRPar2G
namespace Go.Proofs.YtkoemgemnklmdaaGreatDoor
open Go.RowKit Go.Lib

/-- The library's variable of the search in texts holds an int. -/
def LenIs (w : World) : Prop := ∃ m, w.cell? ⟨2, 0, Option.none⟩ = some (.int .i64 m)
theorem LenIs.below {w w' : World} (h : LenIs w) (hb : Below w.heap.size w w') : LenIs w' := by
  obtain ⟨m, hm⟩ := h
  exact ⟨m, (hb.cell (cell_lt hm)).trans hm⟩

theorem itoa_nonempty' (z : Int) : itoa z ≠ [] := by
  rcases itoa_cases z with ⟨_, e⟩ | ⟨_, e⟩
  · rw [e]; simp
  · rw [e]; obtain ⟨c, r, e2, _⟩ := dec_first z.natAbs; rw [e2]; simp

theorem fParse_rat (N D : Nat) (w : World) (hS : Std w) (hl : (decDigits N).length + (decDigits D).length < 400) (hd : 0 < D) (hg : Nat.gcd N D = 1) :
    Calls Tryz.prog 52 #[.string ⟨(ratText (decDigits N) (decDigits D)).toArray⟩] w fun e w' => e = .returned (.tuple #[.agg #[.string ⟨(decDigits N).toArray⟩, .string ⟨(decDigits D).toArray⟩], .int .i64 0]) ∧ Below w.heap.size w w' := by
  unfold ratText
  have h1 := dec_eq_one D
  by_cases h : D = 1
  · subst h
    rw [if_pos (by rw [h1]; rfl), show decDigits 1 = [49] by rw [dec_small (by omega)]; rfl]
    exact fParse_whole N w hS (by omega)
  · rw [if_neg (by rw [h1]; simpa using h)]
    exact fParse_slash N D w hS hl hd hg

theorem rat_no_bracket (N : Nat) (l : List UInt8) : Lib.hasPrefix (ratText (decDigits N) l) [91] = false := by
  obtain ⟨c, r, e, _, _⟩ := dec_first N
  have hc : c ≠ 91 := fun h => by
    have := dec_dig N c (by rw [e]; simp)
    unfold isDig at this
    rw [h] at this
    exact absurd this.2 (by decide)
  unfold ratText Lib.hasPrefix
  rw [e]
  split <;> simp [List.isPrefixOf, Ne.symm hc]

set_option maxRecDepth 100000 in
set_option maxHeartbeats 2000000 in
theorem mParse_rat {pv : Value} {p x : List Int} {w : World} (hS : Std w) (hpv : IsRow w w.heap.size pv p) (hp : primeErr p = 0) (hx : SmallRow p 9 x) :
    Calls Tryz.prog 50 #[pv, .string ⟨(ratText (decDigits (num p x)) (decDigits (den p x))).toArray⟩] w fun e w' => (∃ A c, e = .returned (.tuple #[.slice A x.length c, .int .i64 0]) ∧ IsRow w' w'.heap.size (.slice A x.length c) x) ∧ Below w.heap.size w w' := by
  have hpp := primed hp
  obtain ⟨l1, l2⟩ := num_len9 hp hx
  have HPC := Lib.hid (fun W h => primeCheck_any pv p W.heap.size W h)
  rw [hp] at HPC
  have HB := Lib.hid (fun W => hasPrefix_any (ratText (decDigits (num p x)) (decDigits (den p x))) [91] W)
  rw [rat_no_bracket] at HB
  have HF := Lib.hid (fun W hW => fParse_rat (num p x) (den p x) W hW (by omega) (den_pos hpp hx.len) (num_den_coprime hpp hx.len))
  have HO := Lib.hid (fun W hW hpv => of_sides (pv := pv) (w := W) hW hpv hp hx)
  have HS := Lib.hid hS
  have HPV := Lib.hid hpv
  obtain ⟨AP, cp, rfl, _⟩ := hpv
  clear hS hp hx hpp l1 l2
  generalize ratText (decDigits (num p x)) (decDigits (den p x)) = tx at *
  generalize decDigits (num p x) = la at *
  generalize decDigits (den p x) = lb at *
  have hbw := Below.refl w.heap.size w
  go_enter Tryz.func50, Tryz.ntmps50
  go_wp2_with fail
  refine (HPC.out _ HPV.out).mono ?_
  rintro e w1 ⟨rfl, rfl⟩
  go_wp2_with fail
  refine (HB.out _).mono ?_
  rintro e wk1 ⟨rfl, hbk⟩
  replace HPV := Lib.hid (HPV.out.lift hbk)
  replace HS := Lib.hid (HS.out.below hbk (Nat.le_refl _))
  replace hbw := hbw.trans (hbk.mono hbw.size)
  clear hbk
  go_wp2_with fail
  refine (HF.out _ HS.out).mono ?_
  rintro e wk2 ⟨rfl, hbk⟩
  replace HPV := Lib.hid (HPV.out.lift hbk)
  replace HS := Lib.hid (HS.out.below hbk (Nat.le_refl _))
  replace hbw := hbw.trans (hbk.mono hbw.size)
  clear hbk
  go_wp2_with fail
  have hbk : Below wk2.heap.size wk2 (wk2.alloc (.cells #[.string ⟨la.toArray⟩, .string ⟨lb.toArray⟩] 38)) := (Below.refl _ _).alloc (Nat.le_refl _) _
  generalize hWQ : wk2.alloc (.cells #[.string ⟨la.toArray⟩, .string ⟨lb.toArray⟩] 38) = WQ at *
  clear hWQ
  replace HPV := Lib.hid (HPV.out.lift hbk)
  replace HS := Lib.hid (HS.out.below hbk (Nat.le_refl _))
  replace hbw := hbw.trans (hbk.mono hbw.size)
  clear hbk
  refine (HO.out _ HS.out HPV.out).mono ?_
  rintro e w4 ⟨⟨A, c, rfl, hr⟩, hb4⟩
  have HR := Lib.hid hr
  clear hr
  go_wp2_with fail
  go_ret2
  exact ⟨⟨A, c, rfl, HR.out⟩, hbw.trans (hb4.mono hbw.size)⟩

set_option maxRecDepth 100000 in
set_option maxHeartbeats 2000000 in
theorem mParse_row {pv : Value} {p x : List Int} {w : World} (hL : LenIs w) (hpv : IsRow w w.heap.size pv p) (hp : primeErr p = 0) (hx : SmallRow p 9 x) :
    Calls Tryz.prog 50 #[pv, .string ⟨(91 :: rowTxt x ++ [62]).toArray⟩] w fun e w' => (∃ A c, e = .returned (.tuple #[.slice A x.length c, .int .i64 0]) ∧ IsRow w' w'.heap.size (.slice A x.length c) x) ∧ Below w.heap.size w w' := by
  have hck := hx.chk hp (by omega)
  obtain ⟨h1, h2, h3⟩ := rowChk_right (right_of hck)
  have hl := rowTxt_len h2 h3
  have hpp := primed hp
  have h1p := hpp.one
  have hxl := hx.len
  have hx0 : x ≠ [] := fun h => by subst h; simp at hxl; omega
  have hil : ∀ k, k < x.length → (itoa (x[k]?.getD 0)).length ≤ 1000 := fun k hk => by
    have h9 := hx.le k hk
    have := itoa_len (x[k]?.getD 0)
    have h10 : (decDigits (x[k]?.getD 0).natAbs).length ≤ 1 := by rw [dec_length]; exact nDigits_le (by omega) (by omega)
    omega
  have hne : (rowTxt x).isEmpty = false := by
    cases x with
    | nil => exact absurd rfl hx0
    | cons z t =>
      have hz := itoa_nonempty' z
      unfold rowTxt words
      rw [List.map_cons]
      cases t with
      | nil => rw [List.map_nil, Lib.join_one]; simpa using hz
      | cons y r => rw [List.map_cons, join_more]; simp
  obtain ⟨m, hm⟩ := hL
  have HPC := Lib.hid (fun W h => primeCheck_any pv p W.heap.size W h)
  rw [hp] at HPC
  have HB := Lib.hid (fun W => hasPrefix_any (91 :: rowTxt x ++ [62]) [91] W)
  rw [List.cons_append, (prefix_cut _).1] at HB
  have HR := Lib.hid (fun W hm => rowParse_yes x m W hx0 hl h2 (fun k hk => by have := hx.le k hk; omega) hil hne h1 hm)
  rw [List.cons_append] at HR
  have HC := Lib.hid (fun xv W h1 h2 => check_any pv xv p x W h1 h2)
  rw [hck] at HC
  have HM := Lib.hid hm
  have HPV := Lib.hid hpv
  obtain ⟨AP, cp, rfl, _⟩ := hpv
  rw [List.cons_append]
  clear hp hx hpp hck h1 h3 hl hne hil hm hx0 hxl
  generalize 91 :: (rowTxt x ++ [62]) = tx at *
  have hbw := Below.refl w.heap.size w
  go_enter Tryz.func50, Tryz.ntmps50
  go_wp2_with fail
  refine (HPC.out _ HPV.out).mono ?_
  rintro e w1 ⟨rfl, rfl⟩
  go_wp2_with fail
  refine (HB.out _).mono ?_
  rintro e w2 ⟨rfl, hb2⟩
  go_wp2_with fail
  refine (HR.out _ ((hb2.cell (cell_lt HM.out)).trans HM.out)).mono ?_
  rintro e w3 ⟨⟨A, c, rfl, hr⟩, hb3⟩
  have HX := Lib.hid hr
  clear hr
  replace hb2 := hb2.trans (hb3.mono hb2.size)
  clear hb3
  go_wp2_with fail
  refine (HC.out _ _ (HPV.out.lift hb2) HX.out).mono ?_
  rintro e w4 ⟨rfl, hb4⟩
  go_wp2_with fail
  go_ret2
  exact ⟨⟨A, c, rfl, HX.out.lift hb4⟩, hb2.trans (hb4.mono hb2.size)⟩

set_option maxRecDepth 100000 in
set_option maxHeartbeats 4000000 in
theorem parses_walk (n0 : Nat) (a0 b0 c0 d0 : Int) (w : World) (hS : Std w) (hLI : LenIs w) (hn : n0 ≤ 255) (h4 : Four [a0, b0, c0, d0]) :
    Calls Tryz.prog 12 #[.agg #[.int .u8 n0, .int .i8 a0, .int .i8 b0, .int .i8 c0, .int .i8 d0]] w fun e w' => e = .returned (.bool true) ∧ Below w.heap.size w w' := by
  have HS := Lib.hid hS
  have HLI := Lib.hid hLI
  have HM := Lib.hid (fun W => make_any n0 a0 b0 c0 d0 W hn h4)
  have HK := Lib.hid (fun W hW => known_any W hW)
  have h0 := (primesOf_ok n0).1
  have hp4 := (primesOf_ok n0).2
  clear hS h4 hLI
  generalize hx : [a0, b0, c0, d0] = lx at *
  clear hx
  go_enter Tryz.func12, Tryz.ntmps12
  go_wp2_with fail
  obtain ⟨W3, hW3⟩ : ∃ W3 : World, W3 = w.alloc (.cells #[.int .u8 n0, .int .i8 a0, .int .i8 b0, .int .i8 c0, .int .i8 d0] 50) := ⟨_, rfl⟩
  rw [← hW3]
  have hbw : Below w.heap.size w W3 := by rw [hW3]; exact (Below.refl _ _).alloc (Nat.le_refl _) _
  have CP : Hid (Cells W3 w.heap.size 50 [.int .u8 n0, .int .i8 a0, .int .i8 b0, .int .i8 c0, .int .i8 d0]) := Lib.hid (by rw [hW3]; exact Cells.new w _ _)
  clear hW3
  replace HS := Lib.hid (HS.out.below hbw (Nat.le_refl _))
  go_wp2_with fail
  refine (HK.out _ HS.out).mono ?_
  rintro e wk3 ⟨rfl, hbk⟩
  replace CP := Lib.hid (CP.out.below hbk CP.out.lt)
  replace HS := Lib.hid (HS.out.below hbk (Nat.le_refl _))
  replace hbw := hbw.trans (hbk.mono hbw.size)
  clear hbk
  have q0 := CP.out.cell 0
  have q1 := CP.out.cell 1
  have q2 := CP.out.cell 2
  have q3 := CP.out.cell 3
  have q4 := CP.out.cell 4
  simp only [List.getElem?_cons_succ, List.getElem?_cons_zero] at q0 q1 q2 q3 q4
  go_wp2_with fail
  refine (HM.out _).mono ?_
  rintro e wk4 ⟨⟨AP, cp, AX, cx, rfl, hp, hx⟩, hbk⟩
  clear q0 q1 q2 q3 q4 CP
  replace HS := Lib.hid (HS.out.below hbk (Nat.le_refl _))
  replace hbw := hbw.trans (hbk.mono hbw.size)
  have HP := Lib.hid hp
  have HX := Lib.hid hx
  clear hp hx hbk HM HK
  have SX : Box (SmallRow (primesOf n0) 9 (ivlTo lx (primesOf n0).length)) := ⟨ivl_small⟩
  have H0 : Box (primeErr (primesOf n0) = 0) := ⟨h0⟩
  clear h0
  generalize ivlTo lx (primesOf n0).length = x at *
  generalize primesOf n0 = p at *
  have HC : Box (chkAll p [x] = 0) := ⟨SX.out.chk H0.out (by omega)⟩
  obtain ⟨hl1, hl2⟩ := num_len9 H0.out SX.out
  have E1 : Box (fracOut (decDigits (num p x)) (decDigits (den p x)) = .tuple #[.agg #[.string ⟨(decDigits (num p x)).toArray⟩, .string ⟨(decDigits (den p x)).toArray⟩], .int .i64 0]) := ⟨by unfold fracOut; rw [if_pos (by omega)]⟩
  have F2 := Lib.hid (fun W hW hp hx => fraction_any (.slice AP p.length cp) (.slice AX x.length cx) p x W hW hp hx HC.out)
  rw [E1.out] at F2
  have F3 := Lib.hid (fun W hW hp hx => monText_yes (.slice AP p.length cp) (.slice AX x.length cx) p x (decDigits (num p x)) (decDigits (den p x)) W (by omega) (by omega) ⟨_, _, rfl⟩ ⟨_, _, rfl⟩ (Lib.hid (F2.out W hW hp hx)))
  have F4 := Lib.hid (fun W hW hp => mParse_rat (pv := .slice AP p.length cp) (w := W) hW hp H0.out SX.out)
  have F5 := Lib.hid (fun W hL hp => mParse_row (pv := .slice AP p.length cp) (w := W) hL hp H0.out SX.out)
  have F6 := Lib.hid (fun W hW hp hx => brackets_yes (.slice AP p.length cp) (.slice AX x.length cx) p x W hW hp hx HC.out)
  clear hl1 hl2 E1 F2
  generalize ratText (decDigits (num p x)) (decDigits (den p x)) = lt at *
  generalize 91 :: rowTxt x ++ [62] = lr at *
  go_wp2_with fail
  refine (F3.out _ HS.out HP.out HX.out).mono ?_
  rintro e wk5 ⟨rfl, hbk⟩
  replace HP := Lib.hid (HP.out.lift hbk)
  replace HX := Lib.hid (HX.out.lift hbk)
  replace HS := Lib.hid (HS.out.below hbk (Nat.le_refl _))
  replace hbw := hbw.trans (hbk.mono hbw.size)
  clear hbk
  go_wp2_with fail
  refine (F6.out _ HS.out HP.out HX.out).mono ?_
  rintro e wk6 ⟨rfl, hbk⟩
  replace HP := Lib.hid (HP.out.lift hbk)
  replace HX := Lib.hid (HX.out.lift hbk)
  replace HS := Lib.hid (HS.out.below hbk (Nat.le_refl _))
  replace hbw := hbw.trans (hbk.mono hbw.size)
  clear hbk
  go_wp2_with fail
  refine (F4.out _ HS.out HP.out).mono ?_
  rintro e wk7 ⟨⟨AY, cy, rfl, hy⟩, hbk⟩
  replace HP := Lib.hid (HP.out.lift hbk)
  replace HX := Lib.hid (HX.out.lift hbk)
  replace HS := Lib.hid (HS.out.below hbk (Nat.le_refl _))
  replace hbw := hbw.trans (hbk.mono hbw.size)
  have HY := Lib.hid hy
  clear hy hbk
  go_wp2_with fail
  refine (F5.out _ (HLI.out.below hbw) HP.out).mono ?_
  rintro e wk8 ⟨⟨AZ, cz, rfl, hz⟩, hbk⟩
  replace HP := Lib.hid (HP.out.lift hbk)
  replace HX := Lib.hid (HX.out.lift hbk)
  replace HY := Lib.hid (HY.out.lift hbk)
  replace HS := Lib.hid (HS.out.below hbk (Nat.le_refl _))
  replace hbw := hbw.trans (hbk.mono hbw.size)
  have HZ := Lib.hid hz
  clear hz hbk
  go_wp2_with fail
  refine (same_eq HX.out HY.out rfl).mono ?_
  rintro e wk9 ⟨rfl, hbk⟩
  replace HP := Lib.hid (HP.out.lift hbk)
  replace HX := Lib.hid (HX.out.lift hbk)
  replace HY := Lib.hid (HY.out.lift hbk)
  replace HZ := Lib.hid (HZ.out.lift hbk)
  replace HS := Lib.hid (HS.out.below hbk (Nat.le_refl _))
  replace hbw := hbw.trans (hbk.mono hbw.size)
  clear hbk
  go_wp2_with fail
  refine (same_eq HX.out HZ.out rfl).mono ?_
  rintro e wk10 ⟨rfl, hbk⟩
  replace HP := Lib.hid (HP.out.lift hbk)
  replace HX := Lib.hid (HX.out.lift hbk)
  replace HY := Lib.hid (HY.out.lift hbk)
  replace HZ := Lib.hid (HZ.out.lift hbk)
  replace HS := Lib.hid (HS.out.below hbk (Nat.le_refl _))
  replace hbw := hbw.trans (hbk.mono hbw.size)
  clear hbk
  go_wp2_with fail
  go_ret
  exact ⟨rfl, hbw⟩

end Go.Proofs.YtkoemgemnklmdaaGreatDoor
