/- MonzoLong: the walk. -/
import Derived.Test.YtkoemgemnklmdaaGreatDoorOrdersG
import Derived.Test.YtkoemgemnklmdaaGreatDoorHeightsG
import Derived.Test.YtkoemgemnklmdaaGreatDoorErrorsG
import Derived.Test.YtkoemgemnklmdaaGreatDoorAddsG
namespace Go.Proofs.YtkoemgemnklmdaaGreatDoor
open Go.RowKit Go.Lib

theorem p23 : primeErr [2, 3] = 0 := by decide
theorem long_chk (m n : Int) (hm : -1000 ≤ m ∧ m ≤ 1000) (hn : -1000 ≤ n ∧ n ≤ 1000) : chkAll [2, 3] [[m, n]] = 0 :=
  chk_small p23 rfl (fun v hv => by
    rcases List.mem_cons.1 hv with rfl | hv
    · exact hm
    · rw [List.mem_singleton] at hv; subst hv; exact hn)

theorem long_num (m n : Int) : num [2, 3] [m, n] = 2 ^ m.toNat * 3 ^ n.toNat ∧ den [2, 3] [m, n] = 2 ^ (-m).toNat * 3 ^ (-n).toNat := by
  rw [num_pp (p := [2, 3]) (x := [m, n]) rfl, den_pp (p := [2, 3]) (x := [m, n]) rfl]
  constructor
  · simp [pp, upE]
  · simp [pp, downE]

theorem long_sign (n : Int) : cmpN (num [2, 3] [-1, n]) (den [2, 3] [-1, n]) = if n ≤ 0 then -1 else 1 := by
  rw [(long_num (-1) n).1, (long_num (-1) n).2, show (-1 : Int).toNat = 0 from rfl, show (-(-1) : Int).toNat = 1 from rfl, Nat.pow_zero, Nat.one_mul, Nat.pow_one]
  by_cases h : n ≤ 0
  · rw [if_pos h, show n.toNat = 0 by omega, Nat.pow_zero]
    have : 0 < 3 ^ (-n).toNat := Nat.pow_pos (by omega)
    unfold cmpN
    rw [if_pos (by omega)]
  · rw [if_neg h, show (-n).toNat = 0 by omega, Nat.pow_zero]
    have : 3 ^ 1 ≤ 3 ^ n.toNat := Nat.pow_le_pow_right (by omega) (by omega)
    unfold cmpN
    rw [if_neg (by omega), if_neg (by omega)]

/-- The order of 3^n and 3^(n / 2). -/
def halfCmp (n : Int) : Int := cmpN (num [2, 3] [0, n] * den [2, 3] [0, n.tdiv 2]) (num [2, 3] [0, n.tdiv 2] * den [2, 3] [0, n])

theorem half_pos (n : Int) (h : 1 < n) : halfCmp n = 1 := by
  have ht : n.tdiv 2 = n / 2 := Int.tdiv_eq_ediv_of_nonneg (by omega)
  unfold halfCmp
  rw [(long_num 0 n).1, (long_num 0 n).2, (long_num 0 _).1, (long_num 0 _).2, ht]
  rw [show (-n).toNat = 0 by omega, show (-(n / 2)).toNat = 0 by omega]
  simp only [Int.toNat_zero, Int.neg_zero, Nat.pow_zero, Nat.one_mul, Nat.mul_one]
  have h2 : 3 ^ (n / 2).toNat < 3 ^ n.toNat := Nat.pow_lt_pow_right (by omega) (by omega)
  unfold cmpN
  rw [if_neg (by omega), if_neg (by omega)]
theorem half_neg (n : Int) (h : n < -1) : halfCmp n = -1 := by
  have ht : n.tdiv 2 = -((-n) / 2) := by
    have e : n = -(-n) := by omega
    conv => lhs; rw [e, Int.neg_tdiv]
    rw [Int.tdiv_eq_ediv_of_nonneg (by omega)]
  unfold halfCmp
  rw [(long_num 0 n).1, (long_num 0 n).2, (long_num 0 _).1, (long_num 0 _).2, ht]
  rw [show n.toNat = 0 by omega, show (-(-n / 2)).toNat = 0 by omega, show (-(-(-n / 2))).toNat = (-n / 2).toNat by rw [Int.neg_neg]]
  simp only [Int.toNat_zero, Int.neg_zero, Nat.pow_zero, Nat.one_mul, Nat.mul_one]
  have h2 : 3 ^ (-n / 2).toNat < 3 ^ (-n).toNat := Nat.pow_lt_pow_right (by omega) (by omega)
  unfold cmpN
  rw [if_pos h2]
theorem half_zero : halfCmp 0 = 0 := by decide
theorem half_bound (n : Int) : -1 ≤ halfCmp n ∧ halfCmp n ≤ 1 := by
  unfold halfCmp cmpN
  split
  · omega
  · split <;> omega

theorem tdiv2 (n : Int) (h : -1000 ≤ n ∧ n ≤ 1000) : -1000 ≤ n.tdiv 2 ∧ n.tdiv 2 ≤ 1000 := by
  by_cases hn : 0 ≤ n
  · rw [Int.tdiv_eq_ediv_of_nonneg hn]; omega
  · have e : n = -(-n) := by omega
    rw [e, Int.neg_tdiv, Int.tdiv_eq_ediv_of_nonneg (by omega)]; omega

def SgIs (n sg : Int) : Prop := (if n ≤ 0 then (-1 : Int) else 1) = sg

/-- What the law asks of the order. -/
def halfOk (n o : Int) : Prop := (1 < n ∧ o = 1) ∨ (n = 1) ∨ (n = 0 ∧ o = 0) ∨ (n = -1) ∨ (n < -1 ∧ o = -1)
theorem half_ok (n : Int) : halfOk n (halfCmp n) := by
  unfold halfOk
  by_cases h1 : 1 < n
  · exact .inl ⟨h1, half_pos n h1⟩
  · by_cases h2 : n < -1
    · exact .inr (.inr (.inr (.inr ⟨h2, half_neg n h2⟩)))
    · rcases (show n = 1 ∨ n = 0 ∨ n = -1 by omega) with rfl | rfl | rfl
      · exact .inr (.inl rfl)
      · exact .inr (.inr (.inl ⟨rfl, half_zero⟩))
      · exact .inr (.inr (.inr (.inl rfl)))

def outOk (n sg o : Int) : Prop := (1 < n ∧ sg = 1 ∧ o = 1) ∨ (n = 1 ∧ sg = 1) ∨ (n = 0 ∧ sg = -1 ∧ o = 0) ∨ (n = -1 ∧ sg = -1) ∨ (n < -1 ∧ sg = -1 ∧ o = -1)
theorem out_ok {n sg o : Int} (h1 : SgIs n sg) (h2 : halfOk n o) : outOk n sg o := by
  unfold SgIs at h1
  unfold halfOk at h2
  unfold outOk
  rcases h2 with ⟨h, rfl⟩ | rfl | ⟨rfl, rfl⟩ | rfl | ⟨h, rfl⟩
  · rw [if_neg (by omega)] at h1
    exact .inl ⟨h, h1.symm, rfl⟩
  · exact .inr (.inl ⟨rfl, h1.symm⟩)
  · exact .inr (.inr (.inl ⟨rfl, h1.symm, rfl⟩))
  · exact .inr (.inr (.inr (.inl ⟨rfl, h1.symm⟩)))
  · rw [if_pos (by omega)] at h1
    exact .inr (.inr (.inr (.inr ⟨h, h1.symm, rfl⟩)))

theorem long_sides (n : Int) : (decDigits (num [2, 3] [0, n]) = decDigits (3 ^ n.natAbs) ∧ decDigits (den [2, 3] [0, n]) = [49]) ∨ (decDigits (num [2, 3] [0, n]) = [49] ∧ decDigits (den [2, 3] [0, n]) = decDigits (3 ^ n.natAbs)) := by
  rw [(long_num 0 n).1, (long_num 0 n).2]
  simp only [Int.toNat_zero, Int.neg_zero, Nat.pow_zero, Nat.one_mul]
  by_cases h : 0 < n
  · left
    rw [show (-n).toNat = 0 by omega, show n.toNat = n.natAbs by omega, Nat.pow_zero]
    exact ⟨rfl, d1⟩
  · right
    rw [show n.toNat = 0 by omega, show (-n).toNat = n.natAbs by omega, Nat.pow_zero]
    exact ⟨d1, rfl⟩
theorem long_prod (n : Int) : num [2, 3] [0, n] * den [2, 3] [0, n] = 3 ^ n.natAbs ∧ max (num [2, 3] [0, n]) (den [2, 3] [0, n]) = 3 ^ n.natAbs := by
  rw [(long_num 0 n).1, (long_num 0 n).2]
  simp only [Int.toNat_zero, Int.neg_zero, Nat.pow_zero, Nat.one_mul]
  have h3 : 0 < 3 ^ n.natAbs := Nat.pow_pos (by omega)
  by_cases h : 0 < n
  · rw [show (-n).toNat = 0 by omega, show n.toNat = n.natAbs by omega, Nat.pow_zero]
    exact ⟨by omega, Nat.max_eq_left (by omega)⟩
  · rw [show n.toNat = 0 by omega, show (-n).toNat = n.natAbs by omega, Nat.pow_zero]
    exact ⟨by omega, Nat.max_eq_right (by omega)⟩

set_option maxRecDepth 100000 in
set_option maxHeartbeats 4000000 in
theorem long_walk (k0 : Int) (w : World) (hS : Std w) (h1 : -32768 ≤ k0) (h2 : k0 ≤ 32767) :
    Calls Tryz.prog 6 #[.int .i16 k0] w fun e w' => e = .returned (.bool true) ∧ Below w.heap.size w w' := by
  have HS := Lib.hid hS
  have HK := Lib.hid (fun W hW => known_any W hW)
  clear hS
  by_cases hr : k0 ≤ 1000 ∧ -1000 ≤ k0
  · obtain ⟨hr1, hr2⟩ := hr
    have HA := Lib.hid (fun W => lawAbs_any k0 W (by omega))
    rw [show absI k0 = (k0.natAbs : Int) by unfold absI; split <;> omega] at HA
    have HPW := Lib.hid (fun W => power_any 3 k0.natAbs W (by omega) (by omega) (by omega))
    rw [show decDigits 3 = [51] by rw [dec_small (by omega)]; rfl] at HPW
    go_enter Tryz.func6, Tryz.ntmps6
    go_wp2_with fail
    refine (HK.out _ HS.out).mono ?_
    rintro e w1 ⟨rfl, hbw⟩
    replace HS := Lib.hid (HS.out.below hbw (Nat.le_refl _))
    have HP := Lib.hid (isRow_new w1 3 [2, 3] #[.int .i64 2, .int .i64 3] rfl (by simp) 2 rfl)
    go_wp2_with fail
    refine (HA.out _).mono ?_
    rintro e w2 ⟨rfl, rfl⟩
    go_wp2_with fail
    have HX0 := isRow_new (w1.alloc (.cells #[.int .i64 2, .int .i64 3] 3)) 3 [0, k0] #[.int .i64 0, .int .i64 k0] rfl (by simp) 2 rfl
    have HP0 := (HP.out.alloc (by simp) (.cells #[.int .i64 0, .int .i64 k0] 3)).up (show w1.heap.size + 1 ≤ ((w1.alloc (.cells #[.int .i64 2, .int .i64 3] 3)).alloc (.cells #[.int .i64 0, .int .i64 k0] 3)).heap.size by simp)
    have hb0 : Below w1.heap.size w1 ((w1.alloc (.cells #[.int .i64 2, .int .i64 3] 3)).alloc (.cells #[.int .i64 0, .int .i64 k0] 3)) := ((Below.refl _ _).alloc (Nat.le_refl _) _).alloc (by simp) _
    rw [World.size_alloc] at HX0
    replace HX0 := HX0.up (show w1.heap.size + 1 + 1 ≤ ((w1.alloc (.cells #[.int .i64 2, .int .i64 3] 3)).alloc (.cells #[.int .i64 0, .int .i64 k0] 3)).heap.size by simp)
    generalize hW2 : (w1.alloc (.cells #[.int .i64 2, .int .i64 3] 3)).alloc (.cells #[.int .i64 0, .int .i64 k0] 3) = W2 at *
    clear hW2
    replace HP := Lib.hid HP0
    have HX := Lib.hid HX0
    replace HS := Lib.hid (HS.out.below hb0 (Nat.le_refl _))
    replace hbw := hbw.trans (hb0.mono hbw.size)
    clear HP0 HX0 hb0
    go_wp2_with fail
    refine (HPW.out _).mono ?_
    rintro e wk1 ⟨rfl, hbk⟩
    replace HP := Lib.hid (HP.out.lift hbk)
    replace HX := Lib.hid (HX.out.lift hbk)
    replace HS := Lib.hid (HS.out.below hbk (Nat.le_refl _))
    replace hbw := hbw.trans (hbk.mono hbw.size)
    clear hbk
    have HC0 : Box (chkAll [2, 3] [[0, k0]] = 0) := ⟨long_chk 0 k0 (by omega) (by omega)⟩
    have HSD : Box ((decDigits (num [2, 3] [0, k0]) = decDigits (3 ^ k0.natAbs) ∧ decDigits (den [2, 3] [0, k0]) = [49]) ∨ (decDigits (num [2, 3] [0, k0]) = [49] ∧ decDigits (den [2, 3] [0, k0]) = decDigits (3 ^ k0.natAbs))) := ⟨long_sides k0⟩
    have F1 := Lib.hid (fun W hS hp hx => fraction_any (.slice (some ⟨w1.heap.size, 0, Option.none⟩) 2 2) (.slice (some ⟨w1.heap.size + 1, 0, Option.none⟩) 2 2) [2, 3] [0, k0] W hS hp hx HC0.out)
    have F2 := Lib.hid (fun W hp hx hS => greater_mon (.slice (some ⟨w1.heap.size, 0, Option.none⟩) 2 2) (.slice (some ⟨w1.heap.size + 1, 0, Option.none⟩) 2 2) [2, 3] [0, k0] W hp hx HC0.out hS)
    have F3 := Lib.hid (fun W hp hx hS => product_any (.slice (some ⟨w1.heap.size, 0, Option.none⟩) 2 2) (.slice (some ⟨w1.heap.size + 1, 0, Option.none⟩) 2 2) [2, 3] [0, k0] W hp hx HC0.out hS)
    rw [(long_prod k0).2] at F2
    rw [(long_prod k0).1] at F3
    have hpl := pow_digits (a := 3) (n := k0.natAbs) (by omega) (by omega)
    have hne : (decDigits (3 ^ k0.natAbs)).isEmpty = false := by
      cases h : decDigits (3 ^ k0.natAbs) with
      | nil => exact absurd h (dec_ne_nil _)
      | cons _ _ => rfl
    generalize decDigits (num [2, 3] [0, k0]) = la at *
    generalize decDigits (den [2, 3] [0, k0]) = lb at *
    generalize decDigits (3 ^ k0.natAbs) = P at *
    by_cases hP : P.length ≤ 400
    · have E1 : Box (fracOut la lb = .tuple #[.agg #[.string ⟨la.toArray⟩, .string ⟨lb.toArray⟩], .int .i64 0]) := ⟨by
        unfold fracOut
        rw [if_pos]
        rcases HSD.out with ⟨h1, h2⟩ | ⟨h1, h2⟩
        · rw [h1, h2]; exact ⟨hP, by simp⟩
        · rw [h1, h2]; exact ⟨by simp, hP⟩⟩
      have HLL : Box (la.length ≤ 400 ∧ lb.length ≤ 400) := ⟨by
        rcases HSD.out with ⟨h1, h2⟩ | ⟨h1, h2⟩
        · rw [h1, h2]; exact ⟨hP, by simp⟩
        · rw [h1, h2]; exact ⟨by simp, hP⟩⟩
      have E2 := shortOut_short hP
      rw [E1.out] at F1
      rw [E2] at F2 F3
      clear E2
      have HTX : Box ((ratText la lb).isEmpty = false) := ⟨by
        unfold ratText
        rcases HSD.out with ⟨h1, h2⟩ | ⟨h1, h2⟩
        · rw [h1, h2, if_pos (by simp)]; exact hne
        · rw [h1]; split <;> simp⟩
      have F4 := Lib.hid (fun W hS hp hx => monText_yes (.slice (some ⟨w1.heap.size, 0, Option.none⟩) 2 2) (.slice (some ⟨w1.heap.size + 1, 0, Option.none⟩) 2 2) [2, 3] [0, k0] la lb W HLL.out.1 HLL.out.2 ⟨_, _, rfl⟩ ⟨_, _, rfl⟩ (Lib.hid (F1.out W hS hp hx)))
      have htx := HTX.out
      generalize ratText la lb = tx at *
      have htx2 : (!tx.isEmpty) = true := by rw [htx]; rfl
      go_wp2_with fail
      refine (F1.out _ HS.out HP.out HX.out).mono ?_
      rintro e wk2 ⟨rfl, hbk⟩
      replace HP := Lib.hid (HP.out.lift hbk)
      replace HX := Lib.hid (HX.out.lift hbk)
      replace HS := Lib.hid (HS.out.below hbk (Nat.le_refl _))
      replace hbw := hbw.trans (hbk.mono hbw.size)
      clear hbk
      go_wp2_with fail
      have hbk : Below wk2.heap.size wk2 (wk2.alloc (.cells #[.string ⟨la.toArray⟩, .string ⟨lb.toArray⟩] 38)) := (Below.refl _ _).alloc (Nat.le_refl _) _
      have CQ := Lib.hid (Cells.new wk2 38 #[.string ⟨la.toArray⟩, .string ⟨lb.toArray⟩])
      generalize hWQ : wk2.alloc (.cells #[.string ⟨la.toArray⟩, .string ⟨lb.toArray⟩] 38) = WQ at *
      clear hWQ
      replace HP := Lib.hid (HP.out.lift hbk)
      replace HX := Lib.hid (HX.out.lift hbk)
      replace HS := Lib.hid (HS.out.below hbk (Nat.le_refl _))
      replace hbw := hbw.trans (hbk.mono hbw.size)
      clear hbk
      go_wp2_with fail
      refine (F4.out _ HS.out HP.out HX.out).mono ?_
      rintro e wk3 ⟨rfl, hbk⟩
      replace HP := Lib.hid (HP.out.lift hbk)
      replace HX := Lib.hid (HX.out.lift hbk)
      replace CQ := Lib.hid (CQ.out.below hbk CQ.out.lt)
      replace HS := Lib.hid (HS.out.below hbk (Nat.le_refl _))
      replace hbw := hbw.trans (hbk.mono hbw.size)
      clear hbk
      go_wp2_with fail
      refine (F2.out _ HP.out HX.out HS.out).mono ?_
      rintro e wk4 ⟨rfl, hbk⟩
      replace HP := Lib.hid (HP.out.lift hbk)
      replace HX := Lib.hid (HX.out.lift hbk)
      replace CQ := Lib.hid (CQ.out.below hbk CQ.out.lt)
      replace HS := Lib.hid (HS.out.below hbk (Nat.le_refl _))
      replace hbw := hbw.trans (hbk.mono hbw.size)
      clear hbk
      go_wp2_with fail
      refine (F3.out _ HP.out HX.out HS.out).mono ?_
      rintro e wk5 ⟨rfl, hbk⟩
      replace HP := Lib.hid (HP.out.lift hbk)
      replace HX := Lib.hid (HX.out.lift hbk)
      replace CQ := Lib.hid (CQ.out.below hbk CQ.out.lt)
      replace HS := Lib.hid (HS.out.below hbk (Nat.le_refl _))
      replace hbw := hbw.trans (hbk.mono hbw.size)
      clear hbk
      go_wp2_with fail
      have HN0 := isRow_new wk5 3 [-1, k0] #[.int .i64 (-1), .int .i64 k0] rfl (by simp) 2 rfl
      have hbk : Below wk5.heap.size wk5 (wk5.alloc (.cells #[.int .i64 (-1), .int .i64 k0] 3)) := (Below.refl _ _).alloc (Nat.le_refl _) _
      have HN := Lib.hid (HN0.up (show wk5.heap.size + 1 ≤ (wk5.alloc (.cells #[.int .i64 (-1), .int .i64 k0] 3)).heap.size by simp))
      clear HN0
      generalize hWN : wk5.alloc (.cells #[.int .i64 (-1), .int .i64 k0] 3) = WN at *
      clear hWN
      replace HP := Lib.hid (HP.out.lift hbk)
      replace HX := Lib.hid (HX.out.lift hbk)
      replace CQ := Lib.hid (CQ.out.below hbk CQ.out.lt)
      replace HS := Lib.hid (HS.out.below hbk (Nat.le_refl _))
      replace hbw := hbw.trans (hbk.mono hbw.size)
      clear hbk
      have F5 := Lib.hid (sign_ok _ _ [2, 3] [-1, k0] _ HS.out HP.out HN.out (long_chk (-1) k0 (by omega) (by omega)))
      rw [long_sign] at F5
      generalize hsg : (if k0 ≤ 0 then (-1 : Int) else 1) = sg at F5
      have HSG : SgIs k0 sg := hsg
      clear hsg
      go_wp2_with fail
      refine (F5.out).mono ?_
      rintro e wk6 ⟨rfl, hbk⟩
      replace HP := Lib.hid (HP.out.lift hbk)
      replace HX := Lib.hid (HX.out.lift hbk)
      replace CQ := Lib.hid (CQ.out.below hbk CQ.out.lt)
      replace HS := Lib.hid (HS.out.below hbk (Nat.le_refl _))
      replace hbw := hbw.trans (hbk.mono hbw.size)
      clear hbk
      go_wp2_with fail
      have HN0 := isRow_new wk6 3 [0, k0.tdiv 2] #[.int .i64 0, .int .i64 (k0.tdiv 2)] rfl (by simp) 2 rfl
      have hbk : Below wk6.heap.size wk6 (wk6.alloc (.cells #[.int .i64 0, .int .i64 (k0.tdiv 2)] 3)) := (Below.refl _ _).alloc (Nat.le_refl _) _
      have HH := Lib.hid (HN0.up (show wk6.heap.size + 1 ≤ (wk6.alloc (.cells #[.int .i64 0, .int .i64 (k0.tdiv 2)] 3)).heap.size by simp))
      clear HN0
      generalize hWN : wk6.alloc (.cells #[.int .i64 0, .int .i64 (k0.tdiv 2)] 3) = WH at *
      clear hWN
      replace HP := Lib.hid (HP.out.lift hbk)
      replace HX := Lib.hid (HX.out.lift hbk)
      replace CQ := Lib.hid (CQ.out.below hbk CQ.out.lt)
      replace HS := Lib.hid (HS.out.below hbk (Nat.le_refl _))
      replace hbw := hbw.trans (hbk.mono hbw.size)
      clear hbk
      have F6 := Lib.hid (compare_mon _ _ _ [2, 3] [0, k0] [0, k0.tdiv 2] _ HP.out HX.out HH.out (chk_both HC0.out (long_chk 0 _ (by omega) (tdiv2 k0 (by omega)))) HS.out)
      rw [show cmpN (num [2, 3] [0, k0] * den [2, 3] [0, k0.tdiv 2]) (num [2, 3] [0, k0.tdiv 2] * den [2, 3] [0, k0]) = halfCmp k0 from rfl] at F6
      go_wp2_with fail
      refine (F6.out).mono ?_
      rintro e wk7 ⟨rfl, hbk⟩
      replace HP := Lib.hid (HP.out.lift hbk)
      replace HX := Lib.hid (HX.out.lift hbk)
      replace CQ := Lib.hid (CQ.out.below hbk CQ.out.lt)
      replace HS := Lib.hid (HS.out.below hbk (Nat.le_refl _))
      replace hbw := hbw.trans (hbk.mono hbw.size)
      clear hbk
      have HOK : Box (halfOk k0 (halfCmp k0)) := ⟨half_ok k0⟩
      generalize halfCmp k0 = o at *
      have q0 := CQ.out.cell 0
      have q1 := CQ.out.cell 1
      simp only [List.getElem?_cons_succ, List.getElem?_cons_zero] at q0 q1
      clear F1 F2 F3 F4 F5 F6 HN HH CQ HP HX HS HC0 HA HK
      rcases HSD.out with ⟨rfl, rfl⟩ | ⟨rfl, rfl⟩
      · rcases out_ok HSG HOK.out with ⟨h, rfl, rfl⟩ | ⟨rfl, rfl⟩ | ⟨rfl, rfl, rfl⟩ | ⟨rfl, rfl⟩ | ⟨h, rfl, rfl⟩
        all_goals
          go_wp2_with fail
          go_ret
          exact ⟨rfl, hbw⟩
      · rcases out_ok HSG HOK.out with ⟨h, rfl, rfl⟩ | ⟨rfl, rfl⟩ | ⟨rfl, rfl, rfl⟩ | ⟨rfl, rfl⟩ | ⟨h, rfl, rfl⟩
        all_goals
          cases hbb : ([49] == lb)
          all_goals
            go_wp2_with fail
            go_ret
            exact ⟨rfl, hbw⟩
    · have E1 : Box (fracOut la lb = .tuple #[.agg #[.string ⟨#[]⟩, .string ⟨#[]⟩], .int .i64 4]) := ⟨by
        unfold fracOut
        rw [if_neg]
        rcases HSD.out with ⟨h1, h2⟩ | ⟨h1, h2⟩
        · rw [h1, h2]; exact fun h => hP h.1
        · rw [h1, h2]; exact fun h => hP h.2⟩
      have E2 : shortOut P = .tuple #[.string ⟨#[]⟩, .int .i64 4] := by unfold shortOut; rw [if_neg hP]
      rw [E1.out] at F1
      rw [E2] at F2 F3
      clear E2
      have F4 := Lib.hid (fun W hS hp hx => monText_no (.slice (some ⟨w1.heap.size, 0, Option.none⟩) 2 2) (.slice (some ⟨w1.heap.size + 1, 0, Option.none⟩) 2 2) [2, 3] [0, k0] 4 W (by decide) ⟨_, _, rfl⟩ ⟨_, _, rfl⟩ (Lib.hid (F1.out W hS hp hx)))
      go_wp2_with fail
      refine (F1.out _ HS.out HP.out HX.out).mono ?_
      rintro e wk8 ⟨rfl, hbk⟩
      replace HP := Lib.hid (HP.out.lift hbk)
      replace HX := Lib.hid (HX.out.lift hbk)
      replace HS := Lib.hid (HS.out.below hbk (Nat.le_refl _))
      replace hbw := hbw.trans (hbk.mono hbw.size)
      clear hbk
      go_wp2_with fail
      have hbk : Below wk8.heap.size wk8 (wk8.alloc (.cells #[.string ⟨#[]⟩, .string ⟨#[]⟩] 38)) := (Below.refl _ _).alloc (Nat.le_refl _) _
      have CQ := Lib.hid (Cells.new wk8 38 #[.string ⟨#[]⟩, .string ⟨#[]⟩])
      generalize hWQ : wk8.alloc (.cells #[.string ⟨#[]⟩, .string ⟨#[]⟩] 38) = WQ at *
      clear hWQ
      replace HP := Lib.hid (HP.out.lift hbk)
      replace HX := Lib.hid (HX.out.lift hbk)
      replace HS := Lib.hid (HS.out.below hbk (Nat.le_refl _))
      replace hbw := hbw.trans (hbk.mono hbw.size)
      clear hbk
      go_wp2_with fail
      refine (F4.out _ HS.out HP.out HX.out).mono ?_
      rintro e wk9 ⟨rfl, hbk⟩
      replace HP := Lib.hid (HP.out.lift hbk)
      replace HX := Lib.hid (HX.out.lift hbk)
      replace CQ := Lib.hid (CQ.out.below hbk CQ.out.lt)
      replace HS := Lib.hid (HS.out.below hbk (Nat.le_refl _))
      replace hbw := hbw.trans (hbk.mono hbw.size)
      clear hbk
      go_wp2_with fail
      refine (F2.out _ HP.out HX.out HS.out).mono ?_
      rintro e wk10 ⟨rfl, hbk⟩
      replace HP := Lib.hid (HP.out.lift hbk)
      replace HX := Lib.hid (HX.out.lift hbk)
      replace CQ := Lib.hid (CQ.out.below hbk CQ.out.lt)
      replace HS := Lib.hid (HS.out.below hbk (Nat.le_refl _))
      replace hbw := hbw.trans (hbk.mono hbw.size)
      clear hbk
      go_wp2_with fail
      refine (F3.out _ HP.out HX.out HS.out).mono ?_
      rintro e wk11 ⟨rfl, hbk⟩
      replace HP := Lib.hid (HP.out.lift hbk)
      replace HX := Lib.hid (HX.out.lift hbk)
      replace CQ := Lib.hid (CQ.out.below hbk CQ.out.lt)
      replace HS := Lib.hid (HS.out.below hbk (Nat.le_refl _))
      replace hbw := hbw.trans (hbk.mono hbw.size)
      clear hbk
      go_wp2_with fail
      have HN0 := isRow_new wk11 3 [-1, k0] #[.int .i64 (-1), .int .i64 k0] rfl (by simp) 2 rfl
      have hbk : Below wk11.heap.size wk11 (wk11.alloc (.cells #[.int .i64 (-1), .int .i64 k0] 3)) := (Below.refl _ _).alloc (Nat.le_refl _) _
      have HN := Lib.hid (HN0.up (show wk11.heap.size + 1 ≤ (wk11.alloc (.cells #[.int .i64 (-1), .int .i64 k0] 3)).heap.size by simp))
      clear HN0
      generalize hWN : wk11.alloc (.cells #[.int .i64 (-1), .int .i64 k0] 3) = WN at *
      clear hWN
      replace HP := Lib.hid (HP.out.lift hbk)
      replace HX := Lib.hid (HX.out.lift hbk)
      replace CQ := Lib.hid (CQ.out.below hbk CQ.out.lt)
      replace HS := Lib.hid (HS.out.below hbk (Nat.le_refl _))
      replace hbw := hbw.trans (hbk.mono hbw.size)
      clear hbk
      have F5 := Lib.hid (sign_ok _ _ [2, 3] [-1, k0] _ HS.out HP.out HN.out (long_chk (-1) k0 (by omega) (by omega)))
      rw [long_sign] at F5
      generalize hsg : (if k0 ≤ 0 then (-1 : Int) else 1) = sg at F5
      have HSG : SgIs k0 sg := hsg
      clear hsg
      go_wp2_with fail
      refine (F5.out).mono ?_
      rintro e wk12 ⟨rfl, hbk⟩
      replace HP := Lib.hid (HP.out.lift hbk)
      replace HX := Lib.hid (HX.out.lift hbk)
      replace CQ := Lib.hid (CQ.out.below hbk CQ.out.lt)
      replace HS := Lib.hid (HS.out.below hbk (Nat.le_refl _))
      replace hbw := hbw.trans (hbk.mono hbw.size)
      clear hbk
      go_wp2_with fail
      have HN0 := isRow_new wk12 3 [0, k0.tdiv 2] #[.int .i64 0, .int .i64 (k0.tdiv 2)] rfl (by simp) 2 rfl
      have hbk : Below wk12.heap.size wk12 (wk12.alloc (.cells #[.int .i64 0, .int .i64 (k0.tdiv 2)] 3)) := (Below.refl _ _).alloc (Nat.le_refl _) _
      have HH := Lib.hid (HN0.up (show wk12.heap.size + 1 ≤ (wk12.alloc (.cells #[.int .i64 0, .int .i64 (k0.tdiv 2)] 3)).heap.size by simp))
      clear HN0
      generalize hWN : wk12.alloc (.cells #[.int .i64 0, .int .i64 (k0.tdiv 2)] 3) = WH at *
      clear hWN
      replace HP := Lib.hid (HP.out.lift hbk)
      replace HX := Lib.hid (HX.out.lift hbk)
      replace CQ := Lib.hid (CQ.out.below hbk CQ.out.lt)
      replace HS := Lib.hid (HS.out.below hbk (Nat.le_refl _))
      replace hbw := hbw.trans (hbk.mono hbw.size)
      clear hbk
      have F6 := Lib.hid (compare_mon _ _ _ [2, 3] [0, k0] [0, k0.tdiv 2] _ HP.out HX.out HH.out (chk_both HC0.out (long_chk 0 _ (by omega) (tdiv2 k0 (by omega)))) HS.out)
      rw [show cmpN (num [2, 3] [0, k0] * den [2, 3] [0, k0.tdiv 2]) (num [2, 3] [0, k0.tdiv 2] * den [2, 3] [0, k0]) = halfCmp k0 from rfl] at F6
      go_wp2_with fail
      refine (F6.out).mono ?_
      rintro e wk13 ⟨rfl, hbk⟩
      replace HP := Lib.hid (HP.out.lift hbk)
      replace HX := Lib.hid (HX.out.lift hbk)
      replace CQ := Lib.hid (CQ.out.below hbk CQ.out.lt)
      replace HS := Lib.hid (HS.out.below hbk (Nat.le_refl _))
      replace hbw := hbw.trans (hbk.mono hbw.size)
      clear hbk
      have HOK : Box (halfOk k0 (halfCmp k0)) := ⟨half_ok k0⟩
      generalize halfCmp k0 = o at *
      have q0 := CQ.out.cell 0
      have q1 := CQ.out.cell 1
      simp only [List.getElem?_cons_succ, List.getElem?_cons_zero] at q0 q1
      clear F1 F2 F3 F4 F5 F6 HN HH CQ HP HX HS HC0 HA HK
      have hre := rat_eql
      rcases out_ok HSG HOK.out with ⟨h, rfl, rfl⟩ | ⟨rfl, rfl⟩ | ⟨rfl, rfl, rfl⟩ | ⟨rfl, rfl⟩ | ⟨h, rfl, rfl⟩
      all_goals
        go_wp2_with fail
        go_ret
        exact ⟨rfl, hbw⟩
  · by_cases h3 : 1000 < k0
    · go_enter Tryz.func6, Tryz.ntmps6
      go_wp2_with fail
      refine (HK.out _ HS.out).mono ?_
      rintro e w1 ⟨rfl, hbw⟩
      go_wp2_with fail
      refine (HK.out _ (HS.out.below hbw (Nat.le_refl _))).mono ?_
      rintro e w2 ⟨rfl, hb2⟩
      go_wp2_with fail
      go_ret
      exact ⟨rfl, hbw.trans (hb2.mono hbw.size)⟩
    · have h4 : k0 < -1000 := by omega
      go_enter Tryz.func6, Tryz.ntmps6
      go_wp2_with fail
      refine (HK.out _ HS.out).mono ?_
      rintro e w1 ⟨rfl, hbw⟩
      go_wp2_with fail
      refine (HK.out _ (HS.out.below hbw (Nat.le_refl _))).mono ?_
      rintro e w2 ⟨rfl, hb2⟩
      go_wp2_with fail
      go_ret
      exact ⟨rfl, hbw.trans (hb2.mono hbw.size)⟩

end Go.Proofs.YtkoemgemnklmdaaGreatDoor
