/- whole: Sign, Abs, Gcd and DivMod of short integers; monzo.exponent of short ones. -/
import Derived.Test.YtkoemgemnklmdaaGreatDoorChk
import Derived.RegionTactic
namespace Go.Proofs.YtkoemgemnklmdaaGreatDoor
open Go.RowKit Go.Lib

theorem little_nat (n m : Nat) (w : World) (hl : (decDigits n).length ≤ m) (hm : m ≤ 18) :
    Calls Tryz.prog 77 #[.string ⟨(decDigits n).toArray⟩, .int .i64 m] w fun e w' => e = .returned (.tuple #[.int .i64 n, .bool true]) ∧ Below w.heap.size w w' := by
  have h := little_yes (n : Int) m w (by rw [itoa_nat]; exact hl) hm
  rw [itoa_nat] at h
  exact h

set_option maxHeartbeats 400000 in
theorem whAbs_any (z : Int) (w : World) (h : (itoa z).length ≤ 100000) :
    Calls Tryz.prog 135 #[.string ⟨(itoa z).toArray⟩] w fun e w' => e = .returned (.string ⟨(decDigits z.natAbs).toArray⟩) ∧ Below w.heap.size w w' := by
  have HP := Lib.hid (split_any z w h)
  generalize itoa z = l at *
  generalize decDigits z.natAbs = r at *
  go_enter Tryz.func135, Tryz.ntmps135
  go_wp2_with (go_at_call 76; refine HP.out.mono ?_; rintro e w1 ⟨rfl, hb1⟩)
  go_ret
  exact ⟨rfl, hb1⟩

/-- The sign of an integer. -/
def sgn (z : Int) : Int := if z = 0 then 0 else if z < 0 then -1 else 1

theorem itoa_zero_beq (z : Int) : (itoa z == [48]) = decide (z = 0) := by
  rcases itoa_cases z with ⟨hz, e⟩ | ⟨hz, e⟩
  · rw [e, decide_eq_false (by omega)]; rfl
  · rw [e, dec_eq_zero]
    rw [Bool.eq_iff_iff, decide_eq_true_iff, decide_eq_true_iff]
    omega

set_option maxHeartbeats 400000 in
theorem whSign_any (z : Int) (w : World) (h : (itoa z).length ≤ 100000) :
    Calls Tryz.prog 75 #[.string ⟨(itoa z).toArray⟩] w fun e w' => e = .returned (.int .i64 (sgn z)) ∧ w = w' := by
  have h0 := itoa_zero_beq z
  rcases itoa_cases z with ⟨hz, e⟩ | ⟨hz, e⟩
  · rw [decide_eq_false (by omega)] at h0
    have hv : sgn z = -1 := by unfold sgn; rw [if_neg (by omega), if_pos hz]
    rw [hv]
    rw [e] at h h0 ⊢
    generalize decDigits z.natAbs = r at *
    have hx : ∀ h, (⟨(45 :: r).toArray⟩ : ByteArray)[0]'h = 45 := fun _ => rfl
    clear hv e
    go_enter Tryz.func75, Tryz.ntmps75
    go_wp2
    go_ret
    exact ⟨rfl, rfl⟩
  · by_cases hz0 : z = 0
    · subst hz0
      rw [e, show (0 : Int).natAbs = 0 from rfl, dec_small (by omega)]
      clear h0 e h
      go_enter Tryz.func75, Tryz.ntmps75
      go_wp2
      go_ret
      exact ⟨rfl, rfl⟩
    · rw [decide_eq_false hz0] at h0
      have hv : sgn z = 1 := by unfold sgn; rw [if_neg hz0, if_neg (by omega)]
      rw [hv]
      obtain ⟨c, r, e2, hc, _⟩ := dec_first z.natAbs
      rw [e, e2] at h h0 ⊢
      have hx : ∀ h, (⟨(c :: r).toArray⟩ : ByteArray)[0]'h = c := fun _ => rfl
      clear hv e e2
      go_enter Tryz.func75, Tryz.ntmps75
      go_wp2
      go_ret
      exact ⟨rfl, rfl⟩

set_option maxHeartbeats 400000 in
theorem gcd_any (a b : Nat) (w : World) (ha : a ≤ 1000000000000000000) (hb : b ≤ 1000000000000000000) :
    Calls Tryz.prog 136 #[.int .i64 a, .int .i64 b] w fun e w' => e = .returned (.int .i64 (Nat.gcd a b : Nat)) ∧ Below w.heap.size w w' := by
  have HA : Box (a ≤ 1000000000000000000) := ⟨ha⟩
  have HB : Box (b ≤ 1000000000000000000) := ⟨hb⟩
  clear ha hb
  go_enter Tryz.func136, Tryz.ntmps136
  go_wp2
  go_loopw [0, 1] (fun i j wr => ∃ x y : Nat, i = .int .i64 x ∧ j = .int .i64 y ∧ Box (x ≤ 1000000000000000000 ∧ y ≤ 1000000000000000000) ∧ Box (Nat.gcd x y = Nat.gcd a b) ∧ Below w.heap.size w wr) (fun _ j _ => (intOf j).toNat)
  case atStart => exact ⟨a, b, rfl, rfl, ⟨HA.out, HB.out⟩, ⟨rfl⟩, Below.refl _ _⟩
  case round =>
    obtain ⟨x, y, rfl, rfl, HL, HG, hbw⟩ := hrel
    by_cases hy : y = 0
    · subst hy
      go_wp2
      go_ret
      exact ⟨ret_int (by rw [← HG.out, Nat.gcd_zero_right]), hbw⟩
    · have hy1 : ((y : Int) != 0) = true := by simp; omega
      have hy2 : ((y : Int) == 0) = false := by simp; omega
      have hy3 : 1 ≤ (y : Int) := by omega
      have hrem : (x : Int).tmod (y : Int) = ((x % y : Nat) : Int) := by
        rw [Int.tmod_eq_emod_of_nonneg (by omega)]; simp
      have hlt := Nat.mod_lt x (Nat.pos_of_ne_zero hy)
      have HH := Lib.hid hrem
      have HLT := Lib.hid hlt
      clear hrem hlt
      go_wp2
      go_quiet (fail)
      go_wp2
      go_roundw
      case rel =>
        refine ⟨y, x % y, rfl, ?_, ⟨HL.out.2, by have := HLT.out; have := HL.out.2; omega⟩, ⟨?_⟩, below_drewN hbw _⟩
        · first | go_num | rw [HH.out]
        · rw [← HG.out, Nat.gcd_comm x y, Nat.gcd_rec y x, Nat.gcd_comm]
      case measure =>
        have h1 := HLT.out
        have h2 := HH.out
        simp [intOf]
        omega

theorem itoa_len (z : Int) : (itoa z).length ≤ (decDigits z.natAbs).length + 1 := by
  rcases itoa_cases z with ⟨_, e⟩ | ⟨_, e⟩
  · rw [e, List.length_cons]; omega
  · rw [e]; omega
theorem wrap_nat (q : Nat) (h : q < 10 ^ 18) : wrap64 (q : Int) = q := IntWalk.wrap64_in _ ⟨by omega, by omega⟩

theorem len18 {n : Nat} (h : (decDigits n).length ≤ 18) : n < 10 ^ 18 := Nat.lt_of_lt_of_le (dec_lt_pow n) (Nat.pow_le_pow_right (by omega) h)

set_option maxHeartbeats 400000 in
theorem whGcd_small (x y : Int) (w : World) (hS : Std w) (hx : (decDigits x.natAbs).length ≤ 18) (hy : (decDigits y.natAbs).length ≤ 18) :
    Calls Tryz.prog 104 #[.string ⟨(itoa x).toArray⟩, .string ⟨(itoa y).toArray⟩] w fun e w' => e = .returned (.string ⟨(decDigits (Nat.gcd x.natAbs y.natAbs)).toArray⟩) ∧ Below w.heap.size w w' := by
  have hx2 := len18 hx
  have hy2 := len18 hy
  have hlx : (itoa x).length ≤ 100000 := by have := itoa_len x; omega
  have hly : (itoa y).length ≤ 100000 := by have := itoa_len y; omega
  have hg : Nat.gcd x.natAbs y.natAbs ≤ 1000000000000000000 := by
    rcases Nat.eq_zero_or_pos x.natAbs with h | h
    · rw [h, Nat.gcd_zero_left]; omega
    · have := Nat.gcd_le_left y.natAbs h; omega
  have HX := Lib.hid (whAbs_any x w hlx)
  have HY := Lib.hid (fun W => whAbs_any y W hly)
  have HLX := Lib.hid (fun W => little_nat x.natAbs 18 W hx (Nat.le_refl _))
  have HLY := Lib.hid (fun W => little_nat y.natAbs 18 W hy (Nat.le_refl _))
  have HG := Lib.hid (fun W => gcd_any x.natAbs y.natAbs W (by omega) (by omega))
  have HO := Lib.hid (fun W (hW : Std W) => whOf_any (Nat.gcd x.natAbs y.natAbs : Nat) W (by omega) (by omega) hW)
  rw [itoa_nat] at HO
  have HS := Lib.hid hS
  clear hx2 hy2 hg hS hx hy hlx hly
  generalize itoa x = lx at *
  generalize itoa y = ly at *
  generalize x.natAbs = a at *
  generalize y.natAbs = b at *
  go_enter Tryz.func104, Tryz.ntmps104
  go_wp2_with fail
  refine HX.out.mono ?_
  rintro e w1 ⟨rfl, hb1⟩
  go_wp2_with fail
  refine (HY.out _).mono ?_
  rintro e w2 ⟨rfl, hb2⟩
  go_wp2_with fail
  refine (HLX.out _).mono ?_
  rintro e w3 ⟨rfl, hb3⟩
  go_wp2_with fail
  refine (HLY.out _).mono ?_
  rintro e w4 ⟨rfl, hb4⟩
  go_wp2_with fail
  refine (HG.out _).mono ?_
  rintro e w5 ⟨rfl, hb5⟩
  go_wp2_with fail
  have hs2 := HS.out.below hb1 (Nat.le_refl _) |>.below hb2 (Nat.le_refl _) |>.below hb3 (Nat.le_refl _) |>.below hb4 (Nat.le_refl _) |>.below hb5 (Nat.le_refl _)
  refine (HO.out _ hs2).mono ?_
  rintro e w6 ⟨rfl, hb6⟩
  go_wp2_with fail
  go_ret
  have h12 := hb1.trans (hb2.mono hb1.size)
  have h13 := h12.trans (hb3.mono h12.size)
  have h14 := h13.trans (hb4.mono h13.size)
  have h15 := h14.trans (hb5.mono h14.size)
  exact ⟨rfl, h15.trans (hb6.mono h15.size)⟩

set_option maxHeartbeats 1000000 in
theorem whDivMod_small (x y : Nat) (w : World) (hS : Std w) (hx : (decDigits x).length ≤ 18) (hy : (decDigits y).length ≤ 18) (h0 : 0 < y) :
    Calls Tryz.prog 81 #[.string ⟨(decDigits x).toArray⟩, .string ⟨(decDigits y).toArray⟩] w fun e w' => e = .returned (.tuple #[.string ⟨(decDigits (x / y)).toArray⟩, .string ⟨(decDigits (x % y)).toArray⟩, .int .i64 0]) ∧ Below w.heap.size w w' := by
  have hx2 := len18 hx
  have hy2 := len18 hy
  have hq : x / y ≤ x := Nat.div_le_self _ _
  have hr : x % y < y := Nat.mod_lt _ h0
  have hz := dec_eq_zero y
  rw [decide_eq_false (by omega)] at hz
  have HLX := Lib.hid (little_nat x 18 w hx (Nat.le_refl _))
  have HLY := Lib.hid (fun W => little_nat y 18 W hy (Nat.le_refl _))
  have hq18 : x / y < 10 ^ 18 := by omega
  have hr18 : x % y < 10 ^ 18 := by omega
  have HW : Box (wrap64 ((x : Int) / (y : Int)) = ((x / y : Nat) : Int)) := ⟨by rw [← Int.natCast_ediv]; exact wrap_nat _ hq18⟩
  have HM : Box ((x : Int) % (y : Int) = ((x % y : Nat) : Int)) := ⟨by rw [← Int.natCast_emod]⟩
  generalize x / y = q at *
  generalize x % y = r at *
  have HQ := Lib.hid (fun W (hW : Std W) => whOf_any (q : Int) W (by omega) (by omega) hW)
  have HR := Lib.hid (fun W (hW : Std W) => whOf_any (r : Int) W (by omega) (by omega) hW)
  rw [itoa_nat] at HQ HR
  have HS := Lib.hid hS
  clear hS hx hy hx2 hy2 hq hr hq18 hr18
  generalize decDigits x = lx at *
  generalize decDigits y = ly at *
  go_enter Tryz.func81, Tryz.ntmps81
  go_wp2_with fail
  refine HLX.out.mono ?_
  rintro e w1 ⟨rfl, hb1⟩
  go_wp2_with fail
  refine (HLY.out _).mono ?_
  rintro e w2 ⟨rfl, hb2⟩
  go_wp2_with fail
  go_quiet (fail)
  rw [HW.out, HM.out]
  have hr0 : ¬ (r : Int) < 0 := by omega
  have hy0 : ¬ (y : Int) < 0 := by omega
  have hs2 := HS.out.below hb1 (Nat.le_refl _) |>.below hb2 (Nat.le_refl _) |>.drewN nq
  have h12 := below_drewN (hb1.trans (hb2.mono hb1.size)) nq
  clear hb1 hb2
  have HS2 := Lib.hid hs2
  clear hs2
  by_cases hr : r = 0
  · subst hr
    go_wp2_with fail
    refine (HQ.out _ HS2.out).mono ?_
    rintro e w3 ⟨rfl, hb3⟩
    go_wp2_with fail
    refine (HR.out _ (HS2.out.below hb3 (Nat.le_refl _))).mono ?_
    rintro e w4 ⟨rfl, hb4⟩
    go_wp2_with fail
    go_ret3
    have h13 := h12.trans (hb3.mono h12.size)
    exact ⟨rfl, h13.trans (hb4.mono h13.size)⟩
  · have hr1 : ((r : Int) != 0) = true := by simp; omega
    go_wp2_with fail
    refine (HQ.out _ HS2.out).mono ?_
    rintro e w3 ⟨rfl, hb3⟩
    go_wp2_with fail
    refine (HR.out _ (HS2.out.below hb3 (Nat.le_refl _))).mono ?_
    rintro e w4 ⟨rfl, hb4⟩
    go_wp2_with fail
    go_ret3
    have h13 := h12.trans (hb3.mono h12.size)
    exact ⟨rfl, h13.trans (hb4.mono h13.size)⟩

end Go.Proofs.YtkoemgemnklmdaaGreatDoor
