/- monzo.sides, monzo.short, monzo.Fraction, monzo.Text. -/
import Derived.Test.YtkoemgemnklmdaaGreatDoorSides
namespace Go.Proofs.YtkoemgemnklmdaaGreatDoor
open Go.RowKit Go.Lib

/-- Numerator and denominator of the first k exponents. -/
def numTo (p x : List Int) : Nat → Nat
  | 0 => 1
  | k + 1 => if 0 < x[k]?.getD 0 then numTo p x k * (p[k]?.getD 0).toNat ^ (x[k]?.getD 0).natAbs else numTo p x k
def denTo (p x : List Int) : Nat → Nat
  | 0 => 1
  | k + 1 => if 0 < x[k]?.getD 0 then denTo p x k else denTo p x k * (p[k]?.getD 0).toNat ^ (x[k]?.getD 0).natAbs
def num (p x : List Int) : Nat := numTo p x x.length
def den (p x : List Int) : Nat := denTo p x x.length

theorem dec_mul_len (a b : Nat) : (decDigits (a * b)).length ≤ (decDigits a).length + (decDigits b).length := by
  rw [dec_length (a * b)]
  have h1 := dec_lt_pow a
  have h2 := dec_lt_pow b
  have hp : 1 ≤ (decDigits a).length := by rw [dec_length]; exact nDigits_pos a
  refine nDigits_le (by omega) ?_
  rw [Nat.pow_add]
  exact Nat.mul_lt_mul'' h1 h2

theorem to_len {p x : List Int} (h : Right p x) (k : Nat) (hk : k ≤ x.length) : (decDigits (numTo p x k)).length ≤ 1 + 2001 * k ∧ (decDigits (denTo p x k)).length ≤ 1 + 2001 * k := by
  induction k with
  | zero => rw [numTo, denTo, dec_small (by omega)]; simp
  | succ k ih =>
    obtain ⟨h1, h2⟩ := ih (by omega)
    have hp := h.pr k (by rw [← h.len]; omega)
    have hx := h.ex k (by omega)
    have h3 := pow_digits (a := (p[k]?.getD 0).toNat) (n := (x[k]?.getD 0).natAbs) (by omega) (by omega)
    rw [numTo, denTo]
    have h4 := dec_mul_len (numTo p x k) ((p[k]?.getD 0).toNat ^ (x[k]?.getD 0).natAbs)
    have h5 := dec_mul_len (denTo p x k) ((p[k]?.getD 0).toNat ^ (x[k]?.getD 0).natAbs)
    split
    · omega
    · omega

set_option maxHeartbeats 1000000 in
theorem sides_any (pv xv : Value) (p x : List Int) (w : World) (hS : Std w) (hp : IsRow w w.heap.size pv p) (hx : IsRow w w.heap.size xv x) (h : Right p x) :
    Calls Tryz.prog 64 #[pv, xv] w fun e w' => e = .returned (.tuple #[.string ⟨(decDigits (num p x)).toArray⟩, .string ⟨(decDigits (den p x)).toArray⟩]) ∧ Below w.heap.size w w' := by
  have hl := h.len
  have h6 := h.six
  obtain ⟨AP, cp, rfl, hpc, hpm, hpr⟩ := hp
  obtain ⟨AX, cx, rfl, hxc, hxm, hxr⟩ := hx
  have HS := Lib.hid hS
  have HL := Lib.hid hl
  have hx6 : x.length ≤ 6 := by omega
  clear hS hl hpm hxm
  have HST : Box (decDigits 1 = [49]) := ⟨by rw [dec_small (by omega)]; rfl⟩
  go_enter Tryz.func64, Tryz.ntmps64
  go_wp2
  go_loopw [4, 5, 12] (fun a b i wr => ∃ k : Nat, k ≤ x.length ∧ i = .int .i64 k ∧ a = .string ⟨(decDigits (numTo p x k)).toArray⟩ ∧ b = .string ⟨(decDigits (denTo p x k)).toArray⟩ ∧ Below w.heap.size w wr) (fun _ _ i _ => x.length - (intOf i).toNat)
  case atStart => exact ⟨0, Nat.zero_le _, rfl, by rw [numTo, HST.out], by rw [denTo, HST.out], Below.refl _ _⟩
  case round =>
    obtain ⟨k, hk, rfl, rfl, rfl, hbw⟩ := hrel
    by_cases hlt : k < x.length
    · obtain ⟨adx, rfl, _, hcx⟩ := (hxr.below hbw (Nat.le_refl _)).i_at hlt
      obtain ⟨adp, rfl, _, hcp⟩ := (hpr.below hbw (Nat.le_refl _)).i_at (k := k) (by rw [← HL.out]; exact hlt)
      have hkp : k < p.length := by rw [← HL.out]; exact hlt
      have hpk := h.pr k hkp
      have hxk := h.ex k hlt
      have htl := to_len h k (by omega)
      have hn : numTo p x (k + 1) = if 0 < x[k]?.getD 0 then numTo p x k * (p[k]?.getD 0).toNat ^ (x[k]?.getD 0).natAbs else numTo p x k := rfl
      have hd : denTo p x (k + 1) = if 0 < x[k]?.getD 0 then denTo p x k else denTo p x k * (p[k]?.getD 0).toNat ^ (x[k]?.getD 0).natAbs := rfl
      generalize x[k]?.getD 0 = y at *
      generalize p[k]?.getD 0 = q0 at *
      obtain ⟨q, rfl⟩ : ∃ q : Nat, q0 = (q : Int) := ⟨q0.toNat, by omega⟩
      rw [Int.toNat_natCast] at hn hd
      have hpd := pow_digits (a := q) (n := y.natAbs) (by omega) (by omega)
      have HO := Lib.hid (fun W (hW : Std W) => decOf_any q W (by omega) hW)
      have HP := Lib.hid (fun W => power_any q y.natAbs W (by omega) (by omega) (by omega))
      have HMN := Lib.hid (fun W (hW : Std W) => mul_any (numTo p x k) (q ^ y.natAbs) W hW (by omega) (by omega))
      have HMD := Lib.hid (fun W (hW : Std W) => mul_any (denTo p x k) (q ^ y.natAbs) W hW (by omega) (by omega))
      have hSr := HS.out.below hbw (Nat.le_refl _)
      have HSR := Lib.hid hSr
      have HN := Lib.hid hn
      have HD := Lib.hid hd
      clear hn hd htl hpd hSr
      have hmax : max y (-y) = ((y.natAbs : Nat) : Int) := by omega
      have HMX := Lib.hid hmax
      clear hmax
      by_cases hy : 0 < y
      · rw [if_pos hy] at HN HD
        go_wp2_with fail
        refine (HO.out _ HSR.out).mono ?_
        rintro e w1 ⟨rfl, hb1⟩
        go_wp2_with fail
        rw [HMX.out]
        refine (HP.out _).mono ?_
        rintro e w2 ⟨rfl, hb2⟩
        go_wp2_with fail
        refine (HMN.out _ ((HSR.out.below hb1 (Nat.le_refl _)).below hb2 (Nat.le_refl _))).mono ?_
        rintro e w3 ⟨rfl, hb3⟩
        go_wp2_with fail
        go_roundw
        case rel =>
          have h12 := hb1.trans (hb2.mono hb1.size)
          have h13 := h12.trans (hb3.mono h12.size)
          exact ⟨k + 1, by omega, by go_num, by rw [HN.out], by rw [HD.out], hbw.trans (h13.mono hbw.size)⟩
        case measure => simp [intOf]; omega
      · rw [if_neg hy] at HN HD
        go_wp2_with fail
        refine (HO.out _ HSR.out).mono ?_
        rintro e w1 ⟨rfl, hb1⟩
        go_wp2_with fail
        rw [HMX.out]
        refine (HP.out _).mono ?_
        rintro e w2 ⟨rfl, hb2⟩
        go_wp2_with fail
        refine (HMD.out _ ((HSR.out.below hb1 (Nat.le_refl _)).below hb2 (Nat.le_refl _))).mono ?_
        rintro e w3 ⟨rfl, hb3⟩
        go_wp2_with fail
        go_roundw
        case rel =>
          have h12 := hb1.trans (hb2.mono hb1.size)
          have h13 := h12.trans (hb3.mono h12.size)
          exact ⟨k + 1, by omega, by go_num, by rw [HN.out], by rw [HD.out], hbw.trans (h13.mono hbw.size)⟩
        case measure => simp [intOf]; omega
    · obtain rfl : k = x.length := by omega
      go_wp2
      go_ret2
      exact ⟨rfl, hbw⟩

end Go.Proofs.YtkoemgemnklmdaaGreatDoor
