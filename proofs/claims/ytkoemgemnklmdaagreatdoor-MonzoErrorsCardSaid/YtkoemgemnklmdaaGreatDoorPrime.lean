/- prime.IsPrime, prime.Check, monzo.CheckAll, monzo.Check, monzo.result. -/
import Derived.Test.YtkoemgemnklmdaaGreatDoorGcd
namespace Go.Proofs.YtkoemgemnklmdaaGreatDoor
open Go.RowKit Go.Lib

/-- No d from 2 on divides n, as far as d * d is at most n. -/
def noDiv (n : Int) (d : Nat) : Bool := decide (∀ e : Nat, e < 10 → d ≤ e → (e : Int) * e ≤ n → n % (e : Int) ≠ 0)
def primeB (n : Int) : Bool := decide (2 ≤ n) && decide (n ≤ 97) && noDiv n 2

set_option maxHeartbeats 400000 in
theorem isPrime_any (n : Int) (w : World) :
    Calls Tryz.prog 56 #[.int .i64 n] w fun e w' => e = .returned (.bool (primeB n)) ∧ w = w' := by
  by_cases h2 : n < 2
  · have hv : primeB n = false := by unfold primeB; rw [decide_eq_false (show ¬ 2 ≤ n by omega)]; rfl
    rw [hv]
    clear hv
    go_enter Tryz.func56, Tryz.ntmps56
    go_wp2
    go_ret
    exact ⟨rfl, rfl⟩
  · by_cases h97 : 97 < n
    · have hv : primeB n = false := by unfold primeB; rw [decide_eq_false (show ¬ n ≤ 97 by omega), Bool.and_false]; rfl
      rw [hv]
      clear hv
      go_enter Tryz.func56, Tryz.ntmps56
      go_wp2
      go_ret
      exact ⟨rfl, rfl⟩
    · have hv : primeB n = noDiv n 2 := by unfold primeB; rw [decide_eq_true (show 2 ≤ n by omega), decide_eq_true (show n ≤ 97 by omega)]; rfl
      rw [hv]
      clear hv
      go_enter Tryz.func56, Tryz.ntmps56
      go_wp2
      go_loop [3] (fun i => ∃ d : Nat, 2 ≤ d ∧ d ≤ 10 ∧ i = .int .i64 d ∧ Box (noDiv n 2 = noDiv n d)) (fun i => 10 - (intOf i).toNat)
      case atStart => exact ⟨2, by omega, by omega, rfl, ⟨rfl⟩⟩
      case round =>
        obtain ⟨d, hd2, hd10, rfl, HV⟩ := hrel
        have hdd : (d : Int) * (d : Int) ≤ 100 := by have := Nat.mul_le_mul hd10 hd10; rw [← Int.natCast_mul]; omega
        have hdd0 : 0 ≤ (d : Int) * (d : Int) := by rw [← Int.natCast_mul]; omega
        by_cases hle : (d : Int) * d ≤ n
        · have hd9 : d < 10 := by
            rcases Nat.lt_or_ge d 10 with h | h
            · exact h
            · obtain rfl : d = 10 := by omega
              simp at hle; omega
          by_cases hm : n % (d : Int) = 0
          · have HF : Box (noDiv n d = false) := ⟨by unfold noDiv; rw [decide_eq_false_iff_not]; intro h; exact h d hd9 (Nat.le_refl _) hle hm⟩
            go_wp2
            go_ret
            exact ⟨ret1 (congrArg Value.bool (HV.out.trans HF.out).symm), rfl⟩
          · have HF : Box (noDiv n d = noDiv n (d + 1)) := ⟨by
              unfold noDiv
              rw [Bool.eq_iff_iff, decide_eq_true_iff, decide_eq_true_iff]
              refine ⟨fun h e he h1 => h e he (by omega), fun h e he h1 => ?_⟩
              by_cases hed : e = d
              · subst hed; exact fun _ => hm
              · exact h e he (by omega)⟩
            have hm' : (n % (d : Int) == 0) = false := by simpa using hm
            go_wp2
            go_round
            case rel => exact ⟨d + 1, by omega, by omega, by go_num, ⟨HV.out.trans HF.out⟩⟩
            case measure => simp [intOf]; omega
        · have HF : Box (noDiv n d = true) := ⟨by
            unfold noDiv
            rw [decide_eq_true_iff]
            intro e _ h1 h3
            have : (d : Int) * d ≤ (e : Int) * e := by
              rw [← Int.natCast_mul, ← Int.natCast_mul]
              have := Nat.mul_le_mul h1 h1
              omega
            omega⟩
          go_wp2
          go_ret
          exact ⟨ret1 (congrArg Value.bool (HV.out.trans HF.out).symm), rfl⟩

/-- The error of a list of primes from a place on. -/
def pErr (prev : Option Int) : List Int → Int
  | [] => 0
  | n :: r => if primeB n = false then 25 else if (prev.any fun m => decide (n ≤ m)) = true then 6 else pErr (some n) r
def primeErr (p : List Int) : Int := if p.length = 0 then 13 else if 6 < p.length then 4 else pErr Option.none p

def prevOf (p : List Int) (k : Nat) : Option Int := if k = 0 then Option.none else some (p[k - 1]?.getD 0)

theorem pErr_step (p : List Int) (k : Nat) (hk : k < p.length) (v : Int) (hv : p[k]?.getD 0 = v) : pErr (prevOf p k) (p.drop k) = if primeB v = false then 25 else if ((prevOf p k).any fun m => decide (v ≤ m)) = true then 6 else pErr (prevOf p (k + 1)) (p.drop (k + 1)) := by
  have e : p[k] = v := by rw [← hv, List.getElem?_eq_getElem hk]; rfl
  have e2 : prevOf p (k + 1) = some v := by unfold prevOf; rw [if_neg (by omega), Nat.add_sub_cancel, hv]
  rw [List.drop_eq_getElem_cons hk, pErr, e, e2]

/-- A slice of ints that reads as a list, in a block below B. -/
def IsRow (w : World) (B : Nat) (v : Value) (x : List Int) : Prop := ∃ A c, v = .slice A x.length c ∧ x.length ≤ c ∧ c ≤ maxLen ∧ Row w B 1 A x.length (is x)

set_option maxHeartbeats 1000000 in
theorem primeCheck_any (v : Value) (p : List Int) (B : Nat) (w : World) (hv : IsRow w B v p) :
    Calls Tryz.prog 21 #[v] w fun e w' => e = .returned (.int .i64 (primeErr p)) ∧ w = w' := by
  obtain ⟨A, c, rfl, hlc, hcm, hr⟩ := hv
  by_cases h0 : p.length = 0
  · have hv : primeErr p = 13 := by unfold primeErr; rw [if_pos h0]
    rw [hv, h0]
    clear hv
    go_enter Tryz.func21, Tryz.ntmps21
    go_wp2
    go_ret
    exact ⟨rfl, rfl⟩
  · by_cases h6 : 6 < p.length
    · have hv : primeErr p = 4 := by unfold primeErr; rw [if_neg h0, if_pos h6]
      rw [hv]
      have h0' : ((p.length : Int) == 0) = false := by rw [beq_eq_false_iff_ne]; omega
      clear hv
      go_enter Tryz.func21, Tryz.ntmps21
      go_wp2
      go_ret
      exact ⟨rfl, rfl⟩
    · have hv : primeErr p = pErr (prevOf p 0) (p.drop 0) := by unfold primeErr; rw [if_neg h0, if_neg h6]; rfl
      rw [hv]
      clear hv
      have h0' : ((p.length : Int) == 0) = false := by rw [beq_eq_false_iff_ne]; omega
      go_enter Tryz.func21, Tryz.ntmps21
      go_wp2
      go_loop [15] (fun i => ∃ k : Nat, k ≤ p.length ∧ i = .int .i64 k ∧ Box (pErr (prevOf p 0) (p.drop 0) = pErr (prevOf p k) (p.drop k))) (fun i => p.length - (intOf i).toNat)
      case atStart => exact ⟨0, Nat.zero_le _, rfl, ⟨rfl⟩⟩
      case round =>
        obtain ⟨k, hk, rfl, HV⟩ := hrel
        by_cases hlt : k < p.length
        · obtain ⟨ad, rfl, _, hca⟩ := hr.i_at hlt
          have hstep := pErr_step p k hlt _ rfl
          have HPR := Lib.hid (fun W => isPrime_any (p[k]?.getD 0) W)
          generalize hx : p[k]?.getD 0 = x at *
          have HST := Lib.hid hstep
          clear hstep hx
          cases hpb : primeB x with
          | false =>
            rw [hpb] at HPR
            have HE : Box (pErr (prevOf p 0) (p.drop 0) = 25) := ⟨by rw [HV.out, HST.out, if_pos hpb]⟩
            go_wp2_with (go_at_call 56; refine (HPR.out _).mono ?_; rintro e w1 ⟨rfl, rfl⟩)
            go_ret
            exact ⟨ret_int HE.out.symm, rfl⟩
          | true =>
            rw [hpb] at HPR
            by_cases hk0 : k = 0
            · have HE : Box (pErr (prevOf p 0) (p.drop 0) = pErr (prevOf p (k + 1)) (p.drop (k + 1))) := ⟨by rw [HV.out, HST.out, if_neg (by rw [hpb]; simp), hk0]; rfl⟩
              have hk1 : ¬ 0 < k := by omega
              clear hk0
              go_wp2_with (go_at_call 56; refine (HPR.out _).mono ?_; rintro e w1 ⟨rfl, rfl⟩)
              go_round
              case rel => exact ⟨k + 1, by omega, by go_num, HE⟩
              case measure => simp [intOf]; omega
            · obtain ⟨ad', e, _, hcb⟩ := hr.i_at (k := k - 1) (by omega)
              injection e with e
              subst e
              have hpv : prevOf p k = some (p[k - 1]?.getD 0) := by unfold prevOf; rw [if_neg hk0]
              generalize hy : p[k - 1]?.getD 0 = y at *
              have HPV := Lib.hid hpv
              clear hpv hy
              by_cases hxy : x ≤ y
              · have HE : Box (pErr (prevOf p 0) (p.drop 0) = 6) := ⟨by rw [HV.out, HST.out, if_neg (by rw [hpb]; simp), HPV.out, if_pos (by simpa using hxy)]⟩
                go_wp2_with (go_at_call 56; refine (HPR.out _).mono ?_; rintro e w1 ⟨rfl, rfl⟩)
                go_ret
                exact ⟨ret_int HE.out.symm, rfl⟩
              · have HE : Box (pErr (prevOf p 0) (p.drop 0) = pErr (prevOf p (k + 1)) (p.drop (k + 1))) := ⟨by rw [HV.out, HST.out, if_neg (by rw [hpb]; simp), HPV.out, if_neg (by simpa using hxy)]⟩
                go_wp2_with (go_at_call 56; refine (HPR.out _).mono ?_; rintro e w1 ⟨rfl, rfl⟩)
                go_round
                case rel => exact ⟨k + 1, by omega, by go_num, HE⟩
                case measure => simp [intOf]; omega
        · obtain rfl : k = p.length := by omega
          have HE : Box (pErr (prevOf p 0) (p.drop 0) = 0) := ⟨by rw [HV.out, List.drop_of_length_le (Nat.le_refl _)]; rfl⟩
          go_wp2
          go_ret
          exact ⟨ret_int HE.out.symm, rfl⟩

end Go.Proofs.YtkoemgemnklmdaaGreatDoor
