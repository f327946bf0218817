/- The quick quotient decides for fractions of numbers up to 99, over any primes that begin with 2: plain arithmetic. -/
import Derived.Test.YtcfkclafpbaagaaGreatDoorGTP
import Derived.Test.YtcfkclafpbaagaaGreatDoorGTM
namespace Go.Proofs.YtcfkclafpbaagaaGreatDoor
open Go.RowKit Go.Lib

theorem bern0 (A : Nat) : ∀ N : Nat, A ^ N * (A + N) ≤ A * (A + 1) ^ N
  | 0 => by simp
  | N + 1 => by
    have ih := Nat.mul_le_mul_right (A + 1) (bern0 A N)
    have e1 : A * (A + 1) ^ (N + 1) = A * (A + 1) ^ N * (A + 1) := by rw [Nat.pow_succ, Nat.mul_assoc]
    have e2 : A ^ (N + 1) * (A + (N + 1)) = A ^ N * (A * (A + (N + 1))) := by rw [Nat.pow_succ, Nat.mul_assoc]
    have e3 : A ^ N * (A + N) * (A + 1) = A ^ N * ((A + N) * (A + 1)) := by rw [Nat.mul_assoc]
    rw [e1, e2]
    refine Nat.le_trans (Nat.mul_le_mul_left _ ?_) (e3 ▸ ih)
    have h1 : (A + N) * (A + 1) = A * (A + (N + 1)) + N := by
      simp only [Nat.add_mul, Nat.mul_add, Nat.mul_one]
      have := Nat.mul_comm A N
      omega
    omega
/-- A greater number's power is far greater. -/
theorem bern {A B : Nat} (h0 : 0 < A) (hA : A ≤ 99) (h : A < B) : 2 ^ 19 * A ^ NN ≤ B ^ NN := by
  have h1 := bern0 A NN
  have h2 : (A + 1) ^ NN ≤ B ^ NN := Nat.pow_le_pow_left h NN
  have h3 : A * (A + 1) ^ NN ≤ A * B ^ NN := Nat.mul_le_mul_left _ h2
  have h4 : A * (2 ^ 19 * A ^ NN) ≤ A ^ NN * (A + NN) := by
    have e : A * (2 ^ 19 * A ^ NN) = A ^ NN * (A * 2 ^ 19) := by ac_rfl
    rw [e]
    refine Nat.mul_le_mul_left _ ?_
    have : A * 2 ^ 19 ≤ 99 * 2 ^ 19 := Nat.mul_le_mul_right _ hA
    have hN : NN = 67108864 := NN_val
    have e19 : (2 : Nat) ^ 19 = 524288 := rfl
    omega
  exact Nat.le_of_mul_le_mul_left (Nat.le_trans h4 (Nat.le_trans h1 h3)) h0
theorem two_exp {a b : Nat} (h : 2 ^ a ≤ 2 ^ b) : a ≤ b := (Nat.pow_le_pow_iff_right (by omega)).1 h

theorem pow_two_mul (M d : Nat) : (2 ^ M * d) ^ NN = 2 ^ (M * NN) * d ^ NN := by rw [Nat.mul_pow, ← Nat.pow_mul]
/-- No power of 2 but the fraction itself lies near. -/
theorem far_pow {n d a b c e M : Nat} (hn : 0 < n ∧ n ≤ 99) (hd : 0 < d ∧ d ≤ 99) (h1 : 2 ^ a ≤ n ^ NN) (h2 : n ^ NN ≤ 2 ^ b) (h3 : 2 ^ c ≤ d ^ NN) (h4 : d ^ NN ≤ 2 ^ e) (hne : n ≠ 2 ^ M * d) :
    19 + M * NN + c ≤ b ∨ 19 + a ≤ M * NN + e := by
  have hp : 0 < 2 ^ M := Nat.pos_of_ne_zero (by simp)
  have hpd : 0 < 2 ^ M * d := Nat.mul_pos hp hd.1
  rcases Nat.lt_or_gt_of_ne hne with h | h
  · right
    have k := bern hn.1 hn.2 h
    rw [pow_two_mul] at k
    refine two_exp ?_
    rw [Nat.pow_add, Nat.pow_add]
    exact Nat.le_trans (Nat.mul_le_mul_left _ h1) (Nat.le_trans k (Nat.mul_le_mul_left _ h4))
  · left
    have k := bern hpd (by omega) h
    rw [pow_two_mul] at k
    refine two_exp ?_
    rw [Nat.pow_add, Nat.pow_add, Nat.mul_assoc]
    exact Nat.le_trans (Nat.mul_le_mul_left _ (Nat.mul_le_mul_left _ h3)) (Nat.le_trans k h2)

theorem far_int {n d : Nat} {lo hi m : Int} (hn : 0 < n ∧ n ≤ 99) (hd : 0 < d ∧ d ≤ 99) (hL : Lg n d lo hi) (h1 : 0 ≤ m → n ≠ 2 ^ m.toNat * d) (h2 : m < 0 → d ≠ 2 ^ (-m).toNat * n) : m * (NN : Int) + 19 ≤ hi ∨ lo ≤ m * (NN : Int) - 19 := by
  obtain ⟨a, b, c, e, k1, k2, k3, k4, rfl, rfl⟩ := hL
  by_cases hm : 0 ≤ m
  · have h := far_pow hn hd k1 k2 k3 k4 (h1 hm)
    have e1 : ((m.toNat * NN : Nat) : Int) = m * (NN : Int) := by rw [Int.natCast_mul, Int.toNat_of_nonneg hm]
    generalize m.toNat * NN = t at *
    generalize m * (NN : Int) = t2 at *
    omega
  · have h := far_pow hd hn k3 k4 k1 k2 (h2 (by omega))
    have e1 : (((-m).toNat * NN : Nat) : Int) = -(m * (NN : Int)) := by rw [Int.natCast_mul, Int.toNat_of_nonneg (by omega), Int.neg_mul]
    generalize (-m).toNat * NN = t at *
    generalize m * (NN : Int) = t2 at *
    omega

/-- The bounds are near each other. -/
def qWid2 (p x : List Int) : Nat → Nat
  | 0 => 0
  | k + 1 => qWid2 p x k + if p[k]?.getD 0 = 2 then 0 else (x[k]?.getD 0).natAbs
theorem near_wid (p x : List Int) : ∀ k, nearHi p x k ≤ nearLo p x k + qWid2 p x k
  | 0 => by simp [nearHi, nearLo, qWid2]
  | k + 1 => by
    have ih := near_wid p x k
    rw [nearHi, nearLo, qWid2]
    generalize x[k]?.getD 0 = e at *
    generalize p[k]?.getD 0 = v at *
    unfold lgB
    split
    · rw [Int.min_self, Int.max_self]; omega
    · rw [Int.mul_add, Int.mul_one]
      generalize e * lgA v = t at *
      omega

theorem fast_all : ∀ v : Nat, v < 98 → 2 ≤ v → (fastO v).isSome = true ∧ fastL v ≤ 7 * 67108864 ∧ 1 ≤ fastL v := by decide +kernel

theorem mult_four {q n : Nat} (hq : 3 ≤ q) (h0 : 0 < n) (h : n ≤ 99) : mult q n ≤ 4 := by
  have h1 := left_mul (q := q) (n := n) (by omega)
  have h2 := (left_le q n).2 h0
  refine Nat.le_of_not_lt fun h3 => ?_
  have h4 : 3 ^ 5 ≤ q ^ mult q n := Nat.le_trans (Nat.pow_le_pow_left hq 5) (Nat.pow_le_pow_right (by omega) h3)
  have h5 : q ^ mult q n * 1 ≤ q ^ mult q n * left q n := Nat.mul_le_mul_left _ h2
  have e : (3 : Nat) ^ 5 = 243 := rfl
  omega
theorem mult_three {q n : Nat} (hq : 4 ≤ q) (h0 : 0 < n) (h : n ≤ 99) : mult q n ≤ 3 := by
  have h1 := left_mul (q := q) (n := n) (by omega)
  have h2 := (left_le q n).2 h0
  refine Nat.le_of_not_lt fun h3 => ?_
  have h4 : 4 ^ 4 ≤ q ^ mult q n := Nat.le_trans (Nat.pow_le_pow_left hq 4) (Nat.pow_le_pow_right (by omega) h3)
  have h5 : q ^ mult q n * 1 ≤ q ^ mult q n * left q n := Nat.mul_le_mul_left _ h2
  have e : (4 : Nat) ^ 4 = 256 := rfl
  omega
theorem prime_up {p : List Int} (hpe : primeErr p = 0) (h2 : p[0]?.getD 0 = 2) : ∀ k, k < p.length → (k + 2 : Int) ≤ p[k]?.getD 0
  | 0, _ => by rw [h2]; omega
  | k + 1, hk => by
    have ih := prime_up hpe h2 k (by omega)
    have hs : p.Pairwise (· < ·) := by
      unfold primeErr at hpe
      split at hpe
      · cases hpe
      · split at hpe
        · cases hpe
        · exact (pErr_sorted p _ hpe).2
    have := List.pairwise_iff_getElem.1 hs k (k + 1) (by omega) hk (by omega)
    rw [List.getElem?_eq_getElem (by omega)] at ih
    rw [List.getElem?_eq_getElem hk]
    simp at ih ⊢
    omega

section
variable {p : List Int} {u v : Nat}
theorem wid2_le (hpe : primeErr p = 0) (h2 : p[0]?.getD 0 = 2) (hu : 1 ≤ u ∧ u ≤ 99) (hv : 1 ≤ v ∧ v ≤ 99) : ∀ k, k ≤ p.length → (2 ≤ k → qWid2 p (subR (numR p u) (numR p v)) k + 2 ≤ 3 * k) ∧ (k ≤ 1 → qWid2 p (subR (numR p u) (numR p v)) k = 0)
  | 0, _ => ⟨fun h => by omega, fun _ => rfl⟩
  | k + 1, hk => by
    have ih := wid2_le hpe h2 hu hv k (by omega)
    have hl : (numR p u).length = (numR p v).length := by rw [numR_len, numR_len]
    have hge := right_ge hpe
    have hup := prime_up hpe h2 k (by omega)
    rw [qWid2, subR_get _ _ hl, numR_get hge _ (by omega), numR_get hge _ (by omega), Int.toNat_natCast, Int.toNat_natCast]
    have lu := leftTo_le p u (by omega) k
    have lv := leftTo_le p v (by omega) k
    by_cases h0 : k = 0
    · subst h0
      rw [if_pos h2]
      exact ⟨fun h => by omega, fun _ => rfl⟩
    · rw [if_neg (by omega)]
      by_cases h1 : k = 1
      · have a := mult_four (q := (p[k]?.getD 0).toNat) (by omega) lu.2 (by omega)
        have b := mult_four (q := (p[k]?.getD 0).toNat) (by omega) lv.2 (by omega)
        exact ⟨fun _ => by omega, fun h => by omega⟩
      · have a := mult_three (q := (p[k]?.getD 0).toNat) (by omega) lu.2 (by omega)
        have b := mult_three (q := (p[k]?.getD 0).toNat) (by omega) lv.2 (by omega)
        exact ⟨fun _ => by omega, fun h => by omega⟩

/-- A power of 2 is pure. -/
theorem pow_pure (hpe : primeErr p = 0) (h2 : p[0]?.getD 0 = 2) {x : List Int} (hx : x.length = p.length) {M : Nat} (h : num p x = 2 ^ M ∧ den p x = 1 ∨ num p x = 1 ∧ den p x = 2 ^ M) : pureT x = true := by
  have hge := right_ge hpe
  have hp1 : ∀ k, 1 ≤ k → leftTo p (2 ^ M) k = 1 := fun k hk => by
    obtain ⟨j, rfl⟩ : ∃ j, k = j + 1 := ⟨k - 1, by omega⟩
    clear hk
    have e0 : left 2 (2 ^ M) = 1 := by
      have := (left_pow 2 M 1 (by omega) (by omega)).1
      rwa [Nat.mul_one] at this
    induction j with
    | zero => rw [leftTo, leftTo, h2]; exact e0
    | succ j ih => rw [leftTo, ih]; have := left_le (p[j + 1]?.getD 0).toNat 1; omega
  obtain ⟨_, _, o3⟩ := of_num_den (primed hpe) hx
  refine pure_of fun i h1 h3 => ?_
  rw [← o3, expsTo_get p _ _ i _ (by omega)]
  have hm := mult_one (q := (p[i]?.getD 0).toNat) (by have := hge i (by omega); omega)
  rcases h with ⟨e1, e2⟩ | ⟨e1, e2⟩
  · rw [e1, e2, hp1 i h1, leftTo_one, hm]; rfl
  · rw [e1, e2, hp1 i h1, leftTo_one, hm]; rfl

/-- The quick quotient of a fraction of numbers. -/
theorem quot_num (hpe : primeErr p = 0) (h2 : p[0]?.getD 0 = 2) (hu : 1 ≤ u ∧ u ≤ 99) (hv : 1 ≤ v ∧ v ≤ 99) (hsu : leftTo p u p.length = 1) (hsv : leftTo p v p.length = 1) (hnp : ¬ pureT (subR (numR p u) (numR p v)) = true) :
    quotQ (nearLo p (subR (numR p u) (numR p v)) p.length) (nearHi p (subR (numR p u) (numR p v)) p.length) (NN : Int) (NN : Int) = some (qSum p (subR (numR p u) (numR p v)) p.length / (NN : Int)) := by
  have hl : (numR p u).length = (numR p v).length := by rw [numR_len, numR_len]
  have hxl : (subR (numR p u) (numR p v)).length = p.length := by rw [subR_len hl, numR_len]
  have hP := primed hpe
  have h6 := (right_primes hpe).1
  have hwid := wid2_le hpe h2 hu hv p.length (Nat.le_refl _)
  obtain ⟨e1, e2⟩ := sub_frac hpe hu hsu hsv
  have hn := num_pos hP hxl
  have hd := den_pos hP hxl
  have hc := num_den_coprime hP hxl
  have hn9 : num p (subR (numR p u) (numR p v)) ≤ 99 := by rw [e1]; exact Nat.le_trans (Nat.div_le_self _ _) hu.2
  have hd9 : den p (subR (numR p u) (numR p v)) ≤ 99 := by rw [e2]; exact Nat.le_trans (Nat.div_le_self _ _) hv.2
  have hLg := near_lg (p := p) (x := subR (numR p u) (numR p v)) p.length (fun j hj => by
    have hb := (right_primes hpe).2.2 j hj
    obtain ⟨k1, _⟩ := fast_all (p[j]?.getD 0).toNat (by omega) (by omega)
    obtain ⟨a, ha⟩ := Option.isSome_iff_exists.1 k1
    exact lgOk hb.1 (by omega) ha)
  have hLg2 : Lg (num p (subR (numR p u) (numR p v))) (den p (subR (numR p u) (numR p v))) (nearLo p (subR (numR p u) (numR p v)) p.length) (nearHi p (subR (numR p u) (numR p v)) p.length) := by
    unfold num den
    rw [hxl]
    exact hLg
  obtain ⟨n1, n2, n3, n4⟩ := qNear p (subR (numR p u) (numR p v)) p.length
  have hw := near_wid p (subR (numR p u) (numR p v)) p.length
  have hpure := fun M h => pow_pure hpe h2 hxl (M := M) h
  clear e1 e2 hLg hl hwid n1 n4
  have hw16 : nearHi p (subR (numR p u) (numR p v)) p.length ≤ nearLo p (subR (numR p u) (numR p v)) p.length + 16 := by
    have := wid2_le hpe h2 hu hv p.length (Nat.le_refl _)
    omega
  generalize num p (subR (numR p u) (numR p v)) = n at *
  generalize den p (subR (numR p u) (numR p v)) = d at *
  generalize nearLo p (subR (numR p u) (numR p v)) p.length = lo at *
  generalize nearHi p (subR (numR p u) (numR p v)) p.length = hi at *
  generalize qSum p (subR (numR p u) (numR p v)) p.length = c at *
  have hNpos : (0 : Int) < (NN : Int) := by rw [NN_val]; omega
  have hfar := far_int (m := lo / (NN : Int) + 1) ⟨hn, hn9⟩ ⟨hd, hd9⟩ hLg2 (fun hm e => hnp (hpure (lo / (NN : Int) + 1).toNat (.inl ?_))) (fun hm e => hnp (hpure (-(lo / (NN : Int) + 1)).toNat (.inr ?_)))
  · have h1 : lo < (lo / (NN : Int) + 1) * (NN : Int) := Int.lt_ediv_add_one_mul_self lo hNpos
    have hhi : hi < (lo / (NN : Int) + 1) * (NN : Int) := by
      generalize (lo / (NN : Int) + 1) * (NN : Int) = t at *
      omega
    have hq1 : hi / (NN : Int) = lo / (NN : Int) := by
      have a1 : hi / (NN : Int) < lo / (NN : Int) + 1 := Int.ediv_lt_of_lt_mul hNpos hhi
      have a2 : lo / (NN : Int) ≤ hi / (NN : Int) := Int.ediv_le_ediv hNpos (by omega)
      omega
    have hq2 : c / (NN : Int) = lo / (NN : Int) := by
      have a1 : c / (NN : Int) ≤ hi / (NN : Int) := Int.ediv_le_ediv hNpos n3
      have a2 : lo / (NN : Int) ≤ c / (NN : Int) := Int.ediv_le_ediv hNpos n2
      omega
    unfold quotQ
    rw [ite_self, ite_self, hq1, if_pos rfl, hq2]
  · have hd1 : d = 1 := by
      have : d ∣ Nat.gcd n d := Nat.dvd_gcd (by rw [e]; exact Nat.dvd_mul_left _ _) (Nat.dvd_refl _)
      rw [hc] at this
      exact Nat.dvd_one.1 this
    rw [hd1, Nat.mul_one] at e
    exact ⟨e, hd1⟩
  · have hn1 : n = 1 := by
      have : n ∣ Nat.gcd n d := Nat.dvd_gcd (Nat.dvd_refl _) (by rw [e]; exact Nat.dvd_mul_left _ _)
      rw [hc] at this
      exact Nat.dvd_one.1 this
    rw [hn1, Nat.mul_one] at e
    exact ⟨hn1, e⟩
end

end Go.Proofs.YtcfkclafpbaagaaGreatDoor
