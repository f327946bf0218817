/- The quick quotient decides over the lists of schismalaw12: plain arithmetic. The lists of schismalaw12: the quick quotient of small intervals. Reducing is the same for all intervals that differ by equaves; the inverses. The plain law of schismalaw29.insert. schismalaw12.Interval: the row lies in its own block. -/
import Derived.Test.YtcfkclafpbaagaaGreatDoorGTG
import Derived.Test.YtcfkclafpbaagaaGreatDoorGH
import Derived.Test.YtcfkclafpbaagaaGreatDoorGTI
import Derived.Test.YtcfkclafpbaagaaGreatDoorGTB
namespace Go.Proofs.YtcfkclafpbaagaaGreatDoor
open Go.RowKit Go.Lib

/-- The logarithm of the first k exponents, times 2^26, from the lower bounds alone. -/
def qSum (p x : List Int) : Nat → Int
  | 0 => 0
  | k + 1 => qSum p x k + x[k]?.getD 0 * lgA (p[k]?.getD 0)
def qWid (x : List Int) : Nat → Nat
  | 0 => 0
  | k + 1 => qWid x k + (x[k]?.getD 0).natAbs
theorem qNear (p x : List Int) : ∀ k, qSum p x k - qWid x k ≤ nearLo p x k ∧ nearLo p x k ≤ qSum p x k ∧ qSum p x k ≤ nearHi p x k ∧ nearHi p x k ≤ qSum p x k + qWid x k
  | 0 => by simp [qSum, qWid, nearLo, nearHi]
  | k + 1 => by
    obtain ⟨h1, h2, h3, h4⟩ := qNear p x k
    rw [qSum, qWid, nearLo, nearHi]
    generalize x[k]?.getD 0 = e at *
    generalize p[k]?.getD 0 = v at *
    unfold lgB
    split
    · rw [Int.min_self, Int.max_self]
      omega
    · rw [Int.mul_add, Int.mul_one]
      generalize e * lgA v = t at *
      omega

theorem q_div {z y q t a r : Int} (ha : 0 < a) (hy : y = a ∨ y = a + 1) (ht : t = q * a) (hr : z = t + r) (h1 : 0 ≤ r) (h2 : r < a) (h3 : 0 ≤ r - q) (h4 : r - q < a) : z / y = q := by
  rcases hy with rfl | rfl
  · rw [hr, ht, Int.add_comm, Int.add_mul_ediv_right _ _ (by omega), Int.ediv_eq_zero_of_lt h1 h2]; omega
  · have : z = (r - q) + q * (a + 1) := by rw [Int.mul_add, Int.mul_one, ← ht]; omega
    rw [this, Int.add_mul_ediv_right _ _ (by omega), Int.ediv_eq_zero_of_lt h3 (by omega)]; omega

/-- A number whose rest is far from the divisor: the quotients of the bounds are the same. -/
theorem q_quot {c a xl xh yh : Int} (ha : 0 < a) (hy : yh = a ∨ yh = a + 1) (h1 : 1500 ≤ c % a) (h2 : c % a + 1500 ≤ a) (hq : (c / a).natAbs ≤ 400) (hl : c - 1000 ≤ xl) (hl2 : xl ≤ c) (hh : c ≤ xh) (hh2 : xh ≤ c + 1000) : quotQ xl xh a yh = some (c / a) := by
  have hc : c = c / a * a + c % a := by have := Int.mul_ediv_add_emod c a; rw [Int.mul_comm] at this; omega
  generalize c / a = q at *
  generalize c % a = r at *
  obtain ⟨t, ht⟩ : ∃ t, t = q * a := ⟨_, rfl⟩
  rw [← ht] at hc
  have d1 : xl / (if xl < 0 then a else yh) = q := q_div ha (by split <;> omega) ht (show xl = t + (xl - t) by omega) (by omega) (by omega) (by omega) (by omega)
  have d2 : xh / (if xh < 0 then yh else a) = q := q_div ha (by split <;> omega) ht (show xh = t + (xh - t) by omega) (by omega) (by omega) (by omega) (by omega)
  unfold quotQ
  rw [d1, d2, if_pos rfl]

/-- All exponents from -9 to 9 of the places 1 to k: the rests are far from the divisor. -/
def qChk (a : Nat) (A : List Nat) : Nat → Nat → Bool → Bool
  | 0, s, z => z || (Nat.ble 1500 (s % a) && Nat.ble (s % a + 1500) a)
  | k + 1, s, z => (List.range 19).all fun u => qChk a A k (s + u * A[k + 1]?.getD 0) (z && Nat.beq u 9)
def qU (A : List Nat) (x : List Int) : Nat → Nat
  | 0 => 0
  | k + 1 => qU A x k + (x[k + 1]?.getD 0 + 9).toNat * A[k + 1]?.getD 0
def qI (A : List Nat) (x : List Int) : Nat → Int
  | 0 => 0
  | k + 1 => qI A x k + x[k + 1]?.getD 0 * (A[k + 1]?.getD 0 : Nat)
def qA (A : List Nat) : Nat → Nat
  | 0 => 0
  | k + 1 => qA A k + A[k + 1]?.getD 0
theorem qChk_all {a : Nat} {A : List Nat} {x : List Int} : ∀ k s z, qChk a A k s z = true → (∀ i, 1 ≤ i → i ≤ k → (x[i]?.getD 0).natAbs ≤ 9) →
    (z = true ∧ ∀ i, 1 ≤ i → i ≤ k → x[i]?.getD 0 = 0) ∨ (1500 ≤ (s + qU A x k) % a ∧ (s + qU A x k) % a + 1500 ≤ a)
  | 0, s, z, h, _ => by
    unfold qChk at h
    rcases Bool.or_eq_true_iff.1 h with h | h
    · exact .inl ⟨h, fun i h1 h2 => by omega⟩
    · rw [Bool.and_eq_true] at h
      exact .inr ⟨Nat.le_of_ble_eq_true h.1, Nat.le_of_ble_eq_true h.2⟩
  | k + 1, s, z, h, hx => by
    unfold qChk at h
    have h9 := hx (k + 1) (by omega) (Nat.le_refl _)
    have hm : (x[k + 1]?.getD 0 + 9).toNat ∈ List.range 19 := by rw [List.mem_range]; omega
    have h2 := List.all_eq_true.1 h _ hm
    rcases qChk_all k _ _ h2 (fun i h1 h2 => hx i h1 (by omega)) with ⟨h3, h4⟩ | h3
    · rw [Bool.and_eq_true] at h3
      have h5 := Nat.eq_of_beq_eq_true h3.2
      refine .inl ⟨h3.1, fun i h1 h2 => ?_⟩
      by_cases hi : i = k + 1
      · subst hi; omega
      · exact h4 i h1 (by omega)
    · right
      rw [qU]
      rw [show s + (qU A x k + (x[k + 1]?.getD 0 + 9).toNat * A[k + 1]?.getD 0) = s + (x[k + 1]?.getD 0 + 9).toNat * A[k + 1]?.getD 0 + qU A x k by omega]
      exact h3
theorem qU_eq {A : List Nat} {x : List Int} : ∀ k, (∀ i, 1 ≤ i → i ≤ k → (x[i]?.getD 0).natAbs ≤ 9) → (qU A x k : Int) = qI A x k + 9 * qA A k
  | 0, _ => by simp [qU, qI, qA]
  | k + 1, h => by
    have ih := qU_eq (A := A) k (fun i h1 h2 => h i h1 (by omega))
    have h9 := h (k + 1) (by omega) (Nat.le_refl _)
    rw [qU, qI, qA]
    have : (((x[k + 1]?.getD 0 + 9).toNat * A[k + 1]?.getD 0 : Nat) : Int) = x[k + 1]?.getD 0 * (A[k + 1]?.getD 0 : Nat) + 9 * (A[k + 1]?.getD 0 : Nat) := by
      rw [Int.natCast_mul, show (((x[k + 1]?.getD 0 + 9).toNat : Nat) : Int) = x[k + 1]?.getD 0 + 9 by omega, Int.add_mul]
    generalize x[k + 1]?.getD 0 * ((A[k + 1]?.getD 0 : Nat) : Int) = t at *
    omega

/-- The logarithms of the lists' primes. -/
def qLogs (p : List Int) : List Nat := p.map fun v => fastL v.toNat
def qOne (p : List Int) : Bool := decide (1500 ≤ (qLogs p)[0]?.getD 0) && (p.all fun v => decide (2 ≤ v) && decide (v ≤ 1000) && (fastO v.toNat).isSome) && decide (0 < p.length) && decide (p.length ≤ 4)
def qTab (p : List Int) : Bool := qOne p && qChk ((qLogs p)[0]?.getD 0) (qLogs p) (p.length - 1) (9 * qA (qLogs p) (p.length - 1) * ((qLogs p)[0]?.getD 0 - 1)) true

theorem qLogs_get (p : List Int) (k : Nat) (hk : k < p.length) : ((qLogs p)[k]?.getD 0 : Int) = lgA (p[k]?.getD 0) := by
  unfold qLogs lgA
  rw [List.getElem?_map, List.getElem?_eq_getElem hk]
  rfl
theorem qSum_eq {p x : List Int} : ∀ k, k < p.length → qSum p x (k + 1) = x[0]?.getD 0 * lgA (p[0]?.getD 0) + qI (qLogs p) x k
  | 0, h => by simp [qSum, qI]
  | k + 1, h => by
    rw [qSum, qSum_eq k (by omega), qI, qLogs_get p (k + 1) h]
    omega

end Go.Proofs.YtcfkclafpbaagaaGreatDoor

namespace Go.Proofs.YtcfkclafpbaagaaGreatDoor
open Go.RowKit Go.Lib

def logTab : List (List Nat) := [[67108864, 106365032, 155821956], [67108864, 106365032, 155821956, 188398399], [67108864, 106365032], [67108864, 106365032, 188398399], [67108864, 155821956, 188398399], [106365032, 155821956, 188398399], [67108864, 106365032, 155821956, 232158526], [67108864], [67108864, 106365032, 188398399, 248332305], [106365032, 155821956, 188398399, 248332305]]
theorem logTab_ok : ∀ k, k < 10 → qLogs (primeTable.getD k []) = logTab.getD k [] := by decide +kernel
theorem qOnes_ok : ∀ k, k < 10 → qOne (primeTable.getD k []) = true := by decide +kernel
theorem qWids_ok : ∀ k, k < 10 → 9 * qA (logTab.getD k []) ((primeTable.getD k []).length - 1) ≤ 73 * (logTab.getD k [])[0]?.getD 0 := by decide +kernel
theorem qc0 : qChk 67108864 [67108864, 106365032, 155821956] 2 158355635922671796 true = true := by decide +kernel
theorem qc1 : qChk 67108864 [67108864, 106365032, 155821956, 188398399] 3 272144457053864829 true = true := by decide +kernel
theorem qc2 : qChk 67108864 [67108864, 106365032] 1 64242327244307544 true = true := by decide +kernel
theorem qc3 : qChk 67108864 [67108864, 106365032, 188398399] 2 178031148375500577 true = true := by decide +kernel
theorem qc4 : qChk 67108864 [67108864, 155821956, 188398399] 2 207902129809557285 true = true := by decide +kernel
theorem qc5 : qChk 106365032 [106365032, 155821956, 188398399] 2 329517078573654045 true = true := by decide +kernel
theorem qc6 : qChk 67108864 [67108864, 106365032, 155821956, 232158526] 3 298574688363215238 true = true := by decide +kernel
theorem qc7 : qChk 67108864 [67108864] 0 0 true = true := by decide +kernel
theorem qc8 : qChk 67108864 [67108864, 106365032, 188398399, 248332305] 3 328018836087973512 true = true := by decide +kernel
theorem qc9 : qChk 106365032 [106365032, 155821956, 188398399, 248332305] 3 567241938450292140 true = true := by decide +kernel
theorem qStarts_ok : ∀ k, k < 10 → 9 * qA (logTab.getD k []) ((primeTable.getD k []).length - 1) * ((logTab.getD k [])[0]?.getD 0 - 1) = [158355635922671796, 272144457053864829, 64242327244307544, 178031148375500577, 207902129809557285, 329517078573654045, 298574688363215238, 0, 328018836087973512, 567241938450292140].getD k 0 := by decide +kernel

/-- What the tables give of a list of primes: a is the divisor. -/
structure TabOk (p : List Int) (a : Nat) (A : List Nat) : Prop where
  pe : primeErr p = 0
  pos : 0 < p.length
  le : p.length ≤ 4
  logs : qLogs p = A
  first : A[0]?.getD 0 = a
  big : 1500 ≤ a
  good : ∀ v ∈ p, 2 ≤ v ∧ v ≤ 1000 ∧ (fastO v.toNat).isSome = true
  chk : qChk a A (p.length - 1) (9 * qA A (p.length - 1) * (a - 1)) true = true
  wid : 9 * qA A (p.length - 1) ≤ 73 * a

theorem qChks_ok : ∀ k, k < 10 → qChk ((logTab.getD k [])[0]?.getD 0) (logTab.getD k []) ((primeTable.getD k []).length - 1) (9 * qA (logTab.getD k []) ((primeTable.getD k []).length - 1) * ((logTab.getD k [])[0]?.getD 0 - 1)) true = true := by
  intro k hk
  rw [qStarts_ok k hk]
  match k, hk with
  | 0, _ => exact qc0
  | 1, _ => exact qc1
  | 2, _ => exact qc2
  | 3, _ => exact qc3
  | 4, _ => exact qc4
  | 5, _ => exact qc5
  | 6, _ => exact qc6
  | 7, _ => exact qc7
  | 8, _ => exact qc8
  | 9, _ => exact qc9

theorem tabOk (n : Nat) : ∃ a A, TabOk (primesOf n) a A := by
  unfold primesOf
  have hk : n % 10 < 10 := Nat.mod_lt _ (by omega)
  generalize n % 10 = k at *
  have h1 := qOnes_ok k hk
  unfold qOne at h1
  rw [Bool.and_eq_true, Bool.and_eq_true, Bool.and_eq_true] at h1
  obtain ⟨⟨⟨e1, e2⟩, e3⟩, e4⟩ := h1
  have e5 := of_decide_eq_true e1
  rw [logTab_ok k hk] at e5
  refine ⟨(logTab.getD k [])[0]?.getD 0, logTab.getD k [], (primes_all k hk).1, of_decide_eq_true e3, of_decide_eq_true e4, logTab_ok k hk, rfl, e5, fun v hv => ?_, qChks_ok k hk, qWids_ok k hk⟩
  have h2 := List.all_eq_true.1 e2 v hv
  rw [Bool.and_eq_true, Bool.and_eq_true] at h2
  exact ⟨of_decide_eq_true h2.1.1, of_decide_eq_true h2.1.2, h2.2⟩

/-- Small intervals: the first exponent apart, all from -9 to 9. -/
structure SmR (p x : List Int) : Prop where
  len : x.length = p.length
  fst : (x[0]?.getD 0).natAbs ≤ 300
  oth : ∀ i, 1 ≤ i → (x[i]?.getD 0).natAbs ≤ 9

/-- The floor of the interval, in equaves. -/
def qOf (p x : List Int) : Int := if pureT x then x[0]?.getD 0 else qSum p x p.length / lgA (p[0]?.getD 0)
def rOf (p x : List Int) : List Int := addE x (-qOf p x)
def cOf (p x : List Int) : List Int := rOf p (timesTo x (-1) x.length)

theorem qWid_le {p x : List Int} (h : SmR p x) : ∀ k, k ≤ 4 → qWid x k ≤ 300 + 9 * k
  | 0, _ => by simp [qWid]
  | k + 1, hk => by
    have ih := qWid_le h k (by omega)
    rw [qWid]
    rcases Nat.eq_zero_or_pos k with h0 | h0
    · subst h0
      have := h.fst
      simp [qWid]
      omega
    · have := h.oth k h0
      omega
theorem pure_of {x : List Int} (h : ∀ i, 1 ≤ i → i < x.length → x[i]?.getD 0 = 0) : pureT x = true := pureT_true fun k h1 h2 => h k h1 h2
theorem qI_le {A : List Nat} {x : List Int} : ∀ k, (∀ i, 1 ≤ i → i ≤ k → (x[i]?.getD 0).natAbs ≤ 9) → (qI A x k).natAbs ≤ 9 * qA A k
  | 0, _ => by simp [qI, qA]
  | k + 1, h => by
    have ih := qI_le (A := A) k (fun i h1 h2 => h i h1 (by omega))
    have h9 := h (k + 1) (by omega) (Nat.le_refl _)
    rw [qI, qA]
    have h2 : (x[k + 1]?.getD 0 * (A[k + 1]?.getD 0 : Nat)).natAbs ≤ 9 * A[k + 1]?.getD 0 := by
      rw [Int.natAbs_mul, Int.natAbs_natCast]
      exact Nat.mul_le_mul_right _ h9
    generalize x[k + 1]?.getD 0 * ((A[k + 1]?.getD 0 : Nat) : Int) = t at *
    omega

/-- The quotient lies near the first exponent. -/
theorem q_near {p x : List Int} {a : Nat} {A : List Nat} (hT : TabOk p a A) (h : SmR p x) : (qOf p x - x[0]?.getD 0).natAbs ≤ 74 := by
  unfold qOf
  split
  · omega
  · have hp := hT.pos
    have hL : lgA (p[0]?.getD 0) = (a : Int) := by rw [← qLogs_get p 0 hp, hT.logs, hT.first]
    have hq := qSum_eq (p := p) (x := x) (p.length - 1) (by omega)
    rw [Nat.sub_add_cancel (by omega), hL, hT.logs] at hq
    rw [hq, hL]
    have h1 := qI_le (A := A) (x := x) (p.length - 1) (fun i h1 _ => h.oth i h1)
    have h2 := hT.wid
    have h3 := hT.big
    generalize qI A x (p.length - 1) = t at *
    generalize qA A (p.length - 1) = s at *
    rw [Int.add_comm, Int.add_mul_ediv_right _ _ (by omega)]
    have h4 : t / (a : Int) ≤ 73 := by
      have : t / (a : Int) < 74 := Int.ediv_lt_of_lt_mul (by omega) (by omega)
      omega
    have h5 : -73 ≤ t / (a : Int) := Int.le_ediv_of_mul_le (by omega) (by omega)
    generalize t / (a : Int) = u at *
    omega

set_option maxHeartbeats 1000000 in
theorem q_flOk {p x : List Int} {a : Nat} {A : List Nat} (hT : TabOk p a A) (h : SmR p x) : FlOk p x (p.length - 1) (qOf p x) := by
  have hp := hT.pos
  have hle := hT.le
  have hn := q_near hT h
  have hf := h.fst
  have hall : ∀ i : Nat, (x[i]?.getD 0).natAbs ≤ 300 := fun i => by
    rcases Nat.eq_zero_or_pos i with h0 | h0
    · subst h0; exact hf
    · have := h.oth i h0; omega
  have hgood : ∀ i, i < p.length → ∀ e : Int, e.natAbs ≤ 20000 → Good (p[i]?.getD 0) e := fun i hi e he => by
    rw [List.getElem?_eq_getElem hi]
    obtain ⟨h1, h2, h3⟩ := hT.good _ (List.getElem_mem hi)
    exact ⟨h1, h2, he, h3⟩
  refine ⟨by rw [h.len]; omega, by omega, by omega, hgood 0 hp 1 (by decide), fun i hi _ => hgood i (by omega) _ (by have := hall i; omega), ?_, ?_, by omega⟩
  · intro z hz
    obtain ⟨i, hi, rfl⟩ := List.getElem_of_mem hz
    have := hall i
    rw [List.getElem?_eq_getElem hi] at this
    exact Nat.le_trans this (by decide)
  · by_cases hpt : pureT x = true
    · exact .inl ⟨hpt, by unfold qOf; rw [if_pos hpt]⟩
    · right
      have hpf : pureT x = false := by simpa using hpt
      refine ⟨hpf, ?_⟩
      have hqo : qOf p x = qSum p x p.length / lgA (p[0]?.getD 0) := by unfold qOf; rw [if_neg hpt]
      rw [Nat.sub_add_cancel (by omega)]
      have hL : lgA (p[0]?.getD 0) = (a : Int) := by rw [← qLogs_get p 0 hp, hT.logs, hT.first]
      have hq := qSum_eq (p := p) (x := x) (p.length - 1) (by omega)
      rw [Nat.sub_add_cancel (by omega), hL, hT.logs] at hq
      have hwid := qWid_le h p.length hle
      obtain ⟨n1, n2, n3, n4⟩ := qNear p x p.length
      have hbig := hT.big
      have hu := qU_eq (A := A) (x := x) (p.length - 1) (fun i h1 _ => h.oth i h1)
      have hr : 1500 ≤ qSum p x p.length % (a : Int) ∧ qSum p x p.length % (a : Int) + 1500 ≤ (a : Int) := by
        rcases qChk_all (x := x) _ _ _ hT.chk (fun i h1 _ => h.oth i h1) with ⟨_, h2⟩ | h2
        · exact absurd (pure_of fun i h3 h4 => h2 i h3 (by rw [h.len] at h4; omega)) hpt
        · have e : qSum p x p.length % (a : Int) = (((9 * qA A (p.length - 1) * (a - 1) + qU A x (p.length - 1)) % a : Nat) : Int) := by
            rw [Int.natCast_emod, Int.natCast_add, hu, Int.natCast_mul, Int.natCast_sub (by omega), hq]
            have : x[0]?.getD 0 * (a : Int) + qI A x (p.length - 1) = ((9 * qA A (p.length - 1) : Nat) : Int) * ((a : Int) - (1 : Nat)) + (qI A x (p.length - 1) + 9 * (qA A (p.length - 1) : Nat)) + (x[0]?.getD 0 - ((9 * qA A (p.length - 1) : Nat) : Int)) * (a : Int) := by
              rw [Int.mul_sub, Int.sub_mul]
              generalize x[0]?.getD 0 * (a : Int) = t1
              generalize ((9 * qA A (p.length - 1) : Nat) : Int) * (a : Int) = t2
              omega
            rw [this, Int.add_mul_emod_self_right]
          rw [e]
          omega
      have hB : lgB (p[0]?.getD 0) = (a : Int) ∨ lgB (p[0]?.getD 0) = (a : Int) + 1 := by
        unfold lgB
        rw [hL]
        split
        · exact .inl rfl
        · exact .inr rfl
      rw [hqo, hL] at hn ⊢
      exact q_quot (by omega) hB hr.1 hr.2 (by omega) (by omega) n2 n3 (by omega)

theorem addE_get (x : List Int) (n : Int) (i : Nat) (hi : 1 ≤ i) : (addE x n)[i]?.getD 0 = x[i]?.getD 0 := by
  unfold addE
  rw [List.getElem?_set_ne (by omega)]
theorem addE_get0 (x : List Int) (n : Int) (h : 0 < x.length) : (addE x n)[0]?.getD 0 = x[0]?.getD 0 + n := by
  unfold addE
  rw [List.getElem?_set_self h]
  rfl
theorem smR_chk {p x : List Int} (hp : primeErr p = 0) (h : SmR p x) : chkAll p [x] = 0 := by
  refine chk_small hp h.len fun v hv => ?_
  obtain ⟨i, hi, rfl⟩ := List.getElem_of_mem hv
  have : (x[i]?.getD 0).natAbs ≤ 300 := by
    rcases Nat.eq_zero_or_pos i with h0 | h0
    · subst h0; exact h.fst
    · have := h.oth i h0; omega
  rw [List.getElem?_eq_getElem hi] at this
  simp at this
  omega
/-- What is reduced is small again. -/
theorem smR_r {p x : List Int} {a : Nat} {A : List Nat} (hT : TabOk p a A) (h : SmR p x) : SmR p (rOf p x) := by
  have hn := q_near hT h
  have hp := hT.pos
  have hl := h.len
  unfold rOf
  refine ⟨by rw [addE_len, h.len], ?_, fun i hi => ?_⟩
  · rw [addE_get0 _ _ (by omega)]; omega
  · rw [addE_get _ _ _ hi]; exact h.oth i hi
theorem neg_get (x : List Int) (i : Nat) (hi : i < x.length) : (timesTo x (-1) x.length)[i]?.getD 0 = - (x[i]?.getD 0) := by
  rw [timesTo_get x (-1) i x.length hi]
  omega
theorem neg_get' (x : List Int) (i : Nat) : (timesTo x (-1) x.length)[i]?.getD 0 = - (x[i]?.getD 0) := by
  by_cases hi : i < x.length
  · exact neg_get x i hi
  · rw [List.getElem?_eq_none (by rw [timesTo_len]; omega), List.getElem?_eq_none (by omega)]; rfl
theorem smR_neg {p x : List Int} (h : SmR p x) : SmR p (timesTo x (-1) x.length) := by
  have hl := h.len
  refine ⟨by rw [timesTo_len, h.len], ?_, fun i hi => ?_⟩
  · rw [neg_get']; have := h.fst; omega
  · rw [neg_get']; have := h.oth i hi; omega
theorem smR_c {p x : List Int} {a : Nat} {A : List Nat} (hT : TabOk p a A) (h : SmR p x) : SmR p (cOf p x) := smR_r hT (smR_neg h)

theorem redOk_sm {p x : List Int} {a : Nat} {A : List Nat} (hT : TabOk p a A) (h : SmR p x) : RedOk p x (p.length - 1) (qOf p x) :=
  ⟨q_flOk hT h, hT.pe, smR_chk hT.pe h, smR_chk hT.pe (smR_r hT h), by have := q_near hT h; have := h.fst; omega⟩
theorem rdsOk_sm {p : List Int} {l : List (List Int)} {a : Nat} {A : List Nat} (hT : TabOk p a A) (h : ∀ x ∈ l, SmR p x) : RdsOk p (p.length - 1) l (rOf p) (cOf p) :=
  ⟨fun x hx => ⟨_, redOk_sm hT (h x hx), rfl⟩, fun x hx => ⟨_, redOk_sm hT (smR_neg (h x hx)), rfl⟩, fun x hx => chk_both (smR_chk hT.pe (smR_r hT (h x hx))) (smR_chk hT.pe (smR_c hT (h x hx))), hT.pe⟩

end Go.Proofs.YtcfkclafpbaagaaGreatDoor

namespace Go.Proofs.YtcfkclafpbaagaaGreatDoor
open Go.RowKit Go.Lib

theorem timesTo_map (x : List Int) : ∀ k, k ≤ x.length → timesTo x (-1) k = (x.take k).map (fun z => -z)
  | 0, _ => rfl
  | k + 1, h => by
    rw [timesTo, timesTo_map x k (by omega), List.take_succ_eq_append_getElem (by omega), List.map_append, List.getElem?_eq_getElem (by omega)]
    simp
def negL (x : List Int) : List Int := x.map fun z => -z
theorem neg_map (x : List Int) : timesTo x (-1) x.length = negL x := by rw [timesTo_map x _ (Nat.le_refl _), List.take_length]; rfl
theorem negL_len (x : List Int) : (negL x).length = x.length := by unfold negL; rw [List.length_map]
theorem negL_negL (x : List Int) : negL (negL x) = x := by
  have h : (fun z : Int => -z) ∘ (fun z : Int => -z) = id := by funext z; simp
  unfold negL
  rw [List.map_map, h, List.map_id]
theorem negL_get0 (x : List Int) : (negL x)[0]?.getD 0 = -(x[0]?.getD 0) := by
  unfold negL
  rw [List.getElem?_map]
  cases x[0]? <;> rfl
theorem negL_addE (x : List Int) (n : Int) : negL (addE x n) = addE (negL x) (-n) := by
  unfold addE
  rw [negL_get0, show -(x[0]?.getD 0) + -n = -(x[0]?.getD 0 + n) by omega]
  unfold negL
  rw [List.map_set]
theorem addE_addE (x : List Int) (m n : Int) (h : 0 < x.length) : addE (addE x m) n = addE x (m + n) := by
  have h0 : (x.set 0 (x[0]?.getD 0 + m))[0]?.getD 0 = x[0]?.getD 0 + m := addE_get0 x m h
  unfold addE
  rw [h0, List.set_set, Int.add_assoc]
theorem addE_zero (x : List Int) : addE x 0 = x := by
  unfold addE
  rw [Int.add_zero]
  cases x with
  | nil => rfl
  | cons a l => rfl
theorem pure_addE (x : List Int) (n : Int) : pureT (addE x n) = pureT x := by
  unfold pureT addE
  cases x <;> rfl
theorem qSum_addE {p x : List Int} {n : Int} (h : 0 < x.length) : ∀ k, qSum p (addE x n) (k + 1) = qSum p x (k + 1) + n * lgA (p[0]?.getD 0)
  | 0 => by
    rw [qSum, qSum, qSum, qSum, addE_get0 x n h, Int.add_mul]
    omega
  | k + 1 => by
    rw [qSum, qSum_addE h k, addE_get x n (k + 1) (by omega)]
    conv => rhs; rw [qSum]
    omega
theorem qOf_addE {p x : List Int} {a : Nat} {A : List Nat} (hT : TabOk p a A) (h : x.length = p.length) (n : Int) : qOf p (addE x n) = qOf p x + n := by
  have hp := hT.pos
  have hL : lgA (p[0]?.getD 0) = (a : Int) := by rw [← qLogs_get p 0 hp, hT.logs, hT.first]
  have hbig := hT.big
  unfold qOf
  rw [pure_addE]
  split
  · rw [addE_get0 x n (by omega)]
  · have := qSum_addE (p := p) (x := x) (n := n) (by omega) (p.length - 1)
    rw [Nat.sub_add_cancel (by omega)] at this
    rw [this, hL, Int.add_mul_ediv_right _ _ (by omega)]
theorem rOf_addE {p x : List Int} {a : Nat} {A : List Nat} (hT : TabOk p a A) (h : x.length = p.length) (n : Int) : rOf p (addE x n) = rOf p x := by
  have hp := hT.pos
  unfold rOf
  rw [qOf_addE hT h, addE_addE _ _ _ (by omega)]
  congr 1
  omega
theorem rOf_len (p x : List Int) : (rOf p x).length = x.length := addE_len _ _
theorem cOf_eq (p x : List Int) : cOf p x = rOf p (negL x) := by unfold cOf; rw [neg_map]
theorem rOf_rOf {p x : List Int} {a : Nat} {A : List Nat} (hT : TabOk p a A) (h : x.length = p.length) : rOf p (rOf p x) = rOf p x := rOf_addE hT h _
theorem cOf_rOf {p x : List Int} {a : Nat} {A : List Nat} (hT : TabOk p a A) (h : x.length = p.length) : cOf p (rOf p x) = cOf p x := by
  have e : negL (rOf p x) = addE (negL x) (- -qOf p x) := negL_addE x _
  rw [cOf_eq, cOf_eq, e]
  exact rOf_addE hT (by rw [negL_len]; exact h) _
theorem rOf_cOf {p x : List Int} {a : Nat} {A : List Nat} (hT : TabOk p a A) (h : x.length = p.length) : rOf p (cOf p x) = cOf p x := by
  rw [cOf_eq]
  exact rOf_rOf hT (by rw [negL_len]; exact h)
theorem cOf_cOf {p x : List Int} {a : Nat} {A : List Nat} (hT : TabOk p a A) (h : x.length = p.length) : cOf p (cOf p x) = rOf p x := by
  rw [cOf_eq p x, cOf_rOf hT (by rw [negL_len]; exact h), cOf_eq, negL_negL]

/-- A reduced interval that is not 0 is not its complement. -/
theorem r_ne_c {p x : List Int} {a : Nat} {A : List Nat} (hT : TabOk p a A) (h : x.length = p.length) (e : rOf p x = cOf p x) : zeroB (rOf p x) = true := by
  have hp := hT.pos
  have h1 : ∀ i : Nat, 1 ≤ i → x[i]?.getD 0 = 0 := fun i hi => by
    have e2 : (rOf p x)[i]?.getD 0 = (cOf p x)[i]?.getD 0 := by rw [e]
    rw [cOf_eq] at e2
    unfold rOf at e2
    rw [addE_get _ _ _ hi, addE_get _ _ _ hi] at e2
    unfold negL at e2
    rw [List.getElem?_map] at e2
    cases hx : x[i]? with
    | none => rfl
    | some z => rw [hx] at e2; simp at e2 ⊢; omega
  have hpt : pureT x = true := pure_of fun i hi _ => h1 i hi
  have hq : qOf p x = x[0]?.getD 0 := by unfold qOf; rw [if_pos hpt]
  have hall : ∀ i : Nat, (rOf p x)[i]?.getD 0 = 0 := fun i => by
    unfold rOf
    rcases Nat.eq_zero_or_pos i with h0 | h0
    · subst h0; rw [addE_get0 _ _ (by omega), hq]; omega
    · rw [addE_get _ _ _ h0]; exact h1 i h0
  unfold zeroB
  rw [Bool.not_eq_true', List.any_eq_false]
  intro z hz
  obtain ⟨i, hi, rfl⟩ := List.getElem_of_mem hz
  have := hall i
  rw [List.getElem?_eq_getElem hi] at this
  simp at this
  simp [this]

/-- The lists of the law: one interval more. -/
theorem once_app (p : List Int) (l m : List (List Int)) : onceL p (l ++ m) = m.foldl (insR p) (onceL p l) := by
  unfold onceL
  rw [List.foldl_append]

end Go.Proofs.YtcfkclafpbaagaaGreatDoor

namespace Go.Proofs.YtcfkclafpbaagaaGreatDoor
open Go.RowKit Go.Lib

theorem ins_at {p : List Int} (hP : Primed p) {s : List (List Int)} {x : List Int} {k : Nat} (hs : ∀ y ∈ s, y.length = p.length) (hx : x.length = p.length) (h : SLt p s) (h1 : ∀ y ∈ s.take k, ltR p y x = true) (h2 : ∀ y ∈ s.drop k, ltR p x y = true) :
    s.take k ++ x :: s.drop k = insR p s x := by
  have hts : s.take k ++ s.drop k = s := List.take_append_drop k s
  refine slt_ext ?_ (insR_slt hP hs h) fun y => ?_
  · have h3 := h
    rw [← hts] at h3
    unfold SLt at h3 ⊢
    rw [List.pairwise_append] at h3 ⊢
    obtain ⟨k1, k2, k3⟩ := h3
    refine ⟨k1, List.pairwise_cons.2 ⟨h2, k2⟩, fun a ha b hb => ?_⟩
    rcases List.mem_cons.1 hb with rfl | hb
    · exact h1 a ha
    · exact k3 a ha b hb
  · rw [insR_mem hP hs hx, List.mem_append, List.mem_cons]
    have : y ∈ s ↔ y ∈ s.take k ∨ y ∈ s.drop k := by rw [← List.mem_append, hts]
    rw [this]
    constructor
    · rintro (h | h | h)
      · exact .inr (.inl h)
      · exact .inl h
      · exact .inr (.inr h)
    · rintro (h | h | h)
      · exact .inr (.inl h)
      · exact .inl h
      · exact .inr (.inr h)
theorem ins_same {p : List Int} (hP : Primed p) {s : List (List Int)} {x : List Int} (hs : ∀ y ∈ s, y.length = p.length) (h : SLt p s) (hx : x ∈ s) : s = insR p s x := by
  refine slt_ext h (insR_slt hP hs h) fun y => ?_
  rw [insR_mem hP hs (hs x hx)]
  constructor
  · exact fun h => .inr h
  · rintro (rfl | h)
    · exact hx
    · exact h
theorem take_lt {p : List Int} (hP : Primed p) {s : List (List Int)} {x : List Int} {k : Nat} (hs : ∀ y ∈ s, y.length = p.length) (hx : x.length = p.length) (h : SLt p s) (hk : k < s.length) (h1 : ltR p s[k] x = true) : ∀ y ∈ s.take (k + 1), ltR p y x = true := by
  intro y hy
  rw [← List.take_append_getElem hk] at hy
  rcases List.mem_append.1 hy with h2 | h2
  · have h3 : SLt p (s.take k ++ s[k] :: s.drop (k + 1)) := by rw [← List.drop_eq_getElem_cons hk, List.take_append_drop]; exact h
    unfold SLt at h3
    rw [List.pairwise_append] at h3
    exact ltR_trans hP (hs y (List.mem_of_mem_take h2)) hx (h3.2.2 y h2 _ List.mem_cons_self) h1
  · rw [List.mem_singleton.1 h2]; exact h1
theorem cmp_of_lt {p x y : List Int} (h : num p x * den p y < num p y * den p x) : ltR p x y = true := by unfold ltR; rw [decide_eq_true_eq]; exact h

end Go.Proofs.YtcfkclafpbaagaaGreatDoor

namespace Go.Proofs.YtcfkclafpbaagaaGreatDoor
open Go.RowKit Go.Lib

def IvlOwn (x : List Int) (e : Ending) (w' : World) : Prop := ∃ A c, e = .returned (.slice A x.length c) ∧ ORow w' (.slice A x.length c) x

set_option maxRecDepth 100000 in
set_option maxHeartbeats 2000000 in
/-- As interval_any, with the row's own block. -/
theorem interval_own (AP : Option Addr) (cp n : Nat) (a b c d : Int) (w : World) (hn : n ≤ 4) (h4 : Four [a, b, c, d]) :
    Calls Tryz.prog 13 #[.slice AP n cp, .agg #[.int .i8 a, .int .i8 b, .int .i8 c, .int .i8 d]] w fun e w' => IvlOwn (ivlTo [a, b, c, d] n) e w' ∧ Below w.heap.size w w' := by
  obtain ⟨i0, hi0, hz0, hz1, hz2⟩ := info_parts Tryz.info_int
  have H4 : Box (Four [a, b, c, d]) := ⟨h4⟩
  clear h4
  go_enter Tryz.func13, Tryz.ntmps13
  go_wp2_with fail
  go_loopw [5, 6] (fun o i wr => ∃ j : Nat, j ≤ n ∧ i = .int .i64 j ∧ wr.ownsRow (w.heap.size + 1) 3 1 o j (is (ivlTo [a, b, c, d] j)) ∧ Below (w.heap.size + 1) (w.alloc (.cells #[.int .i8 a, .int .i8 b, .int .i8 c, .int .i8 d] 31)) wr) (fun _ i _ => n - (intOf i).toNat)
  case atStart => exact ⟨0, Nat.zero_le _, rfl, World.ownsRow_nil _ _ _ _, Below.refl _ _⟩
  case round =>
    obtain ⟨j, hj, rfl, hown, hbw⟩ := hrel
    have HO := Lib.hid hown
    clear hown
    by_cases hlt : j < n
    · have hj4 : j < 4 := by omega
      have hc := four_cell hbw hj4
      have hbd := H4.out.le j hj4
      have e3 : ivlTo [a, b, c, d] (j + 1) = ivlTo [a, b, c, d] j ++ [([a, b, c, d][j]?.getD 0).tmod 10] := rfl
      generalize [a, b, c, d][j]?.getD 0 = z at *
      have E3 := Lib.hid e3
      clear e3
      have htb := tmod_bound z
      go_wp2_with (at_builtin; refine wpList_append_own _ rfl _ _ _ rfl (w.heap.size + 1) 3 i0 (.int .i64 0) 1 8 Tryz.underlying28 hi0 hz0 hz1 hz2 rfl (by decide) _ _ _ rfl (HO.out.alloc _) ⟨wr.heap.size, 0, Option.none⟩ 1 1 [_] rfl rfl (cell_one_new _ _ _) (by intro u hu; simp at hu; subst hu; rfl) (by unfold maxLen; omega) (by omega) (by have := hbw.size; simp at this; simp; omega) ?_; intro v3 w3 hown3 hg3 _)
      go_wp2
      go_roundw
      case rel =>
        refine ⟨j + 1, by omega, by go_num, ?_, ?_⟩
        · rw [E3.out, is_append]; exact hown3
        · exact (hbw.alloc (by have := hbw.size; simp at this; omega) _).grown hg3 (by have := hbw.size; simp at this; simp; omega) (fun k hk => (HO.out.lt k hk).1)
      case measure => (simp [intOf]; try omega)
    · obtain rfl : j = n := by omega
      have hex : wr.ownsRow (w.heap.size + 1) 3 1 u5 (ivlTo [a, b, c, d] j).length (is (ivlTo [a, b, c, d] j)) := by rw [ivlTo_len]; exact HO.out
      have HRI := Lib.hid (ORow.of_own hex)
      clear hex
      go_wp2
      go_ret
      obtain ⟨A, cc, e⟩ := HRI.out.shape
      subst e
      exact ⟨⟨_, _, rfl, HRI.out⟩, below_result hbw⟩

end Go.Proofs.YtcfkclafpbaagaaGreatDoor
