/- The plain law of TargetKeeps. The intervals of numbers up to 99: small exponents, odd parts. schismalaw29.of over numbers up to 99. schismalaw29.diamond. target.Diamond of wrong numbers. -/
import Derived.Test.YtcfkclafpbaagaaGreatDoorGTO
import Derived.Test.YtcfkclafpbaagaaGreatDoorGTN
import Derived.Test.YtcfkclafpbaagaaGreatDoorGTK
import Derived.Test.YtcfkclafpbaagaaGreatDoorFractionsG
import Derived.Test.YtcfkclafpbaagaaGreatDoorGTI
namespace Go.Proofs.YtcfkclafpbaagaaGreatDoor
open Go.RowKit Go.Lib

def mnOf (p x : List Int) : List Int := if ltR p (cOf p x) (rOf p x) then cOf p x else rOf p x
theorem selsW_mem {p : List Int} {l : List (List Int)} {y : List Int} : y ∈ selsW p (rOf p) (cOf p) l l.length ↔ ∃ x ∈ l, zeroB (rOf p x) = false ∧ y = rOf p x := by
  unfold selsW
  rw [List.take_length, List.mem_flatMap]
  constructor
  · rintro ⟨x, hx, h⟩
    unfold selW at h
    split at h
    · simp at h
    · rename_i hz; exact ⟨x, hx, by simpa using hz, List.mem_singleton.1 h⟩
  · rintro ⟨x, hx, hz, rfl⟩
    exact ⟨x, hx, by unfold selW; rw [hz]; simp⟩
theorem selsP_mem {p : List Int} {l : List (List Int)} {y : List Int} : y ∈ selsP p (rOf p) (cOf p) l l.length ↔ ∃ x ∈ l, zeroB (rOf p x) = false ∧ (y = rOf p x ∨ y = cOf p x) := by
  unfold selsP
  rw [List.take_length, List.mem_flatMap]
  constructor
  · rintro ⟨x, hx, h⟩
    unfold selP at h
    split at h
    · simp at h
    · rename_i hz; exact ⟨x, hx, by simpa using hz, by simpa using h⟩
  · rintro ⟨x, hx, hz, h⟩
    exact ⟨x, hx, by unfold selP; rw [hz]; simpa using h⟩
theorem selsL_mem {p : List Int} {l : List (List Int)} {y : List Int} : y ∈ selsL p (rOf p) (cOf p) l l.length ↔ ∃ x ∈ l, zeroB (rOf p x) = false ∧ y = mnOf p x := by
  unfold selsL
  rw [List.take_length, List.mem_flatMap]
  constructor
  · rintro ⟨x, hx, h⟩
    unfold selL at h
    split at h
    · simp at h
    · rename_i hz; exact ⟨x, hx, by simpa using hz, List.mem_singleton.1 h⟩
  · rintro ⟨x, hx, hz, rfl⟩
    refine ⟨x, hx, ?_⟩
    unfold selL
    rw [hz]
    exact List.mem_singleton.2 rfl

section
variable {p : List Int} {a : Nat} {A : List Nat}

theorem zero_neg {y : List Int} (h : zeroB y = true) : negL y = y := by
  unfold zeroB at h
  rw [Bool.not_eq_true', List.any_eq_false] at h
  unfold negL
  conv => rhs; rw [← List.map_id y]
  exact List.map_congr_left fun z hz => by
    have := h z hz
    simp at this
    simp [this]
theorem nz_c (hT : TabOk p a A) {x : List Int} (h : x.length = p.length) (hz : zeroB (rOf p x) = false) : zeroB (cOf p x) = false := by
  cases hc : zeroB (cOf p x)
  · rfl
  · exfalso
    have hl : (cOf p x).length = p.length := by rw [cOf_eq, rOf_len, negL_len]; exact h
    have e1 : cOf p (cOf p x) = rOf p (cOf p x) := by rw [cOf_eq p (cOf p x), zero_neg hc]
    have e2 := r_ne_c hT hl e1.symm
    rw [← e1, cOf_cOf hT h, hz] at e2
    cases e2
theorem r_ne (hT : TabOk p a A) {x : List Int} (h : x.length = p.length) (hz : zeroB (rOf p x) = false) : rOf p x ≠ cOf p x := fun e => by
  have := r_ne_c hT h e
  rw [hz] at this
  cases this
theorem r_len {x : List Int} (h : x.length = p.length) : (rOf p x).length = p.length := by rw [rOf_len]; exact h
theorem c_len {x : List Int} (h : x.length = p.length) : (cOf p x).length = p.length := by rw [cOf_eq, rOf_len, negL_len]; exact h
theorem mn_r (hT : TabOk p a A) {x : List Int} (h : x.length = p.length) : mnOf p (rOf p x) = mnOf p x := by
  unfold mnOf
  rw [rOf_rOf hT h, cOf_rOf hT h]
theorem mn_c (hT : TabOk p a A) {x : List Int} (h : x.length = p.length) (hz : zeroB (rOf p x) = false) : mnOf p (cOf p x) = mnOf p x := by
  have hP := primed hT.pe
  unfold mnOf
  rw [rOf_cOf hT h, cOf_cOf hT h]
  rcases ltR_tot hP (r_len h) (c_len h) (r_ne hT h hz) with h1 | h1
  · rw [if_pos h1, if_neg (by rw [ltR_asym h1]; simp)]
  · rw [if_pos h1, if_neg (by rw [ltR_asym h1]; simp)]
theorem mn_or (p x : List Int) : mnOf p x = rOf p x ∨ mnOf p x = cOf p x := by
  unfold mnOf
  split
  · exact .inr rfl
  · exact .inl rfl
/-- The lesser one is less than its complement. -/
theorem mn_lt (hT : TabOk p a A) {x : List Int} (h : x.length = p.length) (hz : zeroB (rOf p x) = false) : ltR p (mnOf p x) (cOf p (mnOf p x)) = true := by
  have hP := primed hT.pe
  unfold mnOf
  by_cases h1 : ltR p (cOf p x) (rOf p x) = true
  · rw [if_pos h1, cOf_cOf hT h]; exact h1
  · rw [if_neg h1, cOf_rOf hT h]
    rcases ltR_tot hP (r_len h) (c_len h) (r_ne hT h hz) with h2 | h2
    · exact h2
    · exact absurd h2 h1
theorem mn_rr (hT : TabOk p a A) {x : List Int} (h : x.length = p.length) : rOf p (mnOf p x) = mnOf p x := by
  rcases mn_or p x with e | e
  · rw [e]; exact rOf_rOf hT h
  · rw [e]; exact rOf_cOf hT h
theorem mn_cc (hT : TabOk p a A) {x : List Int} (h : x.length = p.length) : cOf p (cOf p (mnOf p x)) = mnOf p x := by
  have hl : (mnOf p x).length = p.length := by
    rcases mn_or p x with e | e
    · rw [e]; exact r_len h
    · rw [e]; exact c_len h
  rw [cOf_cOf hT hl, mn_rr hT h]

variable {L : List (List Int)}
def kR (p : List Int) (L : List (List Int)) : List (List Int) := onceL p (selsW p (rOf p) (cOf p) L L.length)
def kLs (p : List Int) (L : List (List Int)) : List (List Int) := onceL p (selsL p (rOf p) (cOf p) L L.length)
def kCl (p : List Int) (L : List (List Int)) : List (List Int) := onceL p (selsP p (rOf p) (cOf p) L L.length)

theorem kR_ok (hT : TabOk p a A) (hL : ∀ x ∈ L, x.length = p.length) : SLt p (kR p L) ∧ ∀ y, y ∈ kR p L ↔ ∃ x ∈ L, zeroB (rOf p x) = false ∧ y = rOf p x := by
  obtain ⟨h1, h2⟩ := onceL_slt (primed hT.pe) (l := selsW p (rOf p) (cOf p) L L.length) (fun y hy => by obtain ⟨x, hx, _, rfl⟩ := selsW_mem.1 hy; exact r_len (hL x hx))
  exact ⟨h1, fun y => (h2 y).trans selsW_mem⟩
theorem kL_ok (hT : TabOk p a A) (hL : ∀ x ∈ L, x.length = p.length) : SLt p (kLs p L) ∧ ∀ y, y ∈ kLs p L ↔ ∃ x ∈ L, zeroB (rOf p x) = false ∧ y = mnOf p x := by
  obtain ⟨h1, h2⟩ := onceL_slt (primed hT.pe) (l := selsL p (rOf p) (cOf p) L L.length) (fun y hy => by
    obtain ⟨x, hx, _, rfl⟩ := selsL_mem.1 hy
    rcases mn_or p x with e | e
    · rw [e]; exact r_len (hL x hx)
    · rw [e]; exact c_len (hL x hx))
  exact ⟨h1, fun y => (h2 y).trans selsL_mem⟩
theorem kC_ok (hT : TabOk p a A) (hL : ∀ x ∈ L, x.length = p.length) : SLt p (kCl p L) ∧ ∀ y, y ∈ kCl p L ↔ ∃ x ∈ L, zeroB (rOf p x) = false ∧ (y = rOf p x ∨ y = cOf p x) := by
  obtain ⟨h1, h2⟩ := onceL_slt (primed hT.pe) (l := selsP p (rOf p) (cOf p) L L.length) (fun y hy => by
    obtain ⟨x, hx, _, h⟩ := selsP_mem.1 hy
    rcases h with rfl | rfl
    · exact r_len (hL x hx)
    · exact c_len (hL x hx))
  exact ⟨h1, fun y => (h2 y).trans selsP_mem⟩
theorem kR_len (hT : TabOk p a A) (hL : ∀ x ∈ L, x.length = p.length) : ∀ y ∈ kR p L, y.length = p.length := fun y hy => by
  obtain ⟨x, hx, _, rfl⟩ := ((kR_ok hT hL).2 y).1 hy
  exact r_len (hL x hx)
theorem kL_len (hT : TabOk p a A) (hL : ∀ x ∈ L, x.length = p.length) : ∀ y ∈ kLs p L, y.length = p.length := fun y hy => by
  obtain ⟨x, hx, _, rfl⟩ := ((kL_ok hT hL).2 y).1 hy
  rcases mn_or p x with e | e
  · rw [e]; exact r_len (hL x hx)
  · rw [e]; exact c_len (hL x hx)
theorem kC_len (hT : TabOk p a A) (hL : ∀ x ∈ L, x.length = p.length) : ∀ y ∈ kCl p L, y.length = p.length := fun y hy => by
  obtain ⟨x, hx, _, h⟩ := ((kC_ok hT hL).2 y).1 hy
  rcases h with rfl | rfl
  · exact r_len (hL x hx)
  · exact c_len (hL x hx)

/-- Reduce changes nothing in its result. -/
theorem keep_R (hT : TabOk p a A) (hL : ∀ x ∈ L, x.length = p.length) : kR p (kR p L) = kR p L := by
  obtain ⟨s1, m1⟩ := kR_ok hT (kR_len hT hL)
  obtain ⟨s2, m2⟩ := kR_ok hT hL
  refine slt_ext s1 s2 fun y => ?_
  rw [m1]
  constructor
  · rintro ⟨z, hz, _, rfl⟩
    obtain ⟨x, hx, h1, rfl⟩ := (m2 z).1 hz
    rw [rOf_rOf hT (hL x hx)]; exact hz
  · intro hy
    obtain ⟨x, hx, h1, rfl⟩ := (m2 y).1 hy
    exact ⟨_, hy, by rw [rOf_rOf hT (hL x hx)]; exact h1, (rOf_rOf hT (hL x hx)).symm⟩
/-- Lesser of Closed is Lesser. -/
theorem keep_L (hT : TabOk p a A) (hL : ∀ x ∈ L, x.length = p.length) : kLs p (kCl p L) = kLs p L := by
  obtain ⟨s1, m1⟩ := kL_ok hT (kC_len hT hL)
  obtain ⟨s2, m2⟩ := kL_ok hT hL
  obtain ⟨_, m3⟩ := kC_ok hT hL
  refine slt_ext s1 s2 fun y => ?_
  rw [m1, m2]
  constructor
  · rintro ⟨z, hz, _, rfl⟩
    obtain ⟨x, hx, h1, h2⟩ := (m3 z).1 hz
    rcases h2 with rfl | rfl
    · exact ⟨x, hx, h1, mn_r hT (hL x hx)⟩
    · exact ⟨x, hx, h1, mn_c hT (hL x hx) h1⟩
  · rintro ⟨x, hx, h1, rfl⟩
    exact ⟨rOf p x, (m3 _).2 ⟨x, hx, h1, .inl rfl⟩, by rw [rOf_rOf hT (hL x hx)]; exact h1, (mn_r hT (hL x hx)).symm⟩
theorem pair_mn (hT : TabOk p a A) {x y : List Int} (h : x.length = p.length) : (y = rOf p (mnOf p x) ∨ y = cOf p (mnOf p x)) ↔ (y = rOf p x ∨ y = cOf p x) := by
  rcases mn_or p x with e | e
  · rw [e, rOf_rOf hT h, cOf_rOf hT h]
  · rw [e, rOf_cOf hT h, cOf_cOf hT h]
    exact Or.comm
theorem nz_mn (hT : TabOk p a A) {x : List Int} (h : x.length = p.length) (hz : zeroB (rOf p x) = false) : zeroB (rOf p (mnOf p x)) = false := by
  rw [mn_rr hT h]
  rcases mn_or p x with e | e
  · rw [e]; exact hz
  · rw [e]; exact nz_c hT h hz
/-- Closed of Lesser is Closed. -/
theorem keep_C (hT : TabOk p a A) (hL : ∀ x ∈ L, x.length = p.length) : kCl p (kLs p L) = kCl p L := by
  obtain ⟨s1, m1⟩ := kC_ok hT (kL_len hT hL)
  obtain ⟨s2, m2⟩ := kC_ok hT hL
  obtain ⟨_, m3⟩ := kL_ok hT hL
  refine slt_ext s1 s2 fun y => ?_
  rw [m1, m2]
  constructor
  · rintro ⟨z, hz, _, h2⟩
    obtain ⟨x, hx, h1, rfl⟩ := (m3 z).1 hz
    exact ⟨x, hx, h1, (pair_mn hT (hL x hx)).1 h2⟩
  · rintro ⟨x, hx, h1, h2⟩
    exact ⟨mnOf p x, (m3 _).2 ⟨x, hx, h1, rfl⟩, nz_mn hT (hL x hx) h1, (pair_mn hT (hL x hx)).2 h2⟩
theorem slt_nodup {l : List (List Int)} (h : SLt p l) : l.Nodup := List.Pairwise.imp (fun {x y} hxy e => by subst e; rw [ltR_irr] at hxy; cases hxy) h
/-- Closed has twice as many as Lesser. -/
theorem keep_len (hT : TabOk p a A) (hL : ∀ x ∈ L, x.length = p.length) : (kCl p L).length = 2 * (kLs p L).length := by
  obtain ⟨s2, m2⟩ := kC_ok hT hL
  obtain ⟨s3, m3⟩ := kL_ok hT hL
  have hlt : ∀ z ∈ kLs p L, ltR p z (cOf p z) = true := fun z hz => by
    obtain ⟨x, hx, h1, rfl⟩ := (m3 z).1 hz
    exact mn_lt hT (hL x hx) h1
  have hcc : ∀ z ∈ kLs p L, cOf p (cOf p z) = z := fun z hz => by
    obtain ⟨x, hx, h1, rfl⟩ := (m3 z).1 hz
    exact mn_cc hT (hL x hx)
  have hperm : (kCl p L).Perm (kLs p L ++ (kLs p L).map (cOf p)) := by
    refine (List.perm_ext_iff_of_nodup (slt_nodup s2) ?_).2 fun y => ?_
    · rw [List.nodup_append]
      refine ⟨slt_nodup s3, ?_, fun u hu v hv e => ?_⟩
      · unfold List.Nodup
        rw [List.pairwise_map]
        exact List.Pairwise.imp_of_mem (fun {x y} hx hy hne e => hne (by rw [← hcc x hx, ← hcc y hy, e])) (slt_nodup s3)
      · obtain ⟨z, hz, rfl⟩ := List.mem_map.1 hv
        subst e
        have h1 := hlt _ hu
        rw [hcc z hz] at h1
        have h2 := hlt z hz
        rw [ltR_asym h1] at h2
        cases h2
    · rw [m2, List.mem_append, List.mem_map]
      constructor
      · rintro ⟨x, hx, h1, h2⟩
        have hz := (m3 (mnOf p x)).2 ⟨x, hx, h1, rfl⟩
        rcases (pair_mn hT (hL x hx)).2 h2 with e | e
        · left; rw [e, mn_rr hT (hL x hx)]; exact hz
        · right; exact ⟨_, hz, e.symm⟩
      · rintro (hy | ⟨z, hz, rfl⟩)
        · obtain ⟨x, hx, h1, rfl⟩ := (m3 y).1 hy
          exact ⟨x, hx, h1, mn_or p x⟩
        · obtain ⟨x, hx, h1, rfl⟩ := (m3 z).1 hz
          exact ⟨x, hx, h1, (pair_mn hT (hL x hx)).1 (.inr rfl)⟩
  rw [hperm.length_eq, List.length_append, List.length_map]
  omega
end

end Go.Proofs.YtcfkclafpbaagaaGreatDoor

namespace Go.Proofs.YtcfkclafpbaagaaGreatDoor
open Go.RowKit Go.Lib

theorem ext_getD {x y : List Int} (hl : x.length = y.length) (h : ∀ i : Nat, i < x.length → x[i]?.getD 0 = y[i]?.getD 0) : x = y := by
  refine List.ext_getElem hl fun i h1 h2 => ?_
  have := h i h1
  rw [List.getElem?_eq_getElem h1, List.getElem?_eq_getElem h2] at this
  exact this
theorem mult_one {q : Nat} (h : 2 ≤ q) : mult q 1 = 0 := mult_no (fun ⟨_, _, h3⟩ => by rw [Nat.mod_eq_of_lt (by omega)] at h3; cases h3)
theorem mult_six {q n : Nat} (h0 : 0 < n) (h : n ≤ 99) : mult q n ≤ 6 := by
  have h1 := mult_pow q n h0
  refine Nat.le_of_not_lt fun h2 => ?_
  have h3 : 2 ^ 7 ≤ 2 ^ mult q n := Nat.pow_le_pow_right (by omega) h2
  have : (2 : Nat) ^ 7 = 128 := rfl
  omega
theorem leftTo_one {p : List Int} : ∀ k, leftTo p 1 k = 1
  | 0 => rfl
  | k + 1 => by
    have h := leftTo_le p 1 (by omega) (k + 1)
    omega
theorem left_odd {n : Nat} (h : 0 < n) : left 2 n % 2 = 1 := by
  induction n using Nat.strongRecOn with
  | _ n ih =>
    by_cases hc : 2 ≤ 2 ∧ 0 < n ∧ n % 2 = 0
    · rw [left_yes hc]; exact ih (n / 2) (by omega) (by omega)
    · rw [left_no hc]; omega
theorem left_left {n : Nat} (h : 0 < n) : left 2 (left 2 n) = left 2 n ∧ mult 2 (left 2 n) = 0 := by
  have := left_odd h
  exact ⟨left_no (by omega), mult_no (by omega)⟩

theorem numR_len (p : List Int) (z : Int) : (numR p z).length = p.length := expsTo_len _ _ _ _
theorem numR_get {p : List Int} (hp : ∀ k, k < p.length → 2 ≤ p[k]?.getD 0) (z : Int) {j : Nat} (hj : j < p.length) : (numR p z)[j]?.getD 0 = (mult (p[j]?.getD 0).toNat (leftTo p z.toNat j) : Int) := by
  unfold numR
  rw [expsTo_get p _ _ j _ hj, leftTo_one, mult_one (by have := hp j hj; omega)]
  simp
theorem numR_bd {p : List Int} (hp : ∀ k, k < p.length → 2 ≤ p[k]?.getD 0) {z : Int} (h1 : 1 ≤ z) (h2 : z ≤ 99) (j : Nat) : 0 ≤ (numR p z)[j]?.getD 0 ∧ (numR p z)[j]?.getD 0 ≤ 6 := by
  by_cases hj : j < p.length
  · rw [numR_get hp z hj]
    have hl := leftTo_le p z.toNat (by omega) j
    have := mult_six (q := (p[j]?.getD 0).toNat) hl.2 (by omega)
    omega
  · rw [List.getElem?_eq_none (by rw [numR_len]; omega)]; simp
theorem subR_get (x y : List Int) (h : x.length = y.length) (j : Nat) : (subR x y)[j]?.getD 0 = x[j]?.getD 0 - y[j]?.getD 0 := by
  unfold subR
  rw [List.getElem?_map]
  by_cases hj : j < x.length
  · have e : (x.zip y)[j]? = some (x[j]'hj, y[j]'(by omega)) := by
      rw [List.getElem?_eq_getElem (by rw [List.length_zip]; omega), List.getElem_zip]
    rw [e, List.getElem?_eq_getElem hj, List.getElem?_eq_getElem (by omega)]
    rfl
  · rw [List.getElem?_eq_none (by rw [List.length_zip]; omega), List.getElem?_eq_none (by omega), List.getElem?_eq_none (by omega)]
    rfl
theorem right_ge {p : List Int} (hpe : primeErr p = 0) : ∀ k, k < p.length → 2 ≤ p[k]?.getD 0 := fun k hk => ((right_primes hpe).2.2 k hk).1

/-- Numbers from 1 to 99. -/
def N99 (l : List Int) : Prop := ∀ z ∈ l, 1 ≤ z ∧ z ≤ 99
theorem num_sub {p : List Int} (hpe : primeErr p = 0) {u v : Int} (hu : 1 ≤ u ∧ u ≤ 99) (hv : 1 ≤ v ∧ v ≤ 99) : (subR (numR p u) (numR p v)).length = p.length ∧ ∀ z ∈ subR (numR p u) (numR p v), z.natAbs ≤ 6 := by
  have hl : (numR p u).length = (numR p v).length := by rw [numR_len, numR_len]
  refine ⟨by rw [subR_len hl, numR_len], fun z hz => ?_⟩
  obtain ⟨i, hi, rfl⟩ := List.getElem_of_mem hz
  have h := subR_get (numR p u) (numR p v) hl i
  rw [List.getElem?_eq_getElem hi] at h
  simp at h
  have b1 := numR_bd (right_ge hpe) hu.1 hu.2 i
  have b2 := numR_bd (right_ge hpe) hv.1 hv.2 i
  omega
theorem chk_of_small {p x : List Int} (hpe : primeErr p = 0) (hl : x.length = p.length) (h : ∀ z ∈ x, z.natAbs ≤ 100) : chkAll p [x] = 0 ∧ rowChk x = 0 := by
  refine ⟨chk_small hpe hl fun v hv => by have := h v hv; omega, ?_⟩
  have h6 := (right_primes hpe).1
  unfold rowChk
  rw [if_neg]
  rintro (h1 | h1)
  · omega
  · obtain ⟨v, hv, hf⟩ := List.any_eq_true.1 h1
    have := h v hv
    unfold fitsB at hf
    simp at hf
    omega
theorem prsOk_gen {p : List Int} (hpe : primeErr p = 0) {l : List Int} (hl : N99 l) (hn : l.length ≤ 20) : PrsOk p (numsR p l) := by
  refine ⟨by unfold numsR; rw [List.length_map]; exact hn, fun x hx => ?_, fun x hx y hy => ?_⟩
  · obtain ⟨z, hz, rfl⟩ := List.mem_map.1 hx
    refine ⟨numR_len p z, (chk_of_small hpe (numR_len p z) fun v hv => ?_).2⟩
    obtain ⟨i, hi, rfl⟩ := List.getElem_of_mem hv
    have b := numR_bd (right_ge hpe) (hl z hz).1 (hl z hz).2 i
    rw [List.getElem?_eq_getElem hi] at b
    simp at b
    omega
  · obtain ⟨u, hu, rfl⟩ := List.mem_map.1 hx
    obtain ⟨v, hv, rfl⟩ := List.mem_map.1 hy
    obtain ⟨h1, h2⟩ := num_sub hpe (hl u hu) (hl v hv)
    have h3 := chk_of_small hpe h1 (fun z hz => Nat.le_trans (h2 z hz) (by decide))
    exact ⟨h3.2, h3.1⟩

/-- All differences of the numbers' intervals, in order. -/
def difR (p : List Int) (l : List Int) : List (List Int) := onceL p (prsR (numsR p l))
theorem prsR_mem {l : List (List Int)} {x : List Int} : x ∈ prsR l ↔ ∃ a ∈ l, ∃ b ∈ l, x = subR a b := by
  unfold prsR
  rw [List.mem_flatMap]
  constructor
  · rintro ⟨a, ha, h⟩
    obtain ⟨b, hb, rfl⟩ := List.mem_map.1 h
    exact ⟨a, ha, b, hb, rfl⟩
  · rintro ⟨a, ha, b, hb, rfl⟩
    exact ⟨a, ha, List.mem_map.2 ⟨b, hb, rfl⟩⟩
theorem difR_mem {p : List Int} (hpe : primeErr p = 0) {l : List Int} (hl : N99 l) {x : List Int} : x ∈ difR p l ↔ ∃ u ∈ l, ∃ v ∈ l, x = subR (numR p u) (numR p v) := by
  have h := (onceL_slt (primed hpe) (l := prsR (numsR p l)) (fun y hy => by
    obtain ⟨a, ha, b, hb, rfl⟩ := prsR_mem.1 hy
    obtain ⟨u, hu, rfl⟩ := List.mem_map.1 ha
    obtain ⟨v, hv, rfl⟩ := List.mem_map.1 hb
    exact (num_sub hpe (hl u hu) (hl v hv)).1)).2 x
  unfold difR
  rw [h, prsR_mem]
  constructor
  · rintro ⟨a, ha, b, hb, rfl⟩
    obtain ⟨u, hu, rfl⟩ := List.mem_map.1 ha
    obtain ⟨v, hv, rfl⟩ := List.mem_map.1 hb
    exact ⟨u, hu, v, hv, rfl⟩
  · rintro ⟨u, hu, v, hv, rfl⟩
    exact ⟨_, List.mem_map.2 ⟨u, hu, rfl⟩, _, List.mem_map.2 ⟨v, hv, rfl⟩, rfl⟩
theorem difR_sm {p : List Int} (hpe : primeErr p = 0) {l : List Int} (hl : N99 l) : ∀ x ∈ difR p l, SmR p x := fun x hx => by
  obtain ⟨u, hu, v, hv, rfl⟩ := (difR_mem hpe hl).1 hx
  obtain ⟨h1, h2⟩ := num_sub hpe (hl u hu) (hl v hv)
  exact smR_of h1 fun z hz => Nat.le_trans (h2 z hz) (by decide)

/-! Numbers over the list. -/
theorem smTo_mem {p : List Int} {z : Int} : ∀ m : Nat, z ∈ smTo p m ↔ 1 ≤ z ∧ z ≤ m ∧ smB p z.toNat 1 = true
  | 0 => by
    unfold smTo
    constructor
    · intro h; simp at h
    · rintro ⟨h1, h2, _⟩; omega
  | m + 1 => by
    have ih := smTo_mem (p := p) (z := z) m
    unfold smTo
    split
    · rename_i hs
      rw [List.mem_append, List.mem_singleton, ih]
      constructor
      · rintro (⟨h1, h2, h3⟩ | rfl)
        · exact ⟨h1, by omega, h3⟩
        · exact ⟨by omega, by omega, by rw [Int.toNat_natCast]; exact hs⟩
      · rintro ⟨h1, h2, h3⟩
        by_cases h : z = ((m + 1 : Nat) : Int)
        · exact .inr h
        · exact .inl ⟨h1, by omega, h3⟩
    · rename_i hs
      rw [ih]
      constructor
      · rintro ⟨h1, h2, h3⟩; exact ⟨h1, by omega, h3⟩
      · rintro ⟨h1, h2, h3⟩
        refine ⟨h1, ?_, h3⟩
        by_cases h : z ≤ (m : Int)
        · exact h
        · exfalso
          refine hs ?_
          have : z.toNat = m + 1 := by omega
          rw [← this]; exact h3
theorem smTo_99 {p : List Int} {m : Nat} (hm : m ≤ 99) : N99 (smTo p m) := fun z hz => by
  have := (smTo_mem m).1 hz
  omega
theorem oddZ_mem {l : List Int} {z : Int} : z ∈ oddZ l ↔ z ∈ l ∧ z % 2 = 1 := by
  unfold oddZ
  rw [List.mem_filter, decide_eq_true_eq]
theorem odd_99 {p : List Int} {m : Nat} (hm : m ≤ 99) : N99 (oddZ (smTo p m)) := fun z hz => smTo_99 hm z (oddZ_mem.1 hz).1
theorem smTo_ok {p : List Int} {m : Nat} (hm : m ≤ 99) : NumsOk p (smTo p m) := fun z hz => by
  have := (smTo_mem m).1 hz
  exact ⟨this.1, by omega, this.2.2⟩
theorem odd_ok2 {p : List Int} {m : Nat} (hm : m ≤ 99) : NumsOk p (oddZ (smTo p m)) := fun z hz => smTo_ok hm z (oddZ_mem.1 hz).1

/-- The odd part of a number, over a list that begins with 2. -/
theorem leftTo_half {p : List Int} (h2 : p[0]?.getD 0 = 2) {n : Nat} (hn : 0 < n) : ∀ k, leftTo p (left 2 n) (k + 1) = leftTo p n (k + 1)
  | 0 => by
    rw [leftTo, leftTo, leftTo, leftTo, h2]
    exact (left_left hn).1
  | k + 1 => by rw [leftTo, leftTo_half h2 hn k]; rfl
theorem numR_half {p : List Int} (hpe : primeErr p = 0) (h2 : p[0]?.getD 0 = 2) {u : Int} (hu : 1 ≤ u) : numR p u = addE (numR p ((left 2 u.toNat : Nat) : Int)) ((mult 2 u.toNat : Nat) : Int) := by
  have hp := (right_primes hpe).2.1
  have hn : 0 < u.toNat := by omega
  refine ext_getD (by rw [addE_len, numR_len, numR_len]) fun i hi => ?_
  rw [numR_len] at hi
  rw [numR_get (right_ge hpe) u hi]
  rcases Nat.eq_zero_or_pos i with h0 | h0
  · subst h0
    rw [addE_get0 _ _ (by rw [numR_len]; exact hp), numR_get (right_ge hpe) _ hi, h2, leftTo, leftTo, Int.toNat_natCast, show (2 : Int).toNat = 2 from rfl, (left_left hn).2]
    simp
  · obtain ⟨k, rfl⟩ : ∃ k, i = k + 1 := ⟨i - 1, by omega⟩
    rw [addE_get _ _ _ h0, numR_get (right_ge hpe) _ hi, Int.toNat_natCast, leftTo_half h2 hn k]
theorem subR_addE {x y : List Int} (h : x.length = y.length) (h0 : 0 < x.length) (a b : Int) : subR (addE x a) (addE y b) = addE (subR x y) (a - b) := by
  have hl : (addE x a).length = (addE y b).length := by rw [addE_len, addE_len]; exact h
  refine ext_getD (by rw [addE_len, subR_len hl, subR_len h, addE_len]) fun i _ => ?_
  rw [subR_get _ _ hl]
  rcases Nat.eq_zero_or_pos i with hi | hi
  · subst hi
    rw [addE_get0 _ _ h0, addE_get0 _ _ (by omega), addE_get0 _ _ (by rw [subR_len h]; exact h0), subR_get _ _ h]
    omega
  · rw [addE_get _ _ _ hi, addE_get _ _ _ hi, addE_get _ _ _ hi, subR_get _ _ h]
theorem odd_part {p : List Int} (hpe : primeErr p = 0) (h2 : p[0]?.getD 0 = 2) {m : Nat} {u : Int} (hu : u ∈ smTo p m) : ((left 2 u.toNat : Nat) : Int) ∈ oddZ (smTo p m) := by
  obtain ⟨h1, h3, h4⟩ := (smTo_mem m).1 hu
  have hn : 0 < u.toNat := by omega
  have hl := left_le 2 u.toNat
  have ho := left_odd hn
  have hp := (right_primes hpe).2.1
  refine oddZ_mem.2 ⟨(smTo_mem m).2 ⟨by have := hl.2 hn; omega, by omega, ?_⟩, by omega⟩
  rw [Int.toNat_natCast]
  unfold smB at h4 ⊢
  obtain ⟨k, hk⟩ : ∃ k, p.length = k + 1 := ⟨p.length - 1, by omega⟩
  rw [hk] at h4 ⊢
  rw [leftTo_half h2 hn k]
  exact h4

/-! The lists of the odd limit and of the integer limit. -/
def oddR (p : List Int) (m : Nat) : List (List Int) := kR p (difR p (oddZ (smTo p m)))
def posB (p x : List Int) : Bool := decide (0 < cmpN (num p x) (den p x))
def intR (p : List Int) (m : Nat) : List (List Int) := (onceL p (prsR (rowsM p m))).filter (posB p)
theorem rowsM_eq (p : List Int) (m : Nat) : rowsM p m = numsR p (smTo p m) := rfl

section
variable {p : List Int} {a : Nat} {A : List Nat}
theorem oddR_mem (hT : TabOk p a A) {m : Nat} (hm : m ≤ 99) {y : List Int} : y ∈ oddR p m ↔ ∃ u ∈ oddZ (smTo p m), ∃ v ∈ oddZ (smTo p m), zeroB (rOf p (subR (numR p u) (numR p v))) = false ∧ y = rOf p (subR (numR p u) (numR p v)) := by
  unfold oddR
  rw [(kR_ok hT (fun x hx => (difR_sm hT.pe (odd_99 hm) x hx).len)).2 y]
  constructor
  · rintro ⟨x, hx, hz, rfl⟩
    obtain ⟨u, hu, v, hv, rfl⟩ := (difR_mem hT.pe (odd_99 hm)).1 hx
    exact ⟨u, hu, v, hv, hz, rfl⟩
  · rintro ⟨u, hu, v, hv, hz, rfl⟩
    exact ⟨_, (difR_mem hT.pe (odd_99 hm)).2 ⟨u, hu, v, hv, rfl⟩, hz, rfl⟩
theorem oddR_sm (hT : TabOk p a A) {m : Nat} (hm : m ≤ 99) : ∀ y ∈ oddR p m, SmR p y := fun y hy => by
  obtain ⟨x, hx, _, rfl⟩ := ((kR_ok hT (fun x hx => (difR_sm hT.pe (odd_99 hm) x hx).len)).2 y).1 hy
  exact smR_r hT (difR_sm hT.pe (odd_99 hm) x hx)
theorem negL_subR {x y : List Int} (h : x.length = y.length) : negL (subR x y) = subR y x := by
  refine ext_getD (by rw [negL_len, subR_len h, subR_len h.symm]; exact h) fun i _ => ?_
  rw [subR_get _ _ h.symm]
  have := subR_get x y h i
  unfold negL
  rw [List.getElem?_map]
  cases e : (subR x y)[i]? with
  | none => rw [e] at this; simp at this ⊢; omega
  | some z => rw [e] at this; simp at this ⊢; omega
/-- The odd limit is closed. -/
theorem odd_closed (hT : TabOk p a A) {m : Nat} (hm : m ≤ 99) : kCl p (oddR p m) = oddR p m := by
  have hsm := oddR_sm hT hm
  obtain ⟨s1, m1⟩ := kC_ok hT (L := oddR p m) (fun x hx => (hsm x hx).len)
  have s2 := (kR_ok hT (fun x hx => (difR_sm hT.pe (odd_99 (p := p) hm) x hx).len)).1
  refine slt_ext s1 s2 fun y => ?_
  rw [m1]
  show _ ↔ y ∈ oddR p m
  have hln : ∀ u v : Int, u ∈ oddZ (smTo p m) → v ∈ oddZ (smTo p m) → (subR (numR p u) (numR p v)).length = p.length := fun u v hu hv => (num_sub hT.pe (odd_99 hm u hu) (odd_99 hm v hv)).1
  constructor
  · rintro ⟨z, hz, hnz, h⟩
    obtain ⟨u, hu, v, hv, h1, rfl⟩ := (oddR_mem hT hm).1 hz
    have hl := hln u v hu hv
    rw [rOf_rOf hT hl, cOf_rOf hT hl] at h
    rcases h with rfl | rfl
    · exact hz
    · refine (oddR_mem hT hm).2 ⟨v, hv, u, hu, ?_⟩
      have e : cOf p (subR (numR p u) (numR p v)) = rOf p (subR (numR p v) (numR p u)) := by rw [cOf_eq, negL_subR (by rw [numR_len, numR_len])]
      rw [← e]
      exact ⟨nz_c hT hl h1, rfl⟩
  · intro hy
    obtain ⟨u, hu, v, hv, h1, rfl⟩ := (oddR_mem hT hm).1 hy
    have hl := hln u v hu hv
    exact ⟨_, hy, by rw [rOf_rOf hT hl]; exact h1, .inl (rOf_rOf hT hl).symm⟩
theorem odd_mono (hT : TabOk p a A) {m m' : Nat} (h : m ≤ m') (hm : m' ≤ 99) : ∀ y ∈ oddR p m, y ∈ oddR p m' := fun y hy => by
  obtain ⟨u, hu, v, hv, h1⟩ := (oddR_mem hT (by omega)).1 hy
  have hin : ∀ z, z ∈ oddZ (smTo p m) → z ∈ oddZ (smTo p m') := fun z hz => by
    obtain ⟨k1, k2⟩ := oddZ_mem.1 hz
    obtain ⟨k3, k4, k5⟩ := (smTo_mem m).1 k1
    exact oddZ_mem.2 ⟨(smTo_mem m').2 ⟨k3, by omega, k5⟩, k2⟩
  exact (oddR_mem hT hm).2 ⟨u, hin u hu, v, hin v hv, h1⟩
theorem intR_sub {m : Nat} : ∀ x ∈ intR p m, x ∈ difR p (smTo p m) := fun _ hx => (List.mem_filter.1 hx).1
theorem intR_sm (hT : TabOk p a A) {m : Nat} (hm : m ≤ 99) : ∀ x ∈ intR p m, SmR p x := fun x hx => difR_sm hT.pe (smTo_99 hm) x (intR_sub x hx)
/-- The reduced intervals of the integer limit lie in the odd limit. -/
theorem int_in_odd (hT : TabOk p a A) (h2 : p[0]?.getD 0 = 2) {m : Nat} (hm : m ≤ 99) : ∀ y ∈ kR p (intR p m), y ∈ oddR p m := fun y hy => by
  obtain ⟨x, hx, hz, rfl⟩ := ((kR_ok hT (fun x hx => (intR_sm hT hm x hx).len)).2 y).1 hy
  obtain ⟨u, hu, v, hv, rfl⟩ := (difR_mem hT.pe (smTo_99 hm)).1 (intR_sub x hx)
  have h1u := ((smTo_mem m).1 hu).1
  have h1v := ((smTo_mem m).1 hv).1
  have e : rOf p (subR (numR p u) (numR p v)) = rOf p (subR (numR p ((left 2 u.toNat : Nat) : Int)) (numR p ((left 2 v.toNat : Nat) : Int))) := by
    rw [numR_half hT.pe h2 h1u, numR_half hT.pe h2 h1v, subR_addE (by rw [numR_len, numR_len]) (by rw [numR_len]; exact hT.pos)]
    exact rOf_addE hT (num_sub hT.pe (odd_99 hm _ (odd_part hT.pe h2 hu)) (odd_99 hm _ (odd_part hT.pe h2 hv))).1 _
  rw [e] at hz ⊢
  exact (oddR_mem hT hm).2 ⟨_, odd_part hT.pe h2 hu, _, odd_part hT.pe h2 hv, hz, rfl⟩
end
theorem rowsIn_of {l m : List (List Int)} (h : ∀ x ∈ l, x ∈ m) : rowsIn l m = true := by
  unfold rowsIn
  rw [List.all_eq_true]
  intro x hx
  rw [List.any_eq_true]
  exact ⟨x, h x hx, by unfold sameB; simp⟩

end Go.Proofs.YtcfkclafpbaagaaGreatDoor

namespace Go.Proofs.YtcfkclafpbaagaaGreatDoor
open Go.RowKit Go.Lib Go.Shelf

set_option maxHeartbeats 1000000 in
theorem of_low29 (pv : Value) (p : List Int) (u v n d : Nat) (w : World) (hS : Std w) (hpv : IsRow w w.heap.size pv p) (hp : primeErr p = 0) (hn : (decDigits n).length ≤ 18) (hd : (decDigits d).length ≤ 18) (hu9 : u ≤ 1000000) (hv9 : v ≤ 1000000) (hv0 : 0 < v) (hlo : lowN (u : Int) (v : Int) = n ∧ lowD (u : Int) (v : Int) = d) (hn0 : 0 < n) (hd0 : 0 < d) (hg : Nat.gcd n d = 1) :
    Calls Tryz.prog 35 #[pv, .int .i64 u, .int .i64 v] w fun e w' => OfPost29 p n d e w' ∧ Below w.heap.size w w' := by
  have HO := Lib.hid (fracOf_any (u : Int) (v : Int) w hS (by omega) (by omega) (by omega))
  rw [hlo.1, hlo.2, itoa_nat, itoa_nat] at HO
  have HF := Lib.hid (fun W hb => of_yes pv p n d W (hS.below (w := w) (B := w.heap.size) hb (Nat.le_refl _)) (hpv.lift hb) hp hn hd hn0 hd0 hg)
  obtain ⟨AP, cp, rfl⟩ := hpv.shape
  clear hS hpv hp hn hn0 hd hd0 hg hlo
  generalize decDigits n = la at *
  generalize decDigits d = lb at *
  go_enter Tryz.func35, Tryz.ntmps35
  go_wp2_with fail
  refine HO.out.mono ?_
  rintro e w1 ⟨rfl, hb1⟩
  have hba : Below w.heap.size w (w1.alloc (.cells #[.string ⟨la.toArray⟩, .string ⟨lb.toArray⟩] 53)) := hb1.alloc hb1.size _
  have HF1 := Lib.hid (HF.out _ hba)
  have HBA := Lib.hid hba
  clear hb1 hba
  go_wp2_with fail
  refine HF1.out.mono ?_
  rintro e w2 ⟨hpost, hb2⟩
  have HB2 := Lib.hid (HBA.out.trans (hb2.mono HBA.out.size))
  clear hb2
  rcases hpost with ⟨hs1, hs2, v, rfl, hr⟩ | ⟨hs, rfl⟩
  · have HSM := Lib.hid (And.intro hs1 hs2)
    have HR := Lib.hid hr
    clear hs1 hs2 hr
    go_wp2_with fail
    go_ret
    exact ⟨.inl ⟨HSM.out.1, HSM.out.2, _, rfl, HR.out⟩, HB2.out⟩
  · have HSM := Lib.hid hs
    clear hs
    go_wp2_with fail
    go_ret
    exact ⟨.inr ⟨HSM.out, rfl⟩, HB2.out⟩

theorem left_mul {q n : Nat} (hq : 2 ≤ q) : q ^ mult q n * left q n = n := by
  induction n using Nat.strongRecOn with
  | _ n ih =>
    by_cases hc : 2 ≤ q ∧ 0 < n ∧ n % q = 0
    · have h1 := ih (n / q) (Nat.div_lt_self hc.2.1 (by omega))
      rw [mult_yes hc, left_yes hc, Nat.pow_succ, Nat.mul_assoc, Nat.mul_comm q, ← Nat.mul_assoc, h1]
      exact Nat.div_mul_cancel (Nat.dvd_of_mod_eq_zero hc.2.2)
    · rw [mult_no hc, left_no hc, Nat.pow_zero, Nat.one_mul]
theorem leftTo_mul {p : List Int} (hp : ∀ k, k < p.length → 2 ≤ p[k]?.getD 0) (n : Nat) : ∀ k, k ≤ p.length → pp p (fun i => mult (p[i]?.getD 0).toNat (leftTo p n i)) 0 k * leftTo p n k = n
  | 0, _ => by simp [pp, leftTo]
  | k + 1, hk => by
    have ih := leftTo_mul hp n k (by omega)
    have h2 := left_mul (q := (p[k]?.getD 0).toNat) (n := leftTo p n k) (by have := hp k (by omega); omega)
    rw [pp, leftTo, Nat.zero_add, Nat.mul_assoc, h2]
    exact ih
theorem num_numR {p : List Int} (hpe : primeErr p = 0) {u : Int} (hs : leftTo p u.toNat p.length = 1) : num p (numR p u) = u.toNat ∧ den p (numR p u) = 1 := by
  have hge := right_ge hpe
  have h1 := leftTo_mul hge u.toNat p.length (Nat.le_refl _)
  rw [hs, Nat.mul_one] at h1
  constructor
  · rw [num_pp (numR_len p u)]
    conv => rhs; rw [← h1]
    refine pp_congr p 0 _ fun i _ hi => ?_
    unfold upE
    rw [numR_get hge u (by omega)]
    omega
  · rw [den_pp (numR_len p u), ← pp_zero p 0 p.length]
    refine pp_congr p 0 _ fun i _ hi => ?_
    unfold downE
    rw [numR_get hge u (by omega)]
    omega

theorem cop_div {u v : Nat} (hg : 0 < Nat.gcd u v) : Nat.gcd (u / Nat.gcd u v) (v / Nat.gcd u v) = 1 := by
  rw [Nat.gcd_div (Nat.gcd_dvd_left u v) (Nat.gcd_dvd_right u v), Nat.div_self hg]
theorem cop_eq {n d u v : Nat} (h : u * d = n * v) (h1 : Nat.gcd n d = 1) (h2 : Nat.gcd u v = 1) : n = u ∧ d = v := by
  have a1 : n ∣ u := Nat.Coprime.dvd_of_dvd_mul_right (k := n) (n := d) h1 ⟨v, h⟩
  have a2 : u ∣ n := Nat.Coprime.dvd_of_dvd_mul_right (k := u) (n := v) h2 ⟨d, h.symm⟩
  have e := Nat.dvd_antisymm a1 a2
  refine ⟨e, ?_⟩
  subst e
  have b1 : d ∣ v := Nat.Coprime.dvd_of_dvd_mul_left (k := d) (m := n) (by rw [Nat.Coprime, Nat.gcd_comm]; exact h1) (by rw [← h]; exact Nat.dvd_mul_left _ _)
  have b2 : v ∣ d := Nat.Coprime.dvd_of_dvd_mul_left (k := v) (m := n) (by rw [Nat.Coprime, Nat.gcd_comm]; exact h2) (by rw [h]; exact Nat.dvd_mul_left _ _)
  exact Nat.dvd_antisymm b1 b2
theorem sub_frac {p : List Int} (hpe : primeErr p = 0) {u v : Nat} (hu : 1 ≤ u ∧ u ≤ 99) (hsu : leftTo p u p.length = 1) (hsv : leftTo p v p.length = 1) :
    num p (subR (numR p u) (numR p v)) = u / Nat.gcd u v ∧ den p (subR (numR p u) (numR p v)) = v / Nat.gcd u v := by
  have hP := primed hpe
  have hl : (numR p u).length = (numR p v).length := by rw [numR_len, numR_len]
  have hxl : (subR (numR p u) (numR p v)).length = p.length := by rw [subR_len hl, numR_len]
  obtain ⟨nu, du⟩ := num_numR hpe (u := u) (by rw [Int.toNat_natCast]; exact hsu)
  obtain ⟨nv, dv⟩ := num_numR hpe (u := v) (by rw [Int.toNat_natCast]; exact hsv)
  rw [Int.toNat_natCast] at nu nv
  have hs := num_sum (p := p) (x := subR (numR p u) (numR p v)) (y := numR p v) (z := numR p u) hxl (numR_len p v) (numR_len p u) (fun j _ => by rw [subR_get _ _ hl]; omega)
  rw [nu, du, nv, dv, Nat.mul_one, Nat.mul_one] at hs
  have hc := num_den_coprime hP hxl
  have hg : 0 < Nat.gcd u v := Nat.gcd_pos_of_pos_left _ (by omega)
  have hgu := Nat.gcd_dvd_left u v
  have hgv := Nat.gcd_dvd_right u v
  refine cop_eq ?_ hc (cop_div hg)
  have e1 : u = u / Nat.gcd u v * Nat.gcd u v := (Nat.div_mul_cancel hgu).symm
  have e2 : v = v / Nat.gcd u v * Nat.gcd u v := (Nat.div_mul_cancel hgv).symm
  refine Nat.eq_of_mul_eq_mul_right hg ?_
  calc u / Nat.gcd u v * den p (subR (numR p u) (numR p v)) * Nat.gcd u v = u / Nat.gcd u v * Nat.gcd u v * den p (subR (numR p u) (numR p v)) := by ac_rfl
    _ = u * den p (subR (numR p u) (numR p v)) := by rw [← e1]
    _ = num p (subR (numR p u) (numR p v)) * v := hs
    _ = num p (subR (numR p u) (numR p v)) * (v / Nat.gcd u v * Nat.gcd u v) := by rw [← e2]
    _ = num p (subR (numR p u) (numR p v)) * (v / Nat.gcd u v) * Nat.gcd u v := by ac_rfl

/-- of over numbers up to 99 that lie over the list. -/
theorem of_num29 (pv : Value) (p : List Int) (u v : Nat) (w : World) (hS : Std w) (hpv : IsRow w w.heap.size pv p) (hpe : primeErr p = 0) (hu : 1 ≤ u ∧ u ≤ 99) (hv : 1 ≤ v ∧ v ≤ 99) (hsu : leftTo p u p.length = 1) (hsv : leftTo p v p.length = 1) :
    Calls Tryz.prog 35 #[pv, .int .i64 u, .int .i64 v] w fun e w' => (∃ r, e = .returned r ∧ IsRow w' w'.heap.size r (subR (numR p u) (numR p v))) ∧ Below w.heap.size w w' := by
  obtain ⟨e1, e2⟩ := sub_frac hpe hu hsu hsv
  have hl : (numR p u).length = (numR p v).length := by rw [numR_len, numR_len]
  have hxl : (subR (numR p u) (numR p v)).length = p.length := by rw [subR_len hl, numR_len]
  obtain ⟨o1, o2, o3⟩ := of_num_den (primed hpe) hxl
  have hg : 0 < Nat.gcd u v := Nat.gcd_pos_of_pos_left _ (by omega)
  have hu2 : u / Nat.gcd u v ≤ 99 := Nat.le_trans (Nat.div_le_self _ _) hu.2
  have hv2 : v / Nat.gcd u v ≤ 99 := Nat.le_trans (Nat.div_le_self _ _) hv.2
  have hu3 : 0 < u / Nat.gcd u v := Nat.div_pos (Nat.le_of_dvd (by omega) (Nat.gcd_dvd_left u v)) hg
  have hv3 : 0 < v / Nat.gcd u v := Nat.div_pos (Nat.le_of_dvd (by omega) (Nat.gcd_dvd_right u v)) hg
  have h := of_low29 pv p u v (u / Nat.gcd u v) (v / Nat.gcd u v) w hS hpv hpe (dec99 hu2) (dec99 hv2) (by omega) (by omega) (by omega) (by unfold lowN lowD; rw [Int.natAbs_natCast, Int.natAbs_natCast, Int.natCast_ediv, Int.natCast_ediv]; exact ⟨rfl, rfl⟩) hu3 hv3 (cop_div hg)
  refine h.mono ?_
  rintro e w' ⟨hpost, hb⟩
  refine ⟨?_, hb⟩
  rcases hpost with ⟨_, _, r, rfl, hr⟩ | ⟨hno, _⟩
  · rw [← e1, ← e2, o3] at hr
    exact ⟨r, rfl, hr⟩
  · rw [← e1, ← e2] at hno
    exact absurd ⟨o1, o2⟩ hno

end Go.Proofs.YtcfkclafpbaagaaGreatDoor

namespace Go.Proofs.YtcfkclafpbaagaaGreatDoor
open Go.RowKit Go.Lib Go.Shelf

/-- The intervals that the law's diamond inserts, one after the other. -/
def dia (r : List Int → List Int) (m : List (List Int)) : List (List Int) := m.flatMap fun x => if zeroB (r x) then [] else [r x]
theorem dia_snoc (r : List Int → List Int) (m : List (List Int)) (x : List Int) : dia r (m ++ [x]) = dia r m ++ (if zeroB (r x) then [] else [r x]) := by
  unfold dia
  rw [List.flatMap_append]
  simp
theorem dia_len (r : List Int → List Int) : ∀ m : List (List Int), (dia r m).length ≤ m.length
  | [] => by simp [dia]
  | x :: m => by
    have ih := dia_len r m
    unfold dia at ih ⊢
    rw [List.flatMap_cons, List.length_append, List.length_cons]
    have h1 : (if zeroB (r x) = true then ([] : List (List Int)) else [r x]).length ≤ 1 := by split <;> simp
    omega
theorem dia_mem {r : List Int → List Int} {m : List (List Int)} {y : List Int} : y ∈ dia r m ↔ ∃ x ∈ m, zeroB (r x) = false ∧ y = r x := by
  unfold dia
  rw [List.mem_flatMap]
  constructor
  · rintro ⟨x, hx, h⟩
    split at h
    · simp at h
    · rename_i hz; exact ⟨x, hx, by simpa using hz, List.mem_singleton.1 h⟩
  · rintro ⟨x, hx, hz, rfl⟩
    exact ⟨x, hx, by rw [hz]; simp⟩
theorem prsTo_mem {l : List (List Int)} {i k : Nat} (hk : k ≤ l.length) {x : List Int} (h : x ∈ prsTo l i k) (hi : i < l.length ∨ k = 0) : ∃ a ∈ l, ∃ b ∈ l, x = subR a b := by
  unfold prsTo at h
  rcases List.mem_append.1 h with h | h
  · obtain ⟨a, ha, h⟩ := List.mem_flatMap.1 h
    obtain ⟨b, hb, rfl⟩ := List.mem_map.1 h
    exact ⟨a, List.mem_of_mem_take ha, b, hb, rfl⟩
  · obtain ⟨b, hb, rfl⟩ := List.mem_map.1 h
    rcases hi with hi | hi
    · refine ⟨l[i], List.getElem_mem hi, b, List.mem_of_mem_take hb, ?_⟩
      rw [List.getElem?_eq_getElem hi]; rfl
    · subst hi; simp at hb

/-- How the law's intervals are reduced. -/
def RedsOk (p : List Int) (n : Nat) (l : List Int) (r : List Int → List Int) : Prop := ∀ u ∈ l, ∀ v ∈ l, ∃ q, RedOk p (subR (numR p u) (numR p v)) n q ∧ r (subR (numR p u) (numR p v)) = addE (subR (numR p u) (numR p v)) (-q)
theorem RedsOk.mem {p : List Int} {n : Nat} {l : List Int} {r : List Int → List Int} (h : RedsOk p n l r) {i k : Nat} (hk : k ≤ l.length) (hi : i < l.length ∨ k = 0) : ∀ y ∈ dia r (prsTo (numsR p l) i k), chkAll p [y] = 0 := fun y hy => by
  obtain ⟨x, hx, _, rfl⟩ := dia_mem.1 hy
  have hnl : (numsR p l).length = l.length := by unfold numsR; rw [List.length_map]
  obtain ⟨a, ha, b, hb, rfl⟩ := prsTo_mem (by rw [hnl]; exact hk) hx (by rw [hnl]; exact hi)
  obtain ⟨u, hu, rfl⟩ := List.mem_map.1 ha
  obtain ⟨v, hv, rfl⟩ := List.mem_map.1 hb
  obtain ⟨q, h1, h2⟩ := h u hu v hv
  rw [h2]
  exact h1.cr

/-- insert into a list in order that lies somewhere. -/
theorem insert_onceV (pv lv xv : Value) (p : List Int) (m : List (List Int)) (x : List Int) (w : World) (hS : Std w) (hp : IsRow w w.heap.size pv p) (hpe : primeErr p = 0) (hl : LstV w lv (onceL p m)) (hx : IsRow w w.heap.size xv x)
    (hm : ∀ y ∈ m, chkAll p [y] = 0) (hcx : chkAll p [x] = 0) (hn : m.length ≤ 1000) :
    Calls Tryz.prog 16 #[pv, lv, xv] w fun e w' => (∃ v, e = .returned v ∧ LstV w' v (onceL p (m ++ [x]))) ∧ Below w.heap.size w w' := insert_once pv lv xv p m x w hS hp hpe hl hx hm hcx hn

set_option maxRecDepth 100000 in
set_option maxHeartbeats 4000000 in
theorem diamond_any29 (pv lv : Value) (p l : List Int) (n : Nat) (r : List Int → List Int) (w : World) (hS : Std w) (hp : IsRow w w.heap.size pv p) (hpe : primeErr p = 0) (hlv : IsRow w w.heap.size lv l) (hok : NumsOk p l) (hr : RedsOk p n l r) (hn : l.length ≤ 20) :
    Calls Tryz.prog 27 #[pv, lv] w fun e w' => (∃ v, e = .returned v ∧ LstV w' v (onceL p (dia r (prsR (numsR p l))))) ∧ Below w.heap.size w w' := by
  have HS := Lib.hid hS
  have HP := Lib.hid hp
  have HPE := Lib.hid hpe
  have HLV := Lib.hid hlv
  have HOK : Box (NumsOk p l) := ⟨hok⟩
  have HRR : Box (RedsOk p n l r) := ⟨hr⟩
  have hnl : (numsR p l).length = l.length := by unfold numsR; rw [List.length_map]
  have HNL := Lib.hid hnl
  obtain ⟨AP, cp, rfl⟩ := hp.shape
  obtain ⟨AL, cl, rfl⟩ := hlv.shape
  clear hS hp hpe hlv hok hr hnl
  go_enter Tryz.func27, Tryz.ntmps27
  go_wp2_with fail
  go_loopw [5, 6] (fun o i wr => ∃ (k : Nat), k ≤ l.length ∧ i = .int .i64 k ∧ Hid (LstV wr o (onceL p (dia r (prsTo (numsR p l) k 0)))) ∧ Below w.heap.size w wr) (fun _ i _ => l.length - (intOf i).toNat)
  case atStart => exact ⟨0, Nat.zero_le _, rfl, Lib.hid (by rw [prsTo_zero]; exact LstV.nil _), Below.refl _ _⟩
  case round =>
    obtain ⟨i, hi, rfl, HLR, hbw⟩ := hrel
    by_cases hlt : i < l.length
    · have HB := Lib.hid hbw
      clear hbw
      go_wp2_with fail
      go_loopw [5, 7] (fun o j wr => ∃ (k : Nat), k ≤ l.length ∧ j = .int .i64 k ∧ Hid (LstV wr o (onceL p (dia r (prsTo (numsR p l) i k)))) ∧ Below w.heap.size w wr) (fun _ j _ => l.length - (intOf j).toNat)
      case atStart => exact ⟨0, Nat.zero_le _, rfl, HLR, HB.out⟩
      case round =>
        clear HLR HB
        obtain ⟨k, hk, rfl, HLR, hbw⟩ := hrel
        by_cases hltk : k < l.length
        · obtain ⟨A', c', e', _, _, hrl⟩ := HLV.out
          injection e' with e1 _ e3
          subst e1 e3
          obtain ⟨ad, rfl, _, hc1⟩ := (hrl.below hbw (Nat.le_refl _)).i_at hlt
          obtain ⟨ad2, e4, _, hc2⟩ := (hrl.below hbw (Nat.le_refl _)).i_at hltk
          cases e4
          have hm1 := List.getElem_mem hlt
          have hm2 := List.getElem_mem hltk
          rw [List.getElem?_eq_getElem hlt] at hc1
          rw [List.getElem?_eq_getElem hltk] at hc2
          simp only [Option.getD_some] at hc1 hc2
          obtain ⟨z1, z2, z3⟩ := HOK.out _ hm1
          obtain ⟨y1, y2, y3⟩ := HOK.out _ hm2
          have HRD := Lib.hid (HRR.out _ hm1 _ hm2)
          have hgi : (numsR p l)[i]?.getD [] = numR p l[i] := by unfold numsR; rw [List.getElem?_map, List.getElem?_eq_getElem hlt]; rfl
          have HNX := Lib.hid (show prsTo (numsR p l) i (k + 1) = prsTo (numsR p l) i k ++ [subR (numR p l[i]) (numR p l[k])] by
            have := prsTo_next (l := numsR p l) (i := i) (k := k) (by rw [HNL.out]; exact hltk)
            rw [hgi] at this
            rw [this]
            unfold numsR
            rw [List.getElem_map])
          have HPL := Lib.hid (prsTo_len (numsR p l) i k (by rw [HNL.out]; exact hi) (by rw [HNL.out]; exact hk))
          clear hrl hgi hm1 hm2
          generalize l[i]'hlt = u at *
          generalize l[k]'hltk = v at *
          obtain ⟨u, rfl⟩ : ∃ m : Nat, u = (m : Int) := ⟨u.toNat, by omega⟩
          obtain ⟨v, rfl⟩ : ∃ m : Nat, v = (m : Int) := ⟨v.toNat, by omega⟩
          rw [Int.toNat_natCast] at z3 y3
          unfold smB at z3 y3
          rw [Bool.and_eq_true, decide_eq_true_eq] at z3 y3
          have HOF := Lib.hid (fun (W : World) (h : Below wr.heap.size wr W) => of_num29 (.slice AP p.length cp) p u v W (HS.out.below (hbw.trans (h.mono hbw.size)) (Nat.le_refl _)) (HP.out.lift (hbw.trans (h.mono hbw.size))) HPE.out (by omega) (by omega) z3.1 y3.1)
          obtain ⟨q, hq1, hq2⟩ := HRD.out
          have HCR := Lib.hid hq1.cr
          have HRE := Lib.hid (fun (W : World) (rv : Value) (h : Below wr.heap.size wr W) hrow => reduced_any29 (.slice AP p.length cp) rv p (subR (numR p u) (numR p v)) n q W (HS.out.below (hbw.trans (h.mono hbw.size)) (Nat.le_refl _)) (HP.out.lift (hbw.trans (h.mono hbw.size))) hrow hq1)
          rw [← hq2] at HRE HCR
          have HME := Lib.hid (HRR.out.mem (i := i) hk (.inl hlt))
          have HDL := Lib.hid (dia_len r (prsTo (numsR p l) i k))
          have HDS := Lib.hid (dia_snoc r (prsTo (numsR p l) i k) (subR (numR p u) (numR p v)))
          rw [← HNX.out] at HDS
          have HB := Lib.hid hbw
          have hi1 : (0 : Int) ≤ (i : Int) := by omega
          have hi2 : (i : Int) < (l.length : Int) := by omega
          have hk1 : (0 : Int) ≤ (k : Int) := by omega
          have hk2 : (k : Int) < (l.length : Int) := by omega
          have hkn : k < l.length := hltk
          have h400 : (dia r (prsTo (numsR p l) i k)).length ≤ 1000 := by
            have h1 := HDL.out
            rw [HPL.out, HNL.out] at h1
            have : i * l.length ≤ 20 * 20 := Nat.mul_le_mul (by omega) hn
            omega
          have H400 := Lib.hid h400
          clear z1 z2 z3 y1 y2 y3 HRD hq1 hq2 hbw HNX HPL HDL h400
          generalize subR (numR p u) (numR p v) = x at *
          cases hz : zeroB (r x)
          · rw [hz] at HRE HDS
            rw [if_neg (by simp)] at HDS
            clear hz
            have hB : Below wr.heap.size wr wr.drew := below_drew (Below.refl _ _)
            go_wp2_with fail
            go_region_held3 (fun w' => w'.cell? (ad.add i) = some (.int .i64 u) ∧ w'.cell? (ad.add k) = some (.int .i64 v))
              (first | exact ⟨keep_cell hc1 hB, keep_cell hc2 hB⟩ | go_keep)
              ((first
                | (go_at_call 35; (with_reducible refine (HOF.out _ hB).mono ?_); rintro e w7 ⟨⟨rv, rfl, hrv⟩, hbk⟩; replace hB := hB.trans (hbk.mono hB.size); clear hbk)
                | (go_at_call 14; (with_reducible refine (HRE.out _ _ hB hrv).mono ?_); rintro e w8 ⟨⟨v8, rfl, ho8⟩, hbk⟩; replace hB := hB.trans (hbk.mono hB.size); clear hbk)))
            all_goals
              have HB8 := Lib.hid (HB.out.trans (hB.mono HB.out.size))
              have HIN := Lib.hid (insert_onceV (.slice AP p.length cp) _ v8 p (dia r (prsTo (numsR p l) i k)) (r x) _ (HS.out.below HB8.out (Nat.le_refl _)) (HP.out.lift HB8.out) HPE.out (HLR.out.lift hB) ho8.row HME.out HCR.out H400.out)
              rw [← HDS.out] at HIN
              obtain ⟨A8, c8, rfl⟩ := ho8.shape
              clear ho8 hB HOF HRE
              go_wp2_with fail
              refine HIN.out.mono ?_
              rintro e w9 ⟨⟨v9, rfl, h9⟩, hb9⟩
              go_wp2_with fail
              go_roundw
              case rel => exact ⟨k + 1, by omega, by go_num, Lib.hid h9, HB8.out.trans (hb9.mono HB8.out.size)⟩
              case measure => simp [intOf]; omega
          · rw [hz] at HRE HDS
            rw [if_pos rfl, List.append_nil] at HDS
            clear hz
            have hB : Below wr.heap.size wr wr.drew := below_drew (Below.refl _ _)
            go_wp2_with fail
            go_region_held3 (fun w' => w'.cell? (ad.add i) = some (.int .i64 u) ∧ w'.cell? (ad.add k) = some (.int .i64 v))
              (first | exact ⟨keep_cell hc1 hB, keep_cell hc2 hB⟩ | go_keep)
              ((first
                | (go_at_call 35; (with_reducible refine (HOF.out _ hB).mono ?_); rintro e w7 ⟨⟨rv, rfl, hrv⟩, hbk⟩; replace hB := hB.trans (hbk.mono hB.size); clear hbk)
                | (go_at_call 14; (with_reducible refine (HRE.out _ _ hB hrv).mono ?_); rintro e w8 ⟨⟨v8, rfl, ho8⟩, hbk⟩; replace hB := hB.trans (hbk.mono hB.size); clear hbk)))
            all_goals
              have HB8 := Lib.hid (HB.out.trans (hB.mono HB.out.size))
              have HL9 := Lib.hid (HLR.out.lift hB)
              rw [← HDS.out] at HL9
              obtain ⟨A8, c8, rfl⟩ := ho8.shape
              clear ho8 hB HOF HRE
              go_wp2_with fail
              go_roundw
              case rel => exact ⟨k + 1, by omega, by go_num, HL9, HB8.out⟩
              case measure => simp [intOf]; omega
        · obtain rfl : k = l.length := by omega
          have HLR2 : Hid (LstV wr _ (onceL p (dia r (prsTo (numsR p l) (i + 1) 0)))) := Lib.hid (by rw [← prsTo_row (by rw [HNL.out]; exact hlt), HNL.out]; exact HLR.out)
          have HB := Lib.hid hbw
          clear HLR hbw
          go_wp2_with fail
          go_roundw
          case rel => exact ⟨i + 1, by omega, by go_num, HLR2, HB.out⟩
          case measure => simp [intOf]; omega
    · obtain rfl : i = l.length := by omega
      have HLR2 := HLR.out
      rw [show prsTo (numsR p l) l.length 0 = prsR (numsR p l) by rw [← HNL.out]; exact prsTo_all _] at HLR2
      have HL2 := Lib.hid HLR2
      have HB := Lib.hid hbw
      clear HLR HLR2 hbw
      go_wp2_with fail
      go_ret
      exact ⟨⟨_, rfl, HL2.out⟩, HB.out⟩

end Go.Proofs.YtcfkclafpbaagaaGreatDoor

namespace Go.Proofs.YtcfkclafpbaagaaGreatDoor
open Go.RowKit Go.Lib Go.Shelf

/-- The first error of some numbers. -/
def dErr (p : List Int) : List Int → Int
  | [] => 0
  | z :: r => if z < 1 ∨ 99 < z then 3 else if smB p z.toNat 1 = true then dErr p r else 25
theorem dErr_ok {p : List Int} : ∀ {l : List Int}, dErr p l = 0 → NumsOk p l
  | [], _ => fun z hz => by simp at hz
  | z :: r, h => by
    unfold dErr at h
    split at h
    · cases h
    · split at h
      · rename_i h1 h2
        have ih := dErr_ok h
        intro y hy
        rcases List.mem_cons.1 hy with rfl | hy
        · exact ⟨by omega, by omega, h2⟩
        · exact ih y hy
      · cases h
theorem dErr_step {p l : List Int} {k : Nat} (h : k < l.length) : dErr p (l.drop k) = if l[k] < 1 ∨ 99 < l[k] then 3 else if smB p l[k].toNat 1 = true then dErr p (l.drop (k + 1)) else 25 := by
  rw [List.drop_eq_getElem_cons h]
  rfl

set_option maxHeartbeats 1000000 in
theorem diamond_many (pv lv : Value) (p l : List Int) (w : World) (hp : IsRow w w.heap.size pv p) (hpe : primeErr p = 0) (hl : IsRow w w.heap.size lv l) (hn : 20 < l.length) :
    Calls Tryz.prog 28 #[pv, lv] w fun e w' => e = .returned (.tuple #[.slice Option.none 0 0, .int .i64 4]) ∧ w = w' := by
  have HPC := Lib.hid (primeCheck_any pv p w.heap.size w hp)
  rw [hpe] at HPC
  obtain ⟨AP, cp, rfl⟩ := hp.shape
  obtain ⟨AL, cl, rfl⟩ := hl.shape
  have d : decide ((20 : Int) < (l.length : Int)) = true := by rw [decide_eq_true_iff]; omega
  clear hp hl hpe
  go_enter Tryz.func28, Tryz.ntmps28
  go_wp2_with (go_at_call 25; refine HPC.out.mono ?_; rintro e w1 ⟨rfl, rfl⟩)
  go_ret2
  exact ⟨rfl, rfl⟩

set_option maxRecDepth 100000 in
set_option maxHeartbeats 4000000 in
theorem diamond_bad (pv lv : Value) (p l : List Int) (w : World) (hS : Std w) (hpv : IsRow w w.heap.size pv p) (hp : primeErr p = 0) (hlv : IsRow w w.heap.size lv l) (hn : l.length ≤ 20) (hbad : dErr p l ≠ 0) :
    Calls Tryz.prog 28 #[pv, lv] w fun e w' => e = .returned (.tuple #[.slice Option.none 0 0, .int .i64 (dErr p l)]) ∧ Below w.heap.size w w' := by
  obtain ⟨i0, hi0, hz0, hz1, hz2⟩ := info_parts Tryz.info_row
  have HS := Lib.hid hS
  have HP := Lib.hid hpv
  have HPE := Lib.hid hp
  have HLV := Lib.hid hlv
  have HPC := Lib.hid (primeCheck_any pv p w.heap.size w hpv)
  rw [hp] at HPC
  obtain ⟨AP, cp, rfl⟩ := hpv.shape
  obtain ⟨AL, cl, rfl⟩ := hlv.shape
  have HV : Hid (dErr p l = dErr p (l.drop 0)) := Lib.hid rfl
  have HBAD := Lib.hid hbad
  clear hS hpv hp hlv hbad
  generalize dErr p l = E at *
  go_enter Tryz.func28, Tryz.ntmps28
  go_wp2_with fail
  refine HPC.out.mono ?_
  rintro e w1 ⟨rfl, rfl⟩
  go_wp2_with fail
  go_loopw [7, 24] (fun o i wr => ∃ (k : Nat) (m : List (List Int)), k ≤ l.length ∧ m.length = k ∧ i = .int .i64 k ∧ LRow wr w.heap.size o m ∧ Box (E = dErr p (l.drop k)) ∧ Below w.heap.size w wr) (fun _ i _ => l.length - (intOf i).toNat)
  case atStart => exact ⟨0, [], Nat.zero_le _, rfl, rfl, LRow.nil _ _, ⟨HV.out⟩, Below.refl _ _⟩
  case round =>
    clear HV
    obtain ⟨k, M, hk, hml, rfl, hlr, HE, hbw⟩ := hrel
    by_cases hlt : k < l.length
    · obtain ⟨A', c', e', _, _, hr⟩ := HLV.out
      injection e' with e1 _ e3
      subst e1 e3
      obtain ⟨ad, rfl, _, hca⟩ := (hr.below hbw (Nat.le_refl _)).i_at hlt
      clear hr
      have hst := dErr_step (p := p) hlt
      have hge : l[k]?.getD 0 = l[k] := by rw [List.getElem?_eq_getElem hlt]; rfl
      rw [hge] at hca
      generalize l[k]'hlt = z at *
      have HST := Lib.hid hst
      have HB := Lib.hid hbw
      clear hst hge
      by_cases h1 : z < 1
      · have hE : E = 3 := by rw [HE.out, HST.out, if_pos (.inl h1)]
        subst hE
        have d1 : decide (z < 1) = true := by rw [decide_eq_true_iff]; exact h1
        clear h1 hbw hlr
        go_wp2_with fail
        go_ret2
        exact ⟨rfl, HB.out⟩
      · by_cases h2 : 99 < z
        · have hE : E = 3 := by rw [HE.out, HST.out, if_pos (.inr h2)]
          subst hE
          have d1 : decide (z < 1) = false := by rw [decide_eq_false_iff_not]; exact h1
          have d2 : decide (99 < z) = true := by rw [decide_eq_true_iff]; exact h2
          clear h1 h2 hbw hlr
          go_wp2_with fail
          go_ret2
          exact ⟨rfl, HB.out⟩
        · obtain ⟨m, rfl⟩ : ∃ m : Nat, z = (m : Int) := ⟨z.toNat, by omega⟩
          have hE := HE.out
          rw [HST.out, if_neg (by omega), Int.toNat_natCast] at hE
          have HN := Lib.hid (tnum_any _ p m wr (HS.out.below hbw (Nat.le_refl _)) (HP.out.lift hbw) HPE.out (by omega) (by omega))
          have HEE := Lib.hid hE
          have HLR := Lib.hid hlr
          have HML := Lib.hid hml
          clear hE hlr hbw hml
          go_wp2_with fail
          refine HN.out.mono ?_
          rintro e w2 ⟨hpost, hb2⟩
          rcases hpost with ⟨hs, v, rfl, hor⟩ | ⟨hs, rfl⟩
          · have HE2 : Box (E = dErr p (l.drop (k + 1))) := ⟨by have := HEE.out; rw [if_pos hs] at this; exact this⟩
            obtain ⟨vs, hown, hvs⟩ := HLR.out.below hb2
            rw [HML.out] at hown
            have HB2 := Lib.hid (HB.out.trans (hb2.mono HB.out.size))
            have hwk : w.heap.size ≤ w2.heap.size := HB2.out.size
            have HO := Lib.hid hown
            have HVS := Lib.hid hvs
            have HOR := Lib.hid hor
            obtain ⟨A2, c2, rfl⟩ := hor.shape
            clear hb2 hown hvs hor hs
            go_wp2_with (at_builtin; refine wpList_append_own _ rfl _ _ _ rfl w.heap.size 28 i0 (.slice Option.none 0 0) 1 24 Tryz.underlying27 hi0 hz0 hz1 hz2 rfl (by decide) _ _ _ rfl (HO.out.alloc _) ⟨w2.heap.size, 0, Option.none⟩ 1 1 [_] rfl rfl (cell_one_new _ _ _) (by intro u hu; simp at hu; subst hu; rfl) (by unfold maxLen; omega) (by omega) (by simp; omega) ?_; intro v3 w3 hown3 hg3 _)
            go_roundw
            case rel =>
              refine ⟨k + 1, M ++ [expsTo p m 1 p.length], by omega, by rw [List.length_append, HML.out]; rfl, by go_num, ?_, HE2, (HB2.out.alloc hwk _).grown hg3 (by simp; omega) (fun k hk => (HO.out.lt k hk).1)⟩
              refine LRow.snoc (by rw [HML.out]; exact HO.out.alloc _) (fun j z hz => ?_) (HOR.out.alloc _) (by rw [HML.out]; exact hown3) hg3
              obtain ⟨u, h5, h6⟩ := HVS.out j z hz
              exact ⟨u, h5, h6.alloc _⟩
            case measure => simp [intOf]; omega
          · have hE : E = 25 := by have := HEE.out; rw [if_neg (by rw [hs]; simp)] at this; exact this
            subst hE
            have HB2 := Lib.hid (HB.out.trans (hb2.mono HB.out.size))
            clear hb2
            go_wp2_with fail
            go_ret2
            exact ⟨rfl, HB2.out⟩
    · obtain rfl : k = l.length := by omega
      exfalso
      have := HE.out
      rw [List.drop_of_length_le (Nat.le_refl _)] at this
      exact HBAD.out this

end Go.Proofs.YtcfkclafpbaagaaGreatDoor
