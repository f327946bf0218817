/- The intervals of numbers up to 99: small exponents, odd parts. -/
import Derived.Test.YtcfkclafpbaagaaGreatDoorGTN
import Derived.Test.YtcfkclafpbaagaaGreatDoorKplG
import Derived.Test.YtcfkclafpbaagaaGreatDoorGTK
namespace Go.Proofs.YtcfkclafpbaagaaGreatDoor
open Go.RowKit Go.Lib

theorem ext_getD {x y : List Int} (hl : x.length = y.length) (h : ∀ i : Nat, i < x.length → x[i]?.getD 0 = y[i]?.getD 0) : x = y := by
  refine List.ext_getElem hl fun i h1 h2 => ?_
  have := h i h1
  rw [List.getElem?_eq_getElem h1, List.getElem?_eq_getElem h2] at this
  exact this
theorem mult_one {q : Nat} (h : 2 ≤ q) : mult q 1 = 0 := mult_no (fun ⟨_, _, h3⟩ => by rw [Nat.mod_eq_of_lt (by omega)] at h3; cases h3)
theorem mult_six {q n : Nat} (h0 : 0 < n) (h : n ≤ 99) : mult q n ≤ 6 := by
  have h1 := mult_pow q n h0
  refine Nat.le_of_not_lt fun h2 => ?_
  have h3 : 2 ^ 7 ≤ 2 ^ mult q n := Nat.pow_le_pow_right (by omega) h2
  have : (2 : Nat) ^ 7 = 128 := rfl
  omega
theorem leftTo_one {p : List Int} : ∀ k, leftTo p 1 k = 1
  | 0 => rfl
  | k + 1 => by
    have h := leftTo_le p 1 (by omega) (k + 1)
    omega
theorem left_odd {n : Nat} (h : 0 < n) : left 2 n % 2 = 1 := by
  induction n using Nat.strongRecOn with
  | _ n ih =>
    by_cases hc : 2 ≤ 2 ∧ 0 < n ∧ n % 2 = 0
    · rw [left_yes hc]; exact ih (n / 2) (by omega) (by omega)
    · rw [left_no hc]; omega
theorem left_left {n : Nat} (h : 0 < n) : left 2 (left 2 n) = left 2 n ∧ mult 2 (left 2 n) = 0 := by
  have := left_odd h
  exact ⟨left_no (by omega), mult_no (by omega)⟩

theorem numR_len (p : List Int) (z : Int) : (numR p z).length = p.length := expsTo_len _ _ _ _
theorem numR_get {p : List Int} (hp : ∀ k, k < p.length → 2 ≤ p[k]?.getD 0) (z : Int) {j : Nat} (hj : j < p.length) : (numR p z)[j]?.getD 0 = (mult (p[j]?.getD 0).toNat (leftTo p z.toNat j) : Int) := by
  unfold numR
  rw [expsTo_get p _ _ j _ hj, leftTo_one, mult_one (by have := hp j hj; omega)]
  simp
theorem numR_bd {p : List Int} (hp : ∀ k, k < p.length → 2 ≤ p[k]?.getD 0) {z : Int} (h1 : 1 ≤ z) (h2 : z ≤ 99) (j : Nat) : 0 ≤ (numR p z)[j]?.getD 0 ∧ (numR p z)[j]?.getD 0 ≤ 6 := by
  by_cases hj : j < p.length
  · rw [numR_get hp z hj]
    have hl := leftTo_le p z.toNat (by omega) j
    have := mult_six (q := (p[j]?.getD 0).toNat) hl.2 (by omega)
    omega
  · rw [List.getElem?_eq_none (by rw [numR_len]; omega)]; simp
theorem subR_get (x y : List Int) (h : x.length = y.length) (j : Nat) : (subR x y)[j]?.getD 0 = x[j]?.getD 0 - y[j]?.getD 0 := by
  unfold subR
  rw [List.getElem?_map]
  by_cases hj : j < x.length
  · have e : (x.zip y)[j]? = some (x[j]'hj, y[j]'(by omega)) := by
      rw [List.getElem?_eq_getElem (by rw [List.length_zip]; omega), List.getElem_zip]
    rw [e, List.getElem?_eq_getElem hj, List.getElem?_eq_getElem (by omega)]
    rfl
  · rw [List.getElem?_eq_none (by rw [List.length_zip]; omega), List.getElem?_eq_none (by omega), List.getElem?_eq_none (by omega)]
    rfl
theorem right_ge {p : List Int} (hpe : primeErr p = 0) : ∀ k, k < p.length → 2 ≤ p[k]?.getD 0 := fun k hk => ((right_primes hpe).2.2 k hk).1

/-- Numbers from 1 to 99. -/
def N99 (l : List Int) : Prop := ∀ z ∈ l, 1 ≤ z ∧ z ≤ 99
theorem num_sub {p : List Int} (hpe : primeErr p = 0) {u v : Int} (hu : 1 ≤ u ∧ u ≤ 99) (hv : 1 ≤ v ∧ v ≤ 99) : (subR (numR p u) (numR p v)).length = p.length ∧ ∀ z ∈ subR (numR p u) (numR p v), z.natAbs ≤ 6 := by
  have hl : (numR p u).length = (numR p v).length := by rw [numR_len, numR_len]
  refine ⟨by rw [subR_len hl, numR_len], fun z hz => ?_⟩
  obtain ⟨i, hi, rfl⟩ := List.getElem_of_mem hz
  have h := subR_get (numR p u) (numR p v) hl i
  rw [List.getElem?_eq_getElem hi] at h
  simp at h
  have b1 := numR_bd (right_ge hpe) hu.1 hu.2 i
  have b2 := numR_bd (right_ge hpe) hv.1 hv.2 i
  omega
theorem chk_of_small {p x : List Int} (hpe : primeErr p = 0) (hl : x.length = p.length) (h : ∀ z ∈ x, z.natAbs ≤ 100) : chkAll p [x] = 0 ∧ rowChk x = 0 := by
  refine ⟨chk_small hpe hl fun v hv => by have := h v hv; omega, ?_⟩
  have h6 := (right_primes hpe).1
  unfold rowChk
  rw [if_neg]
  rintro (h1 | h1)
  · omega
  · obtain ⟨v, hv, hf⟩ := List.any_eq_true.1 h1
    have := h v hv
    unfold fitsB at hf
    simp at hf
    omega
theorem prsOk_gen {p : List Int} (hpe : primeErr p = 0) {l : List Int} (hl : N99 l) (hn : l.length ≤ 20) : PrsOk p (numsR p l) := by
  refine ⟨by unfold numsR; rw [List.length_map]; exact hn, fun x hx => ?_, fun x hx y hy => ?_⟩
  · obtain ⟨z, hz, rfl⟩ := List.mem_map.1 hx
    refine ⟨numR_len p z, (chk_of_small hpe (numR_len p z) fun v hv => ?_).2⟩
    obtain ⟨i, hi, rfl⟩ := List.getElem_of_mem hv
    have b := numR_bd (right_ge hpe) (hl z hz).1 (hl z hz).2 i
    rw [List.getElem?_eq_getElem hi] at b
    simp at b
    omega
  · obtain ⟨u, hu, rfl⟩ := List.mem_map.1 hx
    obtain ⟨v, hv, rfl⟩ := List.mem_map.1 hy
    obtain ⟨h1, h2⟩ := num_sub hpe (hl u hu) (hl v hv)
    have h3 := chk_of_small hpe h1 (fun z hz => Nat.le_trans (h2 z hz) (by decide))
    exact ⟨h3.2, h3.1⟩

/-- All differences of the numbers' intervals, in order. -/
def difR (p : List Int) (l : List Int) : List (List Int) := onceL p (prsR (numsR p l))
theorem prsR_mem {l : List (List Int)} {x : List Int} : x ∈ prsR l ↔ ∃ a ∈ l, ∃ b ∈ l, x = subR a b := by
  unfold prsR
  rw [List.mem_flatMap]
  constructor
  · rintro ⟨a, ha, h⟩
    obtain ⟨b, hb, rfl⟩ := List.mem_map.1 h
    exact ⟨a, ha, b, hb, rfl⟩
  · rintro ⟨a, ha, b, hb, rfl⟩
    exact ⟨a, ha, List.mem_map.2 ⟨b, hb, rfl⟩⟩
theorem difR_mem {p : List Int} (hpe : primeErr p = 0) {l : List Int} (hl : N99 l) {x : List Int} : x ∈ difR p l ↔ ∃ u ∈ l, ∃ v ∈ l, x = subR (numR p u) (numR p v) := by
  have h := (onceL_slt (primed hpe) (l := prsR (numsR p l)) (fun y hy => by
    obtain ⟨a, ha, b, hb, rfl⟩ := prsR_mem.1 hy
    obtain ⟨u, hu, rfl⟩ := List.mem_map.1 ha
    obtain ⟨v, hv, rfl⟩ := List.mem_map.1 hb
    exact (num_sub hpe (hl u hu) (hl v hv)).1)).2 x
  unfold difR
  rw [h, prsR_mem]
  constructor
  · rintro ⟨a, ha, b, hb, rfl⟩
    obtain ⟨u, hu, rfl⟩ := List.mem_map.1 ha
    obtain ⟨v, hv, rfl⟩ := List.mem_map.1 hb
    exact ⟨u, hu, v, hv, rfl⟩
  · rintro ⟨u, hu, v, hv, rfl⟩
    exact ⟨_, List.mem_map.2 ⟨u, hu, rfl⟩, _, List.mem_map.2 ⟨v, hv, rfl⟩, rfl⟩
theorem difR_sm {p : List Int} (hpe : primeErr p = 0) {l : List Int} (hl : N99 l) : ∀ x ∈ difR p l, SmR p x := fun x hx => by
  obtain ⟨u, hu, v, hv, rfl⟩ := (difR_mem hpe hl).1 hx
  obtain ⟨h1, h2⟩ := num_sub hpe (hl u hu) (hl v hv)
  exact smR_of h1 fun z hz => Nat.le_trans (h2 z hz) (by decide)

/-! Numbers over the list. -/
theorem smTo_mem {p : List Int} {z : Int} : ∀ m : Nat, z ∈ smTo p m ↔ 1 ≤ z ∧ z ≤ m ∧ smB p z.toNat 1 = true
  | 0 => by
    unfold smTo
    constructor
    · intro h; simp at h
    · rintro ⟨h1, h2, _⟩; omega
  | m + 1 => by
    have ih := smTo_mem (p := p) (z := z) m
    unfold smTo
    split
    · rename_i hs
      rw [List.mem_append, List.mem_singleton, ih]
      constructor
      · rintro (⟨h1, h2, h3⟩ | rfl)
        · exact ⟨h1, by omega, h3⟩
        · exact ⟨by omega, by omega, by rw [Int.toNat_natCast]; exact hs⟩
      · rintro ⟨h1, h2, h3⟩
        by_cases h : z = ((m + 1 : Nat) : Int)
        · exact .inr h
        · exact .inl ⟨h1, by omega, h3⟩
    · rename_i hs
      rw [ih]
      constructor
      · rintro ⟨h1, h2, h3⟩; exact ⟨h1, by omega, h3⟩
      · rintro ⟨h1, h2, h3⟩
        refine ⟨h1, ?_, h3⟩
        by_cases h : z ≤ (m : Int)
        · exact h
        · exfalso
          refine hs ?_
          have : z.toNat = m + 1 := by omega
          rw [← this]; exact h3
theorem smTo_99 {p : List Int} {m : Nat} (hm : m ≤ 99) : N99 (smTo p m) := fun z hz => by
  have := (smTo_mem m).1 hz
  omega
theorem oddZ_mem {l : List Int} {z : Int} : z ∈ oddZ l ↔ z ∈ l ∧ z % 2 = 1 := by
  unfold oddZ
  rw [List.mem_filter, decide_eq_true_eq]
theorem odd_99 {p : List Int} {m : Nat} (hm : m ≤ 99) : N99 (oddZ (smTo p m)) := fun z hz => smTo_99 hm z (oddZ_mem.1 hz).1
theorem smTo_ok {p : List Int} {m : Nat} (hm : m ≤ 99) : NumsOk p (smTo p m) := fun z hz => by
  have := (smTo_mem m).1 hz
  exact ⟨this.1, by omega, this.2.2⟩
theorem odd_ok2 {p : List Int} {m : Nat} (hm : m ≤ 99) : NumsOk p (oddZ (smTo p m)) := fun z hz => smTo_ok hm z (oddZ_mem.1 hz).1

/-- The odd part of a number, over a list that begins with 2. -/
theorem leftTo_half {p : List Int} (h2 : p[0]?.getD 0 = 2) {n : Nat} (hn : 0 < n) : ∀ k, leftTo p (left 2 n) (k + 1) = leftTo p n (k + 1)
  | 0 => by
    rw [leftTo, leftTo, leftTo, leftTo, h2]
    exact (left_left hn).1
  | k + 1 => by rw [leftTo, leftTo_half h2 hn k]; rfl
theorem numR_half {p : List Int} (hpe : primeErr p = 0) (h2 : p[0]?.getD 0 = 2) {u : Int} (hu : 1 ≤ u) : numR p u = addE (numR p ((left 2 u.toNat : Nat) : Int)) ((mult 2 u.toNat : Nat) : Int) := by
  have hp := (right_primes hpe).2.1
  have hn : 0 < u.toNat := by omega
  refine ext_getD (by rw [addE_len, numR_len, numR_len]) fun i hi => ?_
  rw [numR_len] at hi
  rw [numR_get (right_ge hpe) u hi]
  rcases Nat.eq_zero_or_pos i with h0 | h0
  · subst h0
    rw [addE_get0 _ _ (by rw [numR_len]; exact hp), numR_get (right_ge hpe) _ hi, h2, leftTo, leftTo, Int.toNat_natCast, show (2 : Int).toNat = 2 from rfl, (left_left hn).2]
    simp
  · obtain ⟨k, rfl⟩ : ∃ k, i = k + 1 := ⟨i - 1, by omega⟩
    rw [addE_get _ _ _ h0, numR_get (right_ge hpe) _ hi, Int.toNat_natCast, leftTo_half h2 hn k]
theorem subR_addE {x y : List Int} (h : x.length = y.length) (h0 : 0 < x.length) (a b : Int) : subR (addE x a) (addE y b) = addE (subR x y) (a - b) := by
  have hl : (addE x a).length = (addE y b).length := by rw [addE_len, addE_len]; exact h
  refine ext_getD (by rw [addE_len, subR_len hl, subR_len h, addE_len]) fun i _ => ?_
  rw [subR_get _ _ hl]
  rcases Nat.eq_zero_or_pos i with hi | hi
  · subst hi
    rw [addE_get0 _ _ h0, addE_get0 _ _ (by omega), addE_get0 _ _ (by rw [subR_len h]; exact h0), subR_get _ _ h]
    omega
  · rw [addE_get _ _ _ hi, addE_get _ _ _ hi, addE_get _ _ _ hi, subR_get _ _ h]
theorem odd_part {p : List Int} (hpe : primeErr p = 0) (h2 : p[0]?.getD 0 = 2) {m : Nat} {u : Int} (hu : u ∈ smTo p m) : ((left 2 u.toNat : Nat) : Int) ∈ oddZ (smTo p m) := by
  obtain ⟨h1, h3, h4⟩ := (smTo_mem m).1 hu
  have hn : 0 < u.toNat := by omega
  have hl := left_le 2 u.toNat
  have ho := left_odd hn
  have hp := (right_primes hpe).2.1
  refine oddZ_mem.2 ⟨(smTo_mem m).2 ⟨by have := hl.2 hn; omega, by omega, ?_⟩, by omega⟩
  rw [Int.toNat_natCast]
  unfold smB at h4 ⊢
  obtain ⟨k, hk⟩ : ∃ k, p.length = k + 1 := ⟨p.length - 1, by omega⟩
  rw [hk] at h4 ⊢
  rw [leftTo_half h2 hn k]
  exact h4

/-! The lists of the odd limit and of the integer limit. -/
def oddR (p : List Int) (m : Nat) : List (List Int) := kR p (difR p (oddZ (smTo p m)))
def posB (p x : List Int) : Bool := decide (0 < cmpN (num p x) (den p x))
def intR (p : List Int) (m : Nat) : List (List Int) := (onceL p (prsR (rowsM p m))).filter (posB p)
theorem rowsM_eq (p : List Int) (m : Nat) : rowsM p m = numsR p (smTo p m) := rfl

section
variable {p : List Int} {a : Nat} {A : List Nat}
theorem oddR_mem (hT : TabOk p a A) {m : Nat} (hm : m ≤ 99) {y : List Int} : y ∈ oddR p m ↔ ∃ u ∈ oddZ (smTo p m), ∃ v ∈ oddZ (smTo p m), zeroB (rOf p (subR (numR p u) (numR p v))) = false ∧ y = rOf p (subR (numR p u) (numR p v)) := by
  unfold oddR
  rw [(kR_ok hT (fun x hx => (difR_sm hT.pe (odd_99 hm) x hx).len)).2 y]
  constructor
  · rintro ⟨x, hx, hz, rfl⟩
    obtain ⟨u, hu, v, hv, rfl⟩ := (difR_mem hT.pe (odd_99 hm)).1 hx
    exact ⟨u, hu, v, hv, hz, rfl⟩
  · rintro ⟨u, hu, v, hv, hz, rfl⟩
    exact ⟨_, (difR_mem hT.pe (odd_99 hm)).2 ⟨u, hu, v, hv, rfl⟩, hz, rfl⟩
theorem oddR_sm (hT : TabOk p a A) {m : Nat} (hm : m ≤ 99) : ∀ y ∈ oddR p m, SmR p y := fun y hy => by
  obtain ⟨x, hx, _, rfl⟩ := ((kR_ok hT (fun x hx => (difR_sm hT.pe (odd_99 hm) x hx).len)).2 y).1 hy
  exact smR_r hT (difR_sm hT.pe (odd_99 hm) x hx)
theorem negL_subR {x y : List Int} (h : x.length = y.length) : negL (subR x y) = subR y x := by
  refine ext_getD (by rw [negL_len, subR_len h, subR_len h.symm]; exact h) fun i _ => ?_
  rw [subR_get _ _ h.symm]
  have := subR_get x y h i
  unfold negL
  rw [List.getElem?_map]
  cases e : (subR x y)[i]? with
  | none => rw [e] at this; simp at this ⊢; omega
  | some z => rw [e] at this; simp at this ⊢; omega
/-- The odd limit is closed. -/
theorem odd_closed (hT : TabOk p a A) {m : Nat} (hm : m ≤ 99) : kCl p (oddR p m) = oddR p m := by
  have hsm := oddR_sm hT hm
  obtain ⟨s1, m1⟩ := kC_ok hT (L := oddR p m) (fun x hx => (hsm x hx).len)
  have s2 := (kR_ok hT (fun x hx => (difR_sm hT.pe (odd_99 (p := p) hm) x hx).len)).1
  refine slt_ext s1 s2 fun y => ?_
  rw [m1]
  show _ ↔ y ∈ oddR p m
  have hln : ∀ u v : Int, u ∈ oddZ (smTo p m) → v ∈ oddZ (smTo p m) → (subR (numR p u) (numR p v)).length = p.length := fun u v hu hv => (num_sub hT.pe (odd_99 hm u hu) (odd_99 hm v hv)).1
  constructor
  · rintro ⟨z, hz, hnz, h⟩
    obtain ⟨u, hu, v, hv, h1, rfl⟩ := (oddR_mem hT hm).1 hz
    have hl := hln u v hu hv
    rw [rOf_rOf hT hl, cOf_rOf hT hl] at h
    rcases h with rfl | rfl
    · exact hz
    · refine (oddR_mem hT hm).2 ⟨v, hv, u, hu, ?_⟩
      have e : cOf p (subR (numR p u) (numR p v)) = rOf p (subR (numR p v) (numR p u)) := by rw [cOf_eq, negL_subR (by rw [numR_len, numR_len])]
      rw [← e]
      exact ⟨nz_c hT hl h1, rfl⟩
  · intro hy
    obtain ⟨u, hu, v, hv, h1, rfl⟩ := (oddR_mem hT hm).1 hy
    have hl := hln u v hu hv
    exact ⟨_, hy, by rw [rOf_rOf hT hl]; exact h1, .inl (rOf_rOf hT hl).symm⟩
theorem odd_mono (hT : TabOk p a A) {m m' : Nat} (h : m ≤ m') (hm : m' ≤ 99) : ∀ y ∈ oddR p m, y ∈ oddR p m' := fun y hy => by
  obtain ⟨u, hu, v, hv, h1⟩ := (oddR_mem hT (by omega)).1 hy
  have hin : ∀ z, z ∈ oddZ (smTo p m) → z ∈ oddZ (smTo p m') := fun z hz => by
    obtain ⟨k1, k2⟩ := oddZ_mem.1 hz
    obtain ⟨k3, k4, k5⟩ := (smTo_mem m).1 k1
    exact oddZ_mem.2 ⟨(smTo_mem m').2 ⟨k3, by omega, k5⟩, k2⟩
  exact (oddR_mem hT hm).2 ⟨u, hin u hu, v, hin v hv, h1⟩
theorem intR_sub {m : Nat} : ∀ x ∈ intR p m, x ∈ difR p (smTo p m) := fun _ hx => (List.mem_filter.1 hx).1
theorem intR_sm (hT : TabOk p a A) {m : Nat} (hm : m ≤ 99) : ∀ x ∈ intR p m, SmR p x := fun x hx => difR_sm hT.pe (smTo_99 hm) x (intR_sub x hx)
/-- The reduced intervals of the integer limit lie in the odd limit. -/
theorem int_in_odd (hT : TabOk p a A) (h2 : p[0]?.getD 0 = 2) {m : Nat} (hm : m ≤ 99) : ∀ y ∈ kR p (intR p m), y ∈ oddR p m := fun y hy => by
  obtain ⟨x, hx, hz, rfl⟩ := ((kR_ok hT (fun x hx => (intR_sm hT hm x hx).len)).2 y).1 hy
  obtain ⟨u, hu, v, hv, rfl⟩ := (difR_mem hT.pe (smTo_99 hm)).1 (intR_sub x hx)
  have h1u := ((smTo_mem m).1 hu).1
  have h1v := ((smTo_mem m).1 hv).1
  have e : rOf p (subR (numR p u) (numR p v)) = rOf p (subR (numR p ((left 2 u.toNat : Nat) : Int)) (numR p ((left 2 v.toNat : Nat) : Int))) := by
    rw [numR_half hT.pe h2 h1u, numR_half hT.pe h2 h1v, subR_addE (by rw [numR_len, numR_len]) (by rw [numR_len]; exact hT.pos)]
    exact rOf_addE hT (num_sub hT.pe (odd_99 hm _ (odd_part hT.pe h2 hu)) (odd_99 hm _ (odd_part hT.pe h2 hv))).1 _
  rw [e] at hz ⊢
  exact (oddR_mem hT hm).2 ⟨_, odd_part hT.pe h2 hu, _, odd_part hT.pe h2 hv, hz, rfl⟩
end
theorem rowsIn_of {l m : List (List Int)} (h : ∀ x ∈ l, x ∈ m) : rowsIn l m = true := by
  unfold rowsIn
  rw [List.all_eq_true]
  intro x hx
  rw [List.any_eq_true]
  exact ⟨x, h x hx, by unfold sameB; simp⟩

end Go.Proofs.YtcfkclafpbaagaaGreatDoor
