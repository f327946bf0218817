/- The plain law of TargetIntegers. -/
import Derived.Test.YtcfkclafpbaagaaGreatDoorGTP
import Derived.Test.YtcfkclafpbaagaaGreatDoorGTK
import Derived.Test.YtcfkclafpbaagaaGreatDoorIn3G
namespace Go.Proofs.YtcfkclafpbaagaaGreatDoor
open Go.RowKit Go.Lib

theorem nums_all (p : List Int) : ∀ m, nums29 p false m = smTo p m
  | 0 => rfl
  | m + 1 => by
    unfold nums29 smTo num29B
    rw [nums_all p m]
    simp

/-- The interval of two of the numbers. -/
def dfN (p l : List Int) (i k : Nat) : List Int := subR (numR p (l[i]?.getD 0)) (numR p (l[k]?.getD 0))
/-- Row i of the law's pairs: those with the first k numbers. -/
def prK (p l : List Int) (i : Nat) : Nat → List (List Int)
  | 0 => []
  | k + 1 => prK p l i k ++ [dfN p l i k]
def prI (p l : List Int) : Nat → List (List Int)
  | 0 => []
  | i + 1 => prI p l i ++ prK p l i i
def nbB (l : List Int) (i k : Nat) : Bool := decide (l[i]?.getD 0 = l[k]?.getD 0 + 1)
/-- The same, of neighbours alone. -/
def suK (p l : List Int) (i : Nat) : Nat → List (List Int)
  | 0 => []
  | k + 1 => if nbB l i k then suK p l i k ++ [dfN p l i k] else suK p l i k
def suI (p l : List Int) : Nat → List (List Int)
  | 0 => []
  | i + 1 => suI p l i ++ suK p l i i
theorem prK_mem {p l : List Int} {i : Nat} {x : List Int} : ∀ k, x ∈ prK p l i k ↔ ∃ j, j < k ∧ x = dfN p l i j
  | 0 => by simp [prK]
  | k + 1 => by
    rw [prK, List.mem_append, prK_mem k, List.mem_singleton]
    constructor
    · rintro (⟨j, h1, h2⟩ | h)
      · exact ⟨j, by omega, h2⟩
      · exact ⟨k, by omega, h⟩
    · rintro ⟨j, h1, h2⟩
      by_cases h : j = k
      · subst h; exact .inr h2
      · exact .inl ⟨j, by omega, h2⟩
theorem prI_mem {p l : List Int} {x : List Int} : ∀ i, x ∈ prI p l i ↔ ∃ a b, a < i ∧ b < a ∧ x = dfN p l a b
  | 0 => by simp [prI]
  | i + 1 => by
    rw [prI, List.mem_append, prI_mem i, prK_mem]
    constructor
    · rintro (⟨a, b, h1, h2, h3⟩ | ⟨j, h1, h2⟩)
      · exact ⟨a, b, by omega, h2, h3⟩
      · exact ⟨i, j, by omega, h1, h2⟩
    · rintro ⟨a, b, h1, h2, h3⟩
      by_cases h : a = i
      · subst h; exact .inr ⟨b, h2, h3⟩
      · exact .inl ⟨a, b, by omega, h2, h3⟩
theorem suK_mem {p l : List Int} {i : Nat} {x : List Int} : ∀ k, x ∈ suK p l i k ↔ ∃ j, j < k ∧ nbB l i j = true ∧ x = dfN p l i j
  | 0 => by simp [suK]
  | k + 1 => by
    rw [suK]
    by_cases hb : nbB l i k = true
    · rw [if_pos hb, List.mem_append, suK_mem k, List.mem_singleton]
      constructor
      · rintro (⟨j, h1, h2⟩ | h)
        · exact ⟨j, by omega, h2⟩
        · exact ⟨k, by omega, hb, h⟩
      · rintro ⟨j, h1, h2⟩
        by_cases h : j = k
        · subst h; exact .inr h2.2
        · exact .inl ⟨j, by omega, h2⟩
    · rw [if_neg hb, suK_mem k]
      constructor
      · rintro ⟨j, h1, h2⟩; exact ⟨j, by omega, h2⟩
      · rintro ⟨j, h1, h2⟩
        refine ⟨j, ?_, h2⟩
        by_cases h : j = k
        · subst h; exact absurd h2.1 hb
        · omega
theorem suI_mem {p l : List Int} {x : List Int} : ∀ i, x ∈ suI p l i ↔ ∃ a b, a < i ∧ b < a ∧ nbB l a b = true ∧ x = dfN p l a b
  | 0 => by simp [suI]
  | i + 1 => by
    rw [suI, List.mem_append, suI_mem i, suK_mem]
    constructor
    · rintro (⟨a, b, h1, h2, h3⟩ | ⟨j, h1, h2⟩)
      · exact ⟨a, b, by omega, h2, h3⟩
      · exact ⟨i, j, by omega, h1, h2⟩
    · rintro ⟨a, b, h1, h2, h3⟩
      by_cases h : a = i
      · subst h; exact .inr ⟨b, h2, h3⟩
      · exact .inl ⟨a, b, by omega, h2, h3⟩
theorem prK_len (p l : List Int) (i : Nat) : ∀ k, (prK p l i k).length = k
  | 0 => rfl
  | k + 1 => by rw [prK, List.length_append, prK_len p l i k]; rfl
theorem suK_len (p l : List Int) (i : Nat) : ∀ k, (suK p l i k).length ≤ k
  | 0 => Nat.le_refl _
  | k + 1 => by
    have := suK_len p l i k
    rw [suK]
    split
    · rw [List.length_append]; simp; omega
    · omega
theorem prI_len (p l : List Int) {n : Nat} : ∀ i, i ≤ n → (prI p l i).length ≤ i * n
  | 0, _ => by simp [prI]
  | i + 1, h => by
    have ih := prI_len p l (n := n) i (by omega)
    rw [prI, List.length_append, prK_len, Nat.succ_mul]
    omega
theorem suI_len (p l : List Int) {n : Nat} : ∀ i, i ≤ n → (suI p l i).length ≤ i * n
  | 0, _ => by simp [suI]
  | i + 1, h => by
    have ih := suI_len p l (n := n) i (by omega)
    have := suK_len p l i i
    rw [suI, List.length_append, Nat.succ_mul]
    omega

/-- The numbers go up. -/
theorem smTo_up {p : List Int} : ∀ m : Nat, (smTo p m).Pairwise (· < ·)
  | 0 => List.Pairwise.nil
  | m + 1 => by
    have ih := smTo_up (p := p) m
    unfold smTo
    split
    · rw [List.pairwise_append]
      refine ⟨ih, List.pairwise_singleton _ _, fun a ha b hb => ?_⟩
      rw [List.mem_singleton.1 hb]
      have := ((smTo_mem m).1 ha).2.1
      omega
    · exact ih
theorem up_lt {l : List Int} (h : l.Pairwise (· < ·)) {i k : Nat} (hi : i < l.length) (hk : k < l.length) : l[k] < l[i] ↔ k < i := by
  have h2 := List.pairwise_iff_getElem.1 h
  constructor
  · intro hlt
    refine Nat.lt_of_not_le fun hle => ?_
    rcases Nat.lt_or_eq_of_le hle with h3 | h3
    · have := h2 i k hi hk h3; omega
    · subst h3; omega
  · exact fun h3 => h2 k i hk hi h3

section
variable {p : List Int} {m : Nat}
theorem smooth_of {z : Int} (h : z ∈ smTo p m) : leftTo p z.toNat p.length = 1 := by
  have h3 := ((smTo_mem m).1 h).2.2
  unfold smB at h3
  rw [Bool.and_eq_true, decide_eq_true_eq] at h3
  exact h3.1
theorem pos_iff (hpe : primeErr p = 0) (hm : m ≤ 99) {u v : Int} (hu : u ∈ smTo p m) (hv : v ∈ smTo p m) : posB p (subR (numR p u) (numR p v)) = true ↔ v < u := by
  obtain ⟨u1, u2, _⟩ := (smTo_mem m).1 hu
  obtain ⟨v1, v2, _⟩ := (smTo_mem m).1 hv
  have su := smooth_of hu
  have sv := smooth_of hv
  obtain ⟨a, rfl⟩ : ∃ a : Nat, u = (a : Int) := ⟨u.toNat, by omega⟩
  obtain ⟨b, rfl⟩ : ∃ b : Nat, v = (b : Int) := ⟨v.toNat, by omega⟩
  rw [Int.toNat_natCast] at su sv
  obtain ⟨e1, e2⟩ := sub_frac hpe (u := a) (v := b) (by omega) su sv
  have hg : 0 < Nat.gcd a b := Nat.gcd_pos_of_pos_left _ (by omega)
  have d1 := Nat.div_mul_cancel (Nat.gcd_dvd_left a b)
  have d2 := Nat.div_mul_cancel (Nat.gcd_dvd_right a b)
  unfold posB
  rw [decide_eq_true_eq, e1, e2]
  have hc : (0 < cmpN (a / Nat.gcd a b) (b / Nat.gcd a b)) ↔ b / Nat.gcd a b < a / Nat.gcd a b := by
    unfold cmpN
    split
    · constructor
      · intro h; omega
      · intro h; omega
    · split
      · constructor
        · intro h; omega
        · intro h; omega
      · constructor
        · intro _; omega
        · intro _; omega
  rw [hc]
  constructor
  · intro h
    have := Nat.mul_lt_mul_of_pos_right h hg
    rw [d1, d2] at this
    omega
  · intro h
    refine Nat.lt_of_mul_lt_mul_right (a := Nat.gcd a b) ?_
    rw [d1, d2]
    omega

/-- The integer limit's intervals are the law's. -/
theorem int_eq (hpe : primeErr p = 0) (hm : m ≤ 99) : onceL p (prI p (smTo p m) (smTo p m).length) = intR p m := by
  have h9 := smTo_99 (p := p) hm
  have hup := smTo_up (p := p) m
  have hd : ∀ i k, i < (smTo p m).length → k < (smTo p m).length → ∃ u ∈ smTo p m, ∃ v ∈ smTo p m, dfN p (smTo p m) i k = subR (numR p u) (numR p v) := fun i k hi hk => ⟨_, List.getElem_mem hi, _, List.getElem_mem hk, by unfold dfN; rw [List.getElem?_eq_getElem hi, List.getElem?_eq_getElem hk]; rfl⟩
  obtain ⟨s1, m1⟩ := onceL_slt (primed hpe) (l := prI p (smTo p m) (smTo p m).length) (fun y hy => by
    obtain ⟨a, b, h1, h2, rfl⟩ := (prI_mem _).1 hy
    obtain ⟨u, hu, v, hv, e⟩ := hd a b h1 (by omega)
    rw [e]; exact (num_sub hpe (h9 u hu) (h9 v hv)).1)
  have s2 : SLt p (intR p m) := List.Pairwise.filter _ (onceL_slt (primed hpe) (l := prsR (rowsM p m)) (fun y hy => by
    obtain ⟨a, ha, b, hb, rfl⟩ := prsR_mem.1 hy
    obtain ⟨u, hu, rfl⟩ := List.mem_map.1 ha
    obtain ⟨v, hv, rfl⟩ := List.mem_map.1 hb
    exact (num_sub hpe (h9 u hu) (h9 v hv)).1)).1
  refine slt_ext s1 s2 fun y => ?_
  rw [m1, prI_mem]
  unfold intR
  rw [List.mem_filter]
  constructor
  · rintro ⟨a, b, h1, h2, rfl⟩
    have e : dfN p (smTo p m) a b = subR (numR p (smTo p m)[a]) (numR p ((smTo p m)[b]'(by omega))) := by unfold dfN; rw [List.getElem?_eq_getElem h1, List.getElem?_eq_getElem (by omega)]; rfl
    rw [e]
    exact ⟨(difR_mem hpe h9).2 ⟨_, List.getElem_mem h1, _, List.getElem_mem _, rfl⟩, (pos_iff hpe hm (List.getElem_mem h1) (List.getElem_mem _)).2 ((up_lt hup h1 (by omega)).2 h2)⟩
  · rintro ⟨h1, h2⟩
    obtain ⟨u, hu, v, hv, rfl⟩ := (difR_mem hpe h9).1 h1
    have h3 := (pos_iff hpe hm hu hv).1 h2
    obtain ⟨a, ha, rfl⟩ := List.getElem_of_mem hu
    obtain ⟨b, hb, rfl⟩ := List.getElem_of_mem hv
    exact ⟨a, b, ha, (up_lt hup ha hb).1 h3, by unfold dfN; rw [List.getElem?_eq_getElem ha, List.getElem?_eq_getElem hb]; rfl⟩

def supB (p x : List Int) : Bool := decDigits (num p x) == decDigits (den p x + 1)
theorem sup_iff (p x : List Int) : supB p x = true ↔ num p x = den p x + 1 := by
  unfold supB
  rw [beq_iff_eq]
  exact ⟨dec_inj, fun h => by rw [h]⟩
/-- A part of a number over the list. -/
theorem part_mem (hpe : primeErr p = 0) (hm : m ≤ 99) {u v : Int} (hu : u ∈ smTo p m) (hv : v ∈ smTo p m) :
    ((num p (subR (numR p u) (numR p v)) : Nat) : Int) ∈ smTo p m ∧ ((den p (subR (numR p u) (numR p v)) : Nat) : Int) ∈ smTo p m ∧ subR (numR p ((num p (subR (numR p u) (numR p v)) : Nat) : Int)) (numR p ((den p (subR (numR p u) (numR p v)) : Nat) : Int)) = subR (numR p u) (numR p v) := by
  obtain ⟨u1, u2, _⟩ := (smTo_mem m).1 hu
  obtain ⟨v1, v2, _⟩ := (smTo_mem m).1 hv
  have su := smooth_of hu
  have sv := smooth_of hv
  obtain ⟨a, rfl⟩ : ∃ a : Nat, u = (a : Int) := ⟨u.toNat, by omega⟩
  obtain ⟨b, rfl⟩ : ∃ b : Nat, v = (b : Int) := ⟨v.toNat, by omega⟩
  rw [Int.toNat_natCast] at su sv
  obtain ⟨e1, e2⟩ := sub_frac hpe (u := a) (v := b) (by omega) su sv
  have hxl := (num_sub hpe (u := a) (v := b) (by omega) (by omega)).1
  have hP := primed hpe
  obtain ⟨o1, o2, _⟩ := of_num_den hP hxl
  have hc := num_den_coprime hP hxl
  have hn := num_pos hP hxl
  have hd := den_pos hP hxl
  have ln : num p (subR (numR p (a : Int)) (numR p (b : Int))) ≤ a := by rw [e1]; exact Nat.div_le_self _ _
  have ld : den p (subR (numR p (a : Int)) (numR p (b : Int))) ≤ b := by rw [e2]; exact Nat.div_le_self _ _
  generalize hx : subR (numR p (a : Int)) (numR p (b : Int)) = x at *
  have mem : ∀ z : Nat, 0 < z → z ≤ m → leftTo p z p.length = 1 → (z : Int) ∈ smTo p m := fun z h1 h2 h3 => (smTo_mem m).2 ⟨by omega, by omega, by unfold smB; rw [Int.toNat_natCast, h3, leftTo_one]; rfl⟩
  refine ⟨mem _ hn (by omega) o1, mem _ hd (by omega) o2, ?_⟩
  obtain ⟨f1, f2⟩ := sub_frac hpe (u := num p x) (v := den p x) (by omega) o1 o2
  rw [hc, Nat.div_one] at f1
  rw [hc, Nat.div_one] at f2
  refine cross_inj hP ?_ hxl (by rw [f1, f2])
  exact (num_sub hpe (by omega) (by omega)).1
/-- Those between neighbours. -/
theorem sup_eq (hpe : primeErr p = 0) (hm : m ≤ 99) : onceL p (suI p (smTo p m) (smTo p m).length) = (intR p m).filter (supB p) := by
  have h9 := smTo_99 (p := p) hm
  have hup := smTo_up (p := p) m
  obtain ⟨s1, m1⟩ := onceL_slt (primed hpe) (l := suI p (smTo p m) (smTo p m).length) (fun y hy => by
    obtain ⟨a, b, h1, h2, _, rfl⟩ := (suI_mem _).1 hy
    unfold dfN
    rw [List.getElem?_eq_getElem h1, List.getElem?_eq_getElem (by omega)]
    exact (num_sub hpe (h9 _ (List.getElem_mem h1)) (h9 _ (List.getElem_mem _))).1)
  have s2 : SLt p (intR p m) := List.Pairwise.filter _ (onceL_slt (primed hpe) (l := prsR (rowsM p m)) (fun y hy => by
    obtain ⟨a, ha, b, hb, rfl⟩ := prsR_mem.1 hy
    obtain ⟨u, hu, rfl⟩ := List.mem_map.1 ha
    obtain ⟨v, hv, rfl⟩ := List.mem_map.1 hb
    exact (num_sub hpe (h9 u hu) (h9 v hv)).1)).1
  refine slt_ext s1 (List.Pairwise.filter _ s2) fun y => ?_
  rw [m1, suI_mem, List.mem_filter, sup_iff, ← int_eq hpe hm, (onceL_slt (primed hpe) (fun y hy => by
    obtain ⟨a, b, h1, h2, rfl⟩ := (prI_mem _).1 hy
    unfold dfN
    rw [List.getElem?_eq_getElem h1, List.getElem?_eq_getElem (by omega)]
    exact (num_sub hpe (h9 _ (List.getElem_mem h1)) (h9 _ (List.getElem_mem _))).1)).2, prI_mem]
  constructor
  · rintro ⟨a, b, h1, h2, h3, rfl⟩
    refine ⟨⟨a, b, h1, h2, rfl⟩, ?_⟩
    have hb : b < (smTo p m).length := by omega
    unfold nbB at h3
    rw [decide_eq_true_eq, List.getElem?_eq_getElem h1, List.getElem?_eq_getElem hb] at h3
    unfold dfN
    rw [List.getElem?_eq_getElem h1, List.getElem?_eq_getElem hb]
    have hu := List.getElem_mem h1
    have hv := List.getElem_mem hb
    simp only [Option.getD_some] at h3 ⊢
    generalize (smTo p m)[a] = u at *
    generalize (smTo p m)[b] = v at *
    obtain ⟨u1, u2, _⟩ := (smTo_mem m).1 hu
    obtain ⟨v1, v2, _⟩ := (smTo_mem m).1 hv
    have su := smooth_of hu
    have sv := smooth_of hv
    obtain ⟨c, rfl⟩ : ∃ c : Nat, v = (c : Int) := ⟨v.toNat, by omega⟩
    obtain rfl : u = ((c + 1 : Nat) : Int) := by omega
    rw [Int.toNat_natCast] at su sv
    obtain ⟨e1, e2⟩ := sub_frac hpe (u := c + 1) (v := c) (by omega) su sv
    have hg : Nat.gcd (c + 1) c = 1 := by
      have h1 := Nat.dvd_sub (Nat.gcd_dvd_left (c + 1) c) (Nat.gcd_dvd_right (c + 1) c)
      rw [Nat.add_sub_cancel_left] at h1
      exact Nat.dvd_one.1 h1
    rw [e1, e2, hg, Nat.div_one, Nat.div_one]
  · rintro ⟨⟨a, b, h1, h2, rfl⟩, h3⟩
    have hb : b < (smTo p m).length := by omega
    have e : dfN p (smTo p m) a b = subR (numR p (smTo p m)[a]) (numR p ((smTo p m)[b]'hb)) := by unfold dfN; rw [List.getElem?_eq_getElem h1, List.getElem?_eq_getElem hb]; rfl
    rw [e] at h3 ⊢
    obtain ⟨k1, k2, k3⟩ := part_mem hpe hm (List.getElem_mem h1) (List.getElem_mem hb)
    obtain ⟨a', ha', ea⟩ := List.getElem_of_mem k1
    obtain ⟨b', hb', eb⟩ := List.getElem_of_mem k2
    refine ⟨a', b', ha', (up_lt hup ha' hb').1 (by rw [ea, eb]; omega), ?_, ?_⟩
    · unfold nbB
      rw [decide_eq_true_eq, List.getElem?_eq_getElem ha', List.getElem?_eq_getElem hb']
      simp only [Option.getD_some]
      rw [ea, eb]
      omega
    · unfold dfN
      rw [List.getElem?_eq_getElem ha', List.getElem?_eq_getElem hb']
      simp only [Option.getD_some]
      rw [ea, eb, k3]
end

end Go.Proofs.YtcfkclafpbaagaaGreatDoor
