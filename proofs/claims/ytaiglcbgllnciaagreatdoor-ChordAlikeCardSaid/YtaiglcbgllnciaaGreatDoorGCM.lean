/- The plain law of turned and moved chords. chord.Alike of two chords of small exponents. The plain law of alike chords. schismalaw39.rooted: rows in blocks of their own, each behind the other; a store into one of them. -/
import Derived.Test.YtaiglcbgllnciaaGreatDoorGCL
import Derived.Test.YtaiglcbgllnciaaGreatDoorGCF
import Derived.Test.YtaiglcbgllnciaaGreatDoorGCG
import Derived.Test.YtaiglcbgllnciaaGreatDoorGCE
import Derived.Test.YtaiglcbgllnciaaGreatDoorGCI
import Derived.Test.YtaiglcbgllnciaaGreatDoorGCA
namespace Go.Proofs.YtaiglcbgllnciaaGreatDoor
open Go.RowKit Go.Lib

theorem ltR_cmp (p x y : List Int) : ltR p x y = decide (cmpN (num p x * den p y) (num p y * den p x) < 0) := by
  unfold ltR cmpN
  by_cases h1 : num p x * den p y < num p y * den p x
  · rw [if_pos h1]; simp [h1]
  · rw [if_neg h1]
    by_cases h2 : num p x * den p y = num p y * den p x
    · rw [if_pos h2]; simp [h1]
    · rw [if_neg h2]; simp [h1]
/-- The order is that of the differences. -/
theorem ltR_moved {p x y u v : List Int} (hp : Primed p) (hx : x.length = p.length) (hy : y.length = p.length) (hu : u.length = p.length) (hv : v.length = p.length) (h : ∀ j, j < p.length → u[j]?.getD 0 - v[j]?.getD 0 = x[j]?.getD 0 - y[j]?.getD 0) : ltR p u v = ltR p x y := by
  have hz : (difI u x).length = p.length := by rw [difI_len]; exact hu
  have e := cmp_moved hp hx hy hz hu hv (fun j hj => by rw [dif_at (by omega)]; omega) (fun j hj => by have := h j hj; rw [dif_at (by omega)]; omega)
  rw [ltR_cmp, ltR_cmp, e]

/-! The dual. -/
theorem dualL_eq (l : List (List Int)) : dualL l = l.reverse.map fun x => difI (l[l.length - 1]?.getD []) x := by
  unfold dualL dualTo
  rw [List.take_of_length_le (by rw [List.length_reverse]; omega)]
theorem dual_slt {p : List Int} {l : List (List Int)} (hp : Primed p) (hl : ∀ x ∈ l, x.length = p.length) (h0 : 0 < l.length) (h : SLt p l) : SLt p (dualL l) := by
  have hs : (l[l.length - 1]?.getD []).length = p.length := by
    rw [List.getElem?_eq_getElem (by omega)]
    exact hl _ (List.getElem_mem _)
  rw [dualL_eq]
  generalize l[l.length - 1]?.getD [] = s at *
  unfold SLt
  rw [List.pairwise_map, List.pairwise_reverse]
  refine List.Pairwise.imp_of_mem (fun {x y} hx hy hxy => ?_) h
  rw [← hxy]
  refine ltR_moved hp (hl x hx) (hl y hy) (by rw [difI_len]; exact hs) (by rw [difI_len]; exact hs) fun j hj => ?_
  rw [dif_at (by omega), dif_at (by omega)]
  omega
theorem dual_last {l : List (List Int)} (h0 : 0 < l.length) : (dualL l)[(dualL l).length - 1]?.getD [] = difI (l[l.length - 1]?.getD []) (l[0]?.getD []) := by
  rw [dualL_eq]
  generalize l[l.length - 1]?.getD [] = s
  rw [List.length_map, List.length_reverse, List.getElem?_map, List.getElem?_reverse (by omega), show l.length - 1 - (l.length - 1) = 0 by omega, List.getElem?_eq_getElem h0]
  rfl
theorem dif_dif {n : Nat} {s x y : List Int} (hs : s.length = n) (hx : x.length = n) (hy : y.length = n) : difI (difI s y) (difI s x) = difI x y := by
  refine ext_getD (by rw [difI_len, difI_len, difI_len]; omega) fun j => ?_
  by_cases h : j < n
  · rw [dif_at (by rw [difI_len]; omega), dif_at (by omega), dif_at (by omega), dif_at (by omega)]; omega
  · rw [List.getElem?_eq_none (by rw [difI_len, difI_len]; omega), List.getElem?_eq_none (by rw [difI_len]; omega)]
theorem dual_len (l : List (List Int)) : (dualL l).length = l.length := by rw [dualL_eq, List.length_map, List.length_reverse]
theorem dual_mem {l : List (List Int)} {y : List Int} : y ∈ dualL l ↔ ∃ x ∈ l, y = difI (l[l.length - 1]?.getD []) x := by
  rw [dualL_eq, List.mem_map]
  constructor
  · rintro ⟨x, hx, rfl⟩; exact ⟨x, List.mem_reverse.1 hx, rfl⟩
  · rintro ⟨x, hx, rfl⟩; exact ⟨x, List.mem_reverse.2 hx, rfl⟩
/-- The dual of the dual is the rooted chord. -/
theorem dual_dual {n : Nat} {l : List (List Int)} (hl : ∀ x ∈ l, x.length = n) (h0 : 0 < l.length) : dualL (dualL l) = rootL l (l[0]?.getD []) := by
  have hs : (l[l.length - 1]?.getD []).length = n := by
    rw [List.getElem?_eq_getElem (by omega)]
    exact hl _ (List.getElem_mem _)
  have hf : (l[0]?.getD []).length = n := by
    rw [List.getElem?_eq_getElem h0]
    exact hl _ (List.getElem_mem _)
  have e : dualL (dualL l) = (dualL l).reverse.map fun x => difI ((dualL l)[(dualL l).length - 1]?.getD []) x := dualL_eq _
  rw [e, dual_last h0, dualL_eq l]
  generalize l[l.length - 1]?.getD [] = s at *
  unfold rootL
  rw [← List.map_reverse, List.reverse_reverse, List.map_map]
  refine List.map_congr_left fun x hx => ?_
  exact dif_dif hs (hl x hx) hf

/-! The numbers of the dual. -/
theorem ext_no {c : List (List Int)} {k : Nat} {s : Int} : ∀ j, j ≤ c.length → extTo false c k s j ≤ s ∧ (∀ i, i < j → extTo false c k s j ≤ (c[i]?.getD [])[k]?.getD 0) ∧ (extTo false c k s j = s ∨ ∃ i, i < j ∧ extTo false c k s j = (c[i]?.getD [])[k]?.getD 0)
  | 0, _ => ⟨Int.le_refl _, fun i h => absurd h (by omega), .inl rfl⟩
  | j + 1, hj => by
    obtain ⟨h1, h2, h3⟩ := ext_no (c := c) (k := k) (s := s) j (by omega)
    have e : extTo false c k s (j + 1) = min (extTo false c k s j) ((c[j]?.getD [])[k]?.getD 0) := rfl
    rw [e]
    generalize hz : (c[j]?.getD [])[k]?.getD 0 = z
    refine ⟨by omega, fun i hi => ?_, ?_⟩
    · by_cases hij : i = j
      · subst hij; rw [hz]; omega
      · have := h2 i (by omega); omega
    · by_cases hle : extTo false c k s j ≤ z
      · rw [Int.min_eq_left hle]
        rcases h3 with h3 | ⟨i, hi, h3⟩
        · exact .inl h3
        · exact .inr ⟨i, by omega, h3⟩
      · rw [Int.min_eq_right (by omega)]
        exact .inr ⟨j, by omega, hz.symm⟩
theorem ext_yes {c : List (List Int)} {k : Nat} {s : Int} : ∀ j, j ≤ c.length → s ≤ extTo true c k s j ∧ (∀ i, i < j → (c[i]?.getD [])[k]?.getD 0 ≤ extTo true c k s j) ∧ (extTo true c k s j = s ∨ ∃ i, i < j ∧ extTo true c k s j = (c[i]?.getD [])[k]?.getD 0)
  | 0, _ => ⟨Int.le_refl _, fun i h => absurd h (by omega), .inl rfl⟩
  | j + 1, hj => by
    obtain ⟨h1, h2, h3⟩ := ext_yes (c := c) (k := k) (s := s) j (by omega)
    have e : extTo true c k s (j + 1) = max (extTo true c k s j) ((c[j]?.getD [])[k]?.getD 0) := rfl
    rw [e]
    generalize hz : (c[j]?.getD [])[k]?.getD 0 = z
    refine ⟨by omega, fun i hi => ?_, ?_⟩
    · by_cases hij : i = j
      · subst hij; rw [hz]; omega
      · have := h2 i (by omega); omega
    · by_cases hle : z ≤ extTo true c k s j
      · rw [Int.max_eq_left hle]
        rcases h3 with h3 | ⟨i, hi, h3⟩
        · exact .inl h3
        · exact .inr ⟨i, by omega, h3⟩
      · rw [Int.max_eq_right (by omega)]
        exact .inr ⟨j, by omega, hz.symm⟩
/-- The least exponent, and the greatest. -/
theorem extX_no {c : List (List Int)} {x : List Int} (hx : x ∈ c) (k : Nat) : (∀ y ∈ c, extX false c x k ≤ y[k]?.getD 0) ∧ ∃ y ∈ c, extX false c x k = y[k]?.getD 0 := by
  obtain ⟨h1, h2, h3⟩ := ext_no (c := c) (k := k) (s := x[k]?.getD 0) c.length (Nat.le_refl _)
  refine ⟨fun y hy => ?_, ?_⟩
  · obtain ⟨i, hi, rfl⟩ := List.getElem_of_mem hy
    have := h2 i hi
    rw [List.getElem?_eq_getElem hi] at this
    exact this
  · rcases h3 with h3 | ⟨i, hi, h3⟩
    · exact ⟨x, hx, h3⟩
    · refine ⟨c[i], List.getElem_mem hi, ?_⟩
      rw [List.getElem?_eq_getElem hi] at h3
      exact h3
theorem extX_yes {c : List (List Int)} {x : List Int} (hx : x ∈ c) (k : Nat) : (∀ y ∈ c, y[k]?.getD 0 ≤ extX true c x k) ∧ ∃ y ∈ c, extX true c x k = y[k]?.getD 0 := by
  obtain ⟨h1, h2, h3⟩ := ext_yes (c := c) (k := k) (s := x[k]?.getD 0) c.length (Nat.le_refl _)
  refine ⟨fun y hy => ?_, ?_⟩
  · obtain ⟨i, hi, rfl⟩ := List.getElem_of_mem hy
    have := h2 i hi
    rw [List.getElem?_eq_getElem hi] at this
    exact this
  · rcases h3 with h3 | ⟨i, hi, h3⟩
    · exact ⟨x, hx, h3⟩
    · refine ⟨c[i], List.getElem_mem hi, ?_⟩
      rw [List.getElem?_eq_getElem hi] at h3
      exact h3
theorem numOk_of {p : List Int} {inv : Bool} {c : List (List Int)} (h4 : p.length ≤ 4) (hp : ∀ k, k < p.length → 0 ≤ p[k]?.getD 0 ∧ p[k]?.getD 0 ≤ 1000) (hl : ∀ x ∈ c, x.length = p.length) (h : ∀ x ∈ c, ∀ k : Nat, (x[k]?.getD 0).natAbs ≤ 12) : NumOk p inv c :=
  ⟨hl, h4, hp, fun x hx k _ => by
    have h1 := h x hx k
    cases inv with
    | false =>
      obtain ⟨_, y, hy, e⟩ := extX_no hx k
      have h2 := h y hy k
      omega
    | true =>
      obtain ⟨_, y, hy, e⟩ := extX_yes hx k
      have h2 := h y hy k
      omega, fun x hx k _ => by have := h x hx k; omega⟩
theorem dual_numPT {p : List Int} {l : List (List Int)} (hl : ∀ x ∈ l, x.length = p.length) {x : List Int} (hx : x ∈ l) : ∀ k, k ≤ p.length → numPT p false (dualL l) (difI (l[l.length - 1]?.getD []) x) k = numPT p true l x k
  | 0, _ => rfl
  | k + 1, hk => by
    have h0 : 0 < l.length := List.length_pos_of_mem hx
    have hs : (l[l.length - 1]?.getD []).length = p.length := by
      rw [List.getElem?_eq_getElem (by omega)]
      exact hl _ (List.getElem_mem _)
    rw [numPT, numPT, dual_numPT hl hx k (by omega)]
    congr 2
    have hd : difI (l[l.length - 1]?.getD []) x ∈ dualL l := dual_mem.2 ⟨x, hx, rfl⟩
    obtain ⟨a1, y1, hy1, e1⟩ := extX_no hd k
    obtain ⟨a2, y2, hy2, e2⟩ := extX_yes hx k
    obtain ⟨u1, hu1, rfl⟩ := dual_mem.1 hy1
    have b1 := a1 _ (dual_mem.2 ⟨y2, hy2, rfl⟩)
    have b2 := a2 u1 hu1
    rw [dif_at (by omega)] at e1 b1 ⊢
    omega
/-- The otonal numbers of the dual are the utonal ones, in the opposite order. -/
theorem dual_numbers {p : List Int} {l : List (List Int)} (hl : ∀ x ∈ l, x.length = p.length) : numbersL p false (dualL l) = (numbersL p true l).reverse := by
  unfold numbersL
  rw [← List.map_reverse]
  conv => lhs; arg 2; rw [dualL_eq]
  rw [List.map_map]
  refine List.map_congr_left fun x hx => ?_
  exact dual_numPT hl (List.mem_reverse.1 hx) _ (Nat.le_refl _)

/-! Transposing. -/
def movTo (b x : List Int) (k : Nat) : List Int := (List.range k).map fun j => x[j]?.getD 0 + (b[j]?.getD 0).tmod 20
def movR (b x : List Int) : List Int := movTo b x x.length
def movL (b : List Int) (l : List (List Int)) (k : Nat) : List (List Int) := (l.take k).map (movR b)
theorem movTo_len (b x : List Int) (k : Nat) : (movTo b x k).length = k := by unfold movTo; rw [List.length_map, List.length_range]
theorem movTo_next (b x : List Int) (k : Nat) : movTo b x (k + 1) = movTo b x k ++ [x[k]?.getD 0 + (b[k]?.getD 0).tmod 20] := by
  unfold movTo
  rw [List.range_succ, List.map_append]
  rfl
theorem movR_len (b x : List Int) : (movR b x).length = x.length := movTo_len _ _ _
theorem movR_get {b x : List Int} {j : Nat} (h : j < x.length) : (movR b x)[j]?.getD 0 = x[j]?.getD 0 + (b[j]?.getD 0).tmod 20 := by
  unfold movR movTo
  rw [List.getElem?_map, List.getElem?_range h]
  rfl
theorem movL_len {b : List Int} {l : List (List Int)} {k : Nat} (h : k ≤ l.length) : (movL b l k).length = k := by unfold movL; rw [List.length_map, List.length_take]; omega
theorem movL_next {b : List Int} {l : List (List Int)} {k : Nat} (h : k < l.length) : movL b l (k + 1) = movL b l k ++ [movR b l[k]] := by
  unfold movL
  rw [← List.take_append_getElem h, List.map_append]
  rfl
theorem movL_all (b : List Int) (l : List (List Int)) : movL b l l.length = l.map (movR b) := by unfold movL; rw [List.take_length]
theorem tmod20 (z : Int) : -19 ≤ z.tmod 20 ∧ z.tmod 20 ≤ 19 := by
  have h : (z.tmod 20).natAbs = z.natAbs % 20 := by rw [Int.natAbs_tmod]; rfl
  have h2 : z.natAbs % 20 < 20 := Nat.mod_lt _ (by omega)
  generalize z.tmod 20 = t at *
  omega
theorem mov_dif {n : Nat} {b x y : List Int} (hx : x.length = n) (hy : y.length = n) : difI (movR b x) (movR b y) = difI x y := by
  refine ext_getD (by rw [difI_len, difI_len, movR_len]) fun j => ?_
  by_cases h : j < n
  · rw [dif_at (by rw [movR_len]; omega), dif_at (by omega), movR_get (by omega), movR_get (by omega)]; omega
  · rw [List.getElem?_eq_none (by rw [difI_len, movR_len]; omega), List.getElem?_eq_none (by rw [difI_len]; omega)]
theorem mov_root {n : Nat} {b r : List Int} {l : List (List Int)} (hl : ∀ x ∈ l, x.length = n) (hr : r.length = n) : rootL (l.map (movR b)) (movR b r) = rootL l r := by
  unfold rootL
  rw [List.map_map]
  exact List.map_congr_left fun x hx => mov_dif (hl x hx) hr
theorem mov_first {b : List Int} {l : List (List Int)} (h0 : 0 < l.length) : (l.map (movR b))[0]?.getD [] = movR b (l[0]?.getD []) := by
  rw [List.getElem?_map, List.getElem?_eq_getElem h0]
  rfl
theorem mov_close {n : Nat} {p b : List Int} {l : List (List Int)} (hl : ∀ x ∈ l, x.length = n) (h0 : 0 < l.length) : closeL p (l.map (movR b)) = closeL p l := by
  unfold closeL clsL
  rw [mov_first h0, mov_root hl (by rw [List.getElem?_eq_getElem h0]; exact hl _ (List.getElem_mem _))]
theorem mov_inv {n : Nat} {p b : List Int} {l : List (List Int)} (hl : ∀ x ∈ l, x.length = n) (h0 : 0 < l.length) : invL p (l.map (movR b)) = invL p l := by
  unfold invL
  rw [mov_close hl h0]
theorem mov_slt {p b : List Int} {l : List (List Int)} (hp : Primed p) (hl : ∀ x ∈ l, x.length = p.length) (h : SLt p l) : SLt p (l.map (movR b)) := by
  unfold SLt
  rw [List.pairwise_map]
  refine List.Pairwise.imp_of_mem (fun {x y} hx hy hxy => ?_) h
  have lx := hl x hx
  have ly := hl y hy
  rw [← hxy]
  refine ltR_moved hp lx ly (by rw [movR_len]; exact lx) (by rw [movR_len]; exact ly) fun j hj => ?_
  rw [movR_get (by omega), movR_get (by omega)]
  omega
theorem mov_good {p b : List Int} {l : List (List Int)} (hb : BaseC p l) (h : GoodC p l) : GoodC p (l.map (movR b)) := by
  have h0 := h.smc.ok.pos
  have hl := hb.len
  have ec : closeL p (l.map (movR b)) = closeL p l := mov_close hl h0
  have ei : invL p (l.map (movR b)) = invL p l := mov_inv hl h0
  have hget : ∀ x ∈ l, ∀ t : Nat, ((movR b x)[t]?.getD 0).natAbs ≤ 25 := fun x hx t => by
    by_cases ht : t < x.length
    · have h1 := hb.sm x hx t
      have h2 := tmod20 (b[t]?.getD 0)
      rw [movR_get ht]
      omega
    · rw [List.getElem?_eq_none (by rw [movR_len]; omega)]; decide
  refine ⟨⟨⟨h.smc.ok.pe, by rw [List.length_map]; exact h0, by rw [List.length_map]; exact h.smc.ok.le, fun y hy => ?_, mov_slt (primed h.smc.ok.pe) hl h.smc.ok.slt⟩, h.smc.le4, h.smc.tab, fun y hy z hz => ?_⟩, by rw [ec]; exact h.cd, by rw [ec]; exact h.c0, by rw [ec]; exact h.c12, by rw [ec]; exact h.cc, by rw [ec]; exact h.cl, by rw [ec]; exact h.cb, fun y hy j => ?_, by rw [ei]; exact h.il⟩
  · obtain ⟨x, hx, rfl⟩ := List.mem_map.1 hy
    refine chk_small h.smc.ok.pe (by rw [movR_len]; exact hl x hx) fun v hv => ?_
    obtain ⟨i, hi, rfl⟩ := List.getElem_of_mem hv
    have := hget x hx i
    rw [List.getElem?_eq_getElem hi] at this
    simp at this
    omega
  · obtain ⟨x, hx, rfl⟩ := List.mem_map.1 hy
    obtain ⟨x', hx', rfl⟩ := List.mem_map.1 hz
    rw [mov_dif (hl x hx) (hl x' hx')]
    exact h.smc.sm x hx x' hx'
  · obtain ⟨x, hx, rfl⟩ := List.mem_map.1 hy
    have := hget x hx j
    omega

/-! Described chords. -/
theorem chPrimes_rng (n : Nat) : ∀ k, k < (chPrimes n).length → 0 ≤ (chPrimes n)[k]?.getD 0 ∧ (chPrimes n)[k]?.getD 0 ≤ 1000 := by
  have hk : n % 3 = 0 ∨ n % 3 = 1 ∨ n % 3 = 2 := by omega
  unfold chPrimes
  rcases hk with hk | hk | hk <;> rw [hk] <;> decide
theorem num_base {n : Nat} {inv : Bool} {c : List (List Int)} (hb : BaseC (chPrimes n) c) : NumOk (chPrimes n) inv c := by
  obtain ⟨a, T, hT⟩ := tabOk n
  have := chPrimes_len n
  exact numOk_of (by omega) (chPrimes_rng n) hb.len fun x hx k => by have := hb.sm x hx k; omega
theorem last_len {p : List Int} {l : List (List Int)} (hb : BaseC p l) (h0 : 0 < l.length) : (l[l.length - 1]?.getD []).length = p.length ∧ ∀ t : Nat, ((l[l.length - 1]?.getD [])[t]?.getD 0).natAbs ≤ 6 := by
  rw [List.getElem?_eq_getElem (by omega)]
  exact ⟨hb.len _ (List.getElem_mem _), hb.sm _ (List.getElem_mem _)⟩
theorem dual_small {p : List Int} {l : List (List Int)} (hb : BaseC p l) (h0 : 0 < l.length) : (∀ y ∈ dualL l, y.length = p.length) ∧ ∀ y ∈ dualL l, ∀ t : Nat, (y[t]?.getD 0).natAbs ≤ 12 := by
  obtain ⟨h1, h2⟩ := last_len hb h0
  refine ⟨fun y hy => ?_, fun y hy t => ?_⟩
  · obtain ⟨x, hx, rfl⟩ := dual_mem.1 hy
    rw [difI_len]; exact h1
  · obtain ⟨x, hx, rfl⟩ := dual_mem.1 hy
    by_cases ht : t < p.length
    · have h3 := h2 t
      have h4 := hb.sm x hx t
      rw [dif_at (by omega)]
      omega
    · rw [List.getElem?_eq_none (by rw [difI_len]; omega)]; decide
theorem dual_ok {n : Nat} {l : List (List Int)} (hb : BaseC (chPrimes n) l) (h : GoodC (chPrimes n) l) : ChOk (chPrimes n) (dualL l) ∧ (∀ x ∈ dualL l, chkAll (chPrimes n) [difI ((dualL l)[(dualL l).length - 1]?.getD []) x] = 0) ∧ NumOk (chPrimes n) false (dualL l) := by
  have h0 := h.smc.ok.pos
  obtain ⟨k1, k2⟩ := dual_small hb h0
  have hpe := h.smc.ok.pe
  have hl0 : (l[0]?.getD []) ∈ l := by rw [List.getElem?_eq_getElem h0]; exact List.getElem_mem _
  obtain ⟨s1, _⟩ := last_len hb h0
  refine ⟨⟨hpe, by rw [dual_len]; exact h0, by rw [dual_len]; exact h.smc.ok.le, fun y hy => ?_, dual_slt (primed hpe) hb.len h0 h.smc.ok.slt⟩, fun y hy => ?_, numOk_of h.smc.le4 (chPrimes_rng n) k1 k2⟩
  · refine smR_chk hpe (smR_mk (k1 y hy) (by have := k2 y hy 0; omega) fun t _ _ => k2 y hy t)
  · obtain ⟨x, hx, rfl⟩ := dual_mem.1 hy
    rw [dual_last h0, dif_dif s1 (hb.len x hx) (hb.len _ hl0)]
    exact smR_chk hpe (h.smc.sm x hx _ hl0)

end Go.Proofs.YtaiglcbgllnciaaGreatDoor

namespace Go.Proofs.YtaiglcbgllnciaaGreatDoor
open Go.RowKit Go.Lib

theorem canon_len {p : List Int} {l : List (List Int)} (h : GoodC p l) : (canonL p l).length ≤ 12 := by
  have h0 := h.c0
  have hm : minTo (invL p l) ((invL p l).length - 1) ∈ invL p l := minTo_mem _ _ (by unfold invL; rw [List.length_map]; omega)
  exact h.il _ hm
theorem canon_goodA (pv : Value) (p : List Int) (A : Option Addr) (c : Nat) (l : List (List Int)) (w : World) (hS : Std w) (hp : IsRow w w.heap.size pv p) (hl : RowsAt w w.heap.size A l) (hg : GoodC p l) :
    Calls Tryz.prog 12 #[pv, .slice A l.length c] w fun e w' => (∃ B d, e = .returned (.tuple #[.slice B (canonL p l).length d, .int .i64 0]) ∧ RowsAt w' w'.heap.size B (canonL p l)) ∧ Below w.heap.size w w' :=
  chCanon_ok pv p A c l w hS hp hl hg.smc hg.cd hg.c0 (by have := hg.c12; omega) hg.cc (fun x hx => by have := hg.il x hx; omega)

set_option maxRecDepth 100000 in
set_option maxHeartbeats 2000000 in
theorem chAlike_ok (pv : Value) (p : List Int) (A B : Option Addr) (c d : Nat) (l m : List (List Int)) (w : World) (hS : Std w) (hp : IsRow w w.heap.size pv p) (hl : RowsAt w w.heap.size A l) (hm : RowsAt w w.heap.size B m) (gl : GoodC p l) (gm : GoodC p m) :
    Calls Tryz.prog 23 #[pv, .slice A l.length c, .slice B m.length d] w fun e w' => e = .returned (.tuple #[.bool (rowsEq (canonL p l) (canonL p m)), .int .i64 0]) ∧ Below w.heap.size w w' := by
  obtain ⟨w1, hw1⟩ : ∃ w1, w1 = w.alloc (.cells #[.slice A l.length c, .slice B m.length d] 30) := ⟨_, rfl⟩
  have hb1 : Below w.heap.size w w1 := by rw [hw1]; exact (Below.refl _ _).alloc (Nat.le_refl _) _
  have hsz : w.heap.size < w1.heap.size := by rw [hw1]; simp
  have hc0 : w1.cell? ⟨w.heap.size, 0, Option.none⟩ = some (.slice A l.length c) := by rw [hw1]; exact (Cells.new w 30 #[.slice A l.length c, .slice B m.length d]).cell 0
  have hc1 : w1.cell? ⟨w.heap.size, 1, Option.none⟩ = some (.slice B m.length d) := by rw [hw1]; exact (Cells.new w 30 #[.slice A l.length c, .slice B m.length d]).cell 1
  have HS1 := Lib.hid (hS.below hb1 (Nat.le_refl _))
  have HP1 := Lib.hid (hp.lift hb1)
  have HL1 : Box (RowsAt w1 w1.heap.size A l) := ⟨hl.lift hb1⟩
  have HM1 : Box (RowsAt w1 w1.heap.size B m) := ⟨hm.lift hb1⟩
  have h12 := gl.smc.ok.le
  have h12m := gm.smc.ok.le
  have hka : ∀ W, Below w1.heap.size w1 W → Calls Tryz.prog 32 #[pv, .slice A l.length c] W fun e w' => e = .returned (.int .i64 0) ∧ Below W.heap.size W w' := fun W hb => by
    have h := chCheck_any pv p A c l W (HS1.out.below hb (Nat.le_refl _)) (HP1.out.lift hb) (HL1.out.lift hb) (by omega)
    rw [gl.smc.ok.err] at h
    exact h
  have hkb : ∀ W, Below w1.heap.size w1 W → Calls Tryz.prog 32 #[pv, .slice B m.length d] W fun e w' => e = .returned (.int .i64 0) ∧ Below W.heap.size W w' := fun W hb => by
    have h := chCheck_any pv p B d m W (HS1.out.below hb (Nat.le_refl _)) (HP1.out.lift hb) (HM1.out.lift hb) (by omega)
    rw [gm.smc.ok.err] at h
    exact h
  have HKA := Lib.hid hka
  have HKB := Lib.hid hkb
  have HCA := Lib.hid fun (W : World) (hb : Below w1.heap.size w1 W) => canon_goodA pv p A c l W (HS1.out.below hb (Nat.le_refl _)) (HP1.out.lift hb) (HL1.out.lift hb) gl
  have HCB := Lib.hid fun (W : World) (hb : Below w1.heap.size w1 W) => canon_goodA pv p B d m W (HS1.out.below hb (Nat.le_refl _)) (HP1.out.lift hb) (HM1.out.lift hb) gm
  have HCL := Lib.hid (canon_len gl)
  obtain ⟨AP, cp, rfl⟩ := hp.shape
  clear hS hp hl hm gl gm hka hkb HS1 HP1 HL1 HM1 h12 h12m
  generalize canonL p l = K at *
  generalize canonL p m = M at *
  go_enter Tryz.func23, Tryz.ntmps23
  go_wp2_with fail
  rw [← hw1]
  clear hw1
  go_loopw [18] (fun i wr => (i = .int .i64 0 ∨ i = .int .i64 1 ∨ i = .int .i64 2) ∧ Below w1.heap.size w1 wr) (fun i _ => 2 - (intOf i).toNat)
  case atStart => exact ⟨.inl rfl, Below.refl _ _⟩
  case round =>
    obtain ⟨hi, hbw⟩ := hrel
    have g0 := (hbw.cell (p := ⟨w.heap.size, 0, Option.none⟩) hsz).trans hc0
    have g1 := (hbw.cell (p := ⟨w.heap.size, 1, Option.none⟩) hsz).trans hc1
    rcases hi with rfl | rfl | rfl
    · go_wp2_with fail
      refine (HKA.out _ hbw).mono ?_
      rintro e w2 ⟨rfl, hb2⟩
      go_wp2_with fail
      go_roundw
      case rel => exact ⟨.inr (.inl rfl), hbw.trans (hb2.mono hbw.size)⟩
      case measure => simp [intOf]
    · go_wp2_with fail
      refine (HKB.out _ hbw).mono ?_
      rintro e w2 ⟨rfl, hb2⟩
      go_wp2_with fail
      go_roundw
      case rel => exact ⟨.inr (.inr rfl), hbw.trans (hb2.mono hbw.size)⟩
      case measure => simp [intOf]
    · clear g0 g1
      go_wp2_with fail
      refine (HCA.out _ hbw).mono ?_
      rintro e w2 ⟨⟨B1, d1, rfl, hr1⟩, hb2⟩
      have HB2 := Lib.hid (hbw.trans (hb2.mono hbw.size))
      have HR1 : Box (RowsAt w2 w2.heap.size B1 K) := ⟨hr1⟩
      clear hr1 hb2 hbw
      go_wp2_with fail
      refine (HCB.out _ HB2.out).mono ?_
      rintro e w3 ⟨⟨B2, d2, rfl, hr2⟩, hb3⟩
      have HB3 := Lib.hid (HB2.out.trans (hb3.mono HB2.out.size))
      have HEQ := Lib.hid (eqFunc_row B1 B2 d1 d2 K M w3 (HR1.out.lift hb3) hr2 (by have := HCL.out; omega))
      clear hr2 hb3
      go_wp2_with fail
      refine HEQ.out.mono ?_
      rintro e w4 ⟨rfl, hb4⟩
      go_wp2_with fail
      go_ret2
      exact ⟨rfl, hb1.trans ((HB3.out.trans (hb4.mono HB3.out.size)).mono hb1.size)⟩

end Go.Proofs.YtaiglcbgllnciaaGreatDoor

namespace Go.Proofs.YtaiglcbgllnciaaGreatDoor
open Go.RowKit Go.Lib

/-! Comparing is total. -/
structure TotC {α : Type} (c : α → α → Int) : Prop where
  refl : ∀ a, c a a = 0
  eq : ∀ a b, c a b = 0 → a = b
  neg : ∀ a b, c b a = -c a b
  tr : ∀ a b d, c a b < 0 → c b d < 0 → c a d < 0
theorem cmpC_tot : TotC cmpC := by
  refine ⟨fun a => ?_, fun a b h => ?_, fun a b => ?_, fun a b d h1 h2 => ?_⟩
  · unfold cmpC; rw [if_neg (by omega), if_neg (by omega)]
  · unfold cmpC at h
    split at h
    · omega
    · split at h <;> omega
  · unfold cmpC
    rcases Int.lt_trichotomy a b with h | h | h
    · rw [if_neg (by omega), if_pos h, if_pos h]; rfl
    · subst h; rw [if_neg (by omega), if_neg (by omega)]; rfl
    · rw [if_pos h, if_neg (by omega), if_pos h]
  · have e : ∀ x y : Int, cmpC x y < 0 → x < y := fun x y h => by
      unfold cmpC at h
      split at h
      · assumption
      · split at h <;> omega
    have := e _ _ h1
    have := e _ _ h2
    unfold cmpC
    rw [if_pos (by omega)]
    decide
theorem lex_tot {α : Type} {c : α → α → Int} (h : TotC c) {L : List α → List α → Int} (h0 : L [] [] = 0) (h1 : ∀ b y, L [] (b :: y) = -1) (h2 : ∀ a x, L (a :: x) [] = 1) (h3 : ∀ a x b y, L (a :: x) (b :: y) = if c a b ≠ 0 then c a b else L x y) : TotC L := by
  refine ⟨fun a => ?_, fun a => ?_, fun a => ?_, fun a => ?_⟩
  · induction a with
    | nil => exact h0
    | cons a x ih => rw [h3, if_neg (by rw [h.refl]; decide)]; exact ih
  · induction a with
    | nil =>
      intro b hb
      cases b with
      | nil => rfl
      | cons b y => rw [h1] at hb; exact absurd hb (by decide)
    | cons a x ih =>
      intro b hb
      cases b with
      | nil => rw [h2] at hb; exact absurd hb (by decide)
      | cons b y =>
        rw [h3] at hb
        by_cases hc : c a b = 0
        · rw [if_neg (by rw [hc]; decide)] at hb
          rw [h.eq a b hc, ih y hb]
        · rw [if_pos hc] at hb; exact absurd hb hc
  · induction a with
    | nil =>
      intro b
      cases b with
      | nil => rw [h0]; rfl
      | cons b y => rw [h1, h2]; rfl
    | cons a x ih =>
      intro b
      cases b with
      | nil => rw [h1, h2]
      | cons b y =>
        rw [h3, h3]
        have hn := h.neg a b
        by_cases hc : c a b = 0
        · rw [if_neg (by rw [hn, hc]; decide), if_neg (by rw [hc]; decide)]; exact ih y
        · rw [if_pos (by rw [hn]; omega), if_pos hc]; exact hn
  · induction a with
    | nil =>
      intro b d hb hd
      cases d with
      | nil =>
        cases b with
        | nil => exact hb
        | cons b y => rw [h2] at hd; exact absurd hd (by decide)
      | cons d z => rw [h1]; decide
    | cons a x ih =>
      intro b d hb hd
      cases b with
      | nil => rw [h2] at hb; exact absurd hb (by decide)
      | cons b y =>
        cases d with
        | nil => rw [h2] at hd; exact absurd hd (by decide)
        | cons d z =>
          rw [h3] at hb hd ⊢
          by_cases e1 : c a b = 0
          · obtain rfl := h.eq a b e1
            rw [if_neg (by rw [e1]; decide)] at hb
            by_cases e2 : c a d = 0
            · rw [if_neg (by rw [e2]; decide)] at hd ⊢
              exact ih y z hb hd
            · rw [if_pos e2] at hd ⊢
              exact hd
          · rw [if_pos e1] at hb
            by_cases e2 : c b d = 0
            · obtain rfl := h.eq b d e2
              rw [if_pos e1]; exact hb
            · rw [if_pos e2] at hd
              have ht := h.tr a b d hb hd
              rw [if_pos (by omega)]
              exact ht
theorem cmpI_tot : TotC cmpI := lex_tot cmpC_tot (by rw [cmpI]) (fun _ _ => by rw [cmpI]) (fun _ _ => by rw [cmpI]) fun _ _ _ _ => cmpI_cons _ _ _ _
theorem cmpL_tot : TotC cmpL := lex_tot cmpI_tot (by rw [cmpL]) (fun _ _ => by rw [cmpL]) (fun _ _ => by rw [cmpL]) fun _ _ _ _ => by rw [cmpL]
theorem minTo_le (l : List (List (List Int))) : ∀ k, k < l.length → ∀ i, i ≤ k → ¬ cmpL (l[i]?.getD []) (minTo l k) < 0
  | 0, _, i, hi => by
    obtain rfl : i = 0 := by omega
    rw [minTo, cmpL_tot.refl]
    decide
  | k + 1, hk, i, hi => by
    rw [minTo]
    have ih := minTo_le l k (by omega)
    by_cases hc : cmpL (l[k + 1]?.getD []) (minTo l k) < 0
    · rw [if_pos hc]
      by_cases hik : i = k + 1
      · subst hik; rw [cmpL_tot.refl]; decide
      · exact fun h => ih i (by omega) (cmpL_tot.tr _ _ _ h hc)
    · rw [if_neg hc]
      by_cases hik : i = k + 1
      · subst hik; exact hc
      · exact ih i (by omega)
/-- The least chord depends on the members alone. -/
theorem minL_ext {l m : List (List (List Int))} (h0 : 0 < l.length) (h : ∀ x, x ∈ l ↔ x ∈ m) : minL l = minL m := by
  have h1 : 0 < m.length := List.length_pos_of_mem ((h l[0]).1 (List.getElem_mem h0))
  have a1 : minL l ∈ l := minTo_mem l _ (by omega)
  have a2 : minL m ∈ m := minTo_mem m _ (by omega)
  obtain ⟨i, hi, e1⟩ := List.getElem_of_mem ((h _).2 a2)
  obtain ⟨j, hj, e2⟩ := List.getElem_of_mem ((h _).1 a1)
  have b1 := minTo_le l (l.length - 1) (by omega) i (by omega)
  have b2 := minTo_le m (m.length - 1) (by omega) j (by omega)
  rw [List.getElem?_eq_getElem hi, Option.getD_some, e1] at b1
  rw [List.getElem?_eq_getElem hj, Option.getD_some, e2] at b2
  have c1 : ¬ cmpL (minL m) (minL l) < 0 := b1
  have c2 : ¬ cmpL (minL l) (minL m) < 0 := b2
  have hn := cmpL_tot.neg (minL l) (minL m)
  exact cmpL_tot.eq _ _ (by omega)

/-! Chords that are alike. -/
/-- The notes of l are those of c less z, but for equaves. -/
def EqvC (c : List (List Int)) (z : List Int) (l : List (List Int)) : Prop :=
  (∀ k ∈ l, ∃ x ∈ c, ∃ n, k = addE (difI x z) n) ∧ ∀ x ∈ c, ∃ k ∈ l, ∃ n, k = addE (difI x z) n
theorem EqvC.self {c : List (List Int)} {k : Nat} : EqvC c (zRow k) c :=
  ⟨fun x hx => ⟨x, hx, 0, by rw [dif_zero, addE_zero]⟩, fun x hx => ⟨x, hx, 0, by rw [dif_zero, addE_zero]⟩⟩
theorem EqvC.ext {c l m : List (List Int)} {z : List Int} (h : EqvC c z l) (hm : ∀ x, x ∈ l ↔ x ∈ m) : EqvC c z m :=
  ⟨fun k hk => h.1 k ((hm k).2 hk), fun x hx => by obtain ⟨k, hk, n, e⟩ := h.2 x hx; exact ⟨k, (hm k).1 hk, n, e⟩⟩
theorem EqvC.len {c l : List (List Int)} {z : List Int} {n : Nat} (h : EqvC c z l) (hc : ∀ x ∈ c, x.length = n) : ∀ k ∈ l, k.length = n := fun k hk => by
  obtain ⟨x, hx, n, rfl⟩ := h.1 k hk
  rw [addE_len, difI_len]
  exact hc x hx
section
variable {p : List Int} {c l : List (List Int)} {z : List Int} {a : Nat} {T : List Nat}
theorem rOf_eqv (hT : TabOk p a T) {x y : List Int} (hx : x.length = p.length) (hy : y.length = p.length) (m n : Int) : rOf p (difI (addE (difI x z) m) (addE (difI y z) n)) = rOf p (difI x y) := by
  have hpos := hT.pos
  have e : difI (addE (difI x z) m) (addE (difI y z) n) = addE (difI x y) (m - n) := by
    refine ext_getD (by rw [difI_len, addE_len, addE_len, difI_len, difI_len]) fun j => ?_
    by_cases h : j < p.length
    · rw [dif_at (by rw [addE_len, difI_len]; omega)]
      rcases Nat.eq_zero_or_pos j with rfl | hj
      · rw [addE_get0 _ _ (by rw [difI_len]; omega), addE_get0 _ _ (by rw [difI_len]; omega), addE_get0 _ _ (by rw [difI_len]; omega), dif_at (by omega), dif_at (by omega), dif_at (by omega)]
        omega
      · rw [addE_get _ _ _ hj, addE_get _ _ _ hj, addE_get _ _ _ hj, dif_at (by omega), dif_at (by omega), dif_at (by omega)]
        omega
    · rw [List.getElem?_eq_none (by rw [difI_len, addE_len, difI_len]; omega), List.getElem?_eq_none (by rw [addE_len, difI_len]; omega)]
  rw [e]
  exact rOf_addE hT (by rw [difI_len]; exact hx) _
theorem cls_lens (hl : ∀ x ∈ l, x.length = p.length) (r : List Int) : ∀ y ∈ (rootL l r).map (rOf p), y.length = p.length := fun y hy => by
  obtain ⟨d, hd, rfl⟩ := List.mem_map.1 hy
  obtain ⟨x, hx, rfl⟩ := List.mem_map.1 hd
  unfold rOf
  rw [addE_len, difI_len]
  exact hl x hx
theorem cls_memL (hT : TabOk p a T) (hl : ∀ x ∈ l, x.length = p.length) {r y : List Int} : y ∈ clsL p l r ↔ ∃ x ∈ l, y = rOf p (difI x r) := by
  unfold clsL
  rw [(onceL_slt (primed hT.pe) (cls_lens hl r)).2 y]
  constructor
  · intro hy
    obtain ⟨d, hd, rfl⟩ := List.mem_map.1 hy
    obtain ⟨x, hx, rfl⟩ := List.mem_map.1 hd
    exact ⟨x, hx, rfl⟩
  · rintro ⟨x, hx, rfl⟩
    exact List.mem_map.2 ⟨_, List.mem_map.2 ⟨x, hx, rfl⟩, rfl⟩
theorem cls_sltL (hT : TabOk p a T) (hl : ∀ x ∈ l, x.length = p.length) (r : List Int) : SLt p (clsL p l r) := (onceL_slt (primed hT.pe) (cls_lens hl r)).1
/-- The class at a note. -/
theorem cls_eqv (hT : TabOk p a T) (hc : ∀ x ∈ c, x.length = p.length) (h : EqvC c z l) {r y : List Int} {n : Int} (hy : y ∈ c) (e : r = addE (difI y z) n) : clsL p l r = clsL p c y := by
  have hl := h.len hc
  subst e
  refine slt_ext (cls_sltL hT hl _) (cls_sltL hT hc _) fun v => ?_
  rw [cls_memL hT hl, cls_memL hT hc]
  constructor
  · rintro ⟨k, hk, rfl⟩
    obtain ⟨x, hx, m, rfl⟩ := h.1 k hk
    exact ⟨x, hx, rOf_eqv hT (hc x hx) (hc y hy) m n⟩
  · rintro ⟨x, hx, rfl⟩
    obtain ⟨k, hk, m, rfl⟩ := h.2 x hx
    exact ⟨_, hk, (rOf_eqv hT (hc x hx) (hc y hy) m n).symm⟩
theorem cls_eqvC (hT : TabOk p a T) (hc : ∀ x ∈ c, x.length = p.length) (y : List Int) : EqvC c y (clsL p c y) :=
  ⟨fun k hk => by obtain ⟨x, hx, rfl⟩ := (cls_memL hT hc).1 hk; exact ⟨x, hx, _, rfl⟩, fun x hx => ⟨_, (cls_memL hT hc).2 ⟨x, hx, rfl⟩, _, rfl⟩⟩
/-- The inversions of a chord that is alike: the classes at the notes. -/
theorem inv_eqv (hT : TabOk p a T) (hc : ∀ x ∈ c, x.length = p.length) (h : EqvC c z l) (h0 : 0 < l.length) (v : List (List Int)) : v ∈ invL p l ↔ ∃ x ∈ c, v = clsL p c x := by
  obtain ⟨u, hu, n, e⟩ := h.1 l[0] (List.getElem_mem h0)
  have hK : closeL p l = clsL p c u := by
    unfold closeL
    rw [List.getElem?_eq_getElem h0]
    exact cls_eqv hT hc h hu e
  have hE := cls_eqvC hT hc u
  unfold invL
  rw [hK, List.mem_map]
  constructor
  · rintro ⟨k, hk, rfl⟩
    obtain ⟨x, hx, m, e2⟩ := hE.1 k hk
    exact ⟨x, hx, cls_eqv hT hc hE hx e2⟩
  · rintro ⟨x, hx, rfl⟩
    obtain ⟨k, hk, m, e2⟩ := hE.2 x hx
    exact ⟨k, hk, cls_eqv hT hc hE hx e2⟩
/-- Alike chords have the same canonical chord. -/
theorem canon_eqv (hT : TabOk p a T) (hc : ∀ x ∈ c, x.length = p.length) (h : EqvC c z l) (h0 : 0 < l.length) (h1 : 0 < c.length) : canonL p l = canonL p c := by
  have hi : ∀ v, v ∈ invL p l ↔ v ∈ invL p c := fun v => by rw [inv_eqv hT hc h h0, inv_eqv hT hc (EqvC.self (k := p.length)) h1]
  obtain ⟨u, hu, n, e⟩ := h.1 l[0] (List.getElem_mem h0)
  have hm : clsL p c u ∈ invL p l := (inv_eqv hT hc h h0 _).2 ⟨u, hu, rfl⟩
  exact minL_ext (List.length_pos_of_mem hm) hi
end

/-! Described chords. -/
theorem chk_all39 {p : List Int} (hp : primeErr p = 0) : ∀ {l : List (List Int)}, (∀ x ∈ l, chkAll p [x] = 0) → chkAll p l = 0
  | [], _ => by unfold chkAll; rw [if_neg (by simp [hp])]; rfl
  | x :: l, h => by
    have h1 := h x List.mem_cons_self
    have h2 := chk_all39 hp (l := l) (fun y hy => h y (List.mem_cons_of_mem _ hy))
    unfold chkAll at h1 h2 ⊢
    rw [if_neg (by simp [hp])] at h1 h2 ⊢
    unfold rowsErr at h1 ⊢
    by_cases h3 : rowErr p.length x = 0
    · rw [if_neg (by simp [h3])]; exact h2
    · rw [if_pos h3] at h1; exact absurd h1 h3
theorem tail_sub {p : List Int} {c l m : List (List Int)} {z : List Int} (h : TailC p c z l) (hm : ∀ x ∈ m, x ∈ l) : TailC p c z m := ⟨h.1, fun k hk => h.2 k (hm k hk)⟩
/-- Every inversion is good, and alike. -/
theorem inv_good {n : Nat} {c : List (List Int)} (hb : BaseC (chPrimes n) c) (h : GoodC (chPrimes n) c) {v : List (List Int)} (hv : v ∈ invL (chPrimes n) c) : GoodC (chPrimes n) v ∧ canonL (chPrimes n) v = canonL (chPrimes n) c := by
  obtain ⟨a, T, hT⟩ := tabOk n
  have h0 := h.smc.ok.pos
  have hc := hb.len
  obtain ⟨x, hx, rfl⟩ := (inv_eqv hT hc (EqvC.self (k := (chPrimes n).length)) h0 v).1 hv
  obtain ⟨z', ht⟩ := hb.tail.cls hT hb hx
  obtain ⟨q1, q2, q3⟩ := cls_slt (r := x) hT hb.tail
  have h12 := h.smc.ok.le
  exact ⟨good_of hT hb ht (q2 h0) (by omega) q1, canon_eqv hT hc (cls_eqvC hT hc x) (q2 h0) h0⟩
/-- The rooted chord with one note moved by equaves. -/
def oneL (c : List (List Int)) (i : Nat) (n : Int) : List (List Int) := (rootL c (c[0]?.getD [])).set i (addE ((rootL c (c[0]?.getD []))[i]?.getD []) n)
theorem oneL_len (c : List (List Int)) (i : Nat) (n : Int) : (oneL c i n).length = c.length := by unfold oneL; rw [List.length_set, rootL_len]
theorem oneL_get {c : List (List Int)} {i j : Nat} {n : Int} (hj : j < c.length) : (oneL c i n)[j]? = some (addE (difI c[j] (c[0]?.getD [])) (if i = j then n else 0)) := by
  unfold oneL
  generalize c[0]?.getD [] = r
  have hr : (rootL c r)[j]? = some (difI c[j] r) := by
    unfold rootL
    rw [List.getElem?_map, List.getElem?_eq_getElem hj]
    rfl
  rw [List.getElem?_set]
  by_cases h : i = j
  · subst h
    rw [if_pos rfl, if_pos (by rw [rootL_len]; exact hj), hr, if_pos rfl]
    rfl
  · rw [if_neg h, if_neg h, hr, addE_zero]
theorem oneL_eqv (c : List (List Int)) (i : Nat) (n : Int) : EqvC c (c[0]?.getD []) (oneL c i n) := by
  refine ⟨fun k hk => ?_, fun x hx => ?_⟩
  · obtain ⟨j, hj, rfl⟩ := List.getElem_of_mem hk
    rw [oneL_len] at hj
    refine ⟨c[j], List.getElem_mem hj, if i = j then n else 0, ?_⟩
    have := oneL_get (c := c) (i := i) (n := n) hj
    rw [List.getElem?_eq_getElem (by rw [oneL_len]; exact hj)] at this
    exact Option.some.inj this
  · obtain ⟨j, hj, rfl⟩ := List.getElem_of_mem hx
    exact ⟨_, List.mem_of_getElem? (oneL_get (c := c) (i := i) (n := n) hj), _, rfl⟩
theorem oneL_tail {p : List Int} {c : List (List Int)} (hp : 0 < p.length) (hb : BaseC p c) (h0 : 0 < c.length) (i : Nat) {n : Int} (hn : n.natAbs ≤ 2) : TailC p c (c[0]?.getD []) (oneL c i n) := by
  have hm : c[0]?.getD [] ∈ c := by rw [List.getElem?_eq_getElem h0]; exact List.getElem_mem h0
  refine ⟨fun t => hb.sm _ hm t, fun k hk => ?_⟩
  obtain ⟨j, hj, rfl⟩ := List.getElem_of_mem hk
  rw [oneL_len] at hj
  have e := oneL_get (c := c) (i := i) (n := n) hj
  rw [List.getElem?_eq_getElem (by rw [oneL_len]; exact hj)] at e
  rw [Option.some.inj e]
  generalize hq : (if i = j then n else 0) = q
  have hq2 : q.natAbs ≤ 2 := by rw [← hq]; split <;> omega
  have hl := hb.len _ (List.getElem_mem hj)
  refine ⟨by rw [addE_len, difI_len]; exact hl, ?_, c[j], List.getElem_mem hj, fun t h1 h2 => ?_⟩
  · have h3 := hb.sm _ (List.getElem_mem hj) 0
    have h4 := hb.sm _ hm 0
    rw [addE_get0 _ _ (by rw [difI_len]; omega), dif_at (by omega)]
    omega
  · rw [addE_get _ _ _ h1, dif_at (by omega)]
theorem one_good {k : Nat} {c : List (List Int)} (hb : BaseC (chPrimes k) c) (h : GoodC (chPrimes k) c) (i : Nat) {n : Int} (hn : n.natAbs ≤ 2) :
    GoodC (chPrimes k) (onceL (chPrimes k) (oneL c i n)) ∧ canonL (chPrimes k) (onceL (chPrimes k) (oneL c i n)) = canonL (chPrimes k) c ∧ ofErr (chPrimes k) (oneL c i n) = 0 := by
  obtain ⟨a, T, hT⟩ := tabOk k
  have h0 := h.smc.ok.pos
  have h12 := h.smc.ok.le
  have hE := oneL_eqv c i n
  have ht := oneL_tail hT.pos hb h0 i hn
  have hl := hE.len hb.len
  obtain ⟨q1, q2⟩ := onceL_slt (primed hT.pe) hl
  have q3 := onceL_pos (primed hT.pe) hl (by rw [oneL_len]; exact h0)
  have q4 := onceL_len (chPrimes k) (oneL c i n)
  rw [oneL_len] at q4
  have hck : ∀ x ∈ oneL c i n, chkAll (chPrimes k) [x] = 0 := fun x hx => smR_chk hT.pe (ht.sm hb x hx)
  refine ⟨good_of hT hb (tail_sub ht fun x hx => (q2 x).1 hx) q3 (by omega) q1, canon_eqv hT hb.len (hE.ext fun x => (q2 x).symm) q3 h0, ?_⟩
  unfold ofErr
  rw [if_neg (by rw [hT.pe]; decide), if_neg (by rw [oneL_len]; omega), if_neg, if_neg (by omega)]
  exact fun hne => hne (chk_all39 hT.pe hck)

end Go.Proofs.YtaiglcbgllnciaaGreatDoor

namespace Go.Proofs.YtaiglcbgllnciaaGreatDoor
open Go.RowKit Go.Lib

/-- A list of rows that the call owns, each in a block of its own. -/
def LRowD (w : World) (base : Nat) (v : Value) (l : List (List Int)) : Prop :=
  ∃ vs : List Value, w.ownsRow base 41 1 v l.length vs ∧ (∀ (j : Nat) (x : List Int), l[j]? = some x → ∃ u, vs[j]? = some u ∧ w.ownsRow base 3 1 u x.length (is x)) ∧ ∀ (i j : Nat) (u u' : Value) (g g' : Nat), i < j → vs[i]? = some u → vs[j]? = some u' → u.ownBlock = some g → u'.ownBlock = some g' → g < g'
theorem LRowD.nil (w : World) (base : Nat) : LRowD w base (.slice Option.none 0 0) [] := ⟨[], World.ownsRow_nil _ _ _ _, fun j x h => by simp at h, fun i j u u' g g' _ h => by simp at h⟩
theorem LRowD.lrow {w : World} {base : Nat} {v : Value} {l : List (List Int)} (h : LRowD w base v l) : LRow w base v l := by
  obtain ⟨vs, h1, h2, _⟩ := h
  exact ⟨vs, h1, fun j x hj => by obtain ⟨u, h3, h4⟩ := h2 j x hj; exact ⟨u, h3, ORow.of_own h4⟩⟩
theorem LRowD.below {w w' : World} {base : Nat} {v : Value} {l : List (List Int)} (h : LRowD w base v l) (hb : Below w.heap.size w w') : LRowD w' base v l := by
  obtain ⟨vs, h1, h2, h3⟩ := h
  exact ⟨vs, own_below h1 hb, fun j x hj => by obtain ⟨u, h4, h5⟩ := h2 j x hj; exact ⟨u, h4, own_below h5 hb⟩, h3⟩
theorem LRowD.lts {w : World} {base : Nat} {v : Value} {l : List (List Int)} {vs : List Value} (h1 : w.ownsRow base 41 1 v l.length vs) (h2 : ∀ (j : Nat) (x : List Int), l[j]? = some x → ∃ u, vs[j]? = some u ∧ w.ownsRow base 3 1 u x.length (is x)) : ∀ (i : Nat) (u : Value) (g : Nat), vs[i]? = some u → u.ownBlock = some g → g < w.heap.size := fun i u g hu hg => by
  have hvl : vs.length = l.length := by have := h1.1; omega
  have hi := (List.getElem?_eq_some_iff.1 hu).1
  obtain ⟨u2, h3, h4⟩ := h2 i l[i] (List.getElem?_eq_getElem (by omega))
  rw [hu] at h3
  cases h3
  exact (h4.lt g hg).2
theorem LRowD.snoc {w w' : World} {base S : Nat} {v v' u : Value} {l : List (List Int)} {x : List Int} {vs : List Value} (h1 : w.ownsRow base 41 1 v l.length vs) (h2 : ∀ (j : Nat) (x : List Int), l[j]? = some x → ∃ u, vs[j]? = some u ∧ w.ownsRow base 3 1 u x.length (is x)) (h3 : ∀ (i j : Nat) (u u' : Value) (g g' : Nat), i < j → vs[i]? = some u → vs[j]? = some u' → u.ownBlock = some g → u'.ownBlock = some g' → g < g') (h4 : ∀ (i : Nat) (u : Value) (g : Nat), vs[i]? = some u → u.ownBlock = some g → g < S) (hx : w.ownsRow S 3 1 u x.length (is x)) (hS : base ≤ S)
    (hown : w'.ownsRow base 41 1 v' (l.length + 1) (vs ++ [u])) (hg : w.grownBy w' v.ownBlock) : LRowD w' base v' (l ++ [x]) := by
  have hvl : vs.length = l.length := by have := h1.1; omega
  refine ⟨vs ++ [u], by rw [List.length_append]; exact hown, fun j y hj => ?_, fun i j a b g g' hij ha hb hga hgb => ?_⟩
  · by_cases hjl : j < l.length
    · rw [List.getElem?_append_left hjl] at hj
      obtain ⟨u2, h5, h6⟩ := h2 j y hj
      exact ⟨u2, by rw [List.getElem?_append_left (by omega)]; exact h5, own_grown h1 h6 (by decide) hg⟩
    · rw [List.getElem?_append_right (by omega)] at hj
      have hj0 : j - l.length = 0 := by
        obtain ⟨hlt, _⟩ := List.getElem?_eq_some_iff.1 hj
        simpa using hlt
      rw [hj0] at hj
      cases hj
      exact ⟨u, by rw [List.getElem?_append_right (by omega), hvl, hj0]; rfl, own_grown h1 (own_base hx hS) (by decide) hg⟩
  · have hjl := (List.getElem?_eq_some_iff.1 hb).1
    rw [List.length_append, List.length_singleton] at hjl
    rw [List.getElem?_append_left (by omega)] at ha
    by_cases hj : j < vs.length
    · rw [List.getElem?_append_left hj] at hb
      exact h3 i j a b g g' hij ha hb hga hgb
    · rw [List.getElem?_append_right (by omega), show j - vs.length = 0 by omega] at hb
      cases hb
      exact Nat.lt_of_lt_of_le (h4 i a g ha hga) (hx.lt g' hgb).1
/-- A store into one of the rows. -/
theorem LRowD.store {w : World} {base n c : Nat} {A : Option Addr} {l : List (List Int)} (h : LRowD w base (.slice A n c) l) {i : Nat} {x : List Int} (hi : l[i]? = some x) (hx : 0 < x.length) :
    ∃ gA g cap, A = some ⟨gA, 0, Option.none⟩ ∧ gA < w.heap.size ∧ w.cell? ⟨gA, i, Option.none⟩ = some (.slice (some ⟨g, 0, Option.none⟩) x.length cap) ∧ w.cell? ⟨g, 0, Option.none⟩ = some (.int .i64 (x[0]?.getD 0)) ∧ w.frozen? ⟨g, 0, Option.none⟩ = false ∧ base ≤ g ∧ g < w.heap.size ∧ gA ≠ g ∧ ∀ z, RowsAt (w.setCell ⟨g, 0, Option.none⟩ (.int .i64 z)) (w.setCell ⟨g, 0, Option.none⟩ (.int .i64 z)).heap.size A (l.set i (x.set 0 z)) := by
  obtain ⟨vs, h1, h2, h3⟩ := h
  have hil := (List.getElem?_eq_some_iff.1 hi).1
  have hvl : vs.length = l.length := by have := h1.1; omega
  obtain ⟨u, hu, ho⟩ := h2 i x hi
  have ho2 := ho
  have h12 := h1
  rcases ho.2 with ⟨_, h0⟩ | ⟨g, cap, cur, rfl, hbg, hcur, _⟩
  · omega
  rcases h1.2 with ⟨_, h0⟩ | ⟨gA, capA, curA, e, _, hcurA, _⟩
  · omega
  cases e
  have hne : gA ≠ g := fun e => by
    subst e
    rw [hcur] at hcurA
    have := Option.some.inj hcurA
    injection this with _ ht _
    exact absurd ht (by decide)
  have hltA := (h1.lt gA rfl).2
  have hltg := (ho.lt g rfl).2
  have hc0 : w.cell? ⟨g, 0, Option.none⟩ = some (.int .i64 (x[0]?.getD 0)) := by
    refine (ho.cellAt 0 (by omega)).trans ?_
    unfold is
    rw [List.getElem?_map, List.getElem?_eq_getElem hx]
    rfl
  refine ⟨gA, g, cap, rfl, hltA, (h1.cellAt i (by omega)).trans hu, hc0, ho.frozenAt 0, hbg, hltg, hne, fun z => ⟨fun k y hy => ?_⟩⟩
  have h1' := ownsRow_setCell_other (a := ⟨g, 0, Option.none⟩) h1 (fun e => hne (by simpa [Value.ownBlock] using e)) (.int .i64 z)
  have hk := (List.getElem?_eq_some_iff.1 hy).1
  rw [List.length_set] at hk
  have hA2 := (h1'.lt gA rfl).2
  rw [List.getElem?_set] at hy
  by_cases e : i = k
  · subst e
    rw [if_pos rfl, if_pos hil] at hy
    cases hy
    have h5 := own_set (k := 0) ho (.int .i64 z)
    have h6 : (is x).set 0 (.int .i64 z) = is (x.set 0 z) := by unfold is; rw [List.map_set]
    rw [h6] at h5
    refine ⟨⟨gA, 0, Option.none⟩, _, rfl, hA2, by rw [add_plain, Nat.zero_add]; exact (h1'.cellAt i (by omega)).trans hu, ?_⟩
    have hl : (x.set 0 z).length = x.length := List.length_set
    rw [← hl] at h5
    rw [← hl]
    exact IsRow.of_own h5
  · rw [if_neg e] at hy
    obtain ⟨u2, hu2, ho2⟩ := h2 k y hy
    refine ⟨⟨gA, 0, Option.none⟩, u2, rfl, hA2, by rw [add_plain, Nat.zero_add]; exact (h1'.cellAt k (by omega)).trans hu2, ?_⟩
    refine IsRow.of_own (ownsRow_setCell_other (a := ⟨g, 0, Option.none⟩) ho2 (fun e2 => ?_) (.int .i64 z))
    rcases Nat.lt_or_gt_of_ne e with h7 | h7
    · exact absurd (h3 i k _ u2 g g h7 hu hu2 rfl e2) (Nat.lt_irrefl _)
    · exact absurd (h3 k i u2 _ g g h7 hu2 hu e2 rfl) (Nat.lt_irrefl _)

set_option maxRecDepth 100000 in
set_option maxHeartbeats 2000000 in
theorem sub_own39 (xv yv : Value) (x y : List Int) (w : World) (hx : IsRow w w.heap.size xv x) (hy : IsRow w w.heap.size yv y) (hl : x.length = y.length) (hn : x.length ≤ 1000) (hb : ∀ j : Nat, (x[j]?.getD 0).natAbs ≤ 1000000 ∧ (y[j]?.getD 0).natAbs ≤ 1000000) :
    Calls Tryz.prog 14 #[xv, yv] w fun e w' => (∃ v, e = .returned v ∧ w'.ownsRow w.heap.size 3 1 v (difI x y).length (is (difI x y))) ∧ Below w.heap.size w w' := by
  obtain ⟨i0, hi0, hz0, hz1, hz2⟩ := info_parts Tryz.info_int
  have HXY : Box (x.length = y.length) := ⟨hl⟩
  have HEX : Box (∀ j : Nat, (x[j]?.getD 0).natAbs ≤ 1000000 ∧ (y[j]?.getD 0).natAbs ≤ 1000000) := ⟨hb⟩
  have HDI : Hid (sumTo x y (-1) x.length = difI x y) := Lib.hid rfl
  obtain ⟨AX, cx, rfl, hxc, hxm, hxr⟩ := hx
  obtain ⟨AY, cy, rfl, hyc, hym, hyr⟩ := hy
  clear hl hxc hxm hyc hym hb
  go_enter Tryz.func14, Tryz.ntmps14
  go_wp2_with fail
  go_loopw [5, 9] (fun o i wr => ∃ j : Nat, j ≤ x.length ∧ i = .int .i64 j ∧ wr.ownsRow w.heap.size 3 1 o j (is (sumTo x y (-1) j)) ∧ Below w.heap.size w wr) (fun _ i _ => x.length - (intOf i).toNat)
  case atStart => exact ⟨0, Nat.zero_le _, rfl, World.ownsRow_nil _ _ _ _, Below.refl _ _⟩
  case round =>
    obtain ⟨j, hj, rfl, hown, hbw⟩ := hrel
    have HO := Lib.hid hown
    clear hown
    by_cases hlt : j < x.length
    · obtain ⟨ad1, rfl, _, hc1⟩ := (hxr.below hbw (Nat.le_refl _)).i_at hlt
      obtain ⟨ad2, rfl, _, hc2⟩ := (hyr.below hbw (Nat.le_refl _)).i_at (k := j) (by rw [← HXY.out]; exact hlt)
      have hbd := HEX.out j
      have e3 : sumTo x y (-1) (j + 1) = sumTo x y (-1) j ++ [x[j]?.getD 0 - y[j]?.getD 0] := by
        show _ ++ [x[j]?.getD 0 + -1 * y[j]?.getD 0] = _
        rw [show x[j]?.getD 0 + -1 * y[j]?.getD 0 = x[j]?.getD 0 - y[j]?.getD 0 by omega]
      generalize x[j]?.getD 0 = a at *
      generalize y[j]?.getD 0 = b at *
      have E3 := Lib.hid e3
      clear e3
      have hly : (j : Int) < (y.length : Int) := by have := HXY.out; omega
      have hlx : (j : Int) < (x.length : Int) := by omega
      have hj0 : (0 : Int) ≤ (j : Int) := by omega
      have hw2 : IntKind.i64.wrap (a - b) = a - b := IntWalk.i64_in _ (by omega)
      go_wp2
      have hb1 : ad1.block < wr.heap.size := cell_lt_add hc1
      have hb2 : ad2.block < wr.heap.size := cell_lt_add hc2
      go_region_held3 (fun w' => w'.cell? (ad1.add j) = some (.int .i64 a) ∧ w'.cell? (ad2.add j) = some (.int .i64 b))
        (first | go_keep | (go_split_ands; exact ⟨(hgrow.cell_far _ (by rw [add_block]; simp; omega) (by rw [add_block]; exact fun e => by have := (HO.out.lt _ e.symm).1; omega)).trans (by assumption), (hgrow.cell_far _ (by rw [add_block]; simp; omega) (by rw [add_block]; exact fun e => by have := (HO.out.lt _ e.symm).1; omega)).trans (by assumption)⟩))
        ((refine step_append_lies _ (by rfl) _ _ _ (by rfl) w.heap.size 3 i0 _ 1 8 Tryz.underlying41 hi0 hz0 hz1 hz2 rfl (by omega) u5 j _ (by rfl) ((HO.out.alloc _).drew) ⟨wr.heap.size, 0, Option.none⟩ 1 1 [.int .i64 (a - b)] (by rfl) (by rfl) (World.news_of_block (cs := #[.int .i64 (a - b)]) (t := 3) (fr := (0, 0)) (heap_alloc_new wr _)) (by simp [Value.oneCell']) (by omega) (by unfold maxLen; omega) (by omega) (by have := hbw.size; simp; omega) (wr.heap.size + 1) (by simp) ?_; intro gg cap w3 hown3 hgrow hat hlt3))
      clear hw2
      go_wp2
      go_roundw
      case rel =>
        refine ⟨j + 1, by omega, by go_num, ?_, ?_⟩
        · rw [E3.out, is_append]; exact hown3
        · exact ((hbw.alloc hbw.size _).drew).grown hgrow (by have := hbw.size; simp; omega) (fun k hk => (HO.out.lt k hk).1)
      case measure => simp [intOf]; omega
    · obtain rfl : j = x.length := by omega
      have HRI : Hid (wr.ownsRow w.heap.size 3 1 u5 (difI x y).length (is (difI x y))) := Lib.hid (by
        have h := HO.out
        rw [HDI.out] at h
        rw [difI_len]
        exact h)
      obtain ⟨AR, cr, e9⟩ := (ORow.of_own HRI.out).shape
      subst e9
      clear HO
      go_wp2_with fail
      go_ret
      exact ⟨⟨_, rfl, HRI.out⟩, hbw⟩

set_option maxRecDepth 100000 in
set_option maxHeartbeats 4000000 in
theorem rooted_own39 (A : Option Addr) (c : Nat) (l : List (List Int)) (k0 : Nat) (w : World) (hl : RowsAt w w.heap.size A l) (hk0 : k0 < l.length) (hn : l.length ≤ 1000) (n : Nat) (hn2 : n ≤ 1000) (hln : ∀ x ∈ l, x.length = n) (hb : ∀ x ∈ l, ∀ j : Nat, (x[j]?.getD 0).natAbs ≤ 1000000) :
    Calls Tryz.prog 24 #[.slice A l.length c, .int .i64 k0] w fun e w' => (∃ v, e = .returned v ∧ LRowD w' w.heap.size v (rootL l l[k0])) ∧ Below w.heap.size w w' := by
  obtain ⟨i0, hi0, hz0, hz1, hz2⟩ := info_parts Tryz.info_row
  obtain ⟨b, o, rv, rfl, hab, hca, hrow⟩ := rows_pl hl (List.getElem?_eq_getElem hk0)
  have HL : Box (RowsAt w w.heap.size (some ⟨b, o, Option.none⟩) l) := ⟨hl⟩
  have HLN : Box (∀ x ∈ l, x.length = n) := ⟨hln⟩
  have HBD : Box (∀ x ∈ l, ∀ j : Nat, (x[j]?.getD 0).natAbs ≤ 1000000) := ⟨hb⟩
  have HR := Lib.hid hrow
  have HRL := Lib.hid (hln _ (List.getElem_mem hk0))
  have HRB : Box (∀ j : Nat, ((l[k0]'hk0)[j]?.getD 0).natAbs ≤ 1000000) := ⟨hb _ (List.getElem_mem hk0)⟩
  have hk0i : (k0 : Int) < (l.length : Int) := by omega
  have hk00 : (0 : Int) ≤ (k0 : Int) := by omega
  generalize l[k0]'hk0 = r at *
  obtain ⟨AR, cr, rfl⟩ := hrow.shape
  clear hl hln hb hrow
  go_enter Tryz.func24, Tryz.ntmps24
  go_wp2_with fail
  go_loopw [5, 10] (fun out i wr => ∃ (k : Nat), k ≤ l.length ∧ i = .int .i64 k ∧ LRowD wr w.heap.size out (rootL (l.take k) r) ∧ Below w.heap.size w wr) (fun _ i _ => l.length - (intOf i).toNat)
  case atStart => exact ⟨0, Nat.zero_le _, rfl, LRowD.nil _ _, Below.refl _ _⟩
  case round =>
    obtain ⟨k, hk, rfl, hlr, hbw⟩ := hrel
    by_cases hlt : k < l.length
    · obtain ⟨b', o', xv, e', hab2, hcx, hrox⟩ := rows_pl HL.out (List.getElem?_eq_getElem hlt)
      cases e'
      have hcx' := (hbw.cell (p := ⟨b, o + k, Option.none⟩) hab2).trans hcx
      have hca' := (hbw.cell (p := ⟨b, o + k0, Option.none⟩) hab).trans hca
      have HXL := Lib.hid (HLN.out _ (List.getElem_mem hlt))
      have HXB : Box (∀ j : Nat, ((l[k]'hlt)[j]?.getD 0).natAbs ≤ 1000000) := ⟨HBD.out _ (List.getElem_mem hlt)⟩
      have HNX := Lib.hid (rootL_snoc (r := r) hlt)
      have HLE : Hid ((rootL (l.take k) r).length = k) := Lib.hid (by rw [rootL_len, List.length_take]; omega)
      generalize l[k]'hlt = x at *
      have HSU := Lib.hid (sub_own39 xv _ x r wr (hrox.lift hbw) (HR.out.lift hbw) (by rw [HXL.out, HRL.out]) (by rw [HXL.out]; exact hn2) (fun j => ⟨HXB.out j, HRB.out j⟩))
      obtain ⟨AX, cx, rfl⟩ := hrox.shape
      have HLR := Lib.hid hlr
      have HB := Lib.hid hbw
      clear hlr hbw hcx hrox
      go_wp2_with fail
      refine HSU.out.mono ?_
      rintro e w1 ⟨⟨v, rfl, hor⟩, hb1⟩
      have HB1 := Lib.hid (HB.out.trans (hb1.mono HB.out.size))
      obtain ⟨vs, hown0, hvs0, hdis⟩ := HLR.out
      have hlts : ∀ (i : Nat) (u : Value) (g : Nat), vs[i]? = some u → u.ownBlock = some g → g < wr.heap.size := LRowD.lts hown0 hvs0
      have hown := own_below hown0 hb1
      have hvs : ∀ (j : Nat) (y : List Int), (rootL (l.take k) r)[j]? = some y → ∃ u, vs[j]? = some u ∧ w1.ownsRow w.heap.size 3 1 u y.length (is y) := fun j y hj => by
        obtain ⟨u, h1, h2⟩ := hvs0 j y hj
        exact ⟨u, h1, own_below h2 hb1⟩
      have hws : w.heap.size ≤ wr.heap.size := HB.out.size
      clear hb1 HLR HB HSU hown0 hvs0
      have HOR := Lib.hid hor
      obtain ⟨AD, cd, rfl⟩ := (ORow.of_own hor).shape
      rw [HLE.out] at hown
      have HO := Lib.hid hown
      have HVS := Lib.hid hvs
      have HDS := Lib.hid hdis
      have HLT := Lib.hid hlts
      have hwk : w.heap.size ≤ w1.heap.size := HB1.out.size
      clear hor hown hvs hdis hlts
      go_wp2_with (at_builtin; refine wpList_append_own _ rfl _ _ _ rfl w.heap.size 41 i0 (.slice Option.none 0 0) 1 24 Tryz.underlying30 hi0 hz0 hz1 hz2 rfl (by decide) _ _ _ rfl (HO.out.alloc _) ⟨w1.heap.size, 0, Option.none⟩ 1 1 [_] rfl rfl (cell_one_new _ _ _) (by intro u hu; simp at hu; subst hu; rfl) (by unfold maxLen; omega) (by omega) (by simp; omega) ?_; intro v9 w9 hown9 hg9 _)
      go_roundw
      case rel =>
        refine ⟨k + 1, by omega, by go_num, ?_, (HB1.out.alloc hwk _).grown hg9 (by simp; omega) (fun k hk => (HO.out.lt k hk).1)⟩
        rw [HNX.out]
        have hO := HO.out
        rw [← HLE.out] at hO hown9
        exact LRowD.snoc (hO.alloc _) (fun j y hj => by obtain ⟨u, h1, h2⟩ := HVS.out j y hj; exact ⟨u, h1, h2.alloc _⟩) HDS.out HLT.out (HOR.out.alloc _) hws hown9 hg9
      case measure => simp [intOf]; omega
    · obtain rfl : k = l.length := by omega
      rw [List.take_length] at hlr
      have HLR := Lib.hid hlr
      obtain ⟨A1, c1, rfl⟩ := hlr.lrow.shape
      clear hlr
      go_wp2_with fail
      go_ret
      exact ⟨⟨_, rfl, HLR.out⟩, hbw⟩

theorem rooted_first39 (A : Option Addr) (c : Nat) (l : List (List Int)) (w : World) (hl : RowsAt w w.heap.size A l) (h0 : 0 < l.length) (hn : l.length ≤ 1000) (n : Nat) (hn2 : n ≤ 1000) (hln : ∀ x ∈ l, x.length = n) (hb : ∀ x ∈ l, ∀ j : Nat, (x[j]?.getD 0).natAbs ≤ 1000000) :
    Calls Tryz.prog 24 #[.slice A l.length c, .int .i64 0] w fun e w' => (∃ v, e = .returned v ∧ LRowD w' w.heap.size v (rootL l (l[0]?.getD []))) ∧ Below w.heap.size w w' := by
  have h := rooted_own39 A c l 0 w hl h0 hn n hn2 hln hb
  rw [List.getElem?_eq_getElem h0]
  exact h

end Go.Proofs.YtaiglcbgllnciaaGreatDoor
