/- Odd over any primes: what the quick quotient decides. -/
import Derived.Test.YtcfkclafpbaagaaGreatDoorBerG
import Derived.Test.YtcfkclafpbaagaaGreatDoorGTP
import Derived.Test.YtcfkclafpbaagaaGreatDoorClosedG
namespace Go.Proofs.YtcfkclafpbaagaaGreatDoor
open Go.RowKit Go.Lib Go.Shelf

theorem lgA_two : lgA 2 = (NN : Int) := by
  have e : fastO 2 = some 67108864 := by decide +kernel
  unfold lgA fastL
  rw [show (2 : Int).toNat = 2 from rfl, e, NN_val]
  rfl
theorem lgB_two : lgB 2 = (NN : Int) := by unfold lgB; rw [if_pos rfl, lgA_two]
theorem qSum_bd {p x : List Int} (hx : ∀ i : Nat, (x[i]?.getD 0).natAbs ≤ 6) (hl : ∀ i, i < p.length → (lgA (p[i]?.getD 0)).natAbs ≤ 469762048) : ∀ k, k ≤ p.length → (qSum p x k).natAbs ≤ k * 2818572288
  | 0, _ => by simp [qSum]
  | k + 1, hk => by
    have ih := qSum_bd hx hl k (by omega)
    have h1 : (x[k]?.getD 0 * lgA (p[k]?.getD 0)).natAbs ≤ 6 * 469762048 := by
      rw [Int.natAbs_mul]
      exact Nat.mul_le_mul (hx k) (hl k (by omega))
    rw [qSum, Nat.succ_mul]
    generalize x[k]?.getD 0 * lgA (p[k]?.getD 0) = t at *
    omega

section
variable {p : List Int}
theorem dif_bd (hpe : primeErr p = 0) {u v : Int} (hu : 1 ≤ u ∧ u ≤ 99) (hv : 1 ≤ v ∧ v ≤ 99) (i : Nat) : ((subR (numR p u) (numR p v))[i]?.getD 0).natAbs ≤ 6 := by
  obtain ⟨h1, h2⟩ := num_sub hpe hu hv
  by_cases hi : i < (subR (numR p u) (numR p v)).length
  · rw [List.getElem?_eq_getElem hi]; exact h2 _ (List.getElem_mem hi)
  · rw [List.getElem?_eq_none (by omega)]; decide
theorem q_bdG (hpe : primeErr p = 0) (h2 : p[0]?.getD 0 = 2) {x : List Int} (hx : ∀ i : Nat, (x[i]?.getD 0).natAbs ≤ 6) : (qOf p x).natAbs ≤ 253 := by
  have h6 := (right_primes hpe).1
  have hb := qSum_bd (p := p) hx (fun i hi => by
    have h := (right_primes hpe).2.2 i hi
    obtain ⟨_, k2, _⟩ := fast_all (p[i]?.getD 0).toNat (by omega) (by omega)
    unfold lgA
    omega) p.length (Nat.le_refl _)
  unfold qOf
  split
  · have := hx 0; omega
  · rw [h2, lgA_two, NN_val]
    have : (qSum p x p.length).natAbs ≤ 6 * 2818572288 := Nat.le_trans hb (Nat.mul_le_mul_right _ h6)
    omega
theorem chk_add (hpe : primeErr p = 0) {x : List Int} (hl : x.length = p.length) (hx : ∀ i : Nat, (x[i]?.getD 0).natAbs ≤ 6) {q : Int} (hq : q.natAbs ≤ 253) : chkAll p [addE x (-q)] = 0 := by
  have hp := (right_primes hpe).2.1
  refine chk_small hpe (by rw [addE_len, hl]) fun v hv => ?_
  obtain ⟨i, hi, rfl⟩ := List.getElem_of_mem hv
  have hb : ((addE x (-q))[i]?.getD 0).natAbs ≤ 300 := by
    rcases Nat.eq_zero_or_pos i with h0 | h0
    · subst h0
      rw [addE_get0 _ _ (by omega)]
      have := hx 0
      omega
    · rw [addE_get _ _ _ h0]
      have := hx i
      omega
  rw [List.getElem?_eq_getElem hi] at hb
  simp at hb
  omega
theorem redOkG (hpe : primeErr p = 0) (h2 : p[0]?.getD 0 = 2) {l : List Int} (hok : NumsOk p l) {u v : Int} (hu : u ∈ l) (hv : v ∈ l) : RedOk p (subR (numR p u) (numR p v)) (p.length - 1) (qOf p (subR (numR p u) (numR p v))) := by
  obtain ⟨u1, u2, u3⟩ := hok u hu
  obtain ⟨v1, v2, v3⟩ := hok v hv
  have h6 := (right_primes hpe).1
  have hp := (right_primes hpe).2.1
  obtain ⟨hl, hs⟩ := num_sub hpe ⟨u1, u2⟩ ⟨v1, v2⟩
  have hbd := dif_bd hpe ⟨u1, u2⟩ ⟨v1, v2⟩
  have hq := q_bdG hpe h2 hbd
  have su : leftTo p u.toNat p.length = 1 := by
    unfold smB at u3
    rw [Bool.and_eq_true, decide_eq_true_eq] at u3
    exact u3.1
  have sv : leftTo p v.toNat p.length = 1 := by
    unfold smB at v3
    rw [Bool.and_eq_true, decide_eq_true_eq] at v3
    exact v3.1
  have hgood : ∀ i, i < p.length → ∀ e : Int, e.natAbs ≤ 20000 → Good (p[i]?.getD 0) e := fun i hi e he => by
    have h := (right_primes hpe).2.2 i hi
    obtain ⟨k1, _⟩ := fast_all (p[i]?.getD 0).toNat (by omega) (by omega)
    exact ⟨h.1, by omega, he, k1⟩
  refine ⟨⟨by omega, by omega, by omega, hgood 0 hp 1 (by decide), fun i hi _ => hgood i (by omega) _ (by have := hbd i; omega), fun z hz => Nat.le_trans (hs z hz) (by decide), ?_, by omega⟩, hpe, chk_small hpe hl fun z hz => by have := hs z hz; omega, chk_add hpe hl hbd hq, by omega⟩
  by_cases hpt : pureT (subR (numR p u) (numR p v)) = true
  · exact .inl ⟨hpt, by unfold qOf; rw [if_pos hpt]⟩
  · right
    refine ⟨by simpa using hpt, ?_⟩
    have hqo : qOf p (subR (numR p u) (numR p v)) = qSum p (subR (numR p u) (numR p v)) p.length / (NN : Int) := by unfold qOf; rw [if_neg hpt, h2, lgA_two]
    rw [Nat.sub_add_cancel (by omega), h2, lgA_two, lgB_two, hqo]
    obtain ⟨a, rfl⟩ : ∃ a : Nat, u = (a : Int) := ⟨u.toNat, by omega⟩
    obtain ⟨b, rfl⟩ : ∃ b : Nat, v = (b : Int) := ⟨v.toNat, by omega⟩
    rw [Int.toNat_natCast] at su sv
    exact quot_num hpe h2 (by omega) (by omega) su sv hpt
theorem ok99 {l : List Int} (h : NumsOk p l) : N99 l := fun z hz => ⟨(h z hz).1, (h z hz).2.1⟩
theorem rdsOkG (hpe : primeErr p = 0) (h2 : p[0]?.getD 0 = 2) {l : List Int} (hok : NumsOk p l) : RdsOk p (p.length - 1) (difR p l) (rOf p) (cOf p) := by
  have hinv : ∀ u ∈ l, ∀ v ∈ l, timesTo (subR (numR p u) (numR p v)) (-1) (subR (numR p u) (numR p v)).length = subR (numR p v) (numR p u) := fun u _ v _ => by rw [neg_map, negL_subR (by rw [numR_len, numR_len])]
  refine ⟨fun x hx => ?_, fun x hx => ?_, fun x hx => ?_, hpe⟩
  · obtain ⟨u, hu, v, hv, rfl⟩ := (difR_mem hpe (ok99 hok)).1 hx
    exact ⟨_, redOkG hpe h2 hok hu hv, rfl⟩
  · obtain ⟨u, hu, v, hv, rfl⟩ := (difR_mem hpe (ok99 hok)).1 hx
    refine ⟨qOf p (timesTo (subR (numR p u) (numR p v)) (-1) (subR (numR p u) (numR p v)).length), ?_, rfl⟩
    rw [hinv u hu v hv]
    exact redOkG hpe h2 hok hv hu
  · obtain ⟨u, hu, v, hv, rfl⟩ := (difR_mem hpe (ok99 hok)).1 hx
    refine chk_both (redOkG hpe h2 hok hu hv).cr ?_
    unfold cOf rOf
    rw [hinv u hu v hv]
    exact (redOkG hpe h2 hok hv hu).cr
theorem dia_eqG (hpe : primeErr p = 0) {l : List Int} (hok : NumsOk p l) : onceL p (dia (rOf p) (prsR (numsR p l))) = kR p (difR p l) := by
  have h9 := ok99 hok
  have hsm : ∀ x ∈ prsR (numsR p l), x.length = p.length := fun x hx => by
    obtain ⟨a, ha, b, hb, rfl⟩ := prsR_mem.1 hx
    obtain ⟨u, hu, rfl⟩ := List.mem_map.1 ha
    obtain ⟨v, hv, rfl⟩ := List.mem_map.1 hb
    exact (num_sub hpe (h9 u hu) (h9 v hv)).1
  have hx : ∀ x, x ∈ prsR (numsR p l) ↔ x ∈ difR p l := fun x => ((onceL_slt (primed hpe) hsm).2 x).symm
  obtain ⟨s1, m1⟩ := onceL_slt (primed hpe) (l := dia (rOf p) (prsR (numsR p l))) (fun y hy => by
    obtain ⟨x, hx, _, rfl⟩ := dia_mem.1 hy
    rw [rOf_len]; exact hsm x hx)
  obtain ⟨s2, m2⟩ := onceL_slt (primed hpe) (l := selsW p (rOf p) (cOf p) (difR p l) (difR p l).length) (fun y hy => by
    obtain ⟨x, hx2, _, rfl⟩ := selsW_mem.1 hy
    rw [rOf_len]; exact hsm x ((hx x).2 hx2))
  refine slt_ext s1 s2 fun y => ?_
  show y ∈ onceL p (dia (rOf p) (prsR (numsR p l))) ↔ y ∈ onceL p (selsW p (rOf p) (cOf p) (difR p l) (difR p l).length)
  rw [m1, m2, dia_mem, selsW_mem]
  constructor
  · rintro ⟨x, h1, h2⟩; exact ⟨x, (hx x).1 h1, h2⟩
  · rintro ⟨x, h1, h2⟩; exact ⟨x, (hx x).2 h1, h2⟩
theorem tOddG (hpe : primeErr p = 0) (h2 : p[0]?.getD 0 = 2) {m : Nat} (hm1 : 1 ≤ m) (hm : m ≤ 99) (hlen : (oddZ (smTo p m)).length ≤ 20) (pv : Value) (W : World) (hS : Std W) (hp : IsRow W W.heap.size pv p) :
    Calls Tryz.prog 22 #[pv, .int .i64 m] W fun e w' => ListPost (oddR p m) e w' ∧ Below W.heap.size W w' :=
  odd_ok pv p m (oddR p m) W hS hp hpe h2 hm1 hm (fun lv W k1 k2 k3 => diamond_ok pv lv p (oddZ (smTo p m)) (p.length - 1) (rOf p) (cOf p) W k1 k2 hpe k3 hlen (odd_ok2 hm) (prsOk_gen hpe (odd_99 hm) hlen) (rdsOkG hpe h2 (odd_ok2 hm)))
theorem tLawDiaG (hpe : primeErr p = 0) (h2 : p[0]?.getD 0 = 2) {m : Nat} (hm : m ≤ 99) (hlen : (oddZ (smTo p m)).length ≤ 20) (pv lv : Value) (W : World) (hS : Std W) (hp : IsRow W W.heap.size pv p) (hl : IsRow W W.heap.size lv (oddZ (smTo p m))) :
    Calls Tryz.prog 27 #[pv, lv] W fun e w' => (∃ v, e = .returned v ∧ LstV w' v (oddR p m)) ∧ Below W.heap.size W w' := by
  have hh := diamond_any29 pv lv p (oddZ (smTo p m)) (p.length - 1) (rOf p) W hS hp hpe hl (odd_ok2 hm) (fun u hu v hv => ⟨_, redOkG hpe h2 (odd_ok2 hm) hu hv, rfl⟩) hlen
  rw [dia_eqG hpe (odd_ok2 hm)] at hh
  exact hh
end

end Go.Proofs.YtcfkclafpbaagaaGreatDoor
