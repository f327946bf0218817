/- The plain law of TargetKeeps. -/
import Derived.Test.YtcfkclafpbaagaaGreatDoorGTO
namespace Go.Proofs.YtcfkclafpbaagaaGreatDoor
open Go.RowKit Go.Lib

def mnOf (p x : List Int) : List Int := if ltR p (cOf p x) (rOf p x) then cOf p x else rOf p x
theorem selsW_mem {p : List Int} {l : List (List Int)} {y : List Int} : y ∈ selsW p (rOf p) (cOf p) l l.length ↔ ∃ x ∈ l, zeroB (rOf p x) = false ∧ y = rOf p x := by
  unfold selsW
  rw [List.take_length, List.mem_flatMap]
  constructor
  · rintro ⟨x, hx, h⟩
    unfold selW at h
    split at h
    · simp at h
    · rename_i hz; exact ⟨x, hx, by simpa using hz, List.mem_singleton.1 h⟩
  · rintro ⟨x, hx, hz, rfl⟩
    exact ⟨x, hx, by unfold selW; rw [hz]; simp⟩
theorem selsP_mem {p : List Int} {l : List (List Int)} {y : List Int} : y ∈ selsP p (rOf p) (cOf p) l l.length ↔ ∃ x ∈ l, zeroB (rOf p x) = false ∧ (y = rOf p x ∨ y = cOf p x) := by
  unfold selsP
  rw [List.take_length, List.mem_flatMap]
  constructor
  · rintro ⟨x, hx, h⟩
    unfold selP at h
    split at h
    · simp at h
    · rename_i hz; exact ⟨x, hx, by simpa using hz, by simpa using h⟩
  · rintro ⟨x, hx, hz, h⟩
    exact ⟨x, hx, by unfold selP; rw [hz]; simpa using h⟩
theorem selsL_mem {p : List Int} {l : List (List Int)} {y : List Int} : y ∈ selsL p (rOf p) (cOf p) l l.length ↔ ∃ x ∈ l, zeroB (rOf p x) = false ∧ y = mnOf p x := by
  unfold selsL
  rw [List.take_length, List.mem_flatMap]
  constructor
  · rintro ⟨x, hx, h⟩
    unfold selL at h
    split at h
    · simp at h
    · rename_i hz; exact ⟨x, hx, by simpa using hz, List.mem_singleton.1 h⟩
  · rintro ⟨x, hx, hz, rfl⟩
    refine ⟨x, hx, ?_⟩
    unfold selL
    rw [hz]
    exact List.mem_singleton.2 rfl

section
variable {p : List Int} {a : Nat} {A : List Nat}

theorem zero_neg {y : List Int} (h : zeroB y = true) : negL y = y := by
  unfold zeroB at h
  rw [Bool.not_eq_true', List.any_eq_false] at h
  unfold negL
  conv => rhs; rw [← List.map_id y]
  exact List.map_congr_left fun z hz => by
    have := h z hz
    simp at this
    simp [this]
theorem nz_c (hT : TabOk p a A) {x : List Int} (h : x.length = p.length) (hz : zeroB (rOf p x) = false) : zeroB (cOf p x) = false := by
  cases hc : zeroB (cOf p x)
  · rfl
  · exfalso
    have hl : (cOf p x).length = p.length := by rw [cOf_eq, rOf_len, negL_len]; exact h
    have e1 : cOf p (cOf p x) = rOf p (cOf p x) := by rw [cOf_eq p (cOf p x), zero_neg hc]
    have e2 := r_ne_c hT hl e1.symm
    rw [← e1, cOf_cOf hT h, hz] at e2
    cases e2
theorem r_ne (hT : TabOk p a A) {x : List Int} (h : x.length = p.length) (hz : zeroB (rOf p x) = false) : rOf p x ≠ cOf p x := fun e => by
  have := r_ne_c hT h e
  rw [hz] at this
  cases this
theorem r_len {x : List Int} (h : x.length = p.length) : (rOf p x).length = p.length := by rw [rOf_len]; exact h
theorem c_len {x : List Int} (h : x.length = p.length) : (cOf p x).length = p.length := by rw [cOf_eq, rOf_len, negL_len]; exact h
theorem mn_r (hT : TabOk p a A) {x : List Int} (h : x.length = p.length) : mnOf p (rOf p x) = mnOf p x := by
  unfold mnOf
  rw [rOf_rOf hT h, cOf_rOf hT h]
theorem mn_c (hT : TabOk p a A) {x : List Int} (h : x.length = p.length) (hz : zeroB (rOf p x) = false) : mnOf p (cOf p x) = mnOf p x := by
  have hP := primed hT.pe
  unfold mnOf
  rw [rOf_cOf hT h, cOf_cOf hT h]
  rcases ltR_tot hP (r_len h) (c_len h) (r_ne hT h hz) with h1 | h1
  · rw [if_pos h1, if_neg (by rw [ltR_asym h1]; simp)]
  · rw [if_pos h1, if_neg (by rw [ltR_asym h1]; simp)]
theorem mn_or (p x : List Int) : mnOf p x = rOf p x ∨ mnOf p x = cOf p x := by
  unfold mnOf
  split
  · exact .inr rfl
  · exact .inl rfl
/-- The lesser one is less than its complement. -/
theorem mn_lt (hT : TabOk p a A) {x : List Int} (h : x.length = p.length) (hz : zeroB (rOf p x) = false) : ltR p (mnOf p x) (cOf p (mnOf p x)) = true := by
  have hP := primed hT.pe
  unfold mnOf
  by_cases h1 : ltR p (cOf p x) (rOf p x) = true
  · rw [if_pos h1, cOf_cOf hT h]; exact h1
  · rw [if_neg h1, cOf_rOf hT h]
    rcases ltR_tot hP (r_len h) (c_len h) (r_ne hT h hz) with h2 | h2
    · exact h2
    · exact absurd h2 h1
theorem mn_rr (hT : TabOk p a A) {x : List Int} (h : x.length = p.length) : rOf p (mnOf p x) = mnOf p x := by
  rcases mn_or p x with e | e
  · rw [e]; exact rOf_rOf hT h
  · rw [e]; exact rOf_cOf hT h
theorem mn_cc (hT : TabOk p a A) {x : List Int} (h : x.length = p.length) : cOf p (cOf p (mnOf p x)) = mnOf p x := by
  have hl : (mnOf p x).length = p.length := by
    rcases mn_or p x with e | e
    · rw [e]; exact r_len h
    · rw [e]; exact c_len h
  rw [cOf_cOf hT hl, mn_rr hT h]

variable {L : List (List Int)}
def kR (p : List Int) (L : List (List Int)) : List (List Int) := onceL p (selsW p (rOf p) (cOf p) L L.length)
def kLs (p : List Int) (L : List (List Int)) : List (List Int) := onceL p (selsL p (rOf p) (cOf p) L L.length)
def kCl (p : List Int) (L : List (List Int)) : List (List Int) := onceL p (selsP p (rOf p) (cOf p) L L.length)

theorem kR_ok (hT : TabOk p a A) (hL : ∀ x ∈ L, x.length = p.length) : SLt p (kR p L) ∧ ∀ y, y ∈ kR p L ↔ ∃ x ∈ L, zeroB (rOf p x) = false ∧ y = rOf p x := by
  obtain ⟨h1, h2⟩ := onceL_slt (primed hT.pe) (l := selsW p (rOf p) (cOf p) L L.length) (fun y hy => by obtain ⟨x, hx, _, rfl⟩ := selsW_mem.1 hy; exact r_len (hL x hx))
  exact ⟨h1, fun y => (h2 y).trans selsW_mem⟩
theorem kL_ok (hT : TabOk p a A) (hL : ∀ x ∈ L, x.length = p.length) : SLt p (kLs p L) ∧ ∀ y, y ∈ kLs p L ↔ ∃ x ∈ L, zeroB (rOf p x) = false ∧ y = mnOf p x := by
  obtain ⟨h1, h2⟩ := onceL_slt (primed hT.pe) (l := selsL p (rOf p) (cOf p) L L.length) (fun y hy => by
    obtain ⟨x, hx, _, rfl⟩ := selsL_mem.1 hy
    rcases mn_or p x with e | e
    · rw [e]; exact r_len (hL x hx)
    · rw [e]; exact c_len (hL x hx))
  exact ⟨h1, fun y => (h2 y).trans selsL_mem⟩
theorem kC_ok (hT : TabOk p a A) (hL : ∀ x ∈ L, x.length = p.length) : SLt p (kCl p L) ∧ ∀ y, y ∈ kCl p L ↔ ∃ x ∈ L, zeroB (rOf p x) = false ∧ (y = rOf p x ∨ y = cOf p x) := by
  obtain ⟨h1, h2⟩ := onceL_slt (primed hT.pe) (l := selsP p (rOf p) (cOf p) L L.length) (fun y hy => by
    obtain ⟨x, hx, _, h⟩ := selsP_mem.1 hy
    rcases h with rfl | rfl
    · exact r_len (hL x hx)
    · exact c_len (hL x hx))
  exact ⟨h1, fun y => (h2 y).trans selsP_mem⟩
theorem kR_len (hT : TabOk p a A) (hL : ∀ x ∈ L, x.length = p.length) : ∀ y ∈ kR p L, y.length = p.length := fun y hy => by
  obtain ⟨x, hx, _, rfl⟩ := ((kR_ok hT hL).2 y).1 hy
  exact r_len (hL x hx)
theorem kL_len (hT : TabOk p a A) (hL : ∀ x ∈ L, x.length = p.length) : ∀ y ∈ kLs p L, y.length = p.length := fun y hy => by
  obtain ⟨x, hx, _, rfl⟩ := ((kL_ok hT hL).2 y).1 hy
  rcases mn_or p x with e | e
  · rw [e]; exact r_len (hL x hx)
  · rw [e]; exact c_len (hL x hx)
theorem kC_len (hT : TabOk p a A) (hL : ∀ x ∈ L, x.length = p.length) : ∀ y ∈ kCl p L, y.length = p.length := fun y hy => by
  obtain ⟨x, hx, _, h⟩ := ((kC_ok hT hL).2 y).1 hy
  rcases h with rfl | rfl
  · exact r_len (hL x hx)
  · exact c_len (hL x hx)

/-- Reduce changes nothing in its result. -/
theorem keep_R (hT : TabOk p a A) (hL : ∀ x ∈ L, x.length = p.length) : kR p (kR p L) = kR p L := by
  obtain ⟨s1, m1⟩ := kR_ok hT (kR_len hT hL)
  obtain ⟨s2, m2⟩ := kR_ok hT hL
  refine slt_ext s1 s2 fun y => ?_
  rw [m1]
  constructor
  · rintro ⟨z, hz, _, rfl⟩
    obtain ⟨x, hx, h1, rfl⟩ := (m2 z).1 hz
    rw [rOf_rOf hT (hL x hx)]; exact hz
  · intro hy
    obtain ⟨x, hx, h1, rfl⟩ := (m2 y).1 hy
    exact ⟨_, hy, by rw [rOf_rOf hT (hL x hx)]; exact h1, (rOf_rOf hT (hL x hx)).symm⟩
/-- Lesser of Closed is Lesser. -/
theorem keep_L (hT : TabOk p a A) (hL : ∀ x ∈ L, x.length = p.length) : kLs p (kCl p L) = kLs p L := by
  obtain ⟨s1, m1⟩ := kL_ok hT (kC_len hT hL)
  obtain ⟨s2, m2⟩ := kL_ok hT hL
  obtain ⟨_, m3⟩ := kC_ok hT hL
  refine slt_ext s1 s2 fun y => ?_
  rw [m1, m2]
  constructor
  · rintro ⟨z, hz, _, rfl⟩
    obtain ⟨x, hx, h1, h2⟩ := (m3 z).1 hz
    rcases h2 with rfl | rfl
    · exact ⟨x, hx, h1, mn_r hT (hL x hx)⟩
    · exact ⟨x, hx, h1, mn_c hT (hL x hx) h1⟩
  · rintro ⟨x, hx, h1, rfl⟩
    exact ⟨rOf p x, (m3 _).2 ⟨x, hx, h1, .inl rfl⟩, by rw [rOf_rOf hT (hL x hx)]; exact h1, (mn_r hT (hL x hx)).symm⟩
theorem pair_mn (hT : TabOk p a A) {x y : List Int} (h : x.length = p.length) : (y = rOf p (mnOf p x) ∨ y = cOf p (mnOf p x)) ↔ (y = rOf p x ∨ y = cOf p x) := by
  rcases mn_or p x with e | e
  · rw [e, rOf_rOf hT h, cOf_rOf hT h]
  · rw [e, rOf_cOf hT h, cOf_cOf hT h]
    exact Or.comm
theorem nz_mn (hT : TabOk p a A) {x : List Int} (h : x.length = p.length) (hz : zeroB (rOf p x) = false) : zeroB (rOf p (mnOf p x)) = false := by
  rw [mn_rr hT h]
  rcases mn_or p x with e | e
  · rw [e]; exact hz
  · rw [e]; exact nz_c hT h hz
/-- Closed of Lesser is Closed. -/
theorem keep_C (hT : TabOk p a A) (hL : ∀ x ∈ L, x.length = p.length) : kCl p (kLs p L) = kCl p L := by
  obtain ⟨s1, m1⟩ := kC_ok hT (kL_len hT hL)
  obtain ⟨s2, m2⟩ := kC_ok hT hL
  obtain ⟨_, m3⟩ := kL_ok hT hL
  refine slt_ext s1 s2 fun y => ?_
  rw [m1, m2]
  constructor
  · rintro ⟨z, hz, _, h2⟩
    obtain ⟨x, hx, h1, rfl⟩ := (m3 z).1 hz
    exact ⟨x, hx, h1, (pair_mn hT (hL x hx)).1 h2⟩
  · rintro ⟨x, hx, h1, h2⟩
    exact ⟨mnOf p x, (m3 _).2 ⟨x, hx, h1, rfl⟩, nz_mn hT (hL x hx) h1, (pair_mn hT (hL x hx)).2 h2⟩
theorem slt_nodup {l : List (List Int)} (h : SLt p l) : l.Nodup := List.Pairwise.imp (fun {x y} hxy e => by subst e; rw [ltR_irr] at hxy; cases hxy) h
/-- Closed has twice as many as Lesser. -/
theorem keep_len (hT : TabOk p a A) (hL : ∀ x ∈ L, x.length = p.length) : (kCl p L).length = 2 * (kLs p L).length := by
  obtain ⟨s2, m2⟩ := kC_ok hT hL
  obtain ⟨s3, m3⟩ := kL_ok hT hL
  have hlt : ∀ z ∈ kLs p L, ltR p z (cOf p z) = true := fun z hz => by
    obtain ⟨x, hx, h1, rfl⟩ := (m3 z).1 hz
    exact mn_lt hT (hL x hx) h1
  have hcc : ∀ z ∈ kLs p L, cOf p (cOf p z) = z := fun z hz => by
    obtain ⟨x, hx, h1, rfl⟩ := (m3 z).1 hz
    exact mn_cc hT (hL x hx)
  have hperm : (kCl p L).Perm (kLs p L ++ (kLs p L).map (cOf p)) := by
    refine (List.perm_ext_iff_of_nodup (slt_nodup s2) ?_).2 fun y => ?_
    · rw [List.nodup_append]
      refine ⟨slt_nodup s3, ?_, fun u hu v hv e => ?_⟩
      · unfold List.Nodup
        rw [List.pairwise_map]
        exact List.Pairwise.imp_of_mem (fun {x y} hx hy hne e => hne (by rw [← hcc x hx, ← hcc y hy, e])) (slt_nodup s3)
      · obtain ⟨z, hz, rfl⟩ := List.mem_map.1 hv
        subst e
        have h1 := hlt _ hu
        rw [hcc z hz] at h1
        have h2 := hlt z hz
        rw [ltR_asym h1] at h2
        cases h2
    · rw [m2, List.mem_append, List.mem_map]
      constructor
      · rintro ⟨x, hx, h1, h2⟩
        have hz := (m3 (mnOf p x)).2 ⟨x, hx, h1, rfl⟩
        rcases (pair_mn hT (hL x hx)).2 h2 with e | e
        · left; rw [e, mn_rr hT (hL x hx)]; exact hz
        · right; exact ⟨_, hz, e.symm⟩
      · rintro (hy | ⟨z, hz, rfl⟩)
        · obtain ⟨x, hx, h1, rfl⟩ := (m3 y).1 hy
          exact ⟨x, hx, h1, mn_or p x⟩
        · obtain ⟨x, hx, h1, rfl⟩ := (m3 z).1 hz
          exact ⟨x, hx, h1, (pair_mn hT (hL x hx)).1 (.inr rfl)⟩
  rw [hperm.length_eq, List.length_append, List.length_map]
  omega
end

end Go.Proofs.YtcfkclafpbaagaaGreatDoor
