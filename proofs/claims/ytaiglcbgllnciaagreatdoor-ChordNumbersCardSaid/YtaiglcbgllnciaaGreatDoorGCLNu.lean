/- The plain law of described chords. -/
import Derived.Test.YtaiglcbgllnciaaGreatDoorGCKNu
import Derived.Test.YtaiglcbgllnciaaGreatDoorGCGNu
import Derived.Test.YtaiglcbgllnciaaGreatDoorGCDNu
import Derived.Test.YtaiglcbgllnciaaGreatDoorGCJNu
namespace Go.Proofs.YtaiglcbgllnciaaGreatDoor
open Go.RowKit Go.Lib

theorem filt_len {α : Type} (f g : α → Bool) (h : ∀ y, ¬ (f y = true ∧ g y = true)) : ∀ s : List α, (s.filter f).length + (s.filter g).length ≤ s.length
  | [] => Nat.le_refl _
  | y :: s => by
    have ih := filt_len f g h s
    have hy := h y
    rw [List.filter_cons, List.filter_cons]
    cases hf : f y <;> cases hg : g y
    · simp; omega
    · simp; omega
    · simp; omega
    · exact absurd ⟨hf, hg⟩ hy
theorem ltR_not2 (p x y : List Int) : ¬ (ltR p y x = true ∧ ltR p x y = true) := by
  unfold ltR
  rintro ⟨h1, h2⟩
  have h3 := of_decide_eq_true h1
  have h4 := of_decide_eq_true h2
  omega
theorem insR_len (p : List Int) (s : List (List Int)) (x : List Int) : (insR p s x).length ≤ s.length + 1 := by
  unfold insR
  rw [List.length_append, List.length_cons]
  have := filt_len (fun y => ltR p y x) (fun y => ltR p x y) (fun y h => ltR_not2 p x y h) s
  omega
theorem onceL_len (p : List Int) (l : List (List Int)) : (onceL p l).length ≤ l.length := by
  have key : ∀ (l s : List (List Int)), (l.foldl (insR p) s).length ≤ s.length + l.length := by
    intro l
    induction l with
    | nil => intro s; exact Nat.le_refl _
    | cons x l ih =>
      intro s
      have h1 := ih (insR p s x)
      have h2 := insR_len p s x
      rw [List.foldl_cons, List.length_cons]
      omega
  have := key l []
  unfold onceL
  simpa using this

/-- Notes of a chord of small exponents. -/
structure BaseC (p : List Int) (c : List (List Int)) : Prop where
  len : ∀ x ∈ c, x.length = p.length
  sm : ∀ x ∈ c, ∀ t : Nat, (x[t]?.getD 0).natAbs ≤ 6
/-- Notes that are those of c less z, but for equaves. -/
def TailC (p : List Int) (c : List (List Int)) (z : List Int) (l : List (List Int)) : Prop :=
  (∀ t : Nat, (z[t]?.getD 0).natAbs ≤ 6) ∧ ∀ k ∈ l, k.length = p.length ∧ (k[0]?.getD 0).natAbs ≤ 74 ∧ ∃ x ∈ c, ∀ t : Nat, 1 ≤ t → t < p.length → k[t]?.getD 0 = x[t]?.getD 0 - z[t]?.getD 0
theorem BaseC.tail {p : List Int} {c : List (List Int)} (h : BaseC p c) : TailC p c [] c :=
  ⟨fun t => by simp, fun k hk => ⟨h.len k hk, by have := h.sm k hk 0; omega, k, hk, fun t _ _ => by simp⟩⟩
theorem dif_at {x y : List Int} {t : Nat} (h : t < x.length) : (difI x y)[t]?.getD 0 = x[t]?.getD 0 - y[t]?.getD 0 := difI_get h
theorem smR_mk {p x : List Int} (h : x.length = p.length) (h0 : (x[0]?.getD 0).natAbs ≤ 300) (ht : ∀ t : Nat, 1 ≤ t → t < p.length → (x[t]?.getD 0).natAbs ≤ 12) : SmR p x :=
  ⟨h, h0, fun t h1 => by
    by_cases h2 : t < p.length
    · exact ht t h1 h2
    · rw [List.getElem?_eq_none (by omega)]; decide⟩
theorem TailC.dif {p : List Int} {c : List (List Int)} {z : List Int} {l : List (List Int)} (hb : BaseC p c) (h : TailC p c z l) (hp : 0 < p.length) : ∀ x ∈ l, ∀ y ∈ l, SmR p (difI x y) := by
  intro x hx y hy
  obtain ⟨lx, bx, u, hu, eu⟩ := h.2 x hx
  obtain ⟨ly, by_, v, hv, ev⟩ := h.2 y hy
  refine smR_mk (by rw [difI_len]; exact lx) ?_ fun t h1 h2 => ?_
  · rw [dif_at (by omega)]; omega
  · rw [dif_at (by omega), eu t h1 h2, ev t h1 h2]
    have h3 := hb.sm u hu t
    have h4 := hb.sm v hv t
    omega
theorem TailC.sm {p : List Int} {c : List (List Int)} {z : List Int} {l : List (List Int)} (hb : BaseC p c) (h : TailC p c z l) : ∀ x ∈ l, SmR p x := by
  intro x hx
  obtain ⟨lx, bx, u, hu, eu⟩ := h.2 x hx
  refine smR_mk lx (by omega) fun t h1 h2 => ?_
  rw [eu t h1 h2]
  have h3 := hb.sm u hu t
  have h4 := h.1 t
  omega
theorem TailC.cls {p : List Int} {c : List (List Int)} {z r : List Int} {l : List (List Int)} {a : Nat} {T : List Nat} (hT : TabOk p a T) (hb : BaseC p c) (h : TailC p c z l) (hr : r ∈ l) : ∃ z', TailC p c z' (clsL p l r) := by
  have hpos := hT.pos
  obtain ⟨lr, br, u, hu, eu⟩ := h.2 r hr
  refine ⟨u, fun t => hb.sm u hu t, fun k hk => ?_⟩
  have hl : ∀ y ∈ (rootL l r).map (rOf p), y.length = p.length := fun y hy => by
    obtain ⟨d, hd, rfl⟩ := List.mem_map.1 hy
    obtain ⟨x, hx, rfl⟩ := List.mem_map.1 hd
    unfold rOf
    rw [addE_len, difI_len]
    exact (h.2 x hx).1
  have hk2 := ((onceL_slt (primed hT.pe) hl).2 k).1 hk
  obtain ⟨d, hd, rfl⟩ := List.mem_map.1 hk2
  obtain ⟨x, hx, rfl⟩ := List.mem_map.1 hd
  have hs := h.dif hb hpos x hx r hr
  obtain ⟨lx, bx, v, hv, ev⟩ := h.2 x hx
  have hn := q_near hT hs
  refine ⟨hl _ hk2, ?_, v, hv, fun t h1 h2 => ?_⟩
  · unfold rOf
    rw [addE_get0 _ _ (by rw [difI_len]; omega)]
    omega
  · unfold rOf
    rw [addE_get _ _ _ h1, dif_at (by omega), ev t h1 h2, eu t h1 h2]
    omega
theorem tail_ok {p : List Int} {c : List (List Int)} {z : List Int} {l : List (List Int)} {a : Nat} {T : List Nat} (hT : TabOk p a T) (hb : BaseC p c) (h : TailC p c z l) (h0 : 0 < l.length) (h12 : l.length ≤ 12) (hs : SLt p l) : SmC p l :=
  ⟨⟨hT.pe, h0, h12, fun x hx => smR_chk hT.pe (h.sm hb x hx), hs⟩, hT.le, ⟨a, T, hT⟩, h.dif hb hT.pos⟩
theorem cls_slt {p : List Int} {c : List (List Int)} {z r : List Int} {l : List (List Int)} {a : Nat} {T : List Nat} (hT : TabOk p a T) (h : TailC p c z l) : SLt p (clsL p l r) ∧ (0 < l.length → 0 < (clsL p l r).length) ∧ (clsL p l r).length ≤ l.length := by
  have hl : ∀ y ∈ (rootL l r).map (rOf p), y.length = p.length := fun y hy => by
    obtain ⟨d, hd, rfl⟩ := List.mem_map.1 hy
    obtain ⟨x, hx, rfl⟩ := List.mem_map.1 hd
    unfold rOf
    rw [addE_len, difI_len]
    exact (h.2 x hx).1
  refine ⟨(onceL_slt (primed hT.pe) hl).1, fun h0 => onceL_pos (primed hT.pe) hl (by rw [List.length_map, rootL_len]; exact h0), ?_⟩
  have := onceL_len p ((rootL l r).map (rOf p))
  rw [List.length_map, rootL_len] at this
  exact this

/-- What the contracts want of a chord of small exponents. -/
structure GoodC (p : List Int) (l : List (List Int)) : Prop where
  smc : SmC p l
  cd : ∀ x ∈ closeL p l, ∀ y ∈ closeL p l, SmR p (difI x y)
  c0 : 0 < (closeL p l).length
  c12 : (closeL p l).length ≤ 12
  cc : ∀ x ∈ closeL p l, chkAll p [x] = 0
  cl : ∀ x ∈ closeL p l, x.length = p.length
  cb : ∀ x ∈ closeL p l, ∀ j : Nat, (x[j]?.getD 0).natAbs ≤ 1000000
  lb : ∀ x ∈ l, ∀ j : Nat, (x[j]?.getD 0).natAbs ≤ 1000000
  il : ∀ x ∈ invL p l, x.length ≤ 12
theorem smR_bound {p x : List Int} (h : SmR p x) (j : Nat) : (x[j]?.getD 0).natAbs ≤ 1000000 := by
  rcases Nat.eq_zero_or_pos j with rfl | hj
  · have := h.fst; omega
  · have := h.oth j hj; omega
theorem good_of {p : List Int} {c : List (List Int)} {z : List Int} {l : List (List Int)} {a : Nat} {T : List Nat} (hT : TabOk p a T) (hb : BaseC p c) (h : TailC p c z l) (h0 : 0 < l.length) (h12 : l.length ≤ 12) (hs : SLt p l) : GoodC p l := by
  have hk := tail_ok hT hb h h0 h12 hs
  have hr : l[0]?.getD [] ∈ l := by rw [List.getElem?_eq_getElem h0]; exact List.getElem_mem h0
  obtain ⟨z', h'⟩ := h.cls hT hb hr
  obtain ⟨q1, q2, q3⟩ := cls_slt (r := l[0]?.getD []) hT h
  have hsm := h'.sm hb
  refine ⟨hk, h'.dif hb hT.pos, q2 h0, Nat.le_trans q3 h12, fun x hx => smR_chk hT.pe (hsm x hx), fun x hx => (h'.2 x hx).1, fun x hx j => smR_bound (hsm x hx) j, fun x hx j => smR_bound (h.sm hb x hx) j, fun x hx => ?_⟩
  obtain ⟨r, hr2, rfl⟩ := List.mem_map.1 hx
  exact Nat.le_trans (cls_slt hT h').2.2 (Nat.le_trans q3 h12)

/-! Described chords. -/
theorem wRows_base (n m : Nat) (r : List Int) : BaseC (chPrimes n) (wChord n m r) := by
  obtain ⟨a, T, hT⟩ := tabOk n
  have hl : ∀ x ∈ wRows r (chPrimes n).length m, x.length = (chPrimes n).length := fun x hx => by
    obtain ⟨i, _, rfl⟩ := List.mem_map.1 hx
    exact wRow_len _ _ _
  have hmem := (onceL_slt (primed hT.pe) hl).2
  refine ⟨fun x hx => hl x ((hmem x).1 hx), fun x hx t => ?_⟩
  obtain ⟨i, _, rfl⟩ := List.mem_map.1 ((hmem x).1 hx)
  exact wRow_get _ _ _ _
theorem wChord_slt (n m : Nat) (r : List Int) : SLt (chPrimes n) (wChord n m r) ∧ 0 < (wChord n m r).length ∧ (wChord n m r).length ≤ 6 := by
  obtain ⟨a, T, hT⟩ := tabOk n
  have hl : ∀ x ∈ wRows r (chPrimes n).length m, x.length = (chPrimes n).length := fun x hx => by
    obtain ⟨i, _, rfl⟩ := List.mem_map.1 hx
    exact wRow_len _ _ _
  have hn : (wRows r (chPrimes n).length m).length = 1 + m % 6 := by unfold wRows; rw [List.length_map, List.length_range]
  refine ⟨(onceL_slt (primed hT.pe) hl).1, onceL_pos (primed hT.pe) hl (by omega), ?_⟩
  have := onceL_len (chPrimes n) (wRows r (chPrimes n).length m)
  unfold wChord
  omega
theorem wChord_good (n m : Nat) (r : List Int) : GoodC (chPrimes n) (wChord n m r) := by
  obtain ⟨a, T, hT⟩ := tabOk n
  obtain ⟨h1, h2, h3⟩ := wChord_slt n m r
  exact good_of hT (wRows_base n m r) (wRows_base n m r).tail h2 (by omega) h1
end Go.Proofs.YtaiglcbgllnciaaGreatDoor
