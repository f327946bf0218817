/- The plain law of described chords. Reduced intervals are at least 1. -/
import Derived.Test.YtaiglcbgllnciaaGreatDoorGCK
import Derived.Test.YtaiglcbgllnciaaGreatDoorGCG
import Derived.Test.YtaiglcbgllnciaaGreatDoorGCD
namespace Go.Proofs.YtaiglcbgllnciaaGreatDoor
open Go.RowKit Go.Lib

theorem filt_len {α : Type} (f g : α → Bool) (h : ∀ y, ¬ (f y = true ∧ g y = true)) : ∀ s : List α, (s.filter f).length + (s.filter g).length ≤ s.length
  | [] => Nat.le_refl _
  | y :: s => by
    have ih := filt_len f g h s
    have hy := h y
    rw [List.filter_cons, List.filter_cons]
    cases hf : f y <;> cases hg : g y
    · simp; omega
    · simp; omega
    · simp; omega
    · exact absurd ⟨hf, hg⟩ hy
theorem ltR_not2 (p x y : List Int) : ¬ (ltR p y x = true ∧ ltR p x y = true) := by
  unfold ltR
  rintro ⟨h1, h2⟩
  have h3 := of_decide_eq_true h1
  have h4 := of_decide_eq_true h2
  omega
theorem insR_len (p : List Int) (s : List (List Int)) (x : List Int) : (insR p s x).length ≤ s.length + 1 := by
  unfold insR
  rw [List.length_append, List.length_cons]
  have := filt_len (fun y => ltR p y x) (fun y => ltR p x y) (fun y h => ltR_not2 p x y h) s
  omega
theorem onceL_len (p : List Int) (l : List (List Int)) : (onceL p l).length ≤ l.length := by
  have key : ∀ (l s : List (List Int)), (l.foldl (insR p) s).length ≤ s.length + l.length := by
    intro l
    induction l with
    | nil => intro s; exact Nat.le_refl _
    | cons x l ih =>
      intro s
      have h1 := ih (insR p s x)
      have h2 := insR_len p s x
      rw [List.foldl_cons, List.length_cons]
      omega
  have := key l []
  unfold onceL
  simpa using this

/-- Notes of a chord of small exponents. -/
structure BaseC (p : List Int) (c : List (List Int)) : Prop where
  len : ∀ x ∈ c, x.length = p.length
  sm : ∀ x ∈ c, ∀ t : Nat, (x[t]?.getD 0).natAbs ≤ 6
/-- Notes that are those of c less z, but for equaves. -/
def TailC (p : List Int) (c : List (List Int)) (z : List Int) (l : List (List Int)) : Prop :=
  (∀ t : Nat, (z[t]?.getD 0).natAbs ≤ 6) ∧ ∀ k ∈ l, k.length = p.length ∧ (k[0]?.getD 0).natAbs ≤ 74 ∧ ∃ x ∈ c, ∀ t : Nat, 1 ≤ t → t < p.length → k[t]?.getD 0 = x[t]?.getD 0 - z[t]?.getD 0
theorem BaseC.tail {p : List Int} {c : List (List Int)} (h : BaseC p c) : TailC p c [] c :=
  ⟨fun t => by simp, fun k hk => ⟨h.len k hk, by have := h.sm k hk 0; omega, k, hk, fun t _ _ => by simp⟩⟩
theorem dif_at {x y : List Int} {t : Nat} (h : t < x.length) : (difI x y)[t]?.getD 0 = x[t]?.getD 0 - y[t]?.getD 0 := difI_get h
theorem smR_mk {p x : List Int} (h : x.length = p.length) (h0 : (x[0]?.getD 0).natAbs ≤ 300) (ht : ∀ t : Nat, 1 ≤ t → t < p.length → (x[t]?.getD 0).natAbs ≤ 12) : SmR p x :=
  ⟨h, h0, fun t h1 => by
    by_cases h2 : t < p.length
    · exact ht t h1 h2
    · rw [List.getElem?_eq_none (by omega)]; decide⟩
theorem TailC.dif {p : List Int} {c : List (List Int)} {z : List Int} {l : List (List Int)} (hb : BaseC p c) (h : TailC p c z l) (hp : 0 < p.length) : ∀ x ∈ l, ∀ y ∈ l, SmR p (difI x y) := by
  intro x hx y hy
  obtain ⟨lx, bx, u, hu, eu⟩ := h.2 x hx
  obtain ⟨ly, by_, v, hv, ev⟩ := h.2 y hy
  refine smR_mk (by rw [difI_len]; exact lx) ?_ fun t h1 h2 => ?_
  · rw [dif_at (by omega)]; omega
  · rw [dif_at (by omega), eu t h1 h2, ev t h1 h2]
    have h3 := hb.sm u hu t
    have h4 := hb.sm v hv t
    omega
theorem TailC.sm {p : List Int} {c : List (List Int)} {z : List Int} {l : List (List Int)} (hb : BaseC p c) (h : TailC p c z l) : ∀ x ∈ l, SmR p x := by
  intro x hx
  obtain ⟨lx, bx, u, hu, eu⟩ := h.2 x hx
  refine smR_mk lx (by omega) fun t h1 h2 => ?_
  rw [eu t h1 h2]
  have h3 := hb.sm u hu t
  have h4 := h.1 t
  omega
theorem TailC.cls {p : List Int} {c : List (List Int)} {z r : List Int} {l : List (List Int)} {a : Nat} {T : List Nat} (hT : TabOk p a T) (hb : BaseC p c) (h : TailC p c z l) (hr : r ∈ l) : ∃ z', TailC p c z' (clsL p l r) := by
  have hpos := hT.pos
  obtain ⟨lr, br, u, hu, eu⟩ := h.2 r hr
  refine ⟨u, fun t => hb.sm u hu t, fun k hk => ?_⟩
  have hl : ∀ y ∈ (rootL l r).map (rOf p), y.length = p.length := fun y hy => by
    obtain ⟨d, hd, rfl⟩ := List.mem_map.1 hy
    obtain ⟨x, hx, rfl⟩ := List.mem_map.1 hd
    unfold rOf
    rw [addE_len, difI_len]
    exact (h.2 x hx).1
  have hk2 := ((onceL_slt (primed hT.pe) hl).2 k).1 hk
  obtain ⟨d, hd, rfl⟩ := List.mem_map.1 hk2
  obtain ⟨x, hx, rfl⟩ := List.mem_map.1 hd
  have hs := h.dif hb hpos x hx r hr
  obtain ⟨lx, bx, v, hv, ev⟩ := h.2 x hx
  have hn := q_near hT hs
  refine ⟨hl _ hk2, ?_, v, hv, fun t h1 h2 => ?_⟩
  · unfold rOf
    rw [addE_get0 _ _ (by rw [difI_len]; omega)]
    omega
  · unfold rOf
    rw [addE_get _ _ _ h1, dif_at (by omega), ev t h1 h2, eu t h1 h2]
    omega
theorem tail_ok {p : List Int} {c : List (List Int)} {z : List Int} {l : List (List Int)} {a : Nat} {T : List Nat} (hT : TabOk p a T) (hb : BaseC p c) (h : TailC p c z l) (h0 : 0 < l.length) (h12 : l.length ≤ 12) (hs : SLt p l) : SmC p l :=
  ⟨⟨hT.pe, h0, h12, fun x hx => smR_chk hT.pe (h.sm hb x hx), hs⟩, hT.le, ⟨a, T, hT⟩, h.dif hb hT.pos⟩
theorem cls_slt {p : List Int} {c : List (List Int)} {z r : List Int} {l : List (List Int)} {a : Nat} {T : List Nat} (hT : TabOk p a T) (h : TailC p c z l) : SLt p (clsL p l r) ∧ (0 < l.length → 0 < (clsL p l r).length) ∧ (clsL p l r).length ≤ l.length := by
  have hl : ∀ y ∈ (rootL l r).map (rOf p), y.length = p.length := fun y hy => by
    obtain ⟨d, hd, rfl⟩ := List.mem_map.1 hy
    obtain ⟨x, hx, rfl⟩ := List.mem_map.1 hd
    unfold rOf
    rw [addE_len, difI_len]
    exact (h.2 x hx).1
  refine ⟨(onceL_slt (primed hT.pe) hl).1, fun h0 => onceL_pos (primed hT.pe) hl (by rw [List.length_map, rootL_len]; exact h0), ?_⟩
  have := onceL_len p ((rootL l r).map (rOf p))
  rw [List.length_map, rootL_len] at this
  exact this

/-- What the contracts want of a chord of small exponents. -/
structure GoodC (p : List Int) (l : List (List Int)) : Prop where
  smc : SmC p l
  cd : ∀ x ∈ closeL p l, ∀ y ∈ closeL p l, SmR p (difI x y)
  c0 : 0 < (closeL p l).length
  c12 : (closeL p l).length ≤ 12
  cc : ∀ x ∈ closeL p l, chkAll p [x] = 0
  cl : ∀ x ∈ closeL p l, x.length = p.length
  cb : ∀ x ∈ closeL p l, ∀ j : Nat, (x[j]?.getD 0).natAbs ≤ 1000000
  lb : ∀ x ∈ l, ∀ j : Nat, (x[j]?.getD 0).natAbs ≤ 1000000
  il : ∀ x ∈ invL p l, x.length ≤ 12
theorem smR_bound {p x : List Int} (h : SmR p x) (j : Nat) : (x[j]?.getD 0).natAbs ≤ 1000000 := by
  rcases Nat.eq_zero_or_pos j with rfl | hj
  · have := h.fst; omega
  · have := h.oth j hj; omega
theorem good_of {p : List Int} {c : List (List Int)} {z : List Int} {l : List (List Int)} {a : Nat} {T : List Nat} (hT : TabOk p a T) (hb : BaseC p c) (h : TailC p c z l) (h0 : 0 < l.length) (h12 : l.length ≤ 12) (hs : SLt p l) : GoodC p l := by
  have hk := tail_ok hT hb h h0 h12 hs
  have hr : l[0]?.getD [] ∈ l := by rw [List.getElem?_eq_getElem h0]; exact List.getElem_mem h0
  obtain ⟨z', h'⟩ := h.cls hT hb hr
  obtain ⟨q1, q2, q3⟩ := cls_slt (r := l[0]?.getD []) hT h
  have hsm := h'.sm hb
  refine ⟨hk, h'.dif hb hT.pos, q2 h0, Nat.le_trans q3 h12, fun x hx => smR_chk hT.pe (hsm x hx), fun x hx => (h'.2 x hx).1, fun x hx j => smR_bound (hsm x hx) j, fun x hx j => smR_bound (h.sm hb x hx) j, fun x hx => ?_⟩
  obtain ⟨r, hr2, rfl⟩ := List.mem_map.1 hx
  exact Nat.le_trans (cls_slt hT h').2.2 (Nat.le_trans q3 h12)

/-! Described chords. -/
theorem wRows_base (n m : Nat) (r : List Int) : BaseC (chPrimes n) (wChord n m r) := by
  obtain ⟨a, T, hT⟩ := tabOk n
  have hl : ∀ x ∈ wRows r (chPrimes n).length m, x.length = (chPrimes n).length := fun x hx => by
    obtain ⟨i, _, rfl⟩ := List.mem_map.1 hx
    exact wRow_len _ _ _
  have hmem := (onceL_slt (primed hT.pe) hl).2
  refine ⟨fun x hx => hl x ((hmem x).1 hx), fun x hx t => ?_⟩
  obtain ⟨i, _, rfl⟩ := List.mem_map.1 ((hmem x).1 hx)
  exact wRow_get _ _ _ _
theorem wChord_slt (n m : Nat) (r : List Int) : SLt (chPrimes n) (wChord n m r) ∧ 0 < (wChord n m r).length ∧ (wChord n m r).length ≤ 6 := by
  obtain ⟨a, T, hT⟩ := tabOk n
  have hl : ∀ x ∈ wRows r (chPrimes n).length m, x.length = (chPrimes n).length := fun x hx => by
    obtain ⟨i, _, rfl⟩ := List.mem_map.1 hx
    exact wRow_len _ _ _
  have hn : (wRows r (chPrimes n).length m).length = 1 + m % 6 := by unfold wRows; rw [List.length_map, List.length_range]
  refine ⟨(onceL_slt (primed hT.pe) hl).1, onceL_pos (primed hT.pe) hl (by omega), ?_⟩
  have := onceL_len (chPrimes n) (wRows r (chPrimes n).length m)
  unfold wChord
  omega
theorem wChord_good (n m : Nat) (r : List Int) : GoodC (chPrimes n) (wChord n m r) := by
  obtain ⟨a, T, hT⟩ := tabOk n
  obtain ⟨h1, h2, h3⟩ := wChord_slt n m r
  exact good_of hT (wRows_base n m r) (wRows_base n m r).tail h2 (by omega) h1
theorem wChord_dual (n m : Nat) (r : List Int) : ∀ x ∈ wChord n m r, chkAll (chPrimes n) [difI ((wChord n m r)[(wChord n m r).length - 1]?.getD []) x] = 0 := by
  have hg := wChord_good n m r
  intro x hx
  have hpos := hg.smc.ok.pos
  refine smR_chk hg.smc.ok.pe (hg.smc.sm _ ?_ x hx)
  rw [List.getElem?_eq_getElem (by omega)]
  exact List.getElem_mem _

end Go.Proofs.YtaiglcbgllnciaaGreatDoor

namespace Go.Proofs.YtaiglcbgllnciaaGreatDoor
open Go.RowKit Go.Lib

def zRow (k : Nat) : List Int := List.replicate k 0
def zChk3 (p : List Int) : Bool := (List.range 25).all fun u => (List.range 25).all fun v => !ltR p (rOf p [0, (u : Int) - 12, (v : Int) - 12]) (zRow 3)
def zChk2 (p : List Int) : Bool := (List.range 25).all fun u => !ltR p (rOf p [0, (u : Int) - 12]) (zRow 2)
theorem zc2 : zChk2 [2, 3] = true := by decide +kernel
theorem zc0 : zChk3 [2, 3, 5] = true := by decide +kernel
theorem zc1 : zChk3 [2, 3, 7] = true := by decide +kernel

theorem rOf_ge {n : Nat} {x : List Int} (h : SmR (chPrimes n) x) : ltR (chPrimes n) (rOf (chPrimes n) x) (zRow (chPrimes n).length) = false := by
  obtain ⟨a, T, hT⟩ := tabOk n
  have e := rOf_addE hT h.len (-(x[0]?.getD 0))
  rw [← e]
  have hl := h.len
  have h1 := h.oth 1 (by omega)
  have h2 := h.oth 2 (by omega)
  have hk : n % 3 = 0 ∨ n % 3 = 1 ∨ n % 3 = 2 := by omega
  rcases hk with hk | hk | hk
  · have hp : chPrimes n = [2, 3, 5] := by unfold chPrimes; rw [hk]; rfl
    rw [hp] at hl ⊢
    match x, hl with
    | [x0, x1, x2], _ =>
      simp at h1 h2
      have hx : addE [x0, x1, x2] (-(([x0, x1, x2] : List Int)[0]?.getD 0)) = [0, (((x1 + 12).toNat : Nat) : Int) - 12, (((x2 + 12).toNat : Nat) : Int) - 12] := by
        rw [Int.toNat_of_nonneg (by omega), Int.toNat_of_nonneg (by omega)]
        unfold addE
        simp
        omega
      rw [hx]
      have := List.all_eq_true.1 (List.all_eq_true.1 zc0 (x1 + 12).toNat (List.mem_range.2 (by omega))) (x2 + 12).toNat (List.mem_range.2 (by omega))
      simpa using this
  · have hp : chPrimes n = [2, 3] := by unfold chPrimes; rw [hk]; rfl
    rw [hp] at hl ⊢
    match x, hl with
    | [x0, x1], _ =>
      simp at h1
      have hx : addE [x0, x1] (-(([x0, x1] : List Int)[0]?.getD 0)) = [0, (((x1 + 12).toNat : Nat) : Int) - 12] := by
        rw [Int.toNat_of_nonneg (by omega)]
        unfold addE
        simp
        omega
      rw [hx]
      have := List.all_eq_true.1 zc2 (x1 + 12).toNat (List.mem_range.2 (by omega))
      simpa using this
  · have hp : chPrimes n = [2, 3, 7] := by unfold chPrimes; rw [hk]; rfl
    rw [hp] at hl ⊢
    match x, hl with
    | [x0, x1, x2], _ =>
      simp at h1 h2
      have hx : addE [x0, x1, x2] (-(([x0, x1, x2] : List Int)[0]?.getD 0)) = [0, (((x1 + 12).toNat : Nat) : Int) - 12, (((x2 + 12).toNat : Nat) : Int) - 12] := by
        rw [Int.toNat_of_nonneg (by omega), Int.toNat_of_nonneg (by omega)]
        unfold addE
        simp
        omega
      rw [hx]
      have := List.all_eq_true.1 (List.all_eq_true.1 zc1 (x1 + 12).toNat (List.mem_range.2 (by omega))) (x2 + 12).toNat (List.mem_range.2 (by omega))
      simpa using this

theorem zRow_get (k j : Nat) : (zRow k)[j]?.getD 0 = 0 := by
  unfold zRow
  rw [List.getElem?_replicate]
  split <;> rfl
theorem ext_getD {x y : List Int} (hl : x.length = y.length) (h : ∀ j : Nat, x[j]?.getD 0 = y[j]?.getD 0) : x = y := by
  apply List.ext_getElem hl
  intro j h1 h2
  have := h j
  rw [List.getElem?_eq_getElem h1, List.getElem?_eq_getElem h2] at this
  exact this
theorem dif_self (x : List Int) : difI x x = zRow x.length := by
  refine ext_getD (by rw [difI_len]; unfold zRow; rw [List.length_replicate]) fun j => ?_
  rw [zRow_get]
  by_cases h : j < x.length
  · rw [difI_get h]; omega
  · rw [List.getElem?_eq_none (by rw [difI_len]; omega)]; rfl
theorem dif_zero {x : List Int} {k : Nat} : difI x (zRow k) = x := by
  refine ext_getD (difI_len _ _) fun j => ?_
  by_cases h : j < x.length
  · rw [difI_get h, zRow_get]; omega
  · rw [List.getElem?_eq_none (by rw [difI_len]; omega), List.getElem?_eq_none (by omega)]
theorem rOf_zero {p : List Int} (k : Nat) : rOf p (zRow k) = zRow k := by
  have hp : pureT (zRow k) = true := pure_of fun i _ _ => zRow_get k i
  unfold rOf qOf
  rw [if_pos hp, zRow_get]
  exact addE_zero _
/-- The differences' least within the equave is none. -/
theorem cls_mem {p : List Int} {c : List (List Int)} {z r : List Int} {l : List (List Int)} {a : Nat} {T : List Nat} (hT : TabOk p a T) (h : TailC p c z l) (y : List Int) : y ∈ clsL p l r ↔ ∃ x ∈ l, y = rOf p (difI x r) := by
  have hl : ∀ y ∈ (rootL l r).map (rOf p), y.length = p.length := fun y hy => by
    obtain ⟨d, hd, rfl⟩ := List.mem_map.1 hy
    obtain ⟨x, hx, rfl⟩ := List.mem_map.1 hd
    unfold rOf
    rw [addE_len, difI_len]
    exact (h.2 x hx).1
  unfold clsL
  rw [(onceL_slt (primed hT.pe) hl).2 y]
  constructor
  · intro hy
    obtain ⟨d, hd, rfl⟩ := List.mem_map.1 hy
    obtain ⟨x, hx, rfl⟩ := List.mem_map.1 hd
    exact ⟨x, hx, rfl⟩
  · rintro ⟨x, hx, rfl⟩
    exact List.mem_map.2 ⟨_, List.mem_map.2 ⟨x, hx, rfl⟩, rfl⟩
theorem slt_first {p : List Int} {l : List (List Int)} {z : List Int} (h : SLt p l) (hz : z ∈ l) (hg : ∀ y ∈ l, ltR p y z = false) : l[0]?.getD [] = z := by
  match l, h, hz, hg with
  | y :: l, h, hz, hg =>
    rcases List.mem_cons.1 hz with rfl | hz
    · rfl
    · have h1 := (List.pairwise_cons.1 h).1 z hz
      rw [hg y List.mem_cons_self] at h1
      cases h1
theorem cls_first {n : Nat} {c : List (List Int)} {z r : List Int} {l : List (List Int)} (hb : BaseC (chPrimes n) c) (h : TailC (chPrimes n) c z l) (hr : r ∈ l) : (clsL (chPrimes n) l r)[0]?.getD [] = zRow (chPrimes n).length := by
  obtain ⟨a, T, hT⟩ := tabOk n
  refine slt_first (cls_slt hT h).1 ((cls_mem hT h _).2 ⟨r, hr, ?_⟩) fun y hy => ?_
  · rw [dif_self, (h.2 r hr).1, rOf_zero]
  · obtain ⟨x, hx, rfl⟩ := (cls_mem hT h _).1 hy
    exact rOf_ge (h.dif hb hT.pos x hx r hr)
theorem cls_again {n : Nat} {c : List (List Int)} {z r : List Int} {l : List (List Int)} (hb : BaseC (chPrimes n) c) (h : TailC (chPrimes n) c z l) (hr : r ∈ l) : clsL (chPrimes n) (clsL (chPrimes n) l r) (zRow (chPrimes n).length) = clsL (chPrimes n) l r := by
  obtain ⟨a, T, hT⟩ := tabOk n
  obtain ⟨z', h'⟩ := h.cls hT hb hr
  refine slt_ext (cls_slt hT h').1 (cls_slt hT h).1 fun y => ?_
  rw [cls_mem hT h']
  constructor
  · rintro ⟨x, hx, rfl⟩
    rw [dif_zero]
    obtain ⟨u, hu, rfl⟩ := (cls_mem hT h _).1 hx
    rw [rOf_rOf hT (by rw [difI_len]; exact (h.2 u hu).1)]
    exact hx
  · intro hy
    refine ⟨y, hy, ?_⟩
    rw [dif_zero]
    obtain ⟨u, hu, rfl⟩ := (cls_mem hT h _).1 hy
    rw [rOf_rOf hT (by rw [difI_len]; exact (h.2 u hu).1)]
theorem inv_first (n m : Nat) (r : List Int) : (invL (chPrimes n) (wChord n m r))[0]? = some (closeL (chPrimes n) (wChord n m r)) := by
  have hb := wRows_base n m r
  have ht := hb.tail
  have hpos := (wChord_slt n m r).2.1
  have hr : (wChord n m r)[0]?.getD [] ∈ wChord n m r := by rw [List.getElem?_eq_getElem hpos]; exact List.getElem_mem hpos
  have h1 := cls_first hb ht hr
  have h2 := cls_again hb ht hr
  have h0 := (wChord_good n m r).c0
  unfold invL
  rw [List.getElem?_map, List.getElem?_eq_getElem h0, Option.map_some]
  have e : (closeL (chPrimes n) (wChord n m r))[0] = zRow (chPrimes n).length := by
    have h3 : (closeL (chPrimes n) (wChord n m r))[0]?.getD [] = zRow (chPrimes n).length := h1
    rw [List.getElem?_eq_getElem h0] at h3
    exact h3
  rw [e]
  exact congrArg some h2

end Go.Proofs.YtaiglcbgllnciaaGreatDoor
