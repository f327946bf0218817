/- target.once: the walk. The plain law of once: the list in order, each once. -/
import Derived.Test.YteenfcmnmenigaaGreatDoorGTH
import Derived.Maps.AppendAt
namespace Go.Proofs.YteenfcmnmenigaaGreatDoor
open Go.RowKit Go.Lib Go.Shelf

theorem MapS.mono {w : World} {b n n' : Nat} {S : List (List UInt8)} (h : MapS w b n S) (hn : n ≤ n') : MapS w b n' S := by
  obtain ⟨D, h1, h2⟩ := h
  exact ⟨D, h1.mono hn, h2⟩
theorem MapS.ne_own {w : World} {b n : Nat} {S : List (List UInt8)} (h : MapS w b n S) {base k s : Nat} {e : TypeId} {v : Value} {xs : List Value} (ho : w.ownsRow base e s v k xs) : v.ownBlock ≠ some b := by
  obtain ⟨D, ⟨es, cl, h1, _⟩, _⟩ := h
  rcases ho.2 with ⟨rfl, _⟩ | ⟨g, cap, cur, rfl, _, hg, _⟩
  · simp [Value.ownBlock]
  · intro e2
    have : g = b := by simpa [Value.ownBlock] using e2
    subst this
    rw [hg] at h1
    cases h1

/-- What once returns: the rows, each once, in an order. -/
def OncePost (p : List Int) (l : List (List Int)) (e : Ending) (w' : World) : Prop :=
  ∃ A c, ∃ l' : List (List Int), e = .returned (.tuple #[.slice A l'.length c, .int .i64 0]) ∧ RowsAt w' w'.heap.size A l' ∧ l'.Perm (ddTo l l.length) ∧ (∀ i j, i < j → j < l'.length → ltR p (l'[j]?.getD []) (l'[i]?.getD []) = false)

/-- Rows that lie below, one for one. -/
def SRows (w : World) (p : List Int) (vs : List Value) (ds : List (List Int)) : Prop := ∀ j, j < ds.length → ∃ t : SRow w p, vs[j]? = some t.1.1 ∧ ds[j]? = some t.1.2

theorem txt_ok {p x : List Int} (h : chkAll p [x] = 0) : rowChk x = 0 ∧ x.length ≤ 64 ∧ (∀ k, k < x.length → -1000000000 ≤ x[k]?.getD 0 ∧ x[k]?.getD 0 ≤ 1000000000) ∧ (rowTxt x).length ≤ 1000 := by
  have hr := right_of h
  have h6 := hr.six
  have hl := hr.len
  have hb : ∀ k, k < x.length → -1000000000 ≤ x[k]?.getD 0 ∧ x[k]?.getD 0 ≤ 1000000000 := fun k hk => by have := hr.ex k hk; omega
  refine ⟨?_, by omega, hb, rowTxt_len (by omega) hb⟩
  unfold rowChk
  rw [if_neg]
  rw [not_or]
  refine ⟨by omega, ?_⟩
  rw [Bool.not_eq_true, List.any_eq_false]
  intro z hz
  obtain ⟨k, hk, rfl⟩ := List.getElem_of_mem hz
  have := hb k hk
  rw [List.getElem?_eq_getElem hk] at this
  unfold fitsB
  simp at this ⊢
  omega

end Go.Proofs.YteenfcmnmenigaaGreatDoor

namespace Go.Proofs.YteenfcmnmenigaaGreatDoor
open Go.RowKit Go.Lib

def SLt (p : List Int) (l : List (List Int)) : Prop := l.Pairwise fun a b => ltR p a b = true
theorem ltR_asym {p x y : List Int} (h : ltR p x y = true) : ltR p y x = false := by
  unfold ltR at *
  rw [decide_eq_true_eq] at h
  rw [decide_eq_false_iff_not]
  omega
theorem ltR_irr (p x : List Int) : ltR p x x = false := by unfold ltR; simp
theorem ltR_tot {p x y : List Int} (hP : Primed p) (hx : x.length = p.length) (hy : y.length = p.length) (hne : x ≠ y) : ltR p x y = true ∨ ltR p y x = true := by
  unfold ltR
  rw [decide_eq_true_eq, decide_eq_true_eq]
  by_cases h : num p x * den p y = num p y * den p x
  · exact absurd (cross_inj hP hx hy h) hne
  · omega
theorem ltR_trans {p x y z : List Int} (hP : Primed p) (hx : x.length = p.length) (hz : z.length = p.length) (h1 : ltR p x y = true) (h2 : ltR p y z = true) : ltR p x z = true := by
  unfold ltR at *
  rw [decide_eq_true_eq] at *
  exact cross_tr (den_pos hP hx) (den_pos hP hz) h1 h2

theorem slt_ext {p : List Int} : ∀ {l1 l2 : List (List Int)}, SLt p l1 → SLt p l2 → (∀ x, x ∈ l1 ↔ x ∈ l2) → l1 = l2
  | [], [], _, _, _ => rfl
  | [], b :: l2, _, _, h => by
    have h2 := (h b).2 List.mem_cons_self
    simp at h2
  | a :: l1, [], _, _, h => by
    have h2 := (h a).1 List.mem_cons_self
    simp at h2
  | a :: l1, b :: l2, h1, h2, h => by
    obtain ⟨k1, k2⟩ := List.pairwise_cons.1 h1
    obtain ⟨k3, k4⟩ := List.pairwise_cons.1 h2
    have hab : a = b := by
      rcases List.mem_cons.1 ((h a).1 List.mem_cons_self) with e | ha
      · exact e
      · rcases List.mem_cons.1 ((h b).2 List.mem_cons_self) with e | hb
        · exact e.symm
        · have e1 := ltR_asym (k3 a ha)
          rw [k1 b hb] at e1
          cases e1
    subst hab
    have hne : ∀ (l : List (List Int)), (∀ x ∈ l, ltR p a x = true) → a ∉ l := fun l hl hin => by
      have := hl a hin
      rw [ltR_irr] at this
      cases this
    rw [slt_ext k2 k4 (fun x => by
      constructor
      · intro hx
        rcases List.mem_cons.1 ((h x).1 (List.mem_cons_of_mem _ hx)) with e | h5
        · subst e; exact absurd hx (hne l1 k1)
        · exact h5
      · intro hx
        rcases List.mem_cons.1 ((h x).2 (List.mem_cons_of_mem _ hx)) with e | h5
        · subst e; exact absurd hx (hne l2 k3)
        · exact h5)]

theorem insR_mem {p : List Int} (hP : Primed p) {s : List (List Int)} {x : List Int} (hs : ∀ y ∈ s, y.length = p.length) (hx : x.length = p.length) (y : List Int) : y ∈ insR p s x ↔ y = x ∨ y ∈ s := by
  unfold insR
  rw [List.mem_append, List.mem_cons, List.mem_filter, List.mem_filter]
  constructor
  · rintro (⟨h, _⟩ | h | ⟨h, _⟩)
    · exact .inr h
    · exact .inl h
    · exact .inr h
  · rintro (h | h)
    · exact .inr (.inl h)
    · by_cases e : y = x
      · exact .inr (.inl e)
      · rcases ltR_tot hP (hs y h) hx e with h2 | h2
        · exact .inl ⟨h, h2⟩
        · exact .inr (.inr ⟨h, h2⟩)
theorem insR_slt {p : List Int} (hP : Primed p) {s : List (List Int)} {x : List Int} (hs : ∀ y ∈ s, y.length = p.length) (h : SLt p s) : SLt p (insR p s x) := by
  unfold insR SLt
  rw [List.pairwise_append]
  refine ⟨h.filter _, ?_, ?_⟩
  · rw [List.pairwise_cons]
    exact ⟨fun b hb => (List.mem_filter.1 hb).2, h.filter _⟩
  · intro a ha b hb
    obtain ⟨a1, a2⟩ := List.mem_filter.1 ha
    rcases List.mem_cons.1 hb with rfl | hb
    · exact a2
    · obtain ⟨b1, b2⟩ := List.mem_filter.1 hb
      exact ltR_trans hP (hs a a1) (hs b b1) a2 b2

theorem fold_ins {p : List Int} (hP : Primed p) : ∀ (l s : List (List Int)), (∀ y ∈ l, y.length = p.length) → (∀ y ∈ s, y.length = p.length) → SLt p s → SLt p (l.foldl (insR p) s) ∧ ∀ y, y ∈ l.foldl (insR p) s ↔ y ∈ s ∨ y ∈ l
  | [], s, _, _, h => ⟨h, fun y => by simp⟩
  | x :: l, s, hl, hs, h => by
    have hx := hl x List.mem_cons_self
    have hm := insR_mem hP hs hx
    obtain ⟨h1, h2⟩ := fold_ins hP l (insR p s x) (fun y hy => hl y (List.mem_cons_of_mem _ hy)) (fun y hy => by
      rcases (hm y).1 hy with rfl | h5
      · exact hx
      · exact hs y h5) (insR_slt hP hs h)
    refine ⟨h1, fun y => ?_⟩
    rw [List.foldl_cons, h2, hm, List.mem_cons]
    constructor
    · rintro ((h | h) | h)
      · exact .inr (.inl h)
      · exact .inl h
      · exact .inr (.inr h)
    · rintro (h | h | h)
      · exact .inl (.inr h)
      · exact .inl (.inl h)
      · exact .inr h
theorem onceL_slt {p : List Int} (hP : Primed p) {l : List (List Int)} (hl : ∀ y ∈ l, y.length = p.length) : SLt p (onceL p l) ∧ ∀ y, y ∈ onceL p l ↔ y ∈ l := by
  obtain ⟨h1, h2⟩ := fold_ins hP l [] hl (fun y h => by simp at h) List.Pairwise.nil
  exact ⟨h1, fun y => by rw [onceL, h2]; simp⟩

theorem ddTo_nodup (l : List (List Int)) : ∀ k, (ddTo l k).Nodup
  | 0 => List.nodup_nil
  | k + 1 => by
    unfold ddTo
    split
    · exact ddTo_nodup l k
    · rename_i h
      rw [List.nodup_append]
      refine ⟨ddTo_nodup l k, by simp, fun a ha b hb => ?_⟩
      rw [List.mem_singleton.1 hb]
      intro e
      exact h (e ▸ ha)
theorem ddTo_has (l : List (List Int)) : ∀ k, k ≤ l.length → ∀ j, (hj : j < k) → (hl : j < l.length) → l[j] ∈ ddTo l k
  | 0, _, j, hj, _ => by omega
  | k + 1, hk, j, hj, hl => by
    have e : l[k]?.getD [] = l[k] := by rw [List.getElem?_eq_getElem (by omega)]; rfl
    unfold ddTo
    rw [e]
    by_cases hjk : j = k
    · subst hjk
      split
      · rename_i h; exact h
      · exact List.mem_append_right _ (List.mem_singleton.2 rfl)
    · have h := ddTo_has l k (by omega) j (by omega) hl
      split
      · exact h
      · exact List.mem_append_left _ h
theorem ddTo_mem (l : List (List Int)) (x : List Int) : x ∈ ddTo l l.length ↔ x ∈ l := by
  constructor
  · exact ddTo_sub l l.length (Nat.le_refl _) x
  · intro h
    obtain ⟨j, hj, rfl⟩ := List.getElem_of_mem h
    exact ddTo_has l l.length (Nat.le_refl _) j hj hj

theorem once_plain {p : List Int} (hP : Primed p) {l l' : List (List Int)} (hl : ∀ y ∈ l, y.length = p.length) (hp : l'.Perm (ddTo l l.length)) (hs : ∀ i j, i < j → j < l'.length → ltR p (l'[j]?.getD []) (l'[i]?.getD []) = false) : l' = onceL p l := by
  obtain ⟨h1, h2⟩ := onceL_slt hP hl
  have hm : ∀ x, x ∈ l' ↔ x ∈ l := fun x => by rw [hp.mem_iff, ddTo_mem]
  refine slt_ext ?_ h1 (fun x => by rw [hm, h2])
  have hnd : l'.Nodup := hp.nodup_iff.2 (ddTo_nodup l l.length)
  unfold SLt
  rw [List.pairwise_iff_getElem]
  intro i j hi hj hij
  have h3 := hs i j hij hj
  rw [List.getElem?_eq_getElem hi, List.getElem?_eq_getElem hj] at h3
  have hne : l'[i] ≠ l'[j] := by
    have h4 := List.pairwise_iff_getElem.1 hnd i j hi hj hij
    exact h4
  rcases ltR_tot hP (hl _ ((hm _).1 (List.getElem_mem hi))) (hl _ ((hm _).1 (List.getElem_mem hj))) hne with h5 | h5
  · exact h5
  · rw [show ((some l'[j]).getD []) = l'[j] from rfl, show ((some l'[i]).getD []) = l'[i] from rfl, h5] at h3
    cases h3

end Go.Proofs.YteenfcmnmenigaaGreatDoor
