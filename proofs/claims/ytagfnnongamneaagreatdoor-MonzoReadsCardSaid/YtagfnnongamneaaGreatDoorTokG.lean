/- Tokens in memory. -/
import Derived.Test.YtagfnnongamneaaGreatDoorLex0G
namespace Go.Proofs.YtagfnnongamneaaGreatDoor
open Go.RowKit Go.Lib

def tokVals (t : Tok) (rv : Value) : List Value := [.int .i64 t.kind, .string ⟨t.text.toArray⟩, .string ⟨t.num.toArray⟩, .string ⟨t.den.toArray⟩, rv, .int .i64 t.line, .int .i64 t.col]
def flat : List Tok → List Value → List Value
  | t :: l, rv :: r => tokVals t rv ++ flat l r
  | _, _ => []
theorem flat_len : ∀ (l : List Tok) (r : List Value), r.length = l.length → (flat l r).length = l.length * 7
  | [], [], _ => rfl
  | [], _ :: _, h => by simp at h
  | _ :: _, [], h => by simp at h
  | t :: l, rv :: r, h => by
    rw [flat, List.length_append, flat_len l r (by simpa using h), List.length_cons]
    show 7 + l.length * 7 = _
    omega
theorem flat_append : ∀ (l : List Tok) (r : List Value) (t : Tok) (rv : Value), r.length = l.length → flat (l ++ [t]) (r ++ [rv]) = flat l r ++ tokVals t rv
  | [], [], t, rv, _ => by simp [flat]
  | [], _ :: _, _, _, h => by simp at h
  | _ :: _, [], _, _, h => by simp at h
  | a :: l, b :: r, t, rv, h => by
    rw [List.cons_append, List.cons_append, flat, flat, flat_append l r t rv (by simpa using h), List.append_assoc]
theorem flat_get : ∀ (l : List Tok) (r : List Value) (k : Nat) (t : Tok) (rv : Value) (j : Nat), r.length = l.length → l[k]? = some t → r[k]? = some rv → j < 7 → (flat l r)[k * 7 + j]? = (tokVals t rv)[j]?
  | [], _, k, t, rv, j, _, h, _, _ => by simp at h
  | _ :: _, [], k, t, rv, j, h, _, _, _ => by simp at h
  | a :: l, b :: r, 0, t, rv, j, _, h1, h2, hj => by
    simp at h1 h2
    subst h1 h2
    rw [flat, Nat.zero_mul, Nat.zero_add, List.getElem?_append_left (by show j < 7; exact hj)]
  | a :: l, b :: r, k + 1, t, rv, j, h, h1, h2, hj => by
    rw [flat, List.getElem?_append_right (by show 7 ≤ _; omega), show (k + 1) * 7 + j - (tokVals a b).length = k * 7 + j by show (k + 1) * 7 + j - 7 = _; omega]
    exact flat_get l r k t rv j (by simpa using h) (by simpa using h1) (by simpa using h2) hj
theorem flat_one : ∀ (l : List Tok) (r : List Value), (∀ v ∈ r, v.oneCell' = true) → ∀ u ∈ flat l r, u.oneCell' = true
  | [], _, _, u, h => by simp [flat] at h
  | _ :: _, [], _, u, h => by simp [flat] at h
  | a :: l, b :: r, hr, u, h => by
    rw [flat] at h
    rcases List.mem_append.1 h with h | h
    · unfold tokVals at h
      simp only [List.mem_cons, List.not_mem_nil, or_false] at h
      rcases h with rfl | rfl | rfl | rfl | rfl | rfl | rfl
      all_goals first | rfl | exact hr _ (by simp)
    · exact flat_one l r (fun v hv => hr v (by simp [hv])) u h

/-- A slice of tokens. -/
def IsToks (w : World) (B : Nat) (v : Value) (l : List Tok) : Prop := ∃ A c rvs, v = .slice A l.length c ∧ l.length ≤ c ∧ c ≤ maxLen ∧ rvs.length = l.length ∧ Row w B 7 A l.length (flat l rvs) ∧ ∀ (k : Nat) t rv, l[k]? = some t → rvs[k]? = some rv → IsRow w B rv t.row
theorem IsToks.keep {w w' : World} {B : Nat} {v : Value} {l : List Tok} (h : IsToks w B v l) (hb : Below B w w') : IsToks w' B v l := by
  obtain ⟨A, c, rvs, rfl, h1, h2, h3, h4, h5⟩ := h
  exact ⟨A, c, rvs, rfl, h1, h2, h3, h4.below hb (Nat.le_refl _), fun k t rv a b => (h5 k t rv a b).keep hb⟩
theorem IsToks.up {w : World} {B B' : Nat} {v : Value} {l : List Tok} (h : IsToks w B v l) (hB : B ≤ B') : IsToks w B' v l := by
  obtain ⟨A, c, rvs, rfl, h1, h2, h3, h4, h5⟩ := h
  exact ⟨A, c, rvs, rfl, h1, h2, h3, h4.up hB, fun k t rv a b => (h5 k t rv a b).up hB⟩
theorem IsToks.lift {w w' : World} {v : Value} {l : List Tok} (h : IsToks w w.heap.size v l) (hb : Below w.heap.size w w') : IsToks w' w'.heap.size v l := (h.keep hb).up hb.size

/-- A growing slice of tokens. -/
def Toks (w : World) (base : Nat) (v : Value) (l : List Tok) : Prop := ∃ rvs : List Value, rvs.length = l.length ∧ w.ownsRow base 43 7 v l.length (flat l rvs) ∧ ∀ (k : Nat) t rv, l[k]? = some t → rvs[k]? = some rv → TRow w rv t.row
theorem Toks.nil (w : World) (base : Nat) : Toks w base (.slice Option.none 0 0) [] := ⟨[], rfl, World.ownsRow_nil _ _ _ _, fun k t rv h => by simp at h⟩
theorem Toks.below {w w' : World} {base : Nat} {v : Value} {l : List Tok} (h : Toks w base v l) (hb : Below w.heap.size w w') : Toks w' base v l := by
  obtain ⟨rvs, h1, h2, h3⟩ := h
  exact ⟨rvs, h1, own_below h2 hb, fun k t rv a b => (h3 k t rv a b).below hb⟩
theorem Toks.isToks {w : World} {base : Nat} {v : Value} {l : List Tok} (h : Toks w base v l) : IsToks w w.heap.size v l := by
  obtain ⟨rvs, h1, h2, h3⟩ := h
  obtain ⟨A, c, rfl, h4, h5, h6⟩ := Row.of_own h2
  exact ⟨A, c, rvs, rfl, h4, h5, h1, h6, fun k t rv a b => (h3 k t rv a b).isRow⟩
theorem Toks.push {w w' : World} {base : Nat} {v v' : Value} {l : List Tok} {t : Tok} {rv : Value} {rvs : List Value} (h1 : rvs.length = l.length) (h2 : w.ownsRow base 43 7 v l.length (flat l rvs)) (h3 : ∀ (k : Nat) t rv, l[k]? = some t → rvs[k]? = some rv → TRow w rv t.row) (ht : TRow w rv t.row)
    (ho : w'.ownsRow base 43 7 v' (l.length + 1) (flat l rvs ++ tokVals t rv)) (hg : w.grownBy w' v.ownBlock) : Toks w' base v' (l ++ [t]) := by
  refine ⟨rvs ++ [rv], by simp [h1], ?_, ?_⟩
  · rw [flat_append l rvs t rv h1, List.length_append]; exact ho
  · intro k u uv a b
    rcases Nat.lt_trichotomy k l.length with hk | hk | hk
    · rw [List.getElem?_append_left hk] at a
      rw [List.getElem?_append_left (by omega)] at b
      exact (h3 k u uv a b).grown h2 hg (by decide)
    · subst hk
      rw [List.getElem?_append_right (Nat.le_refl _), Nat.sub_self] at a
      rw [List.getElem?_append_right (by omega), h1, Nat.sub_self] at b
      simp at a b
      subst a b
      exact ht.grown h2 hg (by decide)
    · rw [List.getElem?_append_right (by omega)] at a
      rw [List.getElem?_eq_none (by simp; omega)] at a
      cases a

end Go.Proofs.YtagfnnongamneaaGreatDoor
