/- The order of rows; the closure of once; slices.SortFunc of rows. Texts of rows tell them apart; each row once. target.once: the walk. What slices.CompactFunc leaves of a list of rows: plain. A sorted slice of the call's own, in general. Storing several cells of one block. -/
import Derived.Shelf.SlSortCmp.Whole1
import Derived.Ground.SlsfProg
import Derived.Test.YtphlodmdcmcjnaaGreatDoorShelf4
import Derived.Test.YtphlodmdcmcjnaaGreatDoorGTACv
import Derived.Test.YtphlodmdcmcjnaaGreatDoorGTEMCv
import Derived.Lib.QuietBelow
import Derived.Test.YtphlodmdcmcjnaaGreatDoorFSgMCv
import Derived.Test.YtphlodmdcmcjnaaGreatDoorGTBCv
import Derived.Test.YtphlodmdcmcjnaaGreatDoorGACv
import Derived.Deep.RegionHeld3
import Derived.OrdersIn
import Derived.TacticsIn
import Derived.RangeFuncCalls
import Derived.Deep.AppendLies
import Derived.Deep.DrawnRows
import Derived.Maps.OwnSet
import Derived.Test.YtphlodmdcmcjnaaGreatDoorGGMCv
import Derived.Test.YtphlodmdcmcjnaaGreatDoorGIMCv
import Derived.Maps.AppendAt
import Derived.Lib.OwnBridge
import Derived.Test.YtphlodmdcmcjnaaGreatDoorREqCv
import Derived.Laws.IdiomCopy
import Derived.Lib.SliceRun
namespace Go.Proofs.YtphlodmdcmcjnaaGreatDoor
open Go.RowKit Go.Lib Go.Shelf

theorem below_regrow {w w' : World} (h : RowKit.Below w.heap.size w w') (hd : w.drawn ≤ w'.drawn) : ∃ q os', w' = Sort.grow (w.drewN q) os' := by
  obtain ⟨p, hp⟩ := regrown_of_below h
  have e : w'.drawn = p.d := by rw [hp]; rfl
  refine ⟨p.d - w.drawn, p.os, ?_⟩
  have e2 : w.drewN (p.d - w.drawn) = redrawn w p.d := by
    unfold redrawn World.drewN
    congr 1
    omega
  rw [e2, ← hp]

end Go.Proofs.YtphlodmdcmcjnaaGreatDoor

namespace Go.Proofs.YtphlodmdcmcjnaaGreatDoor
open Go.RowKit Go.Lib

/-- The text of a row, as a key. -/
def tx (x : List Int) : List UInt8 := 91 :: rowTxt x ++ [62]
end Go.Proofs.YtphlodmdcmcjnaaGreatDoor

namespace Go.Proofs.YtphlodmdcmcjnaaGreatDoor
open Go.RowKit Go.Lib Go.Shelf

theorem txt_ok {p x : List Int} (h : chkAll p [x] = 0) : rowChk x = 0 ∧ x.length ≤ 64 ∧ (∀ k, k < x.length → -1000000000 ≤ x[k]?.getD 0 ∧ x[k]?.getD 0 ≤ 1000000000) ∧ (rowTxt x).length ≤ 1000 := by
  have hr := right_of h
  have h6 := hr.six
  have hl := hr.len
  have hb : ∀ k, k < x.length → -1000000000 ≤ x[k]?.getD 0 ∧ x[k]?.getD 0 ≤ 1000000000 := fun k hk => by have := hr.ex k hk; omega
  refine ⟨?_, by omega, hb, rowTxt_len (by omega) hb⟩
  unfold rowChk
  rw [if_neg]
  rw [not_or]
  refine ⟨by omega, ?_⟩
  rw [Bool.not_eq_true, List.any_eq_false]
  intro z hz
  obtain ⟨k, hk, rfl⟩ := List.getElem_of_mem hz
  have := hb k hk
  rw [List.getElem?_eq_getElem hk] at this
  unfold fitsB
  simp at this ⊢
  omega

end Go.Proofs.YtphlodmdcmcjnaaGreatDoor

namespace Go.Proofs.YtphlodmdcmcjnaaGreatDoor
open Go.RowKit Go.Lib

/-- Place j of l is kept: it is the first, or another row than the place before it. -/
def kpt (l : List (List Int)) (j : Nat) : Bool := decide (j = 0 ∨ l[j]?.getD [] ≠ l[j - 1]?.getD [])
def kpI (l : List (List Int)) (m : Nat) : List Nat := (List.range m).filter (kpt l)
def dedup (l : List (List Int)) : List (List Int) := (kpI l l.length).map fun j => l[j]?.getD []

theorem kp_zero (l : List (List Int)) : kpt l 0 = true := by simp [kpt]
theorem kp_same {l : List (List Int)} {j : Nat} (h : l[j + 1]?.getD [] = l[j]?.getD []) : kpt l (j + 1) = false := by simp [kpt, h]
theorem kp_other {l : List (List Int)} {j : Nat} (h : l[j + 1]?.getD [] ≠ l[j]?.getD []) : kpt l (j + 1) = true := by simp [kpt, h]
theorem kpI_succ (l : List (List Int)) (m : Nat) : kpI l (m + 1) = kpI l m ++ (if kpt l m then [m] else []) := by
  unfold kpI
  rw [List.range_succ, List.filter_append]
  congr 1
  by_cases h : kpt l m <;> simp [h]
theorem kpI_all {l : List (List Int)} {m : Nat} (h : ∀ j, j < m → kpt l j = true) : kpI l m = List.range m := by
  unfold kpI
  exact List.filter_eq_self.2 fun j hj => h j (List.mem_range.1 hj)
theorem kpI_lt {l : List (List Int)} {m j : Nat} (h : j ∈ kpI l m) : j < m := List.mem_range.1 (List.mem_filter.1 h).1
theorem kpI_len (l : List (List Int)) (m : Nat) : (kpI l m).length ≤ m := by
  unfold kpI
  have := List.length_filter_le (kpt l) (List.range m)
  rw [List.length_range] at this
  exact this
theorem range_map_getD (l : List (List Int)) : (List.range l.length).map (fun j => l[j]?.getD []) = l := by
  apply List.ext_getElem
  · simp
  · intro i h1 h2
    simp [h2]
theorem dedup_all {l : List (List Int)} (h : ∀ j, j < l.length → kpt l j = true) : dedup l = l := by
  unfold dedup
  rw [kpI_all h, range_map_getD]

/-- m places have been looked at; what is kept of them, kk values, lies at the head; from kk on all is as it was. -/
structure CI (l : List (List Int)) (cur : List Value) (m kk : Nat) (cur' : List Value) : Prop where
  size : cur'.length = cur.length
  len : (kpI l m).length = kk
  lt : kk < m
  low : ∀ (j i : Nat), (kpI l m)[j]? = some i → cur'[j]? = cur[i]?
  high : ∀ (j : Nat), kk ≤ j → cur'[j]? = cur[j]?

theorem CI.start {l : List (List Int)} {cur : List Value} {k : Nat} (h : ∀ j, j < k → kpt l j = true) (hk : kpt l k = false) : CI l cur (k + 1) k cur := by
  have e : kpI l (k + 1) = List.range k := by rw [kpI_succ, kpI_all h, hk]; simp
  refine ⟨rfl, by rw [e, List.length_range], by omega, fun j i hj => ?_, fun _ _ => rfl⟩
  rw [e] at hj
  obtain ⟨h1, h2⟩ := List.getElem?_eq_some_iff.1 hj
  rw [List.getElem_range] at h2
  rw [h2]
theorem CI.skip {l : List (List Int)} {cur cur' : List Value} {m kk : Nat} (h : CI l cur m kk cur') (hm : kpt l m = false) : CI l cur (m + 1) kk cur' := by
  have e : kpI l (m + 1) = kpI l m := by rw [kpI_succ, hm]; simp
  have := h.lt
  exact ⟨h.size, by rw [e]; exact h.len, by omega, by rw [e]; exact h.low, h.high⟩
theorem CI.keep {l : List (List Int)} {cur cur' : List Value} {m kk : Nat} {u : Value} (h : CI l cur m kk cur') (hm : kpt l m = true) (hu : cur[m]? = some u) : CI l cur (m + 1) (kk + 1) (cur'.set kk u) := by
  have e : kpI l (m + 1) = kpI l m ++ [m] := by rw [kpI_succ, hm]; simp
  have hlt := h.lt
  have hml := (List.getElem?_eq_some_iff.1 hu).1
  refine ⟨by rw [List.length_set]; exact h.size, by rw [e, List.length_append, h.len]; rfl, by omega, fun j i hj => ?_, fun j hj => ?_⟩
  · rw [e] at hj
    by_cases hjk : j < kk
    · rw [List.getElem?_append_left (by rw [h.len]; exact hjk)] at hj
      rw [List.getElem?_set_ne (by omega)]
      exact h.low j i hj
    · have hjl := (List.getElem?_eq_some_iff.1 hj).1
      rw [List.length_append, h.len] at hjl
      have hjk2 : j = kk := by simp at hjl; omega
      subst hjk2
      rw [List.getElem?_append_right (by rw [h.len]; exact Nat.le_refl _), h.len, Nat.sub_self] at hj
      cases hj
      rw [List.getElem?_set_self (by rw [h.size]; omega), hu]
  · rw [List.getElem?_set_ne (by omega)]
    exact h.high j (by omega)

end Go.Proofs.YtphlodmdcmcjnaaGreatDoor

namespace Go.Proofs.YtphlodmdcmcjnaaGreatDoor
open Go.RowKit Go.Lib Go.Shelf

theorem sort_own {α : Type} [Inhabited α] (enc : α → Value) (w : World) (g m c n base : Nat) (zs : List α) (d : Array α) (os : Array Obj) (e : TypeId) (hd : d.size = n) (h : w.ownsRow base e 1 (.slice (some ⟨g, 0, Option.none⟩) n c) n (zs.map enc)) :
    (sortWorld enc w g 0 m d os).ownsRow base e 1 (.slice (some ⟨g, 0, Option.none⟩) n c) n (d.toList.map enc) := by
  have h1 := Lib.ownsRow_putRow (q := m) (ys := d.toList) h (by rw [Array.length_toList]; exact hd) (Nat.le_refl n)
  rw [List.take_of_length_le (by rw [Array.length_toList, hd]; exact Nat.le_refl _), Array.toArray_toList] at h1
  exact own_below h1 (Lib.below_grow _ _ (Nat.le_refl _) 0 os)

end Go.Proofs.YtphlodmdcmcjnaaGreatDoor

namespace Go.Proofs.YtphlodmdcmcjnaaGreatDoor
open Go.RowKit Go.Lib

theorem Cells.puts {g : Nat} {e : TypeId} : ∀ (vs : List Value) {w : World} {xs : List Value} (o : Nat), Cells w g e xs → ∃ ys : List Value, Cells (w.setCells g o vs) g e ys ∧ ys.length = xs.length ∧ ∀ j, j < o → ys[j]? = xs[j]?
  | [], _, xs, _, h => ⟨xs, h, rfl, fun _ _ => rfl⟩
  | v :: vs, w, xs, o, h => by
    obtain ⟨ys, h1, h2, h3⟩ := Cells.puts vs (o + 1) (h.set o v)
    refine ⟨ys, h1, by rw [h2, List.length_set], fun j hj => ?_⟩
    rw [h3 j (by omega), List.getElem?_set_ne (by omega)]
theorem below_puts {B g : Nat} (hg : B ≤ g) {w0 : World} : ∀ (vs : List Value) {w : World} (o : Nat), Below B w0 w → Below B w0 (w.setCells g o vs)
  | [], _, _, h => h
  | v :: vs, _, o, h => below_puts hg vs (o + 1) (h.setCell hg v)

theorem own_parts {w : World} {base g n c : Nat} {e : TypeId} {vs : List Value} (h : w.ownsRow base e 1 (.slice (some ⟨g, 0, Option.none⟩) n c) n vs) : ∃ cs : List Value, Cells w g e cs ∧ base ≤ g ∧ n ≤ c ∧ c ≤ maxLen ∧ cs.length = c ∧ cs.take n = vs := by
  rcases h.2 with ⟨e, _⟩ | ⟨g', cap, cur, e, h1, h2, h3, h4, h5, h6⟩
  · cases e
  · cases e
    exact ⟨cur.toList, h2, h1, h3, h4, by rw [Array.length_toList]; omega, by rw [← h6, Nat.mul_one]⟩
theorem own_of {w : World} {base g n c : Nat} {e : TypeId} {cs : List Value} (h : Cells w g e cs) (hb : base ≤ g) (hn : n ≤ c) (hc : c ≤ maxLen) (hl : cs.length = c) : w.ownsRow base e 1 (.slice (some ⟨g, 0, Option.none⟩) n c) n (cs.take n) :=
  ⟨by rw [List.length_take]; omega, .inr ⟨g, c, cs.toArray, rfl, hb, h, hn, hc, by simp [hl], by simp⟩⟩
theorem sameB_eq {x y : List Int} : sameB x y = decide (x = y) := rfl

end Go.Proofs.YtphlodmdcmcjnaaGreatDoor
