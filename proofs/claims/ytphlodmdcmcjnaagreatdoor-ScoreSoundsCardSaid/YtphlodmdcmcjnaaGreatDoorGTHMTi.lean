/- The order of rows; the closure of once; slices.SortFunc of rows. A map from texts to true, as a set of texts. Texts of rows tell them apart; each row once. target.once: the walk. What slices.CompactFunc leaves of a list of rows: plain. Storing several cells of one block. -/
import Derived.Shelf.SlSortCmp.Whole1
import Derived.Ground.SlsfProg
import Derived.Test.YtphlodmdcmcjnaaGreatDoorShelf4
import Derived.Test.YtphlodmdcmcjnaaGreatDoorGTATi
import Derived.Test.YtphlodmdcmcjnaaGreatDoorGTEMTi
import Derived.Lib.QuietBelow
import Derived.Test.YtphlodmdcmcjnaaGreatDoorFSgMTi
import Derived.Test.YtphlodmdcmcjnaaGreatDoorGTBTi
import Derived.Maps.OwnSet
import Derived.Test.YtphlodmdcmcjnaaGreatDoorGGMTi
import Derived.Test.YtphlodmdcmcjnaaGreatDoorGIMTi
import Derived.Maps.AppendAt
import Derived.Lib.OwnBridge
import Derived.Laws.IdiomCopy
import Derived.Lib.SliceRun
namespace Go.Proofs.YtphlodmdcmcjnaaGreatDoor
open Go.RowKit Go.Lib Go.Shelf

/-- A row of the list that is sorted, with its numbers: it lay there when the caller began. -/
abbrev SRow (w : World) (p : List Int) := { t : Value × List Int // IsRow w w.heap.size t.1 t.2 ∧ chkAll p [t.2] = 0 }
end Go.Proofs.YtphlodmdcmcjnaaGreatDoor

namespace Go.Proofs.YtphlodmdcmcjnaaGreatDoor
open Go.RowKit Go.Lib Go.Maps
open Go.ChangeMaps Go.MapKept Go.WideShapes

/-- Block b is a map that holds true at just the texts of S. -/
def MapS (w : World) (b n : Nat) (S : List (List UInt8)) : Prop := ∃ D : DataW Unit, w.ownsMap Tryz.prog 9 (plainElem Tryz.prog 4) b n D ∧ ∀ s : List UInt8, D.atKey (.string s) (.lit (.bool false)) = .lit (.bool (decide (s ∈ S)))

theorem MapS.kept {w w' : World} {b n : Nat} {S : List (List UInt8)} {row : Option Nat} (h : MapS w b n S) (hg : w.grownBy w' row) (hne : some b ≠ row) : MapS w' b n S := by
  obtain ⟨D, h1, h2⟩ := h
  exact ⟨D, h1.kept hg hne, h2⟩
theorem MapS.lt {w : World} {b n : Nat} {S : List (List UInt8)} (h : MapS w b n S) : b < w.heap.size := by
  obtain ⟨D, h1, _⟩ := h
  exact h1.lt
theorem MapS.alloc {w : World} {b n : Nat} {S : List (List UInt8)} (h : MapS w b n S) (o : Obj) : MapS (w.alloc o) b n S := by
  obtain ⟨D, h1, h2⟩ := h
  exact ⟨D, h1.alloc o, h2⟩
theorem MapS.below {w w' : World} {b n : Nat} {S : List (List UInt8)} (h : MapS w b n S) (hb : Below w.heap.size w w') : MapS w' b n S := by
  obtain ⟨D, h1, h2⟩ := h
  refine ⟨D, ?_, h2⟩
  have hlt := h1.lt
  obtain ⟨es, clock, h3, h4⟩ := h1
  exact ⟨es, clock, (hb.block b hlt).trans h3, h4⟩

end Go.Proofs.YtphlodmdcmcjnaaGreatDoor

namespace Go.Proofs.YtphlodmdcmcjnaaGreatDoor
open Go.RowKit Go.Lib

/-- The text of a row, as a key. -/
def tx (x : List Int) : List UInt8 := 91 :: rowTxt x ++ [62]
end Go.Proofs.YtphlodmdcmcjnaaGreatDoor

namespace Go.Proofs.YtphlodmdcmcjnaaGreatDoor
open Go.RowKit Go.Lib Go.Shelf

theorem MapS.mono {w : World} {b n n' : Nat} {S : List (List UInt8)} (h : MapS w b n S) (hn : n ≤ n') : MapS w b n' S := by
  obtain ⟨D, h1, h2⟩ := h
  exact ⟨D, h1.mono hn, h2⟩
/-- Rows that lie below, one for one. -/
def SRows (w : World) (p : List Int) (vs : List Value) (ds : List (List Int)) : Prop := ∀ j, j < ds.length → ∃ t : SRow w p, vs[j]? = some t.1.1 ∧ ds[j]? = some t.1.2

theorem txt_ok {p x : List Int} (h : chkAll p [x] = 0) : rowChk x = 0 ∧ x.length ≤ 64 ∧ (∀ k, k < x.length → -1000000000 ≤ x[k]?.getD 0 ∧ x[k]?.getD 0 ≤ 1000000000) ∧ (rowTxt x).length ≤ 1000 := by
  have hr := right_of h
  have h6 := hr.six
  have hl := hr.len
  have hb : ∀ k, k < x.length → -1000000000 ≤ x[k]?.getD 0 ∧ x[k]?.getD 0 ≤ 1000000000 := fun k hk => by have := hr.ex k hk; omega
  refine ⟨?_, by omega, hb, rowTxt_len (by omega) hb⟩
  unfold rowChk
  rw [if_neg]
  rw [not_or]
  refine ⟨by omega, ?_⟩
  rw [Bool.not_eq_true, List.any_eq_false]
  intro z hz
  obtain ⟨k, hk, rfl⟩ := List.getElem_of_mem hz
  have := hb k hk
  rw [List.getElem?_eq_getElem hk] at this
  unfold fitsB
  simp at this ⊢
  omega

end Go.Proofs.YtphlodmdcmcjnaaGreatDoor

namespace Go.Proofs.YtphlodmdcmcjnaaGreatDoor
open Go.RowKit Go.Lib

/-- Place j of l is kept: it is the first, or another row than the place before it. -/
def kpt (l : List (List Int)) (j : Nat) : Bool := decide (j = 0 ∨ l[j]?.getD [] ≠ l[j - 1]?.getD [])
def kpI (l : List (List Int)) (m : Nat) : List Nat := (List.range m).filter (kpt l)
theorem kpI_succ (l : List (List Int)) (m : Nat) : kpI l (m + 1) = kpI l m ++ (if kpt l m then [m] else []) := by
  unfold kpI
  rw [List.range_succ, List.filter_append]
  congr 1
  by_cases h : kpt l m <;> simp [h]
theorem kpI_all {l : List (List Int)} {m : Nat} (h : ∀ j, j < m → kpt l j = true) : kpI l m = List.range m := by
  unfold kpI
  exact List.filter_eq_self.2 fun j hj => h j (List.mem_range.1 hj)
/-- m places have been looked at; what is kept of them, kk values, lies at the head; from kk on all is as it was. -/
structure CI (l : List (List Int)) (cur : List Value) (m kk : Nat) (cur' : List Value) : Prop where
  size : cur'.length = cur.length
  len : (kpI l m).length = kk
  lt : kk < m
  low : ∀ (j i : Nat), (kpI l m)[j]? = some i → cur'[j]? = cur[i]?
  high : ∀ (j : Nat), kk ≤ j → cur'[j]? = cur[j]?

theorem CI.start {l : List (List Int)} {cur : List Value} {k : Nat} (h : ∀ j, j < k → kpt l j = true) (hk : kpt l k = false) : CI l cur (k + 1) k cur := by
  have e : kpI l (k + 1) = List.range k := by rw [kpI_succ, kpI_all h, hk]; simp
  refine ⟨rfl, by rw [e, List.length_range], by omega, fun j i hj => ?_, fun _ _ => rfl⟩
  rw [e] at hj
  obtain ⟨h1, h2⟩ := List.getElem?_eq_some_iff.1 hj
  rw [List.getElem_range] at h2
  rw [h2]
theorem CI.skip {l : List (List Int)} {cur cur' : List Value} {m kk : Nat} (h : CI l cur m kk cur') (hm : kpt l m = false) : CI l cur (m + 1) kk cur' := by
  have e : kpI l (m + 1) = kpI l m := by rw [kpI_succ, hm]; simp
  have := h.lt
  exact ⟨h.size, by rw [e]; exact h.len, by omega, by rw [e]; exact h.low, h.high⟩
theorem CI.keep {l : List (List Int)} {cur cur' : List Value} {m kk : Nat} {u : Value} (h : CI l cur m kk cur') (hm : kpt l m = true) (hu : cur[m]? = some u) : CI l cur (m + 1) (kk + 1) (cur'.set kk u) := by
  have e : kpI l (m + 1) = kpI l m ++ [m] := by rw [kpI_succ, hm]; simp
  have hlt := h.lt
  have hml := (List.getElem?_eq_some_iff.1 hu).1
  refine ⟨by rw [List.length_set]; exact h.size, by rw [e, List.length_append, h.len]; rfl, by omega, fun j i hj => ?_, fun j hj => ?_⟩
  · rw [e] at hj
    by_cases hjk : j < kk
    · rw [List.getElem?_append_left (by rw [h.len]; exact hjk)] at hj
      rw [List.getElem?_set_ne (by omega)]
      exact h.low j i hj
    · have hjl := (List.getElem?_eq_some_iff.1 hj).1
      rw [List.length_append, h.len] at hjl
      have hjk2 : j = kk := by simp at hjl; omega
      subst hjk2
      rw [List.getElem?_append_right (by rw [h.len]; exact Nat.le_refl _), h.len, Nat.sub_self] at hj
      cases hj
      rw [List.getElem?_set_self (by rw [h.size]; omega), hu]
  · rw [List.getElem?_set_ne (by omega)]
    exact h.high j (by omega)

end Go.Proofs.YtphlodmdcmcjnaaGreatDoor

namespace Go.Proofs.YtphlodmdcmcjnaaGreatDoor
open Go.RowKit Go.Lib

theorem Cells.puts {g : Nat} {e : TypeId} : ∀ (vs : List Value) {w : World} {xs : List Value} (o : Nat), Cells w g e xs → ∃ ys : List Value, Cells (w.setCells g o vs) g e ys ∧ ys.length = xs.length ∧ ∀ j, j < o → ys[j]? = xs[j]?
  | [], _, xs, _, h => ⟨xs, h, rfl, fun _ _ => rfl⟩
  | v :: vs, w, xs, o, h => by
    obtain ⟨ys, h1, h2, h3⟩ := Cells.puts vs (o + 1) (h.set o v)
    refine ⟨ys, h1, by rw [h2, List.length_set], fun j hj => ?_⟩
    rw [h3 j (by omega), List.getElem?_set_ne (by omega)]
theorem below_puts {B g : Nat} (hg : B ≤ g) {w0 : World} : ∀ (vs : List Value) {w : World} (o : Nat), Below B w0 w → Below B w0 (w.setCells g o vs)
  | [], _, _, h => h
  | v :: vs, _, o, h => below_puts hg vs (o + 1) (h.setCell hg v)

theorem LRow.base {w : World} {b b' : Nat} {v : Value} {l : List (List Int)} (h : LRow w b v l) (hb : b' ≤ b) : LRow w b' v l := by
  obtain ⟨vs, h1, h2⟩ := h
  exact ⟨vs, own_base h1 hb, h2⟩

theorem SRows.len {w : World} {p : List Int} {vs : List Value} {l : List (List Int)} (h : SRows w p vs l) {j : Nat} (hj : j < l.length) : ∃ (v : Value) (x : List Int), vs[j]? = some v ∧ l[j]? = some x ∧ IsRow w w.heap.size v x ∧ chkAll p [x] = 0 := by
  obtain ⟨t, h1, h2⟩ := h j hj
  exact ⟨_, _, h1, h2, t.2.1, t.2.2⟩
end Go.Proofs.YtphlodmdcmcjnaaGreatDoor
