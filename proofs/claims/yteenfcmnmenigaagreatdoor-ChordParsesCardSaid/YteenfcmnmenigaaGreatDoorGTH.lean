/- slices.SortFunc of rows: the laying stands in Shelf4. The order of rows; the closure of once; slices.SortFunc of rows. slices.SortFunc of rows, as once calls it. A map from texts to true, as a set of texts. Texts of rows tell them apart; each row once. -/
import Derived.Shelf.SlSortCmp.Whole1
import Derived.Ground.SlsfProg
import Derived.Test.YteenfcmnmenigaaGreatDoorShelf4
import Derived.Test.YteenfcmnmenigaaGreatDoorGTA
import Derived.Test.YteenfcmnmenigaaGreatDoorGTG
import Derived.Lib.QuietBelow
import Derived.Test.YteenfcmnmenigaaGreatDoorGE
import Derived.Test.YteenfcmnmenigaaGreatDoorGG
import Derived.Test.YteenfcmnmenigaaGreatDoorGTB
import Derived.Maps.OwnSet
import Derived.Test.YteenfcmnmenigaaGreatDoorGYa
namespace Go.Proofs.YteenfcmnmenigaaGreatDoor
open Go.Proofs Go.Shelf Go.RowKit Go.Lib Go.Sort

theorem srt_laid : SlLaysF.n6 Tryz.prog Tryz.srtL_ren := Tryz.srtL

end Go.Proofs.YteenfcmnmenigaaGreatDoor

namespace Go.Proofs.YteenfcmnmenigaaGreatDoor
open Go.RowKit Go.Lib Go.Shelf

theorem below_regrow {w w' : World} (h : RowKit.Below w.heap.size w w') (hd : w.drawn ≤ w'.drawn) : ∃ q os', w' = Sort.grow (w.drewN q) os' := by
  obtain ⟨p, hp⟩ := regrown_of_below h
  have e : w'.drawn = p.d := by rw [hp]; rfl
  refine ⟨p.d - w.drawn, p.os, ?_⟩
  have e2 : w.drewN (p.d - w.drawn) = redrawn w p.d := by
    unfold redrawn World.drewN
    congr 1
    omega
  rw [e2, ← hp]

/-- A row of the list that is sorted, with its numbers: it lay there when the caller began. -/
abbrev SRow (w : World) (p : List Int) := { t : Value × List Int // IsRow w w.heap.size t.1 t.2 ∧ chkAll p [t.2] = 0 }
def srEnc {w : World} {p : List Int} (t : SRow w p) : Value := t.1.1
def srCf {w : World} {p : List Int} (a b : SRow w p) : Int := cmpN (num p a.1.2 * den p b.1.2) (num p b.1.2 * den p a.1.2)
theorem srOne {w : World} {p : List Int} : OneCell (srEnc (w := w) (p := p)) := fun t => by
  obtain ⟨A, c, e⟩ := t.2.1.shape
  unfold srEnc
  rw [e]
  rfl

theorem below_sort {α : Type} [Inhabited α] (enc : α → Value) (w0 w : World) (g m : Nat) (dk : Array α) (os : Array Obj) (h : RowKit.Below w0.heap.size w0 w) (hg : w0.heap.size ≤ g) : RowKit.Below w0.heap.size w0 (sortWorld enc w g 0 m dk os) := by
  unfold sortWorld
  have h1 : RowKit.Below w0.heap.size w0 (Sort.putRow enc (Sort.ahead w m) g 0 dk) := below_putRow h hg
  exact h1.trans (Lib.below_grow w0.heap.size _ h1.size 0 os)

theorem chk_join {p x y : List Int} (hx : chkAll p [x] = 0) (hy : chkAll p [y] = 0) : chkAll p [x, y] = 0 := by
  unfold chkAll at hx hy ⊢
  split at hx
  · rename_i h; exact absurd hx h
  · rename_i h
    rw [if_neg h] at hy ⊢
    unfold rowsErr at hx hy ⊢
    split at hx
    · rename_i h2; exact absurd hx h2
    · rename_i h2
      rw [if_neg h2]
      exact hy

end Go.Proofs.YteenfcmnmenigaaGreatDoor

namespace Go.Proofs.YteenfcmnmenigaaGreatDoor
open Go.RowKit Go.Lib Go.Shelf

theorem cross_tr {a b c d e f : Nat} (hb : 0 < b) (_hf : 0 < f) (h1 : a * d < c * b) (h2 : c * f < e * d) : a * f < e * b := by
  have k1 : a * d * f < c * b * f := Nat.mul_lt_mul_of_pos_right h1 _hf
  have k2 : c * f * b < e * d * b := Nat.mul_lt_mul_of_pos_right h2 hb
  have e1 : c * b * f = c * f * b := by rw [Nat.mul_assoc, Nat.mul_comm b f, ← Nat.mul_assoc]
  have k3 : a * d * f < e * d * b := by omega
  have e2 : a * d * f = a * f * d := by rw [Nat.mul_assoc, Nat.mul_comm d f, ← Nat.mul_assoc]
  have e3 : e * d * b = e * b * d := by rw [Nat.mul_assoc, Nat.mul_comm d b, ← Nat.mul_assoc]
  rw [e2, e3] at k3
  exact Nat.lt_of_mul_lt_mul_right k3
theorem cross_trle {a b c d e f : Nat} (_hb : 0 < b) (hd : 0 < d) (_hf : 0 < f) (h1 : c * b ≤ a * d) (h2 : e * d ≤ c * f) : e * b ≤ a * f := by
  have k1 : c * b * f ≤ a * d * f := Nat.mul_le_mul_right f h1
  have k2 : e * d * b ≤ c * f * b := Nat.mul_le_mul_right b h2
  have e1 : c * b * f = c * f * b := by rw [Nat.mul_assoc, Nat.mul_comm b f, ← Nat.mul_assoc]
  have e2 : a * d * f = a * f * d := by rw [Nat.mul_assoc, Nat.mul_comm d f, ← Nat.mul_assoc]
  have e3 : e * d * b = e * b * d := by rw [Nat.mul_assoc, Nat.mul_comm d b, ← Nat.mul_assoc]
  have k3 : e * b * d ≤ a * f * d := by omega
  exact Nat.le_of_mul_le_mul_right k3 hd

theorem cmpN_lt0 (a b : Nat) : decide (cmpN a b < 0) = decide (a < b) := by
  unfold cmpN
  split
  · rename_i h; rw [decide_eq_true h]; decide
  · rename_i h
    rw [decide_eq_false h]
    split <;> decide
theorem srLt {w : World} {p : List Int} (a b : SRow w p) : ltOf srCf a b = ltR p a.1.2 b.1.2 := by
  unfold ltOf srCf ltR
  exact cmpN_lt0 _ _
theorem srSwo {w : World} {p : List Int} (hP : Primed p) : Sort.SWO (ltOf (srCf (w := w) (p := p))) := by
  have hl : ∀ t : SRow w p, t.1.2.length = p.length := fun t => (right_of t.2.2).len
  refine ⟨fun x => ?_, fun x y z h1 h2 => ?_, fun x y z h1 h2 => ?_⟩
  · rw [srLt]; unfold ltR; simp
  · rw [srLt] at *
    unfold ltR at *
    rw [decide_eq_true_eq] at *
    exact cross_tr (den_pos hP (hl x)) (den_pos hP (hl z)) h1 h2
  · rw [srLt] at *
    unfold ltR at *
    rw [decide_eq_false_iff_not] at *
    exact Nat.not_lt.2 (cross_trle (den_pos hP (hl x)) (den_pos hP (hl y)) (den_pos hP (hl z)) (Nat.not_lt.1 h1) (Nat.not_lt.1 h2))

end Go.Proofs.YteenfcmnmenigaaGreatDoor

namespace Go.Proofs.YteenfcmnmenigaaGreatDoor
open Go.RowKit Go.Lib Go.Maps
open Go.ChangeMaps Go.MapKept Go.WideShapes

/-- Block b is a map that holds true at just the texts of S. -/
def MapS (w : World) (b n : Nat) (S : List (List UInt8)) : Prop := ∃ D : DataW Unit, w.ownsMap Tryz.prog 9 (plainElem Tryz.prog 4) b n D ∧ ∀ s : List UInt8, D.atKey (.string s) (.lit (.bool false)) = .lit (.bool (decide (s ∈ S)))

theorem mapS_made (w : World) : MapS (w.alloc (.map #[] 0)) w.heap.size 0 [] := ⟨_, World.ownsMap_made _ _ _ _, fun s => by simp; rfl⟩
theorem MapS.kept {w w' : World} {b n : Nat} {S : List (List UInt8)} {row : Option Nat} (h : MapS w b n S) (hg : w.grownBy w' row) (hne : some b ≠ row) : MapS w' b n S := by
  obtain ⟨D, h1, h2⟩ := h
  exact ⟨D, h1.kept hg hne, h2⟩
theorem MapS.lt {w : World} {b n : Nat} {S : List (List UInt8)} (h : MapS w b n S) : b < w.heap.size := by
  obtain ⟨D, h1, _⟩ := h
  exact h1.lt
theorem MapS.alloc {w : World} {b n : Nat} {S : List (List UInt8)} (h : MapS w b n S) (o : Obj) : MapS (w.alloc o) b n S := by
  obtain ⟨D, h1, h2⟩ := h
  exact ⟨D, h1.alloc o, h2⟩
theorem MapS.below {w w' : World} {b n : Nat} {S : List (List UInt8)} (h : MapS w b n S) (hb : Below w.heap.size w w') : MapS w' b n S := by
  obtain ⟨D, h1, h2⟩ := h
  refine ⟨D, ?_, h2⟩
  have hlt := h1.lt
  obtain ⟨es, clock, h3, h4⟩ := h1
  exact ⟨es, clock, (hb.block b hlt).trans h3, h4⟩

theorem plain_bool_inv {P : Program} {e : TypeId} (he : P.underlying e = some .bool) {v : Value} {z : DataW Unit × List MemPlace} (h : plainElem P e v = some z) : ∃ x, v = .bool x ∧ z = (.lit (.bool x), []) := by
  unfold plainElem at h
  rw [he] at h
  cases v <;> simp at h
  exact ⟨_, rfl, h.symm⟩

theorem key_string (s : ByteArray) (hs : s.size ≤ maxLen) : keyOf Tryz.prog 9 (.string s) = some (.string s.data.toList) := by
  exact WideMaps.keyOf_string_mk (P := Tryz.prog) Tryz.underlying9 hs

end Go.Proofs.YteenfcmnmenigaaGreatDoor

namespace Go.Proofs.YteenfcmnmenigaaGreatDoor
open Go.RowKit Go.Lib

theorem itoa_no32 (z : Int) : ∀ c ∈ itoa z, c ≠ 32 := by
  intro c hc
  rcases itoa_cases z with ⟨_, e⟩ | ⟨_, e⟩
  · rw [e] at hc
    rcases List.mem_cons.1 hc with rfl | hc
    · decide
    · have h := dec_dig _ c hc
      unfold isDig at h
      intro e2
      subst e2
      revert h
      decide
  · rw [e] at hc
    have h := dec_dig _ c hc
    unfold isDig at h
    intro e2
    subst e2
    revert h
    decide
theorem cut32 {a b r s : List UInt8} (ha : ∀ c ∈ a, c ≠ 32) (hb : ∀ c ∈ b, c ≠ 32) (h : a ++ 32 :: r = b ++ 32 :: s) : a = b ∧ r = s := by
  induction a generalizing b with
  | nil =>
    cases b with
    | nil => simp at h; exact ⟨rfl, h⟩
    | cons c b =>
      simp at h
      exact absurd h.1.symm (hb c List.mem_cons_self)
  | cons c a ih =>
    cases b with
    | nil =>
      simp at h
      exact absurd h.1 (ha c List.mem_cons_self)
    | cons d b =>
      simp at h
      obtain ⟨h1, h2⟩ := h
      obtain ⟨h3, h4⟩ := ih (fun x hx => ha x (List.mem_cons_of_mem _ hx)) (fun x hx => hb x (List.mem_cons_of_mem _ hx)) h2
      exact ⟨by rw [h1, h3], h4⟩
theorem txt_one (a : Int) : rowTxt [a] = itoa a := by
  unfold rowTxt words Lib.join
  simp [List.intercalate]
theorem txt_more (a b : Int) (x : List Int) : rowTxt (a :: b :: x) = itoa a ++ 32 :: rowTxt (b :: x) := by
  unfold rowTxt words Lib.join
  simp [List.intercalate]
theorem txt_inj : ∀ {x y : List Int}, x.length = y.length → rowTxt x = rowTxt y → x = y
  | [], [], _, _ => rfl
  | [], _ :: _, h, _ => by cases h
  | _ :: _, [], h, _ => by cases h
  | [a], [b], _, h => by
    have h1 : itoa a = itoa b := by rw [txt_one, txt_one] at h; exact h
    rw [itoa_inj h1]
  | [_], _ :: _ :: _, h, _ => by simp at h
  | _ :: _ :: _, [_], h, _ => by simp at h
  | a :: a2 :: x, b :: b2 :: y, hl, h => by
    rw [txt_more, txt_more] at h
    obtain ⟨h2, h3⟩ := cut32 (itoa_no32 a) (itoa_no32 b) h
    rw [itoa_inj h2, txt_inj (by simpa using hl) h3]

/-- The text of a row, as a key. -/
def tx (x : List Int) : List UInt8 := 91 :: rowTxt x ++ [62]
theorem tx_inj {x y : List Int} (hl : x.length = y.length) (h : tx x = tx y) : x = y := by
  unfold tx at h
  have h2 : rowTxt x ++ [62] = rowTxt y ++ [62] := by simpa using h
  exact txt_inj hl (List.append_cancel_right h2)

/-- Each row once, in the order of its first place. -/
def ddTo (l : List (List Int)) : Nat → List (List Int)
  | 0 => []
  | k + 1 => if l[k]?.getD [] ∈ ddTo l k then ddTo l k else ddTo l k ++ [l[k]?.getD []]
theorem ddTo_sub (l : List (List Int)) : ∀ k, k ≤ l.length → ∀ x ∈ ddTo l k, x ∈ l
  | 0, _, x, hx => by simp [ddTo] at hx
  | k + 1, hk, x, hx => by
    unfold ddTo at hx
    split at hx
    · exact ddTo_sub l k (by omega) x hx
    · rcases List.mem_append.1 hx with hx | hx
      · exact ddTo_sub l k (by omega) x hx
      · rw [List.mem_singleton.1 hx, List.getElem?_eq_getElem (by omega)]
        exact List.getElem_mem _
theorem ddTo_len (l : List (List Int)) : ∀ k, (ddTo l k).length ≤ k
  | 0 => Nat.le_refl _
  | k + 1 => by
    have := ddTo_len l k
    unfold ddTo
    split
    · omega
    · rw [List.length_append]; simp; omega
theorem dd_mem {p : List Int} {l : List (List Int)} {k : Nat} (hk : k ≤ l.length) (hl : ∀ x ∈ l, x.length = p.length) {x : List Int} (hx : x.length = p.length) : tx x ∈ ((ddTo l k).map tx).reverse ↔ x ∈ ddTo l k := by
  rw [List.mem_reverse, List.mem_map]
  constructor
  · rintro ⟨y, hy, e⟩
    rw [← tx_inj (by rw [hx, hl y (ddTo_sub l k hk y hy)]) e]
    exact hy
  · intro h
    exact ⟨x, h, rfl⟩

end Go.Proofs.YteenfcmnmenigaaGreatDoor
