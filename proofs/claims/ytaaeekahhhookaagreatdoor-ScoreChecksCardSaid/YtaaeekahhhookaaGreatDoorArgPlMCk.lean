import Derived.Test.YtaaeekahhhookaaGreatDoorArgsCk
import Derived.Test.YtaaeekahhhookaaGreatDoorGXDMCk
import Derived.Deep.Slices
namespace Go.Proofs.YtaaeekahhhookaaGreatDoor
open Go.ChangeShapes Go.WideShapes Go.ChangeAt Go.RowKit
section
variable {H : Type} {enc : TypeId × Value → H} {W : World} {held : Bool} {base : Nat} {d : DataW H} {ps : List MemPlace} {v : Value} {r : Reach}
theorem pick_list {α : Type} {R : Nat → α → Prop} : ∀ n, (∀ i, i < n → ∃ x, R i x) → ∃ l : List α, l.length = n ∧ ∀ (i : Nat) x, l[i]? = some x → R i x
 | 0, _ => ⟨[], rfl, fun i x h => by simp at h⟩
 | n + 1, h => by
   obtain ⟨l, h1, h2⟩ := pick_list n fun i hi => h i (by omega)
   obtain ⟨x, hx⟩ := h n (by omega)
   refine ⟨l ++ [x], by simp [h1], fun i u hu => ?_⟩
   by_cases hin : i < n
   ·rw [List.getElem?_append_left (by omega)] at hu
    exact h2 i u hu
   ·have hi : i = n := by
     have := (List.getElem?_eq_some_iff.1 hu).1
     simp at this
     omega
    subst hi
    rw [List.getElem?_append_right (by omega), h1, Nat.sub_self] at hu
    simp at hu
    subst hu
    exact hx
theorem trod_list {α : Type} {S E : TypeId} {s fuel : Nat} {Q : α → List Value → Prop} {cs : List Value} {x : DataW H × List MemPlace} (hu : Tryz.prog.underlying S = some (.slice E)) (hc : Tryz.prog.cellsOf E = s) (hs : 0 < s)
  (one : ∀ fuel cs x, DataW.trod enc Tryz.prog W 0 (fun _ => true) held fuel E cs = some x → ∃ y, Q y cs) (hlen : ∀ y cs, Q y cs → cs.length = s)
  (h : DataW.trod enc Tryz.prog W 0 (fun _ => true) held fuel S cs = some x) : ∃ A c, ∃ l : List α, cs = [.slice A l.length c] ∧ l.length ≤ c ∧ c ≤ maxLen ∧ LA s Q W A l := by
 rcases Go.Deep.open_slice hu h with ⟨rfl, _⟩ | ⟨a, len, cap, m, n, D, Pl, rfl, _, hl, hm, hmm, _, hi⟩
 ·exact ⟨Option.none, 0, [], rfl, Nat.le_refl _, Nat.zero_le _, LA.nil _ _ _ _⟩
 ·have hlm : len ≤ m := by rw [hmm]; split <;> omega
  rw [hc] at hi
  obtain ⟨l, h1, h2⟩ := pick_list (R := fun i (y : α) => ∃ cs, Q y cs ∧ ∀ j, j < s → W.cell? (a.add (i * s + j)) = cs[j]?) len fun i hil => by
   obtain ⟨cs', h1, h2⟩ := hi i (by omega)
   obtain ⟨_, _, h3⟩ := World.cells?_some h1
   obtain ⟨y, hy⟩ := one _ _ _ h2
   refine ⟨y, cs', hy, fun j hj => ?_⟩
   rw [← h3 j hj, add_add']
  subst h1
  by_cases h0 : l = []
  ·subst h0
   exact ⟨some a, cap, [], rfl, hl, hm, LA.nil _ _ _ _⟩
  obtain ⟨b2, o2, rfl⟩ : ∃ b2 o2, a = ⟨b2, o2, Option.none⟩ := by
   have hlp : 0 < l.length := List.length_pos_iff.2 h0
   obtain ⟨cs', hq, hcell⟩ := h2 0 _ (List.getElem?_eq_getElem hlp)
   have h5 := hcell 0 hs
   have hcl := hlen _ cs' hq
   rw [List.getElem?_eq_getElem (by omega)] at h5
   have e : a.add (0 * s + 0) = a := by unfold Addr.add; simp
   rw [e] at h5
   exact addr_plain h5
  refine ⟨some ⟨b2, o2, Option.none⟩, cap, l, rfl, hl, hm, ⟨fun k y hy => ?_⟩⟩
  obtain ⟨cs', hq, hcell⟩ := h2 k y hy
  have hcl := hlen y cs' hq
  have h5 := hcell 0 hs
  rw [List.getElem?_eq_getElem (by omega)] at h5
  have hblk := World.block_lt_of_cell? W _ h5
  rw [add_block] at hblk
  exact ⟨b2, o2, cs', rfl, hblk, hcl, hq, fun j hj => by rw [← hcell j hj, Lib.add_plain]⟩
set_option maxRecDepth 100000 in
theorem trod_fourQ {fuel : Nat} {cs : List Value} {x : DataW H × List MemPlace} (h : DataW.trod enc Tryz.prog W 0 (fun _ => true) held fuel 109 cs = some x) : ∃ y, FourQ y cs := by
 obtain ⟨a, b, c, e, rfl, h4⟩ := trod_four h
 exact ⟨[a, b, c, e], h4, rfl⟩
set_option maxRecDepth 100000 in
theorem trod_beat {fuel : Nat} {cs : List Value} {x : DataW H × List MemPlace} (h : DataW.trod enc Tryz.prog W 0 (fun _ => true) held fuel 104 cs = some x) : ∃ y, BtQ W y cs := by
 have hc2 : Tryz.prog.cellsOf 104 = 2 := by kernel_rfl
 have hu1 : Tryz.prog.cellsOf 5 = 1 := by kernel_rfl
 have hn1 : Tryz.prog.cellsOf 102 = 1 := by kernel_rfl
 obtain ⟨xs, m, _, _, hl, hx, hg⟩ := DataW.trod_struct Tryz.underlying104 h
 rw [hc2] at hl
 match cs, hl with
 | [c0, c1], _ =>
   match xs, hx with
   | [x0, x1], _ =>
     have g0 := hg 0 _ rfl
     have g1 := hg 1 _ rfl
     simp [hu1, hn1] at g0 g1
     obtain ⟨m, e0, _, w0⟩ := DataW.trod_int Tryz.underlying5 g0
     obtain ⟨A, c, l, e1, h1, h2, h3⟩ := trod_list (s := 4) Tryz.underlying102 (by kernel_rfl) (by decide) (fun _ _ _ h => trod_fourQ h) (fun y cs h => by rw [h.2]; rfl) g1
     simp at e0 e1
     subst e0 e1
     have b0 := bounds_u8 w0
     refine ⟨⟨m.toNat, l⟩, by show m.toNat ≤ 255; omega, A, c, ?_, h1, h2, h3⟩
     show _ = [Value.int .u8 ((m.toNat : Nat) : Int), _]
     rw [Int.toNat_of_nonneg b0.1]
set_option maxRecDepth 100000 in
theorem trod_vp {fuel : Nat} {cs : List Value} {x : DataW H × List MemPlace} (h : DataW.trod enc Tryz.prog W 0 (fun _ => true) held fuel 101 cs = some x) : ∃ y, VpQ W y cs := by
 obtain ⟨A, c, l, e, h1, h2, h3⟩ := trod_list (s := 2) Tryz.underlying101 (by kernel_rfl) (by decide) (fun _ _ _ h => trod_beat h) (fun y cs h => by obtain ⟨_, A, c, e, _⟩ := h; rw [e]; rfl) h
 exact ⟨l, A, c, e, h1, h2, h3⟩
set_option maxRecDepth 100000 in
theorem arg_plan48 (hv : Value.okWide Tryz.prog W r base 39 v) (h : DataW.Trod enc Tryz.prog W 0 (fun _ => true) held 39 v d ps) :
  ∃ (n : Nat) (pv : Value) (l : List (List Bt)), v = .agg #[.int .u8 n, pv] ∧ n ≤ 255 ∧ PlA W pv l := by
 have hc2 : Tryz.prog.cellsOf 39 = 2 := by kernel_rfl
 have hu1 : Tryz.prog.cellsOf 5 = 1 := by kernel_rfl
 have hn1 : Tryz.prog.cellsOf 37 = 1 := by kernel_rfl
 obtain ⟨cs, rfl, _⟩ := okWide_struct Tryz.underlying39 hv
 obtain ⟨fuel, hf⟩ := h
 obtain ⟨xs, m, _, _, hl, hx, hg⟩ := DataW.trod_struct Tryz.underlying39 hf
 rw [hc2] at hl
 have hcs : (Value.agg cs).cells.toList = cs.toList := rfl
 rw [hcs] at hl hg
 rw [← Array.toArray_toList (xs := cs)]
 generalize cs.toList = l at *
 match l, hl with
 | [c0, c1], _ =>
   match xs, hx with
   | [x0, x1], _ =>
     have g0 := hg 0 _ rfl
     have g1 := hg 1 _ rfl
     simp [hu1, hn1] at g0 g1
     obtain ⟨k, e0, _, w0⟩ := DataW.trod_int Tryz.underlying5 g0
     obtain ⟨A, c, l, e1, h1, h2, h3⟩ := trod_list (s := 1) Tryz.underlying37 (by kernel_rfl) (by decide) (fun _ _ _ h => trod_vp h) (fun y cs h => by obtain ⟨A, c, e, _⟩ := h; rw [e]; rfl) g1
     simp at e0 e1
     subst e0 e1
     have := bounds_u8 w0
     exact ⟨k.toNat, _, l, by rw [Int.toNat_of_nonneg this.1], by omega, A, c, rfl, h1, h2, h3⟩
end
section
variable {H : Type} {enc : TypeId × Value → H} {W : World} {held : Bool} {base : Nat} {d : DataW H} {ps : List MemPlace} {v : Value} {r : Reach}
theorem trod_rowC {fuel : Nat} {cs : List Value} {x : DataW H × List MemPlace} (h : DataW.trod enc Tryz.prog W 0 (fun _ => true) held fuel 40 cs = some x) : ∃ rv y, cs = [rv] ∧ IsRow W W.heap.size rv y := by
 rcases open_ints Tryz.underlying40 Tryz.underlying3 (by kernel_rfl) h with ⟨rfl, _⟩ | ⟨a, l, c, zs, rfl, _⟩
 ·exact ⟨_, [], rfl, Option.none, 0, rfl, Nat.le_refl _, Nat.zero_le _, Row.nil _ _ _ _⟩
 ·obtain ⟨d, p⟩ := x
  obtain ⟨y, hy⟩ := arg_row (len := l) (cap := c) (a := some a) Tryz.underlying40 ⟨fuel, h⟩
  exact ⟨_, y, rfl, hy⟩
set_option maxRecDepth 100000 in
theorem arg_change (hv : Value.okWide Tryz.prog W r base 60 v) (h : DataW.Trod enc Tryz.prog W 0 (fun _ => true) held 60 v d ps) :
  ∃ (k : Nat) (s n dn : List UInt8) (rv : Value) (y : List Int), v = .agg #[.int .u8 k, .string ⟨s.toArray⟩, .string ⟨n.toArray⟩, .string ⟨dn.toArray⟩, rv] ∧ k ≤ 255 ∧ (s.length ≤ maxLen ∧ n.length ≤ maxLen ∧ dn.length ≤ maxLen) ∧ IsRow W W.heap.size rv y := by
 have hc5 : Tryz.prog.cellsOf 60 = 5 := by kernel_rfl
 have hc2 : Tryz.prog.cellsOf 51 = 2 := by kernel_rfl
 have hi1 : Tryz.prog.cellsOf 5 = 1 := by kernel_rfl
 have hs1 : Tryz.prog.cellsOf 9 = 1 := by kernel_rfl
 have hn1 : Tryz.prog.cellsOf 49 = 1 := by kernel_rfl
 have hr1 : Tryz.prog.cellsOf 40 = 1 := by kernel_rfl
 obtain ⟨cs, rfl, _⟩ := okWide_struct Tryz.underlying60 hv
 obtain ⟨fuel, hf⟩ := h
 obtain ⟨xs, m, _, _, hl, hx, hg⟩ := DataW.trod_struct Tryz.underlying60 hf
 rw [hc5] at hl
 have hcs : (Value.agg cs).cells.toList = cs.toList := rfl
 rw [hcs] at hl hg
 rw [← Array.toArray_toList (xs := cs)]
 generalize cs.toList = l at *
 match l, hl with
 | [c0, c1, c2, c3, c4], _ =>
   match xs, hx with
   | [x0, x1, x2, x3], _ =>
     have g0 := hg 0 _ rfl
     have g1 := hg 1 _ rfl
     have g2 := hg 2 _ rfl
     have g3 := hg 3 _ rfl
     simp [hi1, hs1, hc2, hr1] at g0 g1 g2 g3
     obtain ⟨k, e0, _, w0⟩ := DataW.trod_int Tryz.underlying5 g0
     obtain ⟨s, e1, _, w1⟩ := DataW.trod_string Tryz.underlying9 g1
     obtain ⟨rv, y, e3, hy⟩ := trod_rowC g3
     obtain ⟨ys, _, _, _, _, hyl, hyg⟩ := DataW.trod_struct Tryz.underlying51 g2
     match ys, hyl with
     | [y0, y1], _ =>
       have p0 := hyg 0 _ rfl
       have p1 := hyg 1 _ rfl
       simp [hn1] at p0 p1
       obtain ⟨n, e2, _, w2⟩ := DataW.trod_string Tryz.underlying49 p0
       obtain ⟨dn, e4, _, w3⟩ := DataW.trod_string Tryz.underlying49 p1
       simp at e0 e1 e2 e3 e4
       subst e0 e1 e2 e3 e4
       have b0 := bounds_u8 w0
       refine ⟨k.toNat, s.data.toList, n.data.toList, dn.data.toList, c4, y, ?_, by omega, ⟨Nat.le_trans (Nat.le_of_eq (size_list s)) w1, Nat.le_trans (Nat.le_of_eq (size_list n)) w2, Nat.le_trans (Nat.le_of_eq (size_list dn)) w3⟩, hy⟩
       rw [Int.toNat_of_nonneg b0.1]
end
end Go.Proofs.YtaaeekahhhookaaGreatDoor
