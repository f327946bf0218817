/- slices.SortFunc of rows: the laying. The order of rows; the closure of once; slices.SortFunc of rows. slices.SortFunc of rows, as once calls it. A map from texts to true, as a set of texts. Texts of rows tell them apart; each row once. -/
import Derived.Shelf.SlSortCmp.Whole1
import Derived.Ground.SlsfProg
import Derived.Test.YtcfkclafpbaagaaGreatDoorShelf4
import Derived.Test.YtcfkclafpbaagaaGreatDoorGTA
import Derived.Test.YtcfkclafpbaagaaGreatDoorGTG
import Derived.Lib.QuietBelow
import Derived.Test.YtcfkclafpbaagaaGreatDoorGE
import Derived.Test.YtcfkclafpbaagaaGreatDoorGG
import Derived.Test.YtcfkclafpbaagaaGreatDoorGTB
import Derived.Maps.OwnSet
import Derived.Test.YtcfkclafpbaagaaGreatDoorGYa
namespace Go.Proofs.YtcfkclafpbaagaaGreatDoor
open Go.Proofs Go.Shelf Go.RowKit Go.Lib Go.Sort

theorem srt_laid : SlLaysF.n6 Tryz.prog Tryz.srtL_ren := Tryz.srtL

end Go.Proofs.YtcfkclafpbaagaaGreatDoor

namespace Go.Proofs.YtcfkclafpbaagaaGreatDoor
open Go.RowKit Go.Lib Go.Shelf

theorem below_regrow {w w' : World} (h : RowKit.Below w.heap.size w w') (hd : w.drawn ≤ w'.drawn) : ∃ q os', w' = Sort.grow (w.drewN q) os' := by
  obtain ⟨p, hp⟩ := regrown_of_below h
  have e : w'.drawn = p.d := by rw [hp]; rfl
  refine ⟨p.d - w.drawn, p.os, ?_⟩
  have e2 : w.drewN (p.d - w.drawn) = redrawn w p.d := by
    unfold redrawn World.drewN
    congr 1
    omega
  rw [e2, ← hp]

set_option maxHeartbeats 1000000 in
theorem once1_any (pv xv yv : Value) (p x y : List Int) (bp bf : Nat) (w : World) (hS : Std w) (hp : IsRow w w.heap.size pv p) (hx : IsRow w w.heap.size xv x) (hy : IsRow w w.heap.size yv y) (h : chkAll p [x, y] = 0) (hb : w.cell? ⟨bp, 0, Option.none⟩ = some pv) :
    Calls Tryz.prog 112 #[xv, yv, .pointer (some ⟨bp, 0, Option.none⟩), .pointer (some ⟨bf, 0, Option.none⟩)] w fun e w' => e = .returned (.int .i64 (cmpN (num p x * den p y) (num p y * den p x))) ∧ RowKit.Below w.heap.size w w' := by
  have HC := Lib.hid (compare_mon pv xv yv p x y w hp hx hy h hS)
  obtain ⟨AP, cp, rfl⟩ := hp.shape
  obtain ⟨AX, cx, rfl⟩ := hx.shape
  obtain ⟨AY, cy, rfl⟩ := hy.shape
  clear hS hp hx hy h
  generalize cmpN (num p x * den p y) (num p y * den p x) = z at *
  go_enter Tryz.func112, Tryz.ntmps112
  go_wp2_with fail
  refine HC.out.mono ?_
  rintro e w1 ⟨rfl, hb1⟩
  go_wp2_with fail
  go_ret
  exact ⟨rfl, hb1⟩

/-- A row of the list that is sorted, with its numbers: it lay there when the caller began. -/
abbrev SRow (w : World) (p : List Int) := { t : Value × List Int // IsRow w w.heap.size t.1 t.2 ∧ chkAll p [t.2] = 0 }
def srEnc {w : World} {p : List Int} (t : SRow w p) : Value := t.1.1
def srCf {w : World} {p : List Int} (a b : SRow w p) : Int := cmpN (num p a.1.2 * den p b.1.2) (num p b.1.2 * den p a.1.2)
theorem srOne {w : World} {p : List Int} : OneCell (srEnc (w := w) (p := p)) := fun t => by
  obtain ⟨A, c, e⟩ := t.2.1.shape
  unfold srEnc
  rw [e]
  rfl

theorem below_sort {α : Type} [Inhabited α] (enc : α → Value) (w0 w : World) (g m : Nat) (dk : Array α) (os : Array Obj) (h : RowKit.Below w0.heap.size w0 w) (hg : w0.heap.size ≤ g) : RowKit.Below w0.heap.size w0 (sortWorld enc w g 0 m dk os) := by
  unfold sortWorld
  have h1 : RowKit.Below w0.heap.size w0 (Sort.putRow enc (Sort.ahead w m) g 0 dk) := below_putRow h hg
  exact h1.trans (Lib.below_grow w0.heap.size _ h1.size 0 os)

theorem chk_join {p x y : List Int} (hx : chkAll p [x] = 0) (hy : chkAll p [y] = 0) : chkAll p [x, y] = 0 := by
  unfold chkAll at hx hy ⊢
  split at hx
  · rename_i h; exact absurd hx h
  · rename_i h
    rw [if_neg h] at hy ⊢
    unfold rowsErr at hx hy ⊢
    split at hx
    · rename_i h2; exact absurd hx h2
    · rename_i h2
      rw [if_neg h2]
      exact hy

theorem srLays {w0 w : World} {p : List Int} [Inhabited (SRow w0 p)] (pv : Value) (g bp bf n : Nat) (hS : Std w0) (h0 : RowKit.Below w0.heap.size w0 w) (hg0 : w0.heap.size ≤ g) (hp : IsRow w0 w0.heap.size pv p) (hb : w.cell? ⟨bp, 0, Option.none⟩ = some pv) (hne : bp ≠ g) :
    CmpLays1 Tryz.prog 112 #[.pointer (some ⟨bp, 0, Option.none⟩), .pointer (some ⟨bf, 0, Option.none⟩)] (srEnc (w := w0) (p := p)) srCf g 0 n w := by
  intro m os dk _ x y
  have hB := below_sort (srEnc (w := w0) (p := p)) w0 w g m dk os h0 hg0
  have hbp : (sortWorld (srEnc (w := w0) (p := p)) w g 0 m dk os).cell? ⟨bp, 0, Option.none⟩ = some pv := by
    have h1 : (Sort.putRow (srEnc (w := w0) (p := p)) (Sort.ahead w m) g 0 dk).cell? ⟨bp, 0, Option.none⟩ = some pv := (Sort.cell?_putRow_other _ _ g 0 dk _ (Or.inl hne)).trans hb
    have h2 := (Lib.below_grow (Sort.putRow (srEnc (w := w0) (p := p)) (Sort.ahead w m) g 0 dk).heap.size (Sort.putRow (srEnc (w := w0) (p := p)) (Sort.ahead w m) g 0 dk) (Nat.le_refl _) 0 os).cell (p := ⟨bp, 0, Option.none⟩) (cell_lt h1)
    exact h2.trans h1
  have hC := once1_any pv x.1.1 y.1.1 p x.1.2 y.1.2 bp bf _ (hS.below hB (Nat.le_refl _)) (hp.lift hB) (x.2.1.lift hB) (y.2.1.lift hB) (chk_join x.2.2 y.2.2) hbp
  exact (calls_up hC).mono fun e w' ⟨⟨he, hb2⟩, hd⟩ => ⟨he, below_regrow hb2 (hd (by rw [he]; exact fun h => by cases h))⟩

end Go.Proofs.YtcfkclafpbaagaaGreatDoor

namespace Go.Proofs.YtcfkclafpbaagaaGreatDoor
open Go.RowKit Go.Lib Go.Shelf

theorem cross_tr {a b c d e f : Nat} (hb : 0 < b) (_hf : 0 < f) (h1 : a * d < c * b) (h2 : c * f < e * d) : a * f < e * b := by
  have k1 : a * d * f < c * b * f := Nat.mul_lt_mul_of_pos_right h1 _hf
  have k2 : c * f * b < e * d * b := Nat.mul_lt_mul_of_pos_right h2 hb
  have e1 : c * b * f = c * f * b := by rw [Nat.mul_assoc, Nat.mul_comm b f, ← Nat.mul_assoc]
  have k3 : a * d * f < e * d * b := by omega
  have e2 : a * d * f = a * f * d := by rw [Nat.mul_assoc, Nat.mul_comm d f, ← Nat.mul_assoc]
  have e3 : e * d * b = e * b * d := by rw [Nat.mul_assoc, Nat.mul_comm d b, ← Nat.mul_assoc]
  rw [e2, e3] at k3
  exact Nat.lt_of_mul_lt_mul_right k3
theorem cross_trle {a b c d e f : Nat} (_hb : 0 < b) (hd : 0 < d) (_hf : 0 < f) (h1 : c * b ≤ a * d) (h2 : e * d ≤ c * f) : e * b ≤ a * f := by
  have k1 : c * b * f ≤ a * d * f := Nat.mul_le_mul_right f h1
  have k2 : e * d * b ≤ c * f * b := Nat.mul_le_mul_right b h2
  have e1 : c * b * f = c * f * b := by rw [Nat.mul_assoc, Nat.mul_comm b f, ← Nat.mul_assoc]
  have e2 : a * d * f = a * f * d := by rw [Nat.mul_assoc, Nat.mul_comm d f, ← Nat.mul_assoc]
  have e3 : e * d * b = e * b * d := by rw [Nat.mul_assoc, Nat.mul_comm d b, ← Nat.mul_assoc]
  have k3 : e * b * d ≤ a * f * d := by omega
  exact Nat.le_of_mul_le_mul_right k3 hd

theorem cmpN_lt0 (a b : Nat) : decide (cmpN a b < 0) = decide (a < b) := by
  unfold cmpN
  split
  · rename_i h; rw [decide_eq_true h]; decide
  · rename_i h
    rw [decide_eq_false h]
    split <;> decide
theorem srLt {w : World} {p : List Int} (a b : SRow w p) : ltOf srCf a b = ltR p a.1.2 b.1.2 := by
  unfold ltOf srCf ltR
  exact cmpN_lt0 _ _
theorem srSwo {w : World} {p : List Int} (hP : Primed p) : Sort.SWO (ltOf (srCf (w := w) (p := p))) := by
  have hl : ∀ t : SRow w p, t.1.2.length = p.length := fun t => (right_of t.2.2).len
  refine ⟨fun x => ?_, fun x y z h1 h2 => ?_, fun x y z h1 h2 => ?_⟩
  · rw [srLt]; unfold ltR; simp
  · rw [srLt] at *
    unfold ltR at *
    rw [decide_eq_true_eq] at *
    exact cross_tr (den_pos hP (hl x)) (den_pos hP (hl z)) h1 h2
  · rw [srLt] at *
    unfold ltR at *
    rw [decide_eq_false_iff_not] at *
    exact Nat.not_lt.2 (cross_trle (den_pos hP (hl x)) (den_pos hP (hl y)) (den_pos hP (hl z)) (Nat.not_lt.1 h1) (Nat.not_lt.1 h2))

theorem sortRows {w0 w : World} (pv : Value) (p : List Int) (hP : Primed p) (g c bp bf : Nat) (vs : List Value) (l : List (List Int)) (hS : Std w0) (h0 : RowKit.Below w0.heap.size w0 w) (hg0 : w0.heap.size ≤ g) (hp : IsRow w0 w0.heap.size pv p)
    (hb : w.cell? ⟨bp, 0, Option.none⟩ = some pv) (hne : bp ≠ g) (hn : 0 < l.length) (hn2 : l.length ≤ 1000)
    (hown : w.ownsRow w0.heap.size 28 1 (.slice (some ⟨g, 0, Option.none⟩) l.length c) l.length vs)
    (hr : ∀ j, j < l.length → ∃ t : SRow w0 p, vs[j]? = some t.1.1 ∧ l[j]? = some t.1.2) :
    Calls Tryz.prog 111 #[.slice (some ⟨g, 0, Option.none⟩) l.length c, .func (.func 112) #[] #[.pointer (some ⟨bp, 0, Option.none⟩), .pointer (some ⟨bf, 0, Option.none⟩)]] w fun e w' =>
      e = .returned (.tuple #[]) ∧ (∃ l' : List (List Int), l'.length = l.length ∧ l'.Perm l ∧ (∀ i j, i < j → j < l.length → ltR p (l'[j]?.getD []) (l'[i]?.getD []) = false) ∧ RowsAt w' w'.heap.size (some ⟨g, 0, Option.none⟩) l') ∧ RowKit.Below w0.heap.size w0 w' ∧ (∀ k t xs, k ≠ g → Cells w k t xs → Cells w' k t xs) := by
  haveI : Inhabited (SRow w0 p) := ⟨Classical.choose (hr 0 hn)⟩
  obtain ⟨d, hd⟩ : ∃ d : Array (SRow w0 p), d = Array.ofFn (fun j : Fin l.length => Classical.choose (hr j.1 j.2)) := ⟨_, rfl⟩
  have hds : d.size = l.length := by rw [hd]; simp
  have hdj : ∀ j, j < l.length → vs[j]? = some (d[j]!).1.1 ∧ l[j]? = some (d[j]!).1.2 := fun j hj => by
    have e : d[j]! = Classical.choose (hr j hj) := by rw [hd, getElem!_pos _ j (by simpa using hj), Array.getElem_ofFn]
    rw [e]
    exact Classical.choose_spec (hr j hj)
  have hH : Sort.Holds (srEnc (w := w0) (p := p)) w g 0 d := fun j hj => by
    have hj2 : j < l.length := by omega
    refine ⟨?_, ?_⟩
    · rw [Nat.zero_add]; exact (hown.cellAt j (by omega)).trans (hdj j hj2).1
    · rw [Nat.zero_add]; exact hown.frozenAt j
  have hglt : g < w.heap.size := (hown.lt g rfl).2
  have h := Any.slices_SortFunc Tryz.srtL (srEnc (w := w0) (p := p)) srOne srCf (srSwo hP) 112 #[.pointer (some ⟨bp, 0, Option.none⟩), .pointer (some ⟨bf, 0, Option.none⟩)] g 0 c d w
    (fun args W => enters_of Tryz.func112 (by kernel_rfl) rfl args W) (srLays pv g bp bf d.size hS h0 hg0 hp hb hne) hH hglt (by omega)
  rw [hds] at h
  refine Calls.mono h ?_
  rintro e w' ⟨rfl, d', m, os, ⟨hs', _, hperm⟩, hsort, rfl⟩
  have hs2 : d'.size = l.length := by omega
  have hB := below_sort (srEnc (w := w0) (p := p)) w0 w g m d' os h0 hg0
  have hmap : d.toList.map (fun t => t.1.2) = l := by
    apply List.ext_getElem
    · rw [List.length_map, Array.length_toList, hds]
    · intro j h1 h2
      have h3 := (hdj j h2).2
      rw [getElem!_pos d j (by omega), List.getElem?_eq_getElem h2] at h3
      injection h3 with h3
      rw [List.getElem_map, Array.getElem_toList, ← h3]
  have hex : ∀ D : Array (SRow w0 p), D.size = l.length → (D.extract 0 l.length).toList = D.toList := fun D hD => by
    rw [← hD, Array.extract_size]
  rw [hex d' hs2, hex d hds] at hperm
  have hget : ∀ j, j < l.length → (d'.toList.map (fun t => t.1.2))[j]? = some (d'[j]!).1.2 := fun j hj => by
    rw [List.getElem?_map, Array.getElem?_toList, Array.getElem?_eq_getElem (by omega), getElem!_pos d' j (by omega)]
    rfl
  refine ⟨rfl, ⟨d'.toList.map (fun t => t.1.2), by rw [List.length_map, Array.length_toList, hs2], by rw [← hmap]; exact hperm.map _, fun i j hij hj => ?_, ⟨fun k y hy => ?_⟩⟩, hB, fun k t xs hk hc => ?_⟩
  · have h5 := hsort i j (Nat.zero_le _) hij hj
    rw [srLt] at h5
    rw [hget i (by omega), hget j hj]
    exact h5
  · have hkl : k < l.length := by
      obtain ⟨hk, _⟩ := List.getElem?_eq_some_iff.1 hy
      rw [List.length_map, Array.length_toList, hs2] at hk
      exact hk
    rw [hget k hkl] at hy
    injection hy with hy
    have hc0 := Sort.cell?_putRow (srEnc (w := w0) (p := p)) (Sort.ahead w m) g 0 d d' hH (by omega) k (by omega)
    rw [Nat.zero_add] at hc0
    have h2 := (Lib.below_grow (Sort.putRow (srEnc (w := w0) (p := p)) (Sort.ahead w m) g 0 d').heap.size (Sort.putRow (srEnc (w := w0) (p := p)) (Sort.ahead w m) g 0 d') (Nat.le_refl _) 0 os)
    have h3 := (h2.cell (p := ⟨g, k, Option.none⟩) (cell_lt hc0)).trans hc0
    refine ⟨⟨g, 0, Option.none⟩, (d'[k]!).1.1, rfl, ?_, ?_, ?_⟩
    · have h4 := cell_lt h3
      exact h4
    · rw [Lib.add_plain, Nat.zero_add]; exact h3
    · rw [← hy]; exact (d'[k]!).2.1.lift hB
  · have hlt := hc.lt
    unfold Cells at hc ⊢
    show ((w.heap.modify g _) ++ os)[k]? = _
    rw [Array.getElem?_append_left (by rw [Array.size_modify]; exact hlt), Array.getElem?_modify, if_neg (fun e => hk e.symm)]
    exact hc

end Go.Proofs.YtcfkclafpbaagaaGreatDoor

namespace Go.Proofs.YtcfkclafpbaagaaGreatDoor
open Go.RowKit Go.Lib Go.Maps
open Go.ChangeMaps Go.MapKept Go.WideShapes

/-- Block b is a map that holds true at just the texts of S. -/
def MapS (w : World) (b n : Nat) (S : List (List UInt8)) : Prop := ∃ D : DataW Unit, w.ownsMap Tryz.prog 9 (plainElem Tryz.prog 4) b n D ∧ ∀ s : List UInt8, D.atKey (.string s) (.lit (.bool false)) = .lit (.bool (decide (s ∈ S)))

theorem mapS_made (w : World) : MapS (w.alloc (.map #[] 0)) w.heap.size 0 [] := ⟨_, World.ownsMap_made _ _ _ _, fun s => by simp; rfl⟩
theorem MapS.kept {w w' : World} {b n : Nat} {S : List (List UInt8)} {row : Option Nat} (h : MapS w b n S) (hg : w.grownBy w' row) (hne : some b ≠ row) : MapS w' b n S := by
  obtain ⟨D, h1, h2⟩ := h
  exact ⟨D, h1.kept hg hne, h2⟩
theorem MapS.lt {w : World} {b n : Nat} {S : List (List UInt8)} (h : MapS w b n S) : b < w.heap.size := by
  obtain ⟨D, h1, _⟩ := h
  exact h1.lt
theorem MapS.alloc {w : World} {b n : Nat} {S : List (List UInt8)} (h : MapS w b n S) (o : Obj) : MapS (w.alloc o) b n S := by
  obtain ⟨D, h1, h2⟩ := h
  exact ⟨D, h1.alloc o, h2⟩
theorem MapS.below {w w' : World} {b n : Nat} {S : List (List UInt8)} (h : MapS w b n S) (hb : Below w.heap.size w w') : MapS w' b n S := by
  obtain ⟨D, h1, h2⟩ := h
  refine ⟨D, ?_, h2⟩
  have hlt := h1.lt
  obtain ⟨es, clock, h3, h4⟩ := h1
  exact ⟨es, clock, (hb.block b hlt).trans h3, h4⟩

theorem plain_bool_inv {P : Program} {e : TypeId} (he : P.underlying e = some .bool) {v : Value} {z : DataW Unit × List MemPlace} (h : plainElem P e v = some z) : ∃ x, v = .bool x ∧ z = (.lit (.bool x), []) := by
  unfold plainElem at h
  rw [he] at h
  cases v <;> simp at h
  exact ⟨_, rfl, h.symm⟩

theorem key_string (s : ByteArray) (hs : s.size ≤ maxLen) : keyOf Tryz.prog 9 (.string s) = some (.string s.data.toList) := by
  exact WideMaps.keyOf_string_mk (P := Tryz.prog) Tryz.underlying9 hs

set_option maxRecDepth 100000 in
theorem MapS.look {w : World} {b n : Nat} {S : List (List UInt8)} (h : MapS w b n S) (s : ByteArray) (hs : s.size ≤ maxLen) :
    (Instr.lookup 146 (.map (some b)) (.string s) false).run Tryz.prog w = .ok (.bool (decide (s.data.toList ∈ S))) w := by
  obtain ⟨D, h1, h2⟩ := h
  obtain ⟨v, ps, hrun, hv⟩ := h1.lookup (string_keyed Tryz.underlying9) Tryz.underlying146 (z := .bool false) (by kernel_rfl) (plainElem_bool Tryz.underlying4 false) (key := .string s) (kl := .string s.data.toList) (key_string s hs)
  obtain ⟨x, rfl, hx⟩ := plain_bool_inv Tryz.underlying4 hv
  rw [h2] at hx
  injection hx with hx _
  injection hx with hx
  injection hx with hx
  rw [hrun, hx]

theorem MapS.put {w : World} {b n : Nat} {S : List (List UInt8)} (h : MapS w b n S) (hn : n < maxLen) (s : ByteArray) (hs : s.size ≤ maxLen) :
    ∃ w', (Instr.mapUpdate 146 (.map (some b)) (.string s) (.bool true)).run Tryz.prog w = .ok () w' ∧ MapS w' b (n + 1) (s.data.toList :: S) ∧ w.grownBy w' (some b) := by
  obtain ⟨D, h1, h2⟩ := h
  obtain ⟨w', hrun, h3, h4⟩ := h1.update (string_keyed Tryz.underlying9) Tryz.underlying146 hn (key := .string s) (val := .bool true) (kl := .string s.data.toList) (key_string s hs) (plainElem_bool Tryz.underlying4 true)
  refine ⟨w', hrun, ⟨_, h3, fun t => ?_⟩, h4⟩
  by_cases ht : t = s.data.toList
  · subst ht
    rw [atKey_put_same h1.isMap (by simp [WideAt.IsKeyLit])]
    simp
  · rw [atKey_put_other (by intro e; injection e with e; exact ht e), h2]
    simp [ht]

end Go.Proofs.YtcfkclafpbaagaaGreatDoor

namespace Go.Proofs.YtcfkclafpbaagaaGreatDoor
open Go.RowKit Go.Lib

theorem itoa_no32 (z : Int) : ∀ c ∈ itoa z, c ≠ 32 := by
  intro c hc
  rcases itoa_cases z with ⟨_, e⟩ | ⟨_, e⟩
  · rw [e] at hc
    rcases List.mem_cons.1 hc with rfl | hc
    · decide
    · have h := dec_dig _ c hc
      unfold isDig at h
      intro e2
      subst e2
      revert h
      decide
  · rw [e] at hc
    have h := dec_dig _ c hc
    unfold isDig at h
    intro e2
    subst e2
    revert h
    decide
theorem cut32 {a b r s : List UInt8} (ha : ∀ c ∈ a, c ≠ 32) (hb : ∀ c ∈ b, c ≠ 32) (h : a ++ 32 :: r = b ++ 32 :: s) : a = b ∧ r = s := by
  induction a generalizing b with
  | nil =>
    cases b with
    | nil => simp at h; exact ⟨rfl, h⟩
    | cons c b =>
      simp at h
      exact absurd h.1.symm (hb c List.mem_cons_self)
  | cons c a ih =>
    cases b with
    | nil =>
      simp at h
      exact absurd h.1 (ha c List.mem_cons_self)
    | cons d b =>
      simp at h
      obtain ⟨h1, h2⟩ := h
      obtain ⟨h3, h4⟩ := ih (fun x hx => ha x (List.mem_cons_of_mem _ hx)) (fun x hx => hb x (List.mem_cons_of_mem _ hx)) h2
      exact ⟨by rw [h1, h3], h4⟩
theorem txt_one (a : Int) : rowTxt [a] = itoa a := by
  unfold rowTxt words Lib.join
  simp [List.intercalate]
theorem txt_more (a b : Int) (x : List Int) : rowTxt (a :: b :: x) = itoa a ++ 32 :: rowTxt (b :: x) := by
  unfold rowTxt words Lib.join
  simp [List.intercalate]
theorem txt_inj : ∀ {x y : List Int}, x.length = y.length → rowTxt x = rowTxt y → x = y
  | [], [], _, _ => rfl
  | [], _ :: _, h, _ => by cases h
  | _ :: _, [], h, _ => by cases h
  | [a], [b], _, h => by
    have h1 : itoa a = itoa b := by rw [txt_one, txt_one] at h; exact h
    rw [itoa_inj h1]
  | [_], _ :: _ :: _, h, _ => by simp at h
  | _ :: _ :: _, [_], h, _ => by simp at h
  | a :: a2 :: x, b :: b2 :: y, hl, h => by
    rw [txt_more, txt_more] at h
    obtain ⟨h2, h3⟩ := cut32 (itoa_no32 a) (itoa_no32 b) h
    rw [itoa_inj h2, txt_inj (by simpa using hl) h3]

/-- The text of a row, as a key. -/
def tx (x : List Int) : List UInt8 := 91 :: rowTxt x ++ [62]
theorem tx_inj {x y : List Int} (hl : x.length = y.length) (h : tx x = tx y) : x = y := by
  unfold tx at h
  have h2 : rowTxt x ++ [62] = rowTxt y ++ [62] := by simpa using h
  exact txt_inj hl (List.append_cancel_right h2)

/-- Each row once, in the order of its first place. -/
def ddTo (l : List (List Int)) : Nat → List (List Int)
  | 0 => []
  | k + 1 => if l[k]?.getD [] ∈ ddTo l k then ddTo l k else ddTo l k ++ [l[k]?.getD []]
theorem ddTo_sub (l : List (List Int)) : ∀ k, k ≤ l.length → ∀ x ∈ ddTo l k, x ∈ l
  | 0, _, x, hx => by simp [ddTo] at hx
  | k + 1, hk, x, hx => by
    unfold ddTo at hx
    split at hx
    · exact ddTo_sub l k (by omega) x hx
    · rcases List.mem_append.1 hx with hx | hx
      · exact ddTo_sub l k (by omega) x hx
      · rw [List.mem_singleton.1 hx, List.getElem?_eq_getElem (by omega)]
        exact List.getElem_mem _
theorem ddTo_len (l : List (List Int)) : ∀ k, (ddTo l k).length ≤ k
  | 0 => Nat.le_refl _
  | k + 1 => by
    have := ddTo_len l k
    unfold ddTo
    split
    · omega
    · rw [List.length_append]; simp; omega
theorem dd_mem {p : List Int} {l : List (List Int)} {k : Nat} (hk : k ≤ l.length) (hl : ∀ x ∈ l, x.length = p.length) {x : List Int} (hx : x.length = p.length) : tx x ∈ ((ddTo l k).map tx).reverse ↔ x ∈ ddTo l k := by
  rw [List.mem_reverse, List.mem_map]
  constructor
  · rintro ⟨y, hy, e⟩
    rw [← tx_inj (by rw [hx, hl y (ddTo_sub l k hk y hy)]) e]
    exact hy
  · intro h
    exact ⟨x, h, rfl⟩

end Go.Proofs.YtcfkclafpbaagaaGreatDoor
