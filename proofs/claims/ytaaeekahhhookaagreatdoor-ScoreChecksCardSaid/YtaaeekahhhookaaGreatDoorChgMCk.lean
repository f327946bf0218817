import Derived.Test.YtaaeekahhhookaaGreatDoorScUCk
import Derived.Test.YtaaeekahhhookaaGreatDoorGXHCk
import Derived.Laws.AppendOwnNone
import Derived.Laws.IdiomStrings
import Derived.Deep.RegionHeld3
import Derived.Test.YtaaeekahhhookaaGreatDoorGXAMCk
namespace Go.Proofs.YtaaeekahhhookaaGreatDoor
open Go.RowKit Go.Lib
def lastName (vs : List Vc) (nm : List UInt8) : List Vc := match vs.getLast? with
 | none => vs
 | some v => vs.dropLast ++ [⟨nm, v.evs⟩]
def letters8 : Nat → List Vc
 | 0 => []
 | k + 1 => letters8 k ++ [⟨[UInt8.ofNat (112 + k)], []⟩]
theorem letters8_len : ∀ k, (letters8 k).length = k
 | 0 => rfl
 | k + 1 => by rw [letters8, List.length_append, letters8_len k]; rfl
def chSc (s : Sc) (how : Nat) (nm nu de : List UInt8) (note : List Int) : Sc :=
 match how % 8 with
 | 0 => ⟨s.primes ++ [4], s.voices⟩
 | 1 => ⟨s.primes, s.voices ++ [⟨nm, []⟩]⟩
 | 2 => ⟨s.primes, s.voices ++ letters8 8⟩
 | 3 => ⟨s.primes, s.voices ++ [⟨[120], [⟨nu, de, []⟩]⟩]⟩
 | 4 => ⟨s.primes, s.voices ++ [⟨[120], [⟨[49], [50], [note]⟩]⟩]⟩
 | 5 => ⟨s.primes, s.voices ++ [⟨[120], List.replicate 501 ⟨[], [], []⟩⟩]⟩
 | 6 => ⟨s.primes, s.voices ++ [⟨[120], [⟨nu, de, List.replicate 13 []⟩]⟩]⟩
 | _ => ⟨s.primes, lastName s.voices nm⟩
theorem LA.cells {α : Type} {s : Nat} {Q : α → List Value → Prop} {w : World} {A : Option Addr} {l : List α} (hs : 0 < s) (h : LA s Q w A l) : ∃ css : List (List Value), css.length = l.length ∧ (∀ cs ∈ css, cs.length = s) ∧ (∀ (k : Nat) x cs, l[k]? = some x → css[k]? = some cs → Q x cs) ∧ ∀ b o, A = some ⟨b, o, Option.none⟩ → ∀ (j : Nat) u, css.flatten[j]? = some u → b < w.heap.size ∧ w.cell? ⟨b, o + j, Option.none⟩ = some u := by
 have hex : ∀ n, n ≤ l.length → ∃ css : List (List Value), css.length = n ∧ ∀ (k : Nat) x cs, l[k]? = some x → css[k]? = some cs → cs.length = s ∧ Q x cs ∧ ∀ b o, A = some ⟨b, o, Option.none⟩ → ∀ j, j < s → b < w.heap.size ∧ w.cell? ⟨b, o + (k * s + j), Option.none⟩ = cs[j]? := by
  intro n
  induction n with
  | zero => exact fun _ => ⟨[], rfl, fun k x cs _ h => by simp at h⟩
  | succ n ih =>
    intro hn
    obtain ⟨css, h1, h2⟩ := ih (by omega)
    obtain ⟨b, o, cs, e, h3, h4, h5, h6⟩ := h.get n _ (List.getElem?_eq_getElem (show n < l.length by omega))
    refine ⟨css ++ [cs], by simp [h1], fun k x ds hx hd => ?_⟩
    by_cases hk : k < n
    ·rw [List.getElem?_append_left (by omega)] at hd
     exact h2 k x ds hx hd
    ·have hkn : k = n := by
      have := (List.getElem?_eq_some_iff.1 hd).1
      simp at this
      omega
     subst hkn
     rw [List.getElem?_append_right (by omega), h1, Nat.sub_self] at hd
     simp at hd
     subst hd
     rw [List.getElem?_eq_getElem (show k < l.length by omega)] at hx
     injection hx with hx
     subst hx
     refine ⟨h4, h5, fun b' o' e' j hj => ?_⟩
     rw [e] at e'
     injection e' with e'
     injection e' with e1 e2 _
     subst e1 e2
     exact ⟨h3, h6 j hj⟩
 obtain ⟨css, h1, h2⟩ := hex l.length (Nat.le_refl _)
 have hl : ∀ cs ∈ css, cs.length = s := fun cs hcs => by
  obtain ⟨k, hk⟩ := List.mem_iff_getElem?.1 hcs
  have hk2 := (List.getElem?_eq_some_iff.1 hk).1
  exact (h2 k _ cs (List.getElem?_eq_getElem (by omega)) hk).1
 refine ⟨css, h1, hl, fun k x cs hx hc => (h2 k x cs hx hc).2.1, fun b o e j u hu => ?_⟩
 have hj := (List.getElem?_eq_some_iff.1 hu).1
 rw [flat_lenS css s hl] at hj
 have hdm := Nat.div_add_mod j s
 have hq : j / s < css.length := Nat.div_lt_of_lt_mul (by rw [Nat.mul_comm]; exact hj)
 have hr := Nat.mod_lt j hs
 have hcs := List.getElem?_eq_getElem hq
 have hf := flat_getS css s (j / s) (j % s) _ hl hcs hr
 have e1 : j / s * s + j % s = j := by rw [Nat.mul_comm]; exact hdm
 rw [e1] at hf
 obtain ⟨_, _, h3⟩ := h2 (j / s) _ _ (List.getElem?_eq_getElem (by omega)) hcs
 have h4 := h3 b o e (j % s) hr
 rw [e1] at h4
 exact ⟨h4.1, by rw [h4.2, ← hf, hu]⟩
theorem vs_grow {W D wB : World} {OB : Nat} {Q : Vc → List Value → Prop} {v v' u : Value} {l : List Vc} {css : List (List Value)} {xs cs : List Value} (h : LO 48 2 Q W (OB + 1) v l css) (hx : Cells W OB 29 xs) (hD : Below W.heap.size W D) (hg : D.grownBy wB v.ownBlock) (ho : wB.ownsRow (OB + 1) 48 2 v' (l.length + 1) (css.flatten ++ cs)) :
  Cells wB OB 29 xs ∧ Cells (wB.setCell ⟨OB, 1, Option.none⟩ u) OB 29 (xs.set 1 u) ∧ (wB.setCell ⟨OB, 1, Option.none⟩ u).ownsRow (OB + 1) 48 2 v' (l.length + 1) (css.flatten ++ cs) ∧ (∀ b, b < W.heap.size → v.ownBlock ≠ some b → b ≠ OB → (wB.setCell ⟨OB, 1, Option.none⟩ u).heap[b]? = W.heap[b]?) ∧ Below OB W (wB.setCell ⟨OB, 1, Option.none⟩ u) := by
 have hneX := own_off_ty h.own hx (by decide)
 have hxD := hx.below hD hx.lt
 have hxB := hxD.grown hg hneX
 refine ⟨hxB, hxB.set 1 u, ?_, fun b hb hnb hbo => ?_, ?_⟩
 ·refine ⟨ho.1, ?_⟩
  rcases ho.2 with h0 | ⟨g, cap, cur, e, hb, hgg, rest⟩
  ·exact .inl h0
  ·exact .inr ⟨g, cap, cur, e, hb, (Below.heap_setCell wB _ u g (by show g ≠ OB; omega)).trans hgg, rest⟩
 ·rw [Below.heap_setCell wB _ u b hbo, hg.block b (Nat.lt_of_lt_of_le hb hD.size) (fun e => hnb e.symm)]
  exact hD.block b hb
 ·exact ((hD.mono (Nat.le_of_lt hx.lt)).grown hg (Nat.le_of_lt hxD.lt) (fun k hk => Nat.le_trans (Nat.le_succ _) (h.own.lt k hk).1)).setCell (p := ⟨OB, 1, Option.none⟩) (Nat.le_refl _) u
theorem VcU.lift {w w' : World} {x : Vc} {cs : List Value} (h : VcU w x cs) (hb : Below w.heap.size w w') : VcU w' x cs := by
 obtain ⟨A, c, e, h1, h2, h3⟩ := h
 exact ⟨A, c, e, h1, h2, h3.lift hb⟩
theorem VcU.plain (w : World) (nm : List UInt8) : VcU w ⟨nm, []⟩ [.string ⟨nm.toArray⟩, .slice Option.none 0 0] := ⟨Option.none, 0, rfl, Nat.le_refl _, Nat.zero_le _, LA.nil _ _ _ _⟩
theorem evs_one {w : World} {g : Nat} {x : Ev} {cs : List Value} (h : Cells w g 54 cs) (hl : cs.length = 3) (hx : EvU w x cs) : EvsU w (some ⟨g, 0, Option.none⟩) [x] := ⟨fun k y hy => by
 cases k with
 | succ k => simp at hy
 | zero =>
   simp at hy
   subst hy
   exact ⟨g, 0, cs, rfl, h.lt, hl, hx, fun j _ => by rw [Nat.zero_mul, Nat.zero_add, Nat.zero_add]; exact h.cell j⟩⟩
theorem notes_one {w : World} {g : Nat} {x : List Int} {v : Value} (h : Cells w g 40 [v]) (hx : URow w v x) : NotesU w (some ⟨g, 0, Option.none⟩) [x] := ⟨fun k y hy => by
 cases k with
 | succ k => simp at hy
 | zero =>
   simp at hy
   subst hy
   exact ⟨g, 0, [v], rfl, h.lt, rfl, ⟨v, rfl, hx⟩, fun j _ => by rw [Nat.zero_mul, Nat.zero_add, Nat.zero_add]; exact h.cell j⟩⟩
theorem made_get (z : Array Value) (n k : Nat) (h : k < n) : (madeCells z n).toList[k]? = some (z[k % z.size]!) := by simp [madeCells, h]
theorem evs_made {w : World} {g : Nat} (h : Cells w g 54 (madeCells #[.string ⟨#[]⟩, .string ⟨#[]⟩, .slice Option.none 0 0] 1503).toList) : EvsU w (some ⟨g, 0, Option.none⟩) (List.replicate 501 ⟨[], [], []⟩) := ⟨fun k x hx => by
 obtain ⟨hk, e⟩ := List.getElem?_eq_some_iff.1 hx
 rw [List.length_replicate] at hk
 rw [List.getElem_replicate] at e
 subst e
 refine ⟨g, 0, [.string ⟨#[]⟩, .string ⟨#[]⟩, .slice Option.none 0 0], rfl, h.lt, rfl, ⟨Option.none, 0, rfl, Nat.le_refl _, Nat.zero_le _, LA.nil _ _ _ _⟩, fun j hj => ?_⟩
 rw [Nat.zero_add, h.cell (k * 3 + j), made_get _ _ _ (by omega)]
 have hm : (k * 3 + j) % 3 = j := by omega
 show some ((#[.string ⟨#[]⟩, .string ⟨#[]⟩, .slice Option.none 0 0] : Array Value)[(k * 3 + j) % 3]!) = _
 rw [hm]
 match j, hj with
 | 0, _ => rfl
 | 1, _ => rfl
 | 2, _ => rfl⟩
theorem notes_made {w : World} {g : Nat} (h : Cells w g 40 (madeCells #[.slice Option.none 0 0] 13).toList) : NotesU w (some ⟨g, 0, Option.none⟩) (List.replicate 13 []) := ⟨fun k x hx => by
 obtain ⟨hk, e⟩ := List.getElem?_eq_some_iff.1 hx
 rw [List.length_replicate] at hk
 rw [List.getElem_replicate] at e
 subst e
 refine ⟨g, 0, [.slice Option.none 0 0], rfl, h.lt, rfl, ⟨_, rfl, IRow.row (IRow.nil w w.heap.size)⟩, fun j hj => ?_⟩
 obtain rfl : j = 0 := by omega
 rw [Nat.zero_add, Nat.mul_one, Nat.add_zero, h.cell k, made_get _ _ _ hk]
 show some ((#[.slice Option.none 0 0] : Array Value)[k % 1]!) = _
 rw [Nat.mod_one]
 rfl⟩
theorem vs_name {w W : World} {OB g c n : Nat} {css : List (List Value)} {l : List Vc} {v0 : Vc} (nm : List UInt8) (h : LO 48 2 (VcU w) W (OB + 1) (.slice (some ⟨g, 0, Option.none⟩) (n + 1) c) (l ++ [v0]) css) (hn : l.length = n) : (∃ css', LO 48 2 (VcU w) (W.setCell ⟨g, n * 2, Option.none⟩ (.string ⟨nm.toArray⟩)) (OB + 1) (.slice (some ⟨g, 0, Option.none⟩) (n + 1) c) (l ++ [⟨nm, v0.evs⟩]) css') ∧ W.cell? ⟨g, n * 2, Option.none⟩ = some (.string ⟨v0.name.toArray⟩) ∧ W.frozen? ⟨g, n * 2, Option.none⟩ = false ∧ OB + 1 ≤ g ∧ g < W.heap.size := by
 have hll : (l ++ [v0]).length = n + 1 := by rw [List.length_append, hn]; rfl
 have hcl : css.length = n + 1 := by rw [h.len, hll]
 rcases h.own.2 with ⟨e, _⟩ | ⟨g', cap, cur, e, hb, hg, hc1, hc2, hc3, hc4⟩
 ·cases e
 injection e with e1 e2 e3
 injection e1 with e1
 injection e1 with e1 _ _
 subst e1 e3
 have hn1 : n < css.length := by omega
 have hcs := List.getElem?_eq_getElem hn1
 obtain ⟨A', c', ec, h5, h6, h7⟩ := h.part n v0 _ (by rw [List.getElem?_append_right (by omega), hn, Nat.sub_self]; rfl) hcs
 have hf := flat_getS css 2 n 0 _ h.lens hcs (by decide)
 rw [ec, Nat.add_zero] at hf
 rw [hll] at hc4
 have hcur : cur.toList[n * 2]? = some (.string ⟨v0.name.toArray⟩) := by
  rw [← hc4, List.getElem?_take, if_pos (by omega)] at hf
  exact hf
 have hcell : W.cell? ⟨g, n * 2, Option.none⟩ = some (.string ⟨v0.name.toArray⟩) := by
  unfold World.cell?
  simp only [hg]
  simpa using hcur
 refine ⟨⟨css.set n [.string ⟨nm.toArray⟩, .slice A' v0.evs.length c'], ⟨?_, .inr ⟨g, _, cur.setIfInBounds (n * 2) (.string ⟨nm.toArray⟩), by rw [List.length_append, hn]; rfl, hb, ?_, by rw [List.length_append, hn]; exact (hll ▸ hc1), hc2, by simpa using hc3, ?_⟩⟩, by rw [List.length_set, hcl, List.length_append, hn]; rfl, fun cs hcs2 => ?_, fun k x cs hx hk => ?_⟩, hcell, by simp [World.frozen?, hg], hb, (Array.getElem?_eq_some_iff.1 hg).1⟩
 ·rw [flat_lenS _ 2 (fun cs hcs2 => (List.mem_or_eq_of_mem_set hcs2).elim (h.lens cs) fun e => by rw [e]; rfl), List.length_set, hcl, List.length_append, hn]
  rfl
 ·simp [World.setCell, Array.getElem?_modify, hg]
 ·have hl2 : (l ++ [(⟨nm, v0.evs⟩ : Vc)]).length * 2 = (n + 1) * 2 := by rw [List.length_append, hn]; rfl
  have hF : (css.take n).flatten.length = n * 2 := by
   rw [flat_lenS _ 2 (fun cs hcs2 => h.lens cs (List.mem_of_mem_take hcs2)), List.length_take, hcl]
   omega
  have e1 : css = css.take n ++ [css[n]'hn1] := by
   have := List.take_append_drop n css
   rw [List.drop_eq_getElem_cons hn1, List.drop_eq_nil_of_le (by omega)] at this
   exact this.symm
  have e2 : css.set n [.string ⟨nm.toArray⟩, .slice A' v0.evs.length c'] = css.take n ++ [[.string ⟨nm.toArray⟩, .slice A' v0.evs.length c']] := by
   rw [List.set_eq_take_append_cons_drop, if_pos hn1, List.drop_eq_nil_of_le (by omega)]
  have e3 : css.flatten = (css.take n).flatten ++ [.string ⟨v0.name.toArray⟩, .slice A' v0.evs.length c'] := by
   conv => lhs; rw [e1]
   rw [List.flatten_append, ec]
   simp
  rw [hl2, e2, List.flatten_append, Array.toList_setIfInBounds, List.take_set, hc4, e3]
  simp only [List.flatten_cons, List.flatten_nil, List.append_nil]
  rw [List.set_append_right _ _ (by rw [hF]; exact Nat.le_refl _), hF, Nat.sub_self]
  simp
 ·rcases List.mem_or_eq_of_mem_set hcs2 with h8 | h8
  ·exact h.lens cs h8
  ·rw [h8]; rfl
 ·by_cases hkn : k = n
  ·subst hkn
   rw [List.getElem?_append_right (by omega), hn, Nat.sub_self] at hx
   rw [List.getElem?_set_self hn1] at hk
   simp at hx hk
   subst hx hk
   exact ⟨A', c', rfl, h5, h6, h7⟩
  ·rw [List.getElem?_set_ne (fun e => hkn e.symm)] at hk
   have hkl := (List.getElem?_eq_some_iff.1 hx).1
   rw [List.length_append, hn] at hkl
   have hkl2 : k < n + 1 := hkl
   rw [List.getElem?_append_left (by omega)] at hx
   exact h.part k x cs (by rw [List.getElem?_append_left (by omega)]; exact hx) hk
theorem celC {w : World} {g : Nat} {T : TypeId} {a b c d e : Value} (h : Cells w g T [a, b, c, d, e]) : w.cell? ⟨g, 0, Option.none⟩ = some a ∧ w.cell? ⟨g, 1, Option.none⟩ = some b ∧ w.cell? ⟨g, 2, Option.none⟩ = some c ∧ w.cell? ⟨g, 3, Option.none⟩ = some d ∧ w.cell? ⟨g, 4, Option.none⟩ = some e := ⟨h.cell 0, h.cell 1, h.cell 2, h.cell 3, h.cell 4⟩
theorem sc_fin {WN WF : World} {OB : Nat} {v' pv : Value} {p : List Int} {l : List Vc} {css : List (List Value)} (h : LO 48 2 (VcU WF) WN (OB + 1) v' l css) (hp : URow WF pv p) (hk : ∀ b, OB < b → b < WN.heap.size → WF.heap[b]? = WN.heap[b]?) (hz : WN.heap.size ≤ WF.heap.size) : ScU WF pv v' ⟨p, l⟩ := by
 obtain ⟨A, c, rfl, h1, h2, h3⟩ := h.shape
 refine ⟨hp, A, c, rfl, h1, h2, ⟨fun k x hx => ?_⟩⟩
 obtain ⟨b, o, cs, e, h4, h5, h6, h7, h8⟩ := h3.get k x hx
 have hb := (h.lt b (by rw [e]; rfl)).1
 have hblk := hk b (by omega) h4
 exact ⟨b, o, cs, e, by omega, h6, h8, fun j hj => by rw [← Nat.add_assoc]; exact (World.cell?_of_block hblk).trans (h7 j hj)⟩
set_option maxRecDepth 100000 in
set_option maxHeartbeats 16000000 in
theorem change48_any (A : Option Addr) (c : Nat) (pv : Value) (s : Sc) (how : Nat) (nm nu de : List UInt8) (nv : Value) (note : List Int) (w : World) (h : ScU w pv (.slice A s.voices.length c) s) (hA : A = Option.none → s.voices.length = 0 ∧ c = 0) (hh : how ≤ 255) (hn : IsRow w w.heap.size nv note) (hvl : s.voices.length ≤ 8) (hpl : 0 < s.primes.length ∧ s.primes.length ≤ 100) :
  Calls Tryz.prog 16 #[.agg #[pv, .slice A s.voices.length c], .agg #[.int .u8 how, .string ⟨nm.toArray⟩, .string ⟨nu.toArray⟩, .string ⟨de.toArray⟩, nv]] w fun e w' => (∃ pu vu, e = .returned (.agg #[pu, vu]) ∧ ScU w' pu vu (chSc s how nm nu de note)) ∧ Below w.heap.size w w' := by
 obtain ⟨kv, hiv, fz0, fz1, fz2⟩ := info_parts Tryz.info_voice48
 obtain ⟨ji, hji, iz0, iz1, iz2⟩ := info_parts Tryz.info_int
 obtain ⟨hp, A', c', e, hc1, hc2, hvs⟩ := h
 injection e with e1 _ e2
 subst e1 e2
 have HP := Lib.hid hp
 have HV := Lib.hid hvs
 have HN := Lib.hid hn
 obtain ⟨AP, cp, rfl, hcp1, hcp2⟩ := hp.shape
 obtain ⟨AN, cN, rfl, hcn1, hcn2, _⟩ := hn
 unfold maxLen at hc2 hcp2 hcn2
 have HCH : Box (chSc s how nm nu de note = match how % 8 with
  | 0 => ⟨s.primes ++ [4], s.voices⟩
  | 1 => ⟨s.primes, s.voices ++ [⟨nm, []⟩]⟩
  | 2 => ⟨s.primes, s.voices ++ letters8 8⟩
  | 3 => ⟨s.primes, s.voices ++ [⟨[120], [⟨nu, de, []⟩]⟩]⟩
  | 4 => ⟨s.primes, s.voices ++ [⟨[120], [⟨[49], [50], [note]⟩]⟩]⟩
  | 5 => ⟨s.primes, s.voices ++ [⟨[120], List.replicate 501 ⟨[], [], []⟩⟩]⟩
  | 6 => ⟨s.primes, s.voices ++ [⟨[120], [⟨nu, de, List.replicate 13 []⟩]⟩]⟩
  | _ => ⟨s.primes, lastName s.voices nm⟩) := ⟨rfl⟩
 generalize chSc s how nm nu de note = out at *
 obtain ⟨nv, hnv⟩ : ∃ nv, s.voices.length = nv := ⟨_, rfl⟩
 rw [hnv] at hA hc1 hvl ⊢
 have HNV := Box.mk hnv
 clear hnv
 obtain ⟨W0, hW0⟩ : ∃ W0, W0 = ((w.alloc (.cells #[.slice AP s.primes.length cp, .slice A nv c] 29)).alloc (.cells #[.int .u8 how, .string ⟨nm.toArray⟩, .string ⟨nu.toArray⟩, .string ⟨de.toArray⟩, .slice AN note.length cN] 60)).alloc (.cells #[.slice Option.none 0 0, .slice Option.none 0 0] 29) := ⟨_, rfl⟩
 have hb0 : Below w.heap.size w W0 := by rw [hW0]; exact (((Below.refl _ _).alloc (Nat.le_refl _) _).alloc (by simp) _).alloc (by simp; omega) _
 have HSB : Hid (Cells W0 w.heap.size 29 [.slice AP s.primes.length cp, .slice A nv c]) := Lib.hid (by rw [hW0]; exact ((Cells.new w 29 #[.slice AP s.primes.length cp, .slice A nv c]).alloc _).alloc _)
 have HCB : Hid (Cells W0 (w.heap.size + 1) 60 [.int .u8 how, .string ⟨nm.toArray⟩, .string ⟨nu.toArray⟩, .string ⟨de.toArray⟩, .slice AN note.length cN]) := Lib.hid (by
  have h := Cells.new (w.alloc (.cells #[.slice AP s.primes.length cp, .slice A nv c] 29)) 60 #[.int .u8 how, .string ⟨nm.toArray⟩, .string ⟨nu.toArray⟩, .string ⟨de.toArray⟩, .slice AN note.length cN]
  rw [World.size_alloc] at h
  rw [hW0]
  exact h.alloc _)
 have HRB : Hid (Cells W0 (w.heap.size + 1 + 1) 29 [.slice Option.none 0 0, .slice Option.none 0 0]) := Lib.hid (by
  have h := Cells.new ((w.alloc (.cells #[.slice AP s.primes.length cp, .slice A nv c] 29)).alloc (.cells #[.int .u8 how, .string ⟨nm.toArray⟩, .string ⟨nu.toArray⟩, .string ⟨de.toArray⟩, .slice AN note.length cN] 60)) 29 #[.slice Option.none 0 0, .slice Option.none 0 0]
  simp only [World.size_alloc] at h
  rw [hW0]
  exact h)
 have HB0 := Lib.hid hb0
 clear hb0 hp hvs
 go_enter Tryz.func16, Tryz.ntmps16
 go_upto_region 1 with (fail)
 rw [← hW0]
 clear hW0
 obtain ⟨z0, z1⟩ := cel2 HSB.out
 obtain ⟨OB, hOB⟩ : ∃ OB, OB = W0.heap.size := ⟨_, rfl⟩
 obtain ⟨W1, hW1⟩ : ∃ W1, W1 = W0.alloc (.cells #[.slice AP s.primes.length cp, .slice A nv c] 29) := ⟨_, rfl⟩
 have HOB : Hid (Cells W1 OB 29 [.slice AP s.primes.length cp, .slice A nv c]) := Lib.hid (by rw [hW1, hOB]; exact Cells.new W0 29 #[.slice AP s.primes.length cp, .slice A nv c])
 have hb1 : Below OB W0 W1 := by rw [hW1, hOB]; exact (Below.refl _ _).alloc (Nat.le_refl _) _
 have HB1 := Lib.hid hb1
 have hs1 : W1.heap.size = OB + 1 := by rw [hW1, hOB, World.size_alloc]
 have HS1 : Box (W1.heap.size = OB + 1) := ⟨hs1⟩
 have hRO : w.heap.size + 1 + 1 < OB := by have := HRB.out.lt; omega
 have HOE : Box (OB = W0.heap.size) := ⟨hOB⟩
 clear hb1 hs1
 go_upto_region 2 with (fail)
 rw [← hW1, ← hOB]
 clear hW1 hOB z0 z1
 have hsb1 := HSB.out.below HB1.out (by omega)
 obtain ⟨z0, z1⟩ := cel2 hsb1
 clear hsb1
 go_cut [] (fun wx => ∃ vA css, Cells wx OB 29 [.slice AP s.primes.length cp, vA] ∧ LO 48 2 (VcU w) wx (OB + 1) vA s.voices css ∧ Below OB W0 wx)
 case first =>
  have hW2 : Below W1.heap.size W1 (W1.alloc (.cells #[] 48)) := (Below.refl _ _).alloc (Nat.le_refl _) _
  have ho2 : Cells (W1.alloc (.cells #[] 48)) OB 29 [.slice AP s.primes.length cp, .slice A nv c] := HOB.out.alloc _
  replace z1 := keep_cell z1 hW2
  obtain ⟨y0, y1⟩ := cel2 ho2
  have f1 := ho2.free 1
  have hown : (W1.alloc (.cells #[] 48)).ownsRow (OB + 1) 48 2 (.slice (some ⟨W1.heap.size, 0, Option.none⟩) 0 0) 0 [] := ⟨rfl, .inr ⟨W1.heap.size, 0, #[], rfl, by rw [HS1.out]; exact Nat.le_refl _, Cells.new W1 48 #[], Nat.le_refl _, Nat.zero_le _, rfl, rfl⟩⟩
  have HO := Lib.hid hown
  have HC := Lib.hid ho2
  have hB02 : Below OB W0 (W1.alloc (.cells #[] 48)) := HB1.out.trans (hW2.mono (by rw [HS1.out]; omega))
  have HB02 := Lib.hid hB02
  obtain ⟨css, hcl, hcs, hcq, hcc⟩ := LA.cells (by decide) HV.out
  have HCQ := Box.mk (And.intro hcl (And.intro hcs hcq))
  clear ho2 hown hW2 hB02
  cases A with
  | none =>
    obtain ⟨rfl, rfl⟩ := hA rfl
    have HLN : Box (s.voices = []) := ⟨List.eq_nil_of_length_eq_zero HNV.out⟩
    clear hcc hcl hcs hcq hA
    go_wp2_with (at_builtin; refine wpList_append_own_none rfl _ _ _ rfl (OB + 1) 48 kv 2 Tryz.underlying27 hiv _ 0 [] rfl HO.out rfl ?_)
    go_meet
    refine ⟨_, [], HC.out.set 1 _, ?_, HB02.out.setCell (p := ⟨OB, 1, Option.none⟩) (Nat.le_refl _) _⟩
    rw [HLN.out]
    exact ⟨⟨rfl, .inr ⟨W1.heap.size, 0, #[], rfl, by rw [HS1.out]; exact Nat.le_refl _, (Below.heap_setCell _ _ _ _ (by rw [HS1.out]; show OB + 1 ≠ OB; omega)).trans (Cells.new W1 48 #[]), Nat.le_refl _, Nat.zero_le _, rfl, rfl⟩⟩, rfl, by simp, fun k x cs h => by simp at h⟩
  | some ad =>
    have hpl1 : ad.spot = Option.none ∨ s.voices = [] := by
     by_cases h0 : 0 < s.voices.length
     ·obtain ⟨b, o, _, e, _⟩ := HV.out.get 0 _ (List.getElem?_eq_getElem h0)
      injection e with e
      rw [e]
      exact .inl rfl
     ·exact .inr (List.eq_nil_of_length_eq_zero (by omega))
    have hnews : ∀ (j : Nat) u, css.flatten[j]? = some u → (W1.alloc (.cells #[] 48)).cell? (ad.add j) = some u := fun j u hu => by
     rcases hpl1 with h1 | h1
     ·obtain ⟨b, o, sp⟩ := ad
      dsimp only at h1
      subst h1
      obtain ⟨h2, h3⟩ := hcc b o rfl j u hu
      rw [Lib.add_plain]
      exact keep_cell (keep_cell h3 HB0.out) (HB02.out.mono (by rw [HOE.out]; exact Nat.le_refl _))
     ·rw [h1] at hcl
      rw [List.eq_nil_of_length_eq_zero hcl] at hu
      simp at hu
    have h1c : ∀ u ∈ css.flatten, u.oneCell' = true := fun u hu => by
     obtain ⟨cs, h1, h2⟩ := List.mem_flatten.1 hu
     obtain ⟨k, hk⟩ := List.mem_iff_getElem?.1 h1
     have hkl := (List.getElem?_eq_some_iff.1 hk).1
     obtain ⟨A', c', e, _⟩ := hcq k _ cs (List.getElem?_eq_getElem (by omega)) hk
     rw [e] at h2
     simp at h2
     rcases h2 with rfl | rfl <;> rfl
    have hlf : css.flatten.length = nv * 2 := by rw [flat_lenS css 2 hcs, hcl, HNV.out]
    have HNW := Lib.hid hnews
    have H1C := Lib.hid h1c
    have HLF := Box.mk hlf
    clear hcc hcl hcs hcq hA hpl1 hnews h1c hlf
    go_wp2_with (at_builtin; refine wpList_append_own _ rfl _ _ _ rfl (OB + 1) 48 kv (.agg #[.string ⟨#[]⟩, .slice Option.none 0 0]) 2 40 Tryz.underlying27 hiv fz0 fz1 fz2 rfl (by decide) _ _ _ rfl HO.out ad nv c css.flatten rfl HLF.out HNW.out H1C.out (by unfold maxLen; omega) (by omega) (by rw [World.size_alloc, HS1.out]; omega) ?_; intro v9 w9 hown9 hg9 hn9; obtain ⟨g9, c9, rfl⟩ : ∃ g c, v9 = .slice (some ⟨g, 0, Option.none⟩) (0 + nv) c := (by rcases hown9.2 with ⟨e, _⟩ | ⟨g, cap, cur, e, _⟩; exact absurd (hn9.1 e).1 (fun e => by cases e); exact ⟨g, cap, e⟩); rw [Nat.zero_add] at hown9; have hxB := HC.out.grown hg9 (fun e => by injection e with e; have h := HS1.out; have e2 : OB = W1.heap.size := e; omega); have fB := hxB.free 1; obtain ⟨_, sB⟩ := cel2 hxB)
    go_meet
    refine ⟨_, css, hxB.set 1 _, ?_, ?_⟩
    ·rw [List.nil_append] at hown9
     refine ⟨⟨?_, ?_⟩, HCQ.out.1, HCQ.out.2.1, HCQ.out.2.2⟩
     ·rw [HNV.out]; exact hown9.1
     ·rw [HNV.out]
      rcases hown9.2 with h0 | ⟨g, cap, cur, e, hb, hgg, rest⟩
      ·exact .inl h0
      ·exact .inr ⟨g, cap, cur, e, hb, (Below.heap_setCell _ _ _ g (by show g ≠ OB; omega)).trans hgg, rest⟩
    ·exact (HB02.out.trans ((Below.refl _ _).grown hg9 (by rw [World.size_alloc, HS1.out]; omega) (fun k hk => by injection hk with hk; have e2 : W1.heap.size = k := hk; have h := HS1.out; omega))).setCell (p := ⟨OB, 1, Option.none⟩) (Nat.le_refl _) _
 case rest =>
  clear HS1 HB1 HOB z0 z1
  rename World => wx
  obtain ⟨vA, css, hcx, hlo, hbx⟩ := hcut
  obtain ⟨AV, cV, rfl, hV1, hV2, _⟩ := hlo.shape
  rw [HNV.out] at hcx hV1 hlo
  have hblt := hlo.lt
  have HBL := Box.mk hblt
  have HLO := Lib.hid hlo
  have HOX := Lib.hid hcx
  have HCX := Lib.hid (HCB.out.below hbx (by omega))
  have HSX := Lib.hid (HSB.out.below hbx (by omega))
  have HRX := Lib.hid (HRB.out.below hbx (by omega))
  have HBX := Lib.hid (HB0.out.trans (hbx.mono (by rw [HOE.out]; exact HB0.out.size)))
  have hbX : Below w.heap.size w wx := HBX.out
  unfold maxLen at hV2
  clear hcx hlo hbx hblt hA HCB HRB HB0
  obtain ⟨o0, o1⟩ := cel2 HOX.out
  obtain ⟨k0, k1, k2, k3, k4⟩ := celC HCX.out
  have HNB : Box (nv ≤ 8) := ⟨hvl⟩
  have h8 : how % 8 < 8 := Nat.mod_lt _ (by decide)
  have hown := HLO.out.own
  rw [HNV.out] at hown
  have hwx : OB < wx.heap.size := HOX.out.lt
  have hwo : wx.heap.size ≤ wx.heap.size := Nat.le_refl _
  rcases (by omega : how % 8 = 0 ∨ how % 8 = 1 ∨ how % 8 = 2 ∨ how % 8 = 3 ∨ how % 8 = 4 ∨ how % 8 = 5 ∨ how % 8 = 6 ∨ how % 8 = 7) with hj | hj | hj | hj | hj | hj | hj | hj
  ·have hj1 : (how : Int) % 8 = 0 := by omega
   have HOUT : Box (out = ⟨s.primes ++ [4], s.voices⟩) := ⟨by rw [HCH.out, hj]; rfl⟩
   clear HCH hj h8 hown
   obtain ⟨s0, s1⟩ := cel2 HSX.out
   obtain ⟨ad, had, hnews⟩ : ∃ ad, AP = some ad ∧ ∀ (j : Nat) u, (is s.primes)[j]? = some u → (wx.alloc (.cells #[] 3)).cell? (ad.add j) = some u := by
    obtain ⟨_, _, e, _, _, hr⟩ := HP.out
    injection e with e _ _
    subst e
    obtain ⟨ad, h1, _⟩ := hr.2 0 (.int .i64 (s.primes[0]?.getD 0)) (by unfold is; rw [List.getElem?_map, List.getElem?_eq_getElem hpl.1]; rfl)
    refine ⟨ad, h1, fun j u hu => ?_⟩
    obtain ⟨ad', e, hb, hc⟩ := hr.2 j u hu
    rw [h1] at e
    injection e with e
    subst e
    exact keep_cell hc (HBX.out.trans (((Below.refl wx.heap.size wx).alloc (Nat.le_refl _) (.cells #[] 3)).mono HBX.out.size))
   subst had
   have hown0 : (wx.alloc (.cells #[] 3)).ownsRow wx.heap.size 3 1 (.slice (some ⟨wx.heap.size, 0, Option.none⟩) 0 0) 0 [] := Cells.own (k := 0) (Cells.new wx 3 #[]) (Nat.le_refl _) rfl (Nat.zero_le _) (Nat.le_refl _)
   have HO := Lib.hid hown0
   have HNW := Lib.hid hnews
   have hpl2 := hpl.2
   have hpl1 := hpl.1
   have hox := HOX.out
   clear hown0 hnews hpl
   have hox0 := hox.alloc (.cells #[] 3)
   have hsx0 := keep_cell s0 ((Below.refl wx.heap.size wx).alloc (Nat.le_refl _) (.cells #[] 3))
   have HX0 := Lib.hid hox0
   have hxo : OB < wx.heap.size := hwx
   clear hox hox0
   go_upto_region 24 with (first
    | (at_builtin; refine wpList_append_own _ rfl _ _ _ rfl wx.heap.size 3 ji (.int .i64 0) 1 8 Tryz.underlying26 hji iz0 iz1 iz2 rfl (by decide) _ _ _ rfl HO.out ad s.primes.length cp (is s.primes) rfl (by rw [is_length, Nat.mul_one]) HNW.out (by intro u hu; unfold is at hu; obtain ⟨z, _, rfl⟩ := List.mem_map.1 hu; rfl) (by unfold maxLen; omega) (by omega) (by simp) ?_; intro v8 w8 hown8 hg8 _; rw [Nat.zero_add, List.nil_append] at hown8; obtain ⟨g8, c8, rfl, _, _⟩ := hown8.form (by omega); have hx8 := HX0.out.grown hg8 (fun e => by injection e with e; have e2 : OB = wx.heap.size := e; omega); have hb8 : Below wx.heap.size wx w8 := ((Below.refl _ _).alloc (Nat.le_refl _) _).grown hg8 (by simp) (fun k hk => by injection hk with hk; have e2 : wx.heap.size = k := hk; omega))
    | (at_builtin; refine wpList_append_own _ rfl _ _ _ rfl wx.heap.size 3 ji (.int .i64 0) 1 8 Tryz.underlying26 hji iz0 iz1 iz2 rfl (by decide) _ _ _ rfl (hown8.alloc _) ⟨w8.heap.size, 0, Option.none⟩ 1 1 [.int .i64 4] rfl rfl (cell_one_new _ _ _) (by simp [Value.oneCell']) (by unfold maxLen; omega) (by omega) (by simp; have := hb8.size; omega) ?_; intro v9 w9 hown9 hg9 _; obtain ⟨g9, c9, rfl, _, _⟩ := hown9.form (by omega); have hx9 := (hx8.alloc (.cells #[.int .i64 4] 3)).grown hg9 (fun e => by injection e with e; have e2 : OB = g8 := e; have := (hown8.lt g8 rfl).1; omega); have hb9 : Below wx.heap.size wx w9 := (hb8.trans ((((Below.refl w8.heap.size w8).alloc (Nat.le_refl _) (.cells #[.int .i64 4] 3))).mono hb8.size)).grown hg9 (by simp; have := hb8.size; omega) (fun k hk => (hown8.lt k hk).1); have fB := hx9.free 0; obtain ⟨sA, sB⟩ := cel2 hx9))
   have hkN : ∀ b, b < wx.heap.size → b ≠ OB → (w9.setCell ⟨OB, 0, Option.none⟩ (.slice (some ⟨g9, 0, Option.none⟩) (s.primes.length + 1) c9)).heap[b]? = wx.heap[b]? := fun b hb hne => (Below.heap_setCell _ _ _ b hne).trans (hb9.block b hb)
   have hbN : Below OB wx (w9.setCell ⟨OB, 0, Option.none⟩ (.slice (some ⟨g9, 0, Option.none⟩) (s.primes.length + 1) c9)) := (hb9.mono (Nat.le_of_lt hxo)).setCell (p := ⟨OB, 0, Option.none⟩) (Nat.le_refl _) _
   have hoN := ownsRow_setCell_below hown9 (a := ⟨OB, 0, Option.none⟩) hxo (.slice (some ⟨g9, 0, Option.none⟩) (s.primes.length + 1) c9)
   have hlN := HLO.out.kept (Q' := VcU w) (fun g hg => hkN g (HLO.out.lt g hg).2 (by have := (HLO.out.lt g hg).1; omega)) (fun _ _ _ h => h)
   have hxN := hx9.set 0 (.slice (some ⟨g9, 0, Option.none⟩) (s.primes.length + 1) c9)
   obtain ⟨WN, hWN⟩ : ∃ WN, WN = w9.setCell ⟨OB, 0, Option.none⟩ (.slice (some ⟨g9, 0, Option.none⟩) (s.primes.length + 1) c9) := ⟨_, rfl⟩
   rw [← hWN] at hbN hoN hlN hxN ⊢
   have HON := Lib.hid hxN
   have HLN := Lib.hid hlN
   have HOWN := Lib.hid hoN
   have HRN := Lib.hid (HRX.out.below hbN (by omega))
   have HBN := Lib.hid (HBX.out.trans (hbN.mono (by have := HBX.out.size; omega)))
   clear hWN hbN hoN hlN hxN hkN hb9 hx9 hb8 hx8 hown8 hown9 hg8 hg9 s0 s1 o0 o1 k0 k1 k2 k3 k4 hsx0 fB sA sB
   obtain ⟨r0, r1⟩ := cel2 HRN.out
   have rf0 := HRN.out.free 0
   have rf1 := HRN.out.free 1
   obtain ⟨n0, n1⟩ := cel2 HON.out
   go_wp2_with fail
   have hset := (HRN.out.set 0 (.slice (some ⟨g9, 0, Option.none⟩) (s.primes.length + 1) c9)).set 1 (.slice AV nv cV)
   obtain ⟨t0, t1⟩ := cel2 hset
   have hbF : Below w.heap.size w ((WN.setCell ⟨w.heap.size + 1 + 1, 0, Option.none⟩ (.slice (some ⟨g9, 0, Option.none⟩) (s.primes.length + 1) c9)).setCell ⟨w.heap.size + 1 + 1, 1, Option.none⟩ (.slice AV nv cV)) := (HBN.out.setCell (p := ⟨w.heap.size + 1 + 1, 0, Option.none⟩) (by show w.heap.size ≤ w.heap.size + 1 + 1; omega) _).setCell (p := ⟨w.heap.size + 1 + 1, 1, Option.none⟩) (by show w.heap.size ≤ w.heap.size + 1 + 1; omega) _
   have hkF : ∀ b, OB < b → b < WN.heap.size → ((WN.setCell ⟨w.heap.size + 1 + 1, 0, Option.none⟩ (.slice (some ⟨g9, 0, Option.none⟩) (s.primes.length + 1) c9)).setCell ⟨w.heap.size + 1 + 1, 1, Option.none⟩ (.slice AV nv cV)).heap[b]? = WN.heap[b]? := fun b hb _ => (Below.heap_setCell _ _ _ b (by show b ≠ w.heap.size + 1 + 1; omega)).trans (Below.heap_setCell _ _ _ b (by show b ≠ w.heap.size + 1 + 1; omega))
   refine bodyPost_ret (v := .agg #[.slice (some ⟨g9, 0, Option.none⟩) (s.primes.length + 1) c9, .slice AV nv cV]) (by simp (maxDischargeDepth := 10) [results, Tryz.results16, go_sem, t0, t1]) rfl ⟨⟨_, _, rfl, ?_⟩, hbF⟩
   rw [HOUT.out]
   have hfin := ownsRow_setCell_below (ownsRow_setCell_below HOWN.out (a := ⟨w.heap.size + 1 + 1, 0, Option.none⟩) (by show w.heap.size + 1 + 1 < wx.heap.size; omega) (.slice (some ⟨g9, 0, Option.none⟩) (s.primes.length + 1) c9)) (a := ⟨w.heap.size + 1 + 1, 1, Option.none⟩) (by show w.heap.size + 1 + 1 < wx.heap.size; omega) (.slice AV nv cV)
   exact sc_fin (HLN.out.mono fun _ _ _ hq => hq.lift hbF) (IsRow.of_own (x := s.primes ++ [4]) (by rw [List.length_append, is_append]; exact hfin)) hkF (by simp [World.setCell])
  ·have HOUT : Box (out = ⟨s.primes, s.voices ++ [⟨nm, []⟩]⟩) := ⟨by rw [HCH.out, hj]; rfl⟩
   have hxA : Below wx.heap.size wx wx := Below.refl _ _
   have hlA := HLO.out.below hxA (Q' := VcU w) fun _ _ _ h => h
   have hoA := HOX.out.below hxA HOX.out.lt
   have howA := own_below hown hxA
   have HLA := Lib.hid hlA
   have HOA := Lib.hid hoA
   have HOWA := Lib.hid howA
   have HXA := Lib.hid hxA
   have HDD := Lib.hid (show Below wx.heap.size wx (wx.alloc (.cells #[.string ⟨nm.toArray⟩, .slice Option.none 0 0] 48)) from (Below.refl _ _).alloc (Nat.le_refl _) _)
   have hj1 : (how : Int) % 8 = 1 := by omega
   clear hxA hlA hoA howA HCH hj h8 hown
   have hj1 : (how : Int) % 8 = 1 := by omega
   go_upto_region 24 with (at_builtin; refine wpList_append_own _ rfl _ _ _ rfl (OB + 1) 48 kv (.agg #[.string ⟨#[]⟩, .slice Option.none 0 0]) 2 40 Tryz.underlying27 hiv fz0 fz1 fz2 rfl (by decide) _ _ _ rfl (HOWA.out.alloc _) ⟨wx.heap.size, 0, Option.none⟩ 1 1 [.string ⟨nm.toArray⟩, .slice Option.none 0 0] rfl rfl (World.news_of_block (cs := #[.string ⟨nm.toArray⟩, .slice Option.none 0 0]) (t := 48) (fr := (0, 0)) (by simpa only [World.size_alloc] using heap_alloc_new wx (.cells #[.string ⟨nm.toArray⟩, .slice Option.none 0 0] 48))) (by simp [Value.oneCell']) (by unfold maxLen; omega) (by omega) (by simp; omega) ?_; intro v9 w9 hown9 hg9 _; obtain ⟨g9, c9, rfl, _, _⟩ := hown9.form (by omega); have hgr := vs_grow (u := .slice (some ⟨g9, 0, Option.none⟩) (nv + 1) c9) HLA.out HOA.out HDD.out hg9 (by rw [HNV.out]; exact hown9); have fB := hgr.1.free 1; obtain ⟨sA, sB⟩ := cel2 hgr.1)
   have hgr2 := vs_grow (u := .slice (some ⟨g9, 0, Option.none⟩) (nv + 1) c9) HLA.out HOA.out HDD.out hg9 (by rw [HNV.out]; exact hown9)
   obtain ⟨WN, hWN⟩ : ∃ WN, WN = w9.setCell ⟨OB, 1, Option.none⟩ (.slice (some ⟨g9, 0, Option.none⟩) (nv + 1) c9) := ⟨_, rfl⟩
   obtain ⟨_, hg1, hg2, hg3, hg4⟩ := hgr2
   rw [← hWN] at hg1 hg2 hg3 hg4 ⊢
   have hbN := (HXA.out.mono (Nat.le_of_lt hwx)).trans hg4
   have HON := Lib.hid hg1
   have HRN := Lib.hid (HRX.out.below hbN (by omega))
   have HBN := Lib.hid (HBX.out.trans (hbN.mono (by have := HBX.out.size; omega)))
   have HG2 := Lib.hid hg2
   have HG3 := Lib.hid hg3
   have HSZ := Box.mk hg4.size
   clear hWN hg1 hg2 hg3 hg4 hbN fB sA sB hgr hown9 hg9
   obtain ⟨r0, r1⟩ := cel2 HRN.out
   have rf0 := HRN.out.free 0
   have rf1 := HRN.out.free 1
   obtain ⟨n0, n1⟩ := cel2 HON.out
   go_wp2_with fail
   have hset := (HRN.out.set 0 (.slice AP s.primes.length cp)).set 1 (.slice (some ⟨g9, 0, Option.none⟩) (nv + 1) c9)
   obtain ⟨t0, t1⟩ := cel2 hset
   have hbF : Below w.heap.size w ((WN.setCell ⟨w.heap.size + 1 + 1, 0, Option.none⟩ (.slice AP s.primes.length cp)).setCell ⟨w.heap.size + 1 + 1, 1, Option.none⟩ (.slice (some ⟨g9, 0, Option.none⟩) (nv + 1) c9)) := (HBN.out.setCell (p := ⟨w.heap.size + 1 + 1, 0, Option.none⟩) (by show w.heap.size ≤ w.heap.size + 1 + 1; omega) _).setCell (p := ⟨w.heap.size + 1 + 1, 1, Option.none⟩) (by show w.heap.size ≤ w.heap.size + 1 + 1; omega) _
   have hkF : ∀ b, OB < b → b < WN.heap.size → ((WN.setCell ⟨w.heap.size + 1 + 1, 0, Option.none⟩ (.slice AP s.primes.length cp)).setCell ⟨w.heap.size + 1 + 1, 1, Option.none⟩ (.slice (some ⟨g9, 0, Option.none⟩) (nv + 1) c9)).heap[b]? = WN.heap[b]? := fun b hb _ => (Below.heap_setCell _ _ _ b (by show b ≠ w.heap.size + 1 + 1; omega)).trans (Below.heap_setCell _ _ _ b (by show b ≠ w.heap.size + 1 + 1; omega))
   refine bodyPost_ret (v := .agg #[.slice AP s.primes.length cp, .slice (some ⟨g9, 0, Option.none⟩) (nv + 1) c9]) (by simp (maxDischargeDepth := 10) [results, Tryz.results16, go_sem, t0, t1]) rfl ⟨⟨_, _, rfl, ?_⟩, hbF⟩
   rw [HOUT.out]
   exact sc_fin (HLA.out.push (Q' := VcU _) (fun _ _ _ hq => hq.lift hbF) (VcU.plain _ _) rfl HG2.out) (HP.out.lift hbF) hkF (by simp [World.setCell])
  ·have hj1 : (how : Int) % 8 = 2 := by omega
   have HOUT : Box (out = ⟨s.primes, s.voices ++ letters8 8⟩) := ⟨by rw [HCH.out, hj]; rfl⟩
   clear HCH hj h8 hown
   go_upto_region 13 with (fail)
   clear o0 o1 k0 k1 k2 k3 k4
   go_loopw [7] (fun i wr => ∃ (m : Nat) (vv : Value) (ds : List (List Value)), m ≤ 8 ∧ i = .int .i64 m ∧ Cells wr OB 29 [.slice AP s.primes.length cp, vv] ∧ LO 48 2 (VcU w) wr (OB + 1) vv (s.voices ++ letters8 m) ds ∧ Below OB wx wr) (fun i _ => 8 - (intOf i).toNat)
   case atStart => exact ⟨0, _, css, Nat.zero_le _, rfl, HOX.out, by unfold letters8; rw [List.append_nil]; exact HLO.out, Below.refl _ _⟩
   case round =>
    obtain ⟨m, vv, ds, hm, rfl, hox, hlo, hbx⟩ := hrel
    have HO := Lib.hid hox
    have HL := Lib.hid hlo
    have HB := Lib.hid hbx
    have hll : (s.voices ++ letters8 m).length = nv + m := by rw [List.length_append, HNV.out, letters8_len]
    have HLL := Box.mk hll
    have hown := hlo.own
    rw [hll] at hown
    have hrw : OB < wr.heap.size := hox.lt
    by_cases hlt : m < 8
    ·obtain ⟨o0, o1⟩ := cel2 hox
     obtain ⟨A9, c8, rfl, _, _, _⟩ := hlo.shape
     rw [hll] at hox o1 hown
     have hlo2 := hlo
     rw [hll] at hlo2
     have hmi : (m : Int) < 8 := by omega
     have hw1 : IntKind.i64.wrap ((112 : Int) + (m : Int)) = 112 + (m : Int) := IntWalk.i64_in _ (by omega)
     obtain ⟨ch, hch⟩ : ∃ ch, ch = UInt8.ofNat (112 + m) := ⟨_, rfl⟩
     have hcn : ((ch.toNat : Nat) : Int) = 112 + (m : Int) := by
      have h : ch.toNat = 112 + m := by rw [hch, UInt8.toNat_ofNat']; omega
      omega
     have hcv : (convert 22 9 (.slice (some ⟨wr.heap.size, 0, Option.none⟩) 1 1)).run Tryz.prog (wr.alloc (.cells #[.int .u8 (112 + (m : Int))] 5)) = .ok (.string ⟨[ch].toArray⟩) (wr.alloc (.cells #[.int .u8 (112 + (m : Int))] 5)) :=
      run_convert_bytes_back _ _ _ 5 ⟨wr.heap.size, 0, Option.none⟩ 1 [ch] Tryz.underlying22 Tryz.underlying5 Tryz.underlying9 (fun j hj => by
       have hj0 : j = 0 := by simpa using hj
       subst hj0
       have h := (Cells.new wr 5 #[.int .u8 (112 + (m : Int))]).cell 0
       rw [Lib.add_plain]
       show (wr.alloc _).cell? ⟨wr.heap.size, 0, Option.none⟩ = some (.int .u8 ((ch.toNat : Nat) : Int))
       rw [hcn]
       exact h)
     have hxA : Below wr.heap.size wr (wr.alloc (.cells #[.int .u8 (112 + (m : Int))] 5)) := (Below.refl _ _).alloc (Nat.le_refl _) _
     have HLA := Lib.hid (hlo2.below hxA (Q' := VcU w) fun _ _ _ h => h)
     have HOA := Lib.hid (hox.below hxA hox.lt)
     have HOWA := Lib.hid (own_below hown hxA)
     have HXA := Lib.hid hxA
     have HDD := Lib.hid (show Below (wr.alloc (.cells #[.int .u8 (112 + (m : Int))] 5)).heap.size (wr.alloc (.cells #[.int .u8 (112 + (m : Int))] 5)) ((wr.alloc (.cells #[.int .u8 (112 + (m : Int))] 5)).alloc (.cells #[.string ⟨[ch].toArray⟩, .slice Option.none 0 0] 48)) from (Below.refl _ _).alloc (Nat.le_refl _) _)
     have HCHM : Box (letters8 (m + 1) = letters8 m ++ [⟨[ch], []⟩]) := ⟨by rw [letters8, hch]⟩
     clear hxA hlo hlo2 hbx hll hch hcn hown
     go_upto_region 14 with (at_builtin; refine wpList_append_own _ rfl _ _ _ rfl (OB + 1) 48 kv (.agg #[.string ⟨#[]⟩, .slice Option.none 0 0]) 2 40 Tryz.underlying27 hiv fz0 fz1 fz2 rfl (by decide) _ _ _ rfl (HOWA.out.alloc _) ⟨wr.heap.size + 1, 0, Option.none⟩ 1 1 [.string ⟨[ch].toArray⟩, .slice Option.none 0 0] rfl rfl (World.news_of_block (cs := #[.string ⟨[ch].toArray⟩, .slice Option.none 0 0]) (t := 48) (fr := (0, 0)) (by simpa only [World.size_alloc] using heap_alloc_new (wr.alloc (.cells #[.int .u8 (112 + (m : Int))] 5)) (.cells #[.string ⟨[ch].toArray⟩, .slice Option.none 0 0] 48))) (by simp [Value.oneCell']) (by unfold maxLen; omega) (by omega) (by simp; omega) ?_; intro v9 w9 hown9 hg9 _; obtain ⟨g9, c9, rfl, _, _⟩ := hown9.form (by omega); have hgr := vs_grow (u := .slice (some ⟨g9, 0, Option.none⟩) (nv + m + 1) c9) HLA.out HOA.out HDD.out hg9 (by rw [HLL.out]; exact hown9); have fB := hgr.1.free 1; obtain ⟨sA, sB⟩ := cel2 hgr.1)
     obtain ⟨_, hg1, hg2, hg3, hg4⟩ := vs_grow (u := .slice (some ⟨g9, 0, Option.none⟩) (nv + m + 1) c9) HLA.out HOA.out HDD.out hg9 (by rw [HLL.out]; exact hown9)
     have hlN := HLA.out.push (Q' := VcU w) (fun _ _ _ h => h) (VcU.plain w [ch]) rfl hg2
     rw [List.append_assoc, ← HCHM.out] at hlN
     have HLN := Lib.hid hlN
     have HG1 := Lib.hid hg1
     have HBN := Lib.hid (HB.out.trans ((HXA.out.mono (Nat.le_of_lt hrw)).trans hg4))
     clear hg1 hg2 hg3 hg4 hlN hgr fB sA sB hown9 hg9
     go_wp2_with fail
     go_roundw
     case rel => exact ⟨m + 1, _, _, by omega, by go_num, HG1.out, HLN.out, HBN.out⟩
     case measure => simp [intOf]; omega
    ·obtain rfl : m = 8 := by omega
     obtain ⟨A9, c8, rfl, _, _, _⟩ := hlo.shape
     rw [hll] at hox
     have hlo2 := hlo
     rw [hll] at hlo2
     obtain ⟨WN, hWN⟩ : ∃ WN, WN = wr := ⟨_, rfl⟩
     have HL2 := Lib.hid hlo2
     have HON := Lib.hid hox
     have HRN := Lib.hid (HRX.out.below hbx (by omega))
     have HBN := Lib.hid (HBX.out.trans (hbx.mono (by have := HBX.out.size; omega)))
     clear hox hlo hlo2 hbx hll hown HO HL HB
     go_upto_region 24 with (fail)
     rw [← hWN] at HL2 HON HRN HBN ⊢
     clear hWN
     obtain ⟨r0, r1⟩ := cel2 HRN.out
     have rf0 := HRN.out.free 0
     have rf1 := HRN.out.free 1
     obtain ⟨n0, n1⟩ := cel2 HON.out
     go_wp2_with fail
     have hset := (HRN.out.set 0 (.slice AP s.primes.length cp)).set 1 (.slice A9 (nv + 8) c8)
     obtain ⟨t0, t1⟩ := cel2 hset
     have hbF : Below w.heap.size w ((WN.setCell ⟨w.heap.size + 1 + 1, 0, Option.none⟩ (.slice AP s.primes.length cp)).setCell ⟨w.heap.size + 1 + 1, 1, Option.none⟩ (.slice A9 (nv + 8) c8)) := (HBN.out.setCell (p := ⟨w.heap.size + 1 + 1, 0, Option.none⟩) (by show w.heap.size ≤ w.heap.size + 1 + 1; omega) _).setCell (p := ⟨w.heap.size + 1 + 1, 1, Option.none⟩) (by show w.heap.size ≤ w.heap.size + 1 + 1; omega) _
     have hkF : ∀ b, OB < b → b < WN.heap.size → ((WN.setCell ⟨w.heap.size + 1 + 1, 0, Option.none⟩ (.slice AP s.primes.length cp)).setCell ⟨w.heap.size + 1 + 1, 1, Option.none⟩ (.slice A9 (nv + 8) c8)).heap[b]? = WN.heap[b]? := fun b hb _ => (Below.heap_setCell _ _ _ b (by show b ≠ w.heap.size + 1 + 1; omega)).trans (Below.heap_setCell _ _ _ b (by show b ≠ w.heap.size + 1 + 1; omega))
     refine bodyPost_ret (v := .agg #[.slice AP s.primes.length cp, .slice A9 (nv + 8) c8]) (by simp (maxDischargeDepth := 10) [results, Tryz.results16, go_sem, t0, t1]) rfl ⟨⟨_, _, rfl, ?_⟩, hbF⟩
     rw [HOUT.out]
     exact sc_fin (HL2.out.mono fun _ _ _ hq => hq.lift hbF) (HP.out.lift hbF) hkF (by simp [World.setCell])
  ·have HOUT : Box (out = ⟨s.primes, s.voices ++ [⟨[120], [⟨nu, de, []⟩]⟩]⟩) := ⟨by rw [HCH.out, hj]; rfl⟩
   have hxA : Below wx.heap.size wx (wx.alloc (.cells #[.string ⟨nu.toArray⟩, .string ⟨de.toArray⟩, .slice Option.none 0 0] 54)) := (Below.refl _ _).alloc (Nat.le_refl _) _
   have hlA := HLO.out.below hxA (Q' := VcU w) fun _ _ _ h => h
   have hoA := HOX.out.below hxA HOX.out.lt
   have howA := own_below hown hxA
   have HLA := Lib.hid hlA
   have HOA := Lib.hid hoA
   have HOWA := Lib.hid howA
   have HXA := Lib.hid hxA
   have HDD := Lib.hid (show Below (wx.alloc (.cells #[.string ⟨nu.toArray⟩, .string ⟨de.toArray⟩, .slice Option.none 0 0] 54)).heap.size (wx.alloc (.cells #[.string ⟨nu.toArray⟩, .string ⟨de.toArray⟩, .slice Option.none 0 0] 54)) ((wx.alloc (.cells #[.string ⟨nu.toArray⟩, .string ⟨de.toArray⟩, .slice Option.none 0 0] 54)).alloc (.cells #[.string ⟨#[120]⟩, .slice (some ⟨wx.heap.size, 0, Option.none⟩) 1 1] 48)) from (Below.refl _ _).alloc (Nat.le_refl _) _)
   have hj1 : (how : Int) % 8 = 3 := by omega
   clear hxA hlA hoA howA HCH hj h8 hown
   go_upto_region 24 with (at_builtin; refine wpList_append_own _ rfl _ _ _ rfl (OB + 1) 48 kv (.agg #[.string ⟨#[]⟩, .slice Option.none 0 0]) 2 40 Tryz.underlying27 hiv fz0 fz1 fz2 rfl (by decide) _ _ _ rfl (HOWA.out.alloc _) ⟨wx.heap.size + 1, 0, Option.none⟩ 1 1 [.string ⟨#[120]⟩, .slice (some ⟨wx.heap.size, 0, Option.none⟩) 1 1] rfl rfl (World.news_of_block (cs := #[.string ⟨#[120]⟩, .slice (some ⟨wx.heap.size, 0, Option.none⟩) 1 1]) (t := 48) (fr := (0, 0)) (by simpa only [World.size_alloc] using heap_alloc_new (wx.alloc (.cells #[.string ⟨nu.toArray⟩, .string ⟨de.toArray⟩, .slice Option.none 0 0] 54)) (.cells #[.string ⟨#[120]⟩, .slice (some ⟨wx.heap.size, 0, Option.none⟩) 1 1] 48))) (by simp [Value.oneCell']) (by unfold maxLen; omega) (by omega) (by simp; omega) ?_; intro v9 w9 hown9 hg9 _; obtain ⟨g9, c9, rfl, _, _⟩ := hown9.form (by omega); have hgr := vs_grow (u := .slice (some ⟨g9, 0, Option.none⟩) (nv + 1) c9) HLA.out HOA.out HDD.out hg9 (by rw [HNV.out]; exact hown9); have fB := hgr.1.free 1; obtain ⟨sA, sB⟩ := cel2 hgr.1)
   have hgr2 := vs_grow (u := .slice (some ⟨g9, 0, Option.none⟩) (nv + 1) c9) HLA.out HOA.out HDD.out hg9 (by rw [HNV.out]; exact hown9)
   obtain ⟨WN, hWN⟩ : ∃ WN, WN = w9.setCell ⟨OB, 1, Option.none⟩ (.slice (some ⟨g9, 0, Option.none⟩) (nv + 1) c9) := ⟨_, rfl⟩
   obtain ⟨_, hg1, hg2, hg3, hg4⟩ := hgr2
   rw [← hWN] at hg1 hg2 hg3 hg4 ⊢
   have hbN := (HXA.out.mono (Nat.le_of_lt hwx)).trans hg4
   have HON := Lib.hid hg1
   have HRN := Lib.hid (HRX.out.below hbN (by omega))
   have HBN := Lib.hid (HBX.out.trans (hbN.mono (by have := HBX.out.size; omega)))
   have HG2 := Lib.hid hg2
   have HG3 := Lib.hid hg3
   have HSZ := Box.mk hg4.size
   clear hWN hg1 hg2 hg3 hg4 hbN fB sA sB hgr hown9 hg9
   obtain ⟨r0, r1⟩ := cel2 HRN.out
   have rf0 := HRN.out.free 0
   have rf1 := HRN.out.free 1
   obtain ⟨n0, n1⟩ := cel2 HON.out
   go_wp2_with fail
   have hset := (HRN.out.set 0 (.slice AP s.primes.length cp)).set 1 (.slice (some ⟨g9, 0, Option.none⟩) (nv + 1) c9)
   obtain ⟨t0, t1⟩ := cel2 hset
   have hbF : Below w.heap.size w ((WN.setCell ⟨w.heap.size + 1 + 1, 0, Option.none⟩ (.slice AP s.primes.length cp)).setCell ⟨w.heap.size + 1 + 1, 1, Option.none⟩ (.slice (some ⟨g9, 0, Option.none⟩) (nv + 1) c9)) := (HBN.out.setCell (p := ⟨w.heap.size + 1 + 1, 0, Option.none⟩) (by show w.heap.size ≤ w.heap.size + 1 + 1; omega) _).setCell (p := ⟨w.heap.size + 1 + 1, 1, Option.none⟩) (by show w.heap.size ≤ w.heap.size + 1 + 1; omega) _
   have hkF : ∀ b, OB < b → b < WN.heap.size → ((WN.setCell ⟨w.heap.size + 1 + 1, 0, Option.none⟩ (.slice AP s.primes.length cp)).setCell ⟨w.heap.size + 1 + 1, 1, Option.none⟩ (.slice (some ⟨g9, 0, Option.none⟩) (nv + 1) c9)).heap[b]? = WN.heap[b]? := fun b hb _ => (Below.heap_setCell _ _ _ b (by show b ≠ w.heap.size + 1 + 1; omega)).trans (Below.heap_setCell _ _ _ b (by show b ≠ w.heap.size + 1 + 1; omega))
   refine bodyPost_ret (v := .agg #[.slice AP s.primes.length cp, .slice (some ⟨g9, 0, Option.none⟩) (nv + 1) c9]) (by simp (maxDischargeDepth := 10) [results, Tryz.results16, go_sem, t0, t1]) rfl ⟨⟨_, _, rfl, ?_⟩, hbF⟩
   rw [HOUT.out]
   have hcE := (hkF wx.heap.size (by omega) (Nat.lt_of_lt_of_le (by rw [World.size_alloc]; omega) HSZ.out)).trans ((HG3.out wx.heap.size (by rw [World.size_alloc]; omega) (fun e => by have := (HLO.out.lt _ e).2; omega) (by omega)).trans (Cells.new wx 54 #[.string ⟨nu.toArray⟩, .string ⟨de.toArray⟩, .slice Option.none 0 0]))
   exact sc_fin (HLA.out.push (Q' := VcU _) (fun _ _ _ hq => hq.lift hbF) (⟨_, _, rfl, Nat.le_refl _, by unfold maxLen; simp, evs_one hcE rfl ⟨Option.none, 0, rfl, Nat.le_refl _, Nat.zero_le _, LA.nil _ _ _ _⟩⟩) rfl HG2.out) (HP.out.lift hbF) hkF (by simp [World.setCell])
  ·have HOUT : Box (out = ⟨s.primes, s.voices ++ [⟨[120], [⟨[49], [50], [note]⟩]⟩]⟩) := ⟨by rw [HCH.out, hj]; rfl⟩
   have hxA : Below wx.heap.size wx ((wx.alloc (.cells #[.slice AN note.length cN] 40)).alloc (.cells #[.string ⟨#[49]⟩, .string ⟨#[50]⟩, .slice (some ⟨wx.heap.size, 0, Option.none⟩) 1 1] 54)) := ((Below.refl _ _).alloc (Nat.le_refl _) _).alloc (by simp) _
   have hlA := HLO.out.below hxA (Q' := VcU w) fun _ _ _ h => h
   have hoA := HOX.out.below hxA HOX.out.lt
   have howA := own_below hown hxA
   have HLA := Lib.hid hlA
   have HOA := Lib.hid hoA
   have HOWA := Lib.hid howA
   have HXA := Lib.hid hxA
   have HDD := Lib.hid (show Below ((wx.alloc (.cells #[.slice AN note.length cN] 40)).alloc (.cells #[.string ⟨#[49]⟩, .string ⟨#[50]⟩, .slice (some ⟨wx.heap.size, 0, Option.none⟩) 1 1] 54)).heap.size ((wx.alloc (.cells #[.slice AN note.length cN] 40)).alloc (.cells #[.string ⟨#[49]⟩, .string ⟨#[50]⟩, .slice (some ⟨wx.heap.size, 0, Option.none⟩) 1 1] 54)) (((wx.alloc (.cells #[.slice AN note.length cN] 40)).alloc (.cells #[.string ⟨#[49]⟩, .string ⟨#[50]⟩, .slice (some ⟨wx.heap.size, 0, Option.none⟩) 1 1] 54)).alloc (.cells #[.string ⟨#[120]⟩, .slice (some ⟨wx.heap.size + 1, 0, Option.none⟩) 1 1] 48)) from (Below.refl _ _).alloc (Nat.le_refl _) _)
   have hj1 : (how : Int) % 8 = 4 := by omega
   clear hxA hlA hoA howA HCH hj h8 hown
   go_upto_region 24 with (at_builtin; refine wpList_append_own _ rfl _ _ _ rfl (OB + 1) 48 kv (.agg #[.string ⟨#[]⟩, .slice Option.none 0 0]) 2 40 Tryz.underlying27 hiv fz0 fz1 fz2 rfl (by decide) _ _ _ rfl (HOWA.out.alloc _) ⟨wx.heap.size + 1 + 1, 0, Option.none⟩ 1 1 [.string ⟨#[120]⟩, .slice (some ⟨wx.heap.size + 1, 0, Option.none⟩) 1 1] rfl rfl (World.news_of_block (cs := #[.string ⟨#[120]⟩, .slice (some ⟨wx.heap.size + 1, 0, Option.none⟩) 1 1]) (t := 48) (fr := (0, 0)) (by simpa only [World.size_alloc] using heap_alloc_new ((wx.alloc (.cells #[.slice AN note.length cN] 40)).alloc (.cells #[.string ⟨#[49]⟩, .string ⟨#[50]⟩, .slice (some ⟨wx.heap.size, 0, Option.none⟩) 1 1] 54)) (.cells #[.string ⟨#[120]⟩, .slice (some ⟨wx.heap.size + 1, 0, Option.none⟩) 1 1] 48))) (by simp [Value.oneCell']) (by unfold maxLen; omega) (by omega) (by simp; omega) ?_; intro v9 w9 hown9 hg9 _; obtain ⟨g9, c9, rfl, _, _⟩ := hown9.form (by omega); have hgr := vs_grow (u := .slice (some ⟨g9, 0, Option.none⟩) (nv + 1) c9) HLA.out HOA.out HDD.out hg9 (by rw [HNV.out]; exact hown9); have fB := hgr.1.free 1; obtain ⟨sA, sB⟩ := cel2 hgr.1)
   have hgr2 := vs_grow (u := .slice (some ⟨g9, 0, Option.none⟩) (nv + 1) c9) HLA.out HOA.out HDD.out hg9 (by rw [HNV.out]; exact hown9)
   obtain ⟨WN, hWN⟩ : ∃ WN, WN = w9.setCell ⟨OB, 1, Option.none⟩ (.slice (some ⟨g9, 0, Option.none⟩) (nv + 1) c9) := ⟨_, rfl⟩
   obtain ⟨_, hg1, hg2, hg3, hg4⟩ := hgr2
   rw [← hWN] at hg1 hg2 hg3 hg4 ⊢
   have hbN := (HXA.out.mono (Nat.le_of_lt hwx)).trans hg4
   have HON := Lib.hid hg1
   have HRN := Lib.hid (HRX.out.below hbN (by omega))
   have HBN := Lib.hid (HBX.out.trans (hbN.mono (by have := HBX.out.size; omega)))
   have HG2 := Lib.hid hg2
   have HG3 := Lib.hid hg3
   have HSZ := Box.mk hg4.size
   clear hWN hg1 hg2 hg3 hg4 hbN fB sA sB hgr hown9 hg9
   obtain ⟨r0, r1⟩ := cel2 HRN.out
   have rf0 := HRN.out.free 0
   have rf1 := HRN.out.free 1
   obtain ⟨n0, n1⟩ := cel2 HON.out
   go_wp2_with fail
   have hset := (HRN.out.set 0 (.slice AP s.primes.length cp)).set 1 (.slice (some ⟨g9, 0, Option.none⟩) (nv + 1) c9)
   obtain ⟨t0, t1⟩ := cel2 hset
   have hbF : Below w.heap.size w ((WN.setCell ⟨w.heap.size + 1 + 1, 0, Option.none⟩ (.slice AP s.primes.length cp)).setCell ⟨w.heap.size + 1 + 1, 1, Option.none⟩ (.slice (some ⟨g9, 0, Option.none⟩) (nv + 1) c9)) := (HBN.out.setCell (p := ⟨w.heap.size + 1 + 1, 0, Option.none⟩) (by show w.heap.size ≤ w.heap.size + 1 + 1; omega) _).setCell (p := ⟨w.heap.size + 1 + 1, 1, Option.none⟩) (by show w.heap.size ≤ w.heap.size + 1 + 1; omega) _
   have hkF : ∀ b, OB < b → b < WN.heap.size → ((WN.setCell ⟨w.heap.size + 1 + 1, 0, Option.none⟩ (.slice AP s.primes.length cp)).setCell ⟨w.heap.size + 1 + 1, 1, Option.none⟩ (.slice (some ⟨g9, 0, Option.none⟩) (nv + 1) c9)).heap[b]? = WN.heap[b]? := fun b hb _ => (Below.heap_setCell _ _ _ b (by show b ≠ w.heap.size + 1 + 1; omega)).trans (Below.heap_setCell _ _ _ b (by show b ≠ w.heap.size + 1 + 1; omega))
   refine bodyPost_ret (v := .agg #[.slice AP s.primes.length cp, .slice (some ⟨g9, 0, Option.none⟩) (nv + 1) c9]) (by simp (maxDischargeDepth := 10) [results, Tryz.results16, go_sem, t0, t1]) rfl ⟨⟨_, _, rfl, ?_⟩, hbF⟩
   rw [HOUT.out]
   have hcE0 := Cells.new (wx.alloc (.cells #[.slice AN note.length cN] 40)) 54 #[.string ⟨#[49]⟩, .string ⟨#[50]⟩, .slice (some ⟨wx.heap.size, 0, Option.none⟩) 1 1]
   rw [World.size_alloc] at hcE0
   have hcE := (hkF (wx.heap.size + 1) (by omega) (Nat.lt_of_lt_of_le (by simp only [World.size_alloc]; omega) HSZ.out)).trans ((HG3.out (wx.heap.size + 1) (by simp only [World.size_alloc]; omega) (fun e => by have := (HLO.out.lt _ e).2; omega) (by omega)).trans hcE0)
   have hcN := (hkF wx.heap.size (by omega) (Nat.lt_of_lt_of_le (by simp only [World.size_alloc]; omega) HSZ.out)).trans ((HG3.out wx.heap.size (by simp only [World.size_alloc]; omega) (fun e => by have := (HLO.out.lt _ e).2; omega) (by omega)).trans ((Cells.new wx 40 #[.slice AN note.length cN]).alloc _))
   exact sc_fin (HLA.out.push (Q' := VcU _) (fun _ _ _ hq => hq.lift hbF) (⟨_, _, rfl, Nat.le_refl _, by unfold maxLen; simp, evs_one hcE rfl ⟨_, _, rfl, Nat.le_refl _, by unfold maxLen; simp, notes_one hcN (HN.out.lift hbF)⟩⟩) rfl HG2.out) (HP.out.lift hbF) hkF (by simp [World.setCell])
  ·have HOUT : Box (out = ⟨s.primes, s.voices ++ [⟨[120], List.replicate 501 ⟨[], [], []⟩⟩]⟩) := ⟨by rw [HCH.out, hj]; rfl⟩
   have hj1 : (how : Int) % 8 = 5 := by omega
   obtain ⟨je, hie, gz0, gz1, gz2⟩ := info_parts Tryz.info_event48
   obtain ⟨MZ, hMZ⟩ : ∃ MZ, MZ = madeCells #[.string ⟨#[]⟩, .string ⟨#[]⟩, .slice Option.none 0 0] 1503 := ⟨_, rfl⟩
   have hmk : ∀ W : World, (Instr.makeSlice 46 (.int .i64 501) (.int .i64 501)).run Tryz.prog W = .ok (.slice (some ⟨W.heap.size, 0, Option.none⟩) 501 501) (W.alloc (.cells MZ 54)) := fun W => by
    have h := run_makeSlice W 46 54 je _ Tryz.underlying46 hie gz0 .i64 .i64 501 501 (by decide) (by decide) (by rw [gz1]; decide) (by rw [gz2]; decide) (by decide)
    rw [gz1] at h
    rw [hMZ]
    exact h
   have HMZ := Box.mk hMZ
   clear hMZ gz0 gz1 gz2 hie
   have hxA : Below wx.heap.size wx (wx.alloc (.cells MZ 54)) := (Below.refl _ _).alloc (Nat.le_refl _) _
   have hlA := HLO.out.below hxA (Q' := VcU w) fun _ _ _ h => h
   have hoA := HOX.out.below hxA HOX.out.lt
   have hdd : Below (wx.alloc (.cells MZ 54)).heap.size (wx.alloc (.cells MZ 54)) ((wx.alloc (.cells MZ 54)).alloc (.cells #[.string ⟨#[120]⟩, .slice (some ⟨wx.heap.size, 0, Option.none⟩) 501 501] 48)).drew := below_to_drew ((Below.refl _ _).alloc (Nat.le_refl _) _)
   have howA := own_below (own_below hown hxA) hdd
   have hnw := heap_alloc_new (wx.alloc (.cells MZ 54)) (.cells #[.string ⟨#[120]⟩, .slice (some ⟨wx.heap.size, 0, Option.none⟩) 501 501] 48)
   simp only [World.size_alloc] at hnw
   have HLA := Lib.hid hlA
   have HOA := Lib.hid hoA
   have HOWA := Lib.hid howA
   have HXA := Lib.hid hxA
   have HDD := Lib.hid hdd
   have HNW := Lib.hid hnw
   obtain ⟨oa0, oa1⟩ := cel2 hoA
   obtain ⟨ob0, ob1⟩ := cel2 (hoA.alloc (.cells #[.string ⟨#[120]⟩, .slice (some ⟨wx.heap.size, 0, Option.none⟩) 501 501] 48))
   clear hxA hlA hoA howA HCH hj h8 hown hdd hnw
   go_upto_region 21 with (fail)
   go_region_law (first
    | (refine step_append_lies _ (by rfl) _ _ _ (by rfl) (OB + 1) 48 kv _ 2 40 Tryz.underlying27 hiv fz0 fz1 fz2 rfl (by omega) (.slice AV nv cV) nv css.flatten (by rfl) HOWA.out ⟨wx.heap.size + 1, 0, Option.none⟩ 1 1 [.string ⟨#[120]⟩, .slice (some ⟨wx.heap.size, 0, Option.none⟩) 501 501] (by rfl) (by rfl) (World.news_of_block (cs := #[.string ⟨#[120]⟩, .slice (some ⟨wx.heap.size, 0, Option.none⟩) 501 501]) (t := 48) (fr := (0, 0)) HNW.out) (by simp [Value.oneCell']) (by omega) (by unfold maxLen; omega) (by omega) (by simp; omega) (wx.heap.size + 1 + 1) (by simp) ?_; intro g9 c9 w9 hown9 hg9 _ _; have hgr := vs_grow (u := .slice (some ⟨g9, 0, Option.none⟩) (nv + 1) c9) HLA.out HOA.out HDD.out hg9 (by rw [HNV.out]; exact hown9); have fB := hgr.1.free 1; obtain ⟨sA, sB⟩ := cel2 hgr.1))
   all_goals
    go_upto_region 24 with (fail)
    have hgr2 := vs_grow (u := .slice (some ⟨g9, 0, Option.none⟩) (nv + 1) c9) HLA.out HOA.out HDD.out hg9 (by rw [HNV.out]; exact hown9)
    obtain ⟨WN, hWN⟩ : ∃ WN, WN = w9.setCell ⟨OB, 1, Option.none⟩ (.slice (some ⟨g9, 0, Option.none⟩) (nv + 1) c9) := ⟨_, rfl⟩
    obtain ⟨_, hg1, hg2, hg3, hg4⟩ := hgr2
    rw [← hWN] at hg1 hg2 hg3 hg4 ⊢
    have hbN := (HXA.out.mono (Nat.le_of_lt hwx)).trans hg4
    have HON := Lib.hid hg1
    have HRN := Lib.hid (HRX.out.below hbN (by omega))
    have HBN := Lib.hid (HBX.out.trans (hbN.mono (by have := HBX.out.size; omega)))
    have HG2 := Lib.hid hg2
    have HG3 := Lib.hid hg3
    have HSZ := Box.mk hg4.size
    clear hWN hg1 hg2 hg3 hg4 hbN fB sA sB hgr hown9 hg9
    obtain ⟨r0, r1⟩ := cel2 HRN.out
    have rf0 := HRN.out.free 0
    have rf1 := HRN.out.free 1
    obtain ⟨n0, n1⟩ := cel2 HON.out
    go_wp2_with fail
    have hset := (HRN.out.set 0 (.slice AP s.primes.length cp)).set 1 (.slice (some ⟨g9, 0, Option.none⟩) (nv + 1) c9)
    obtain ⟨t0, t1⟩ := cel2 hset
    have hbF : Below w.heap.size w ((WN.setCell ⟨w.heap.size + 1 + 1, 0, Option.none⟩ (.slice AP s.primes.length cp)).setCell ⟨w.heap.size + 1 + 1, 1, Option.none⟩ (.slice (some ⟨g9, 0, Option.none⟩) (nv + 1) c9)) := (HBN.out.setCell (p := ⟨w.heap.size + 1 + 1, 0, Option.none⟩) (by show w.heap.size ≤ w.heap.size + 1 + 1; omega) _).setCell (p := ⟨w.heap.size + 1 + 1, 1, Option.none⟩) (by show w.heap.size ≤ w.heap.size + 1 + 1; omega) _
    have hkF : ∀ b, OB < b → b < WN.heap.size → ((WN.setCell ⟨w.heap.size + 1 + 1, 0, Option.none⟩ (.slice AP s.primes.length cp)).setCell ⟨w.heap.size + 1 + 1, 1, Option.none⟩ (.slice (some ⟨g9, 0, Option.none⟩) (nv + 1) c9)).heap[b]? = WN.heap[b]? := fun b hb _ => (Below.heap_setCell _ _ _ b (by show b ≠ w.heap.size + 1 + 1; omega)).trans (Below.heap_setCell _ _ _ b (by show b ≠ w.heap.size + 1 + 1; omega))
    refine bodyPost_ret (v := .agg #[.slice AP s.primes.length cp, .slice (some ⟨g9, 0, Option.none⟩) (nv + 1) c9]) (by simp (maxDischargeDepth := 10) [results, Tryz.results16, go_sem, t0, t1]) rfl ⟨⟨_, _, rfl, ?_⟩, hbF⟩
    rw [HOUT.out]
    have hcE := (hkF wx.heap.size (by omega) (Nat.lt_of_lt_of_le (by rw [World.size_alloc]; exact Nat.lt_succ_self _) HSZ.out)).trans ((HG3.out wx.heap.size (by rw [World.size_alloc]; exact Nat.lt_succ_self _) (fun e => by have := (HLO.out.lt _ e).2; omega) (by omega)).trans (Cells.new wx 54 MZ))
    exact sc_fin (HLA.out.push (Q' := VcU _) (fun _ _ _ hq => hq.lift hbF) (⟨_, _, rfl, by rw [List.length_replicate]; exact Nat.le_refl _, by unfold maxLen; simp, evs_made (by rw [← HMZ.out]; exact hcE)⟩) rfl HG2.out) (HP.out.lift hbF) hkF (by simp [World.setCell])
  ·have HOUT : Box (out = ⟨s.primes, s.voices ++ [⟨[120], [⟨nu, de, List.replicate 13 []⟩]⟩]⟩) := ⟨by rw [HCH.out, hj]; rfl⟩
   have hj1 : (how : Int) % 8 = 6 := by omega
   obtain ⟨je, hie, gz0, gz1, gz2⟩ := info_parts Tryz.info_row
   obtain ⟨MZ, hMZ⟩ : ∃ MZ, MZ = madeCells #[.slice Option.none 0 0] 13 := ⟨_, rfl⟩
   have hmk : ∀ W : World, (Instr.makeSlice 52 (.int .i64 13) (.int .i64 13)).run Tryz.prog W = .ok (.slice (some ⟨W.heap.size, 0, Option.none⟩) 13 13) (W.alloc (.cells MZ 40)) := fun W => by
    have h := run_makeSlice W 52 40 je _ Tryz.underlying52 hie gz0 .i64 .i64 13 13 (by decide) (by decide) (by rw [gz1]; decide) (by rw [gz2]; decide) (by decide)
    rw [gz1] at h
    rw [hMZ]
    exact h
   have HMZ := Box.mk hMZ
   have hoz := HOX.out.alloc (.cells MZ 40)
   obtain ⟨oz0, oz1⟩ := cel2 hoz
   obtain ⟨kz0, kz1, kz2, kz3, kz4⟩ := celC (HCX.out.alloc (.cells MZ 40))
   clear hMZ gz0 gz1 gz2 hie hoz
   have hxA : Below wx.heap.size wx ((wx.alloc (.cells MZ 40)).alloc (.cells #[.string ⟨nu.toArray⟩, .string ⟨de.toArray⟩, .slice (some ⟨wx.heap.size, 0, Option.none⟩) 13 13] 54)) := ((Below.refl _ _).alloc (Nat.le_refl _) _).alloc (by simp) _
   have hlA := HLO.out.below hxA (Q' := VcU w) fun _ _ _ h => h
   have hoA := HOX.out.below hxA HOX.out.lt
   have hdd : Below ((wx.alloc (.cells MZ 40)).alloc (.cells #[.string ⟨nu.toArray⟩, .string ⟨de.toArray⟩, .slice (some ⟨wx.heap.size, 0, Option.none⟩) 13 13] 54)).heap.size ((wx.alloc (.cells MZ 40)).alloc (.cells #[.string ⟨nu.toArray⟩, .string ⟨de.toArray⟩, .slice (some ⟨wx.heap.size, 0, Option.none⟩) 13 13] 54)) (((wx.alloc (.cells MZ 40)).alloc (.cells #[.string ⟨nu.toArray⟩, .string ⟨de.toArray⟩, .slice (some ⟨wx.heap.size, 0, Option.none⟩) 13 13] 54)).alloc (.cells #[.string ⟨#[120]⟩, .slice (some ⟨wx.heap.size + 1, 0, Option.none⟩) 1 1] 48)).drew := below_to_drew ((Below.refl _ _).alloc (Nat.le_refl _) _)
   have howA := own_below (own_below hown hxA) hdd
   have hnw := heap_alloc_new ((wx.alloc (.cells MZ 40)).alloc (.cells #[.string ⟨nu.toArray⟩, .string ⟨de.toArray⟩, .slice (some ⟨wx.heap.size, 0, Option.none⟩) 13 13] 54)) (.cells #[.string ⟨#[120]⟩, .slice (some ⟨wx.heap.size + 1, 0, Option.none⟩) 1 1] 48)
   simp only [World.size_alloc] at hnw
   have HLA := Lib.hid hlA
   have HOA := Lib.hid hoA
   have HOWA := Lib.hid howA
   have HXA := Lib.hid hxA
   have HDD := Lib.hid hdd
   have HNW := Lib.hid hnw
   obtain ⟨oa0, oa1⟩ := cel2 hoA
   obtain ⟨ob0, ob1⟩ := cel2 (hoA.alloc (.cells #[.string ⟨#[120]⟩, .slice (some ⟨wx.heap.size + 1, 0, Option.none⟩) 1 1] 48))
   clear hxA hlA hoA howA HCH hj h8 hown hdd hnw
   go_upto_region 23 with (fail)
   go_region_law (first
    | (refine step_append_lies _ (by rfl) _ _ _ (by rfl) (OB + 1) 48 kv _ 2 40 Tryz.underlying27 hiv fz0 fz1 fz2 rfl (by omega) (.slice AV nv cV) nv css.flatten (by rfl) HOWA.out ⟨wx.heap.size + 1 + 1, 0, Option.none⟩ 1 1 [.string ⟨#[120]⟩, .slice (some ⟨wx.heap.size + 1, 0, Option.none⟩) 1 1] (by rfl) (by rfl) (World.news_of_block (cs := #[.string ⟨#[120]⟩, .slice (some ⟨wx.heap.size + 1, 0, Option.none⟩) 1 1]) (t := 48) (fr := (0, 0)) HNW.out) (by simp [Value.oneCell']) (by omega) (by unfold maxLen; omega) (by omega) (by simp; omega) (wx.heap.size + 1 + 1 + 1) (by simp) ?_; intro g9 c9 w9 hown9 hg9 _ _; have hgr := vs_grow (u := .slice (some ⟨g9, 0, Option.none⟩) (nv + 1) c9) HLA.out HOA.out HDD.out hg9 (by rw [HNV.out]; exact hown9); have fB := hgr.1.free 1; obtain ⟨sA, sB⟩ := cel2 hgr.1))
   all_goals
    go_upto_region 24 with (fail)
    have hgr2 := vs_grow (u := .slice (some ⟨g9, 0, Option.none⟩) (nv + 1) c9) HLA.out HOA.out HDD.out hg9 (by rw [HNV.out]; exact hown9)
    obtain ⟨WN, hWN⟩ : ∃ WN, WN = w9.setCell ⟨OB, 1, Option.none⟩ (.slice (some ⟨g9, 0, Option.none⟩) (nv + 1) c9) := ⟨_, rfl⟩
    obtain ⟨_, hg1, hg2, hg3, hg4⟩ := hgr2
    rw [← hWN] at hg1 hg2 hg3 hg4 ⊢
    have hbN := (HXA.out.mono (Nat.le_of_lt hwx)).trans hg4
    have HON := Lib.hid hg1
    have HRN := Lib.hid (HRX.out.below hbN (by omega))
    have HBN := Lib.hid (HBX.out.trans (hbN.mono (by have := HBX.out.size; omega)))
    have HG2 := Lib.hid hg2
    have HG3 := Lib.hid hg3
    have HSZ := Box.mk hg4.size
    clear hWN hg1 hg2 hg3 hg4 hbN fB sA sB hgr hown9 hg9
    obtain ⟨r0, r1⟩ := cel2 HRN.out
    have rf0 := HRN.out.free 0
    have rf1 := HRN.out.free 1
    obtain ⟨n0, n1⟩ := cel2 HON.out
    go_wp2_with fail
    have hset := (HRN.out.set 0 (.slice AP s.primes.length cp)).set 1 (.slice (some ⟨g9, 0, Option.none⟩) (nv + 1) c9)
    obtain ⟨t0, t1⟩ := cel2 hset
    have hbF : Below w.heap.size w ((WN.setCell ⟨w.heap.size + 1 + 1, 0, Option.none⟩ (.slice AP s.primes.length cp)).setCell ⟨w.heap.size + 1 + 1, 1, Option.none⟩ (.slice (some ⟨g9, 0, Option.none⟩) (nv + 1) c9)) := (HBN.out.setCell (p := ⟨w.heap.size + 1 + 1, 0, Option.none⟩) (by show w.heap.size ≤ w.heap.size + 1 + 1; omega) _).setCell (p := ⟨w.heap.size + 1 + 1, 1, Option.none⟩) (by show w.heap.size ≤ w.heap.size + 1 + 1; omega) _
    have hkF : ∀ b, OB < b → b < WN.heap.size → ((WN.setCell ⟨w.heap.size + 1 + 1, 0, Option.none⟩ (.slice AP s.primes.length cp)).setCell ⟨w.heap.size + 1 + 1, 1, Option.none⟩ (.slice (some ⟨g9, 0, Option.none⟩) (nv + 1) c9)).heap[b]? = WN.heap[b]? := fun b hb _ => (Below.heap_setCell _ _ _ b (by show b ≠ w.heap.size + 1 + 1; omega)).trans (Below.heap_setCell _ _ _ b (by show b ≠ w.heap.size + 1 + 1; omega))
    refine bodyPost_ret (v := .agg #[.slice AP s.primes.length cp, .slice (some ⟨g9, 0, Option.none⟩) (nv + 1) c9]) (by simp (maxDischargeDepth := 10) [results, Tryz.results16, go_sem, t0, t1]) rfl ⟨⟨_, _, rfl, ?_⟩, hbF⟩
    rw [HOUT.out]
    have hcE0 := Cells.new (wx.alloc (.cells MZ 40)) 54 #[.string ⟨nu.toArray⟩, .string ⟨de.toArray⟩, .slice (some ⟨wx.heap.size, 0, Option.none⟩) 13 13]
    rw [World.size_alloc] at hcE0
    have hcE := (hkF (wx.heap.size + 1) (by omega) (Nat.lt_of_lt_of_le (by simp only [World.size_alloc]; omega) HSZ.out)).trans ((HG3.out (wx.heap.size + 1) (by simp only [World.size_alloc]; omega) (fun e => by have := (HLO.out.lt _ e).2; omega) (by omega)).trans hcE0)
    have hcN := (hkF wx.heap.size (by omega) (Nat.lt_of_lt_of_le (by simp only [World.size_alloc]; omega) HSZ.out)).trans ((HG3.out wx.heap.size (by simp only [World.size_alloc]; omega) (fun e => by have := (HLO.out.lt _ e).2; omega) (by omega)).trans ((Cells.new wx 40 MZ).alloc _))
    exact sc_fin (HLA.out.push (Q' := VcU _) (fun _ _ _ hq => hq.lift hbF) (⟨_, _, rfl, Nat.le_refl _, by unfold maxLen; simp, evs_one hcE rfl ⟨_, _, rfl, by rw [List.length_replicate]; exact Nat.le_refl _, by unfold maxLen; simp, notes_made (by rw [← HMZ.out]; exact hcN)⟩⟩) rfl HG2.out) (HP.out.lift hbF) hkF (by simp [World.setCell])
  ·have hj1 : (how : Int) % 8 = 7 := by omega
   have HOUT : Box (out = ⟨s.primes, lastName s.voices nm⟩) := ⟨by rw [HCH.out, hj]; rfl⟩
   clear HCH hj h8
   by_cases hn0 : nv = 0
   ·have HLN : Box (s.voices = []) := ⟨List.eq_nil_of_length_eq_zero (by rw [HNV.out]; exact hn0)⟩
    subst hn0
    obtain ⟨WN, hWN⟩ : ∃ WN, WN = wx := ⟨_, rfl⟩
    go_upto_region 24 with (fail)
    rw [← hWN]
    rw [← hWN] at HLO HOX HRX HBX
    have HON := HOX
    have HRN := HRX
    have HBN := HBX
    clear hWN o0 o1 k0 k1 k2 k3 k4
    obtain ⟨r0, r1⟩ := cel2 HRN.out
    have rf0 := HRN.out.free 0
    have rf1 := HRN.out.free 1
    obtain ⟨n0, n1⟩ := cel2 HON.out
    go_wp2_with fail
    have hset := (HRN.out.set 0 (.slice AP s.primes.length cp)).set 1 (.slice AV 0 cV)
    obtain ⟨t0, t1⟩ := cel2 hset
    have hbF : Below w.heap.size w ((WN.setCell ⟨w.heap.size + 1 + 1, 0, Option.none⟩ (.slice AP s.primes.length cp)).setCell ⟨w.heap.size + 1 + 1, 1, Option.none⟩ (.slice AV 0 cV)) := (HBN.out.setCell (p := ⟨w.heap.size + 1 + 1, 0, Option.none⟩) (by show w.heap.size ≤ w.heap.size + 1 + 1; omega) _).setCell (p := ⟨w.heap.size + 1 + 1, 1, Option.none⟩) (by show w.heap.size ≤ w.heap.size + 1 + 1; omega) _
    have hkF : ∀ b, OB < b → b < WN.heap.size → ((WN.setCell ⟨w.heap.size + 1 + 1, 0, Option.none⟩ (.slice AP s.primes.length cp)).setCell ⟨w.heap.size + 1 + 1, 1, Option.none⟩ (.slice AV 0 cV)).heap[b]? = WN.heap[b]? := fun b hb _ => (Below.heap_setCell _ _ _ b (by show b ≠ w.heap.size + 1 + 1; omega)).trans (Below.heap_setCell _ _ _ b (by show b ≠ w.heap.size + 1 + 1; omega))
    refine bodyPost_ret (v := .agg #[.slice AP s.primes.length cp, .slice AV 0 cV]) (by simp (maxDischargeDepth := 10) [results, Tryz.results16, go_sem, t0, t1]) rfl ⟨⟨_, _, rfl, ?_⟩, hbF⟩
    rw [HOUT.out]
    rw [HLN.out]
    have h := HLO.out
    rw [HLN.out] at h
    exact sc_fin (h.mono fun _ _ hm _ => by cases hm) (HP.out.lift hbF) hkF (by simp [World.setCell])
   ·obtain ⟨g9, rfl⟩ : ∃ g, AV = some ⟨g, 0, Option.none⟩ := by
     rcases HLO.out.own.2 with ⟨_, h0⟩ | ⟨g, cap, cur, e, _⟩
     ·rw [HNV.out] at h0; exact absurd h0 hn0
     ·injection e with e _ _; exact ⟨g, e⟩
    obtain ⟨n9, rfl⟩ : ∃ n, nv = n + 1 := ⟨nv - 1, by omega⟩
    obtain ⟨v0, hv0⟩ : ∃ v, s.voices.getLast? = some v := by
     cases h : s.voices.getLast? with
     | none => have := HNV.out; rw [List.getLast?_eq_none_iff.1 h] at this; cases this
     | some v => exact ⟨v, rfl⟩
    have hvn : s.voices = s.voices.dropLast ++ [v0] := by
     obtain ⟨ys, hys⟩ := List.getLast?_eq_some_iff.1 hv0
     rw [hys, List.dropLast_concat]
    have hln : s.voices.dropLast.length = n9 := by rw [List.length_dropLast, HNV.out]; omega
    have HOUT2 : Box (out = ⟨s.primes, s.voices.dropLast ++ [⟨nm, v0.evs⟩]⟩) := ⟨by rw [HOUT.out]; unfold lastName; rw [hv0]⟩
    have hlo2 := HLO.out
    rw [hvn] at hlo2
    obtain ⟨⟨css2, hlo3⟩, hvc, hvf, hvb, hvw⟩ := vs_name nm hlo2 hln
    have hni : (n9 : Int) < ((n9 + 1 : Nat) : Int) := by omega
    have hw1 : IntKind.i64.wrap (n9 : Int) = (n9 : Int) := IntWalk.i64_in _ (by omega)
    obtain ⟨WN, hWN⟩ : ∃ WN, WN = wx.setCell ⟨g9, n9 * 2, Option.none⟩ (.string ⟨nm.toArray⟩) := ⟨_, rfl⟩
    have hxN : Below (OB + 1) wx WN := by rw [hWN]; exact (Below.refl _ _).setCell (p := ⟨g9, n9 * 2, Option.none⟩) hvb _
    rw [← hWN] at hlo3
    have HL3 := Lib.hid hlo3
    have HON := Lib.hid (HOX.out.below hxN (Nat.lt_succ_self _))
    have HRN := Lib.hid (HRX.out.below hxN (by omega))
    have HBN := Lib.hid (HBX.out.trans (hxN.mono (by have := HBX.out.size; omega)))
    clear hvn hlo2 hlo3 hxN hn0 hv0 hown
    go_upto_region 24 with (fail)
    rw [← hWN]
    clear hWN o0 o1 k0 k1 k2 k3 k4 hvc hvf
    obtain ⟨r0, r1⟩ := cel2 HRN.out
    have rf0 := HRN.out.free 0
    have rf1 := HRN.out.free 1
    obtain ⟨n0, n1⟩ := cel2 HON.out
    go_wp2_with fail
    have hset := (HRN.out.set 0 (.slice AP s.primes.length cp)).set 1 (.slice (some ⟨g9, 0, Option.none⟩) (n9 + 1) cV)
    obtain ⟨t0, t1⟩ := cel2 hset
    have hbF : Below w.heap.size w ((WN.setCell ⟨w.heap.size + 1 + 1, 0, Option.none⟩ (.slice AP s.primes.length cp)).setCell ⟨w.heap.size + 1 + 1, 1, Option.none⟩ (.slice (some ⟨g9, 0, Option.none⟩) (n9 + 1) cV)) := (HBN.out.setCell (p := ⟨w.heap.size + 1 + 1, 0, Option.none⟩) (by show w.heap.size ≤ w.heap.size + 1 + 1; omega) _).setCell (p := ⟨w.heap.size + 1 + 1, 1, Option.none⟩) (by show w.heap.size ≤ w.heap.size + 1 + 1; omega) _
    have hkF : ∀ b, OB < b → b < WN.heap.size → ((WN.setCell ⟨w.heap.size + 1 + 1, 0, Option.none⟩ (.slice AP s.primes.length cp)).setCell ⟨w.heap.size + 1 + 1, 1, Option.none⟩ (.slice (some ⟨g9, 0, Option.none⟩) (n9 + 1) cV)).heap[b]? = WN.heap[b]? := fun b hb _ => (Below.heap_setCell _ _ _ b (by show b ≠ w.heap.size + 1 + 1; omega)).trans (Below.heap_setCell _ _ _ b (by show b ≠ w.heap.size + 1 + 1; omega))
    refine bodyPost_ret (v := .agg #[.slice AP s.primes.length cp, .slice (some ⟨g9, 0, Option.none⟩) (n9 + 1) cV]) (by simp (maxDischargeDepth := 10) [results, Tryz.results16, go_sem, t0, t1]) rfl ⟨⟨_, _, rfl, ?_⟩, hbF⟩
    rw [HOUT2.out]
    exact sc_fin (HL3.out.mono fun _ _ _ hq => hq.lift hbF) (HP.out.lift hbF) hkF (by simp [World.setCell])
def VcS (v : Vc) : Prop := v.name.length ≤ 1000000 ∧ v.evs.length ≤ 1000000 ∧ ∀ x ∈ v.evs, x.num.length ≤ 100000 ∧ x.den.length ≤ 100000 ∧ x.notes.length ≤ 1000000
theorem ScSm.of_vcs {p : List Int} {vs : List Vc} (hl : vs.length ≤ 1000000) (h : ∀ v ∈ vs, VcS v) : ScSm ⟨p, vs⟩ := ⟨hl, fun v hv => (h v hv).1, fun v hv => (h v hv).2.1, fun v hv => (h v hv).2.2⟩
theorem letters8_mem : ∀ (k : Nat), ∀ v ∈ letters8 k, VcS v
 | 0, v, h => by cases h
 | k + 1, v, h => by
   rw [letters8] at h
   rcases List.mem_append.1 h with h | h
   ·exact letters8_mem k v h
   ·have e : v = ⟨[UInt8.ofNat (112 + k)], []⟩ := by simpa using h
    rw [e]
    exact ⟨by simp, by simp, by simp⟩
theorem lastName_len (vs : List Vc) (nm : List UInt8) : (lastName vs nm).length = vs.length := by
 unfold lastName
 split
 ·rfl
 ·rename_i v hv
  have h0 : vs ≠ [] := by intro e; rw [e] at hv; cases hv
  have := List.length_pos_iff.2 h0
  rw [List.length_append, List.length_dropLast, List.length_singleton]
  omega
theorem chSc_sm {s : Sc} {how : Nat} {nm nu de : List UInt8} {note : List Int} (h : ScSm s) (h8 : s.voices.length ≤ 8) (h1 : nm.length ≤ 40) (h2 : nu.length ≤ 13) (h3 : de.length ≤ 13) : ScSm (chSc s how nm nu de note) := by
 have hs : ∀ v ∈ s.voices, VcS v := fun v hv => ⟨h.names v hv, h.evs v hv, h.nums v hv⟩
 have add : ∀ (p : List Int) (v : Vc), VcS v → ScSm ⟨p, s.voices ++ [v]⟩ := fun p v hv => ScSm.of_vcs (by rw [List.length_append, List.length_singleton]; omega) fun u hu => by
  rcases List.mem_append.1 hu with hu | hu
  ·exact hs u hu
  ·have e : u = v := by simpa using hu
   rw [e]; exact hv
 unfold chSc
 split
 ·exact ScSm.of_vcs (by omega) hs
 ·exact add _ _ ⟨by show nm.length ≤ _; omega, by show ([] : List Ev).length ≤ _; simp, by simp⟩
 ·refine ScSm.of_vcs (by rw [List.length_append, letters8_len]; omega) fun u hu => ?_
  rcases List.mem_append.1 hu with hu | hu
  ·exact hs u hu
  ·exact letters8_mem 8 u hu
 ·refine add _ _ ⟨by show ([120] : List UInt8).length ≤ _; decide, by show ([_] : List Ev).length ≤ _; simp, fun x hx => ?_⟩
  have e : x = ⟨nu, de, []⟩ := by simpa using hx
  rw [e]
  exact ⟨by show nu.length ≤ _; omega, by show de.length ≤ _; omega, by simp⟩
 ·refine add _ _ ⟨by show ([120] : List UInt8).length ≤ _; decide, by show ([_] : List Ev).length ≤ _; simp, fun x hx => ?_⟩
  have e : x = ⟨[49], [50], [note]⟩ := by simpa using hx
  rw [e]
  exact ⟨by simp, by simp, by simp⟩
 ·refine add _ _ ⟨by show ([120] : List UInt8).length ≤ _; decide, by show (List.replicate 501 _ : List Ev).length ≤ _; rw [List.length_replicate]; decide, fun x hx => ?_⟩
  have e : x = ⟨[], [], []⟩ := List.eq_of_mem_replicate hx
  rw [e]
  exact ⟨by simp, by simp, by simp⟩
 ·refine add _ _ ⟨by show ([120] : List UInt8).length ≤ _; decide, by show ([_] : List Ev).length ≤ _; simp, fun x hx => ?_⟩
  have e : x = ⟨nu, de, List.replicate 13 []⟩ := by simpa using hx
  rw [e]
  exact ⟨by show nu.length ≤ _; omega, by show de.length ≤ _; omega, by show (List.replicate 13 _ : List (List Int)).length ≤ _; rw [List.length_replicate]; decide⟩
 ·refine ScSm.of_vcs (by rw [lastName_len]; omega) fun u hu => ?_
  unfold lastName at hu
  split at hu
  ·exact hs u hu
  ·rename_i v hv
   rcases List.mem_append.1 hu with hu | hu
   ·exact hs u (List.dropLast_subset _ hu)
   ·have e : u = ⟨nm, v.evs⟩ := by simpa using hu
    have hv2 := hs v (List.mem_of_getLast? hv)
    rw [e]
    exact ⟨by show nm.length ≤ _; omega, hv2.2.1, hv2.2.2⟩
end Go.Proofs.YtaaeekahhhookaaGreatDoor
