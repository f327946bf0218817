/- row.Compare (the part of XCm1 that needs no chord; XCm1 and XRc48 are not used in one seat). slices.SortFunc of rows with row.Compare (printed by gen_ns.py). slices.CompactFunc of rows with row.Equal (printed by gen_ns.py). The different notes of a score, in order: plain. slices.SortFunc and slices.CompactFunc of no row. -/
import Derived.Test.YtphlodmdcmcjnaaGreatDoorGTHMCv
import Derived.Test.YtphlodmdcmcjnaaGreatDoorGXAMCv
import Derived.Test.YtphlodmdcmcjnaaGreatDoorGXDMCv
import Derived.Shelf.SlSortCmp.Whole1
import Derived.Ground.SlsfProg
import Derived.Test.YtphlodmdcmcjnaaGreatDoorShelf4
import Derived.Test.YtphlodmdcmcjnaaGreatDoorGTACv
import Derived.Test.YtphlodmdcmcjnaaGreatDoorGTEMCv
import Derived.Lib.QuietBelow
import Derived.Test.YtphlodmdcmcjnaaGreatDoorShelf3
namespace Go.Proofs.YtphlodmdcmcjnaaGreatDoor
open Go.RowKit Go.Lib

/-- slices.Compare of rows. -/
def cmpI : List Int → List Int → Int
  | [], [] => 0
  | [], _ :: _ => -1
  | _ :: _, [] => 1
  | a :: x, b :: y => if a < b then -1 else if b < a then 1 else cmpI x y
def cmpC (a b : Int) : Int := if a < b then -1 else if b < a then 1 else 0
theorem cmpI_cons (a b : Int) (x y : List Int) : cmpI (a :: x) (b :: y) = if cmpC a b ≠ 0 then cmpC a b else cmpI x y := by
  rw [cmpI]
  unfold cmpC
  by_cases h : a < b
  · rw [if_pos h, if_pos h, if_pos (by decide)]
  · rw [if_neg h, if_neg h]
    by_cases h2 : b < a
    · rw [if_pos h2, if_pos h2, if_pos (by decide)]
    · rw [if_neg h2, if_neg h2, if_neg (by decide)]

theorem notNaN_any (n : Int) (w : World) : Calls Tryz.prog 195 #[.int .i64 n] w fun e w' => e = .returned (.bool false) ∧ Below w.heap.size w w' := by
  go_enter Tryz.func195, Tryz.ntmps195
  go_wp2_with fail
  go_ret
  exact ⟨ret1 (congrArg Value.bool (by simp)), Below.refl _ _⟩

set_option maxHeartbeats 1000000 in
theorem cmpInt_any (a b : Int) (w : World) : Calls Tryz.prog 137 #[.int .i64 a, .int .i64 b] w fun e w' => e = .returned (.int .i64 (cmpC a b)) ∧ Below w.heap.size w w' := by
  have HA := Lib.hid (fun W => notNaN_any a W)
  have HB := Lib.hid (fun W => notNaN_any b W)
  unfold cmpC
  by_cases h : a < b
  · rw [if_pos h]
    go_enter Tryz.func137, Tryz.ntmps137
    go_wp2_with fail
    refine (HA.out _).mono ?_
    rintro e w1 ⟨rfl, hb1⟩
    go_wp2_with fail
    refine (HB.out _).mono ?_
    rintro e w2 ⟨rfl, hb2⟩
    go_wp2_with fail
    go_ret
    exact ⟨rfl, hb1.trans (hb2.mono hb1.size)⟩
  · rw [if_neg h]
    by_cases h2 : b < a
    · rw [if_pos h2]
      go_enter Tryz.func137, Tryz.ntmps137
      go_wp2_with fail
      refine (HA.out _).mono ?_
      rintro e w1 ⟨rfl, hb1⟩
      go_wp2_with fail
      refine (HB.out _).mono ?_
      rintro e w2 ⟨rfl, hb2⟩
      go_wp2_with fail
      go_ret
      exact ⟨rfl, hb1.trans (hb2.mono hb1.size)⟩
    · rw [if_neg h2]
      go_enter Tryz.func137, Tryz.ntmps137
      go_wp2_with fail
      refine (HA.out _).mono ?_
      rintro e w1 ⟨rfl, hb1⟩
      go_wp2_with fail
      refine (HB.out _).mono ?_
      rintro e w2 ⟨rfl, hb2⟩
      go_wp2_with fail
      go_ret
      exact ⟨rfl, hb1.trans (hb2.mono hb1.size)⟩

set_option maxRecDepth 100000 in
set_option maxHeartbeats 2000000 in
theorem slCompare_any (xv yv : Value) (x y : List Int) (w : World) (hx : IsRow w w.heap.size xv x) (hy : IsRow w w.heap.size yv y) :
    Calls Tryz.prog 87 #[xv, yv] w fun e w' => e = .returned (.int .i64 (cmpI x y)) ∧ Below w.heap.size w w' := by
  obtain ⟨AX, cx, rfl, hxc, hxm, hxr⟩ := hx
  obtain ⟨AY, cy, rfl, hyc, hym, hyr⟩ := hy
  unfold maxLen at hxm hym
  have hxl : x.length ≤ 9223372036854775807 := by omega
  have hyl : y.length ≤ 9223372036854775807 := by omega
  clear hxc hyc hxm hym
  obtain ⟨out, HO⟩ : ∃ out, Box (cmpI (x.drop 0) (y.drop 0) = out ∧ cmpI x y = out) := ⟨_, ⟨rfl, rfl⟩⟩
  rw [HO.out.2]
  go_enter Tryz.func87, Tryz.ntmps87
  go_wp2_with fail
  go_loopw [11] (fun i wr => ∃ k : Nat, k ≤ x.length ∧ k ≤ y.length ∧ i = .int .i64 k ∧ Box (cmpI (x.drop k) (y.drop k) = out) ∧ Below w.heap.size w wr) (fun i _ => x.length - (intOf i).toNat)
  case atStart => exact ⟨0, Nat.zero_le _, Nat.zero_le _, rfl, ⟨HO.out.1⟩, Below.refl _ _⟩
  case round =>
    clear HO
    obtain ⟨k, hk, hk2, rfl, HK, hbw⟩ := hrel
    by_cases hlt : k < x.length
    · obtain ⟨ad1, rfl, _, hc1⟩ := (hxr.below hbw (Nat.le_refl _)).i_at hlt
      by_cases hly : k < y.length
      · obtain ⟨ad2, rfl, _, hc2⟩ := (hyr.below hbw (Nat.le_refl _)).i_at hly
        have HS : Box (out = if cmpC (x[k]?.getD 0) (y[k]?.getD 0) ≠ 0 then cmpC (x[k]?.getD 0) (y[k]?.getD 0) else cmpI (x.drop (k + 1)) (y.drop (k + 1))) := ⟨by
          rw [← HK.out, List.drop_eq_getElem_cons hlt, List.drop_eq_getElem_cons hly, cmpI_cons, List.getElem?_eq_getElem hlt, List.getElem?_eq_getElem hly]
          rfl⟩
        generalize x[k]?.getD 0 = a at *
        generalize y[k]?.getD 0 = b at *
        have HCM := Lib.hid (fun W => cmpInt_any a b W)
        generalize cmpC a b = z at *
        clear HK
        by_cases hz : z = 0
        · have HF : Box (cmpI (x.drop (k + 1)) (y.drop (k + 1)) = out) := ⟨by rw [HS.out, if_neg (by rw [hz]; decide)]⟩
          subst hz
          clear HS
          go_wp2_with fail
          refine (HCM.out _).mono ?_
          rintro e w1 ⟨rfl, hb1⟩
          have hbn := hbw.trans (hb1.mono hbw.size)
          clear hb1
          go_wp2_with fail
          go_roundw
          case rel => exact ⟨k + 1, by omega, by omega, by go_num, HF, hbn⟩
          case measure => simp [intOf]; omega
        · have hz' : (z != 0) = true := by simpa using hz
          have HF : Box (out = z) := ⟨by rw [HS.out, if_pos hz]⟩
          clear HS hz
          go_wp2_with fail
          refine (HCM.out _).mono ?_
          rintro e w1 ⟨rfl, hb1⟩
          have hbn := hbw.trans (hb1.mono hbw.size)
          clear hb1
          go_wp2_with fail
          go_ret
          exact ⟨ret1 (congrArg (Value.int .i64) HF.out.symm), hbn⟩
      · have HF : Box (out = 1) := ⟨by rw [← HK.out, List.drop_eq_getElem_cons hlt, List.drop_of_length_le (show y.length ≤ k by omega)]; rfl⟩
        have hle : y.length ≤ k := by omega
        clear HK
        go_wp2_with fail
        go_ret
        exact ⟨ret1 (congrArg (Value.int .i64) HF.out.symm), hbw⟩
    · obtain rfl : k = x.length := by omega
      by_cases hly : x.length < y.length
      · have HF : Box (out = -1) := ⟨by rw [← HK.out, List.drop_length, List.drop_eq_getElem_cons hly]; rfl⟩
        clear HK
        go_wp2_with fail
        go_ret
        exact ⟨ret1 (congrArg (Value.int .i64) HF.out.symm), hbw⟩
      · have HF : Box (out = 0) := ⟨by rw [← HK.out, List.drop_length, List.drop_of_length_le (by omega)]; rfl⟩
        clear HK
        go_wp2_with fail
        go_ret
        exact ⟨ret1 (congrArg (Value.int .i64) HF.out.symm), hbw⟩

set_option maxHeartbeats 1000000 in
theorem rowCompare_any (xv yv : Value) (x y : List Int) (w : World) (hx : IsRow w w.heap.size xv x) (hy : IsRow w w.heap.size yv y) :
    Calls Tryz.prog 39 #[xv, yv] w fun e w' => e = .returned (.int .i64 (cmpI x y)) ∧ Below w.heap.size w w' := by
  have HE := Lib.hid (slCompare_any xv yv x y w hx hy)
  generalize cmpI x y = z at *
  obtain ⟨AX, cx, rfl⟩ := hx.shape
  obtain ⟨AY, cy, rfl⟩ := hy.shape
  clear hx hy
  go_enter Tryz.func39, Tryz.ntmps39
  go_wp2_with fail
  refine HE.out.mono ?_
  rintro e w1 ⟨rfl, hb1⟩
  go_wp2_with fail
  go_ret
  exact ⟨rfl, hb1⟩

end Go.Proofs.YtphlodmdcmcjnaaGreatDoor

namespace Go.Proofs.YtphlodmdcmcjnaaGreatDoor
open Go.RowKit Go.Lib Go.Shelf

theorem cmpI_self : ∀ x : List Int, cmpI x x = 0
  | [] => rfl
  | a :: x => by rw [cmpI, if_neg (by omega), if_neg (by omega), cmpI_self x]
theorem cmpI_lt {a b : Int} {x y : List Int} : cmpI (a :: x) (b :: y) < 0 ↔ a < b ∨ (a = b ∧ cmpI x y < 0) := by
  rw [cmpI]
  split
  · rename_i h; exact ⟨fun _ => .inl h, fun _ => by decide⟩
  · rename_i h
    split
    · rename_i h2
      exact ⟨fun h3 => absurd h3 (by decide), fun h3 => by omega⟩
    · rename_i h2
      exact ⟨fun h3 => .inr ⟨by omega, h3⟩, fun h3 => by
        rcases h3 with h3 | h3
        · exact absurd h3 h
        · exact h3.2⟩
theorem cmpI_trans : ∀ {x y z : List Int}, cmpI x y < 0 → cmpI y z < 0 → cmpI x z < 0
  | [], [], _, h, _ => by simp [cmpI] at h
  | [], _ :: _, [], _, h => by simp [cmpI] at h
  | [], _ :: _, _ :: _, _, _ => by simp [cmpI]
  | _ :: _, [], _, h, _ => by simp [cmpI] at h
  | _ :: _, _ :: _, [], _, h => by simp [cmpI] at h
  | a :: x, b :: y, c :: z, h1, h2 => by
    rw [cmpI_lt] at *
    rcases h1 with h1 | ⟨rfl, h1⟩
    · rcases h2 with h2 | ⟨rfl, _⟩
      · exact .inl (by omega)
      · exact .inl h1
    · rcases h2 with h2 | ⟨rfl, h2⟩
      · exact .inl h2
      · exact .inr ⟨rfl, cmpI_trans h1 h2⟩
theorem cmpI_total : ∀ (x y : List Int), cmpI x y < 0 ∨ x = y ∨ cmpI y x < 0
  | [], [] => .inr (.inl rfl)
  | [], _ :: _ => .inl (by simp [cmpI])
  | _ :: _, [] => .inr (.inr (by simp [cmpI]))
  | a :: x, b :: y => by
    rw [cmpI_lt, cmpI_lt]
    rcases Int.lt_trichotomy a b with h | rfl | h
    · exact .inl (.inl h)
    · rcases cmpI_total x y with h | rfl | h
      · exact .inl (.inr ⟨rfl, h⟩)
      · exact .inr (.inl rfl)
      · exact .inr (.inr (.inr ⟨rfl, h⟩))
    · exact .inr (.inr (.inl h))

/-- Blocks below bs stay, and all blocks that hold no rows' headers. -/
structure BK (bs : Nat) (w w' : World) : Prop where
  low : Below bs w w'
  kp : KpT [66] w.heap.size w w'
theorem BK.refl {bs : Nat} {w : World} : BK bs w w := ⟨Below.refl _ _, KpT.refl _ _ _⟩
theorem BK.next {bs : Nat} {w w1 w2 : World} (h : BK bs w w1) (hb : Below w1.heap.size w1 w2) (hs : bs ≤ w1.heap.size) : BK bs w w2 := ⟨h.low.trans (hb.mono hs), h.kp.trans (KpT.of_below (hb.mono h.kp.size))⟩
theorem BK.store {bs g j : Nat} {w w1 : World} (h : BK bs w w1) (hg : bs ≤ g) (ht : TyB w1 g 66) (v : Value) : BK bs w (w1.setCell ⟨g, j, Option.none⟩ v) := ⟨h.low.setCell hg v, h.kp.setCell ht (by simp) v⟩
theorem BK.puts {bs g : Nat} {w : World} : ∀ (vs : List Value) {w1 : World} {xs : List Value} (o : Nat), BK bs w w1 → bs ≤ g → Cells w1 g 66 xs → BK bs w (w1.setCells g o vs)
  | [], _, _, _, h, _, _ => h
  | v :: vs, _, _, o, h, hg, hc => BK.puts vs (o + 1) (h.store hg (TyB.of_cells hc) v) hg (hc.set o v)
theorem bk_sort {bs : Nat} {α : Type} [Inhabited α] (enc : α → Value) (w : World) (g m : Nat) (dk : Array α) (os : Array Obj) (hg : bs ≤ g) (ht : TyB w g 66) : BK bs w (sortWorld enc w g 0 m dk os) := by
  have h1 : Below bs w (Sort.putRow enc (Sort.ahead w m) g 0 dk) := below_putRow (Below.refl _ _) hg
  have h2 := Lib.below_grow (Sort.putRow enc (Sort.ahead w m) g 0 dk).heap.size (Sort.putRow enc (Sort.ahead w m) g 0 dk) (Nat.le_refl _) 0 os
  refine ⟨h1.trans (h2.mono ?_), ?_, fun b T hb hT hn => ?_⟩
  · have := ht.lt; have := h1.size; omega
  · exact Nat.le_trans h1.size h2.size
  · have hne : g ≠ b := fun e => by subst e; exact hn (by rw [hT.one ht]; simp)
    have h3 := h1.size
    refine (h2.block b (by omega)).trans ?_
    simp [Sort.putRow, Sort.mapBlock, Sort.ahead, Array.getElem?_modify, hne]

/-- A row of the list that is sorted, with its numbers. -/
abbrev NRow (w : World) := { t : Value × List Int // IRow w w.heap.size t.1 t.2 }
def NRows (w : World) (vs : List Value) (ds : List (List Int)) : Prop := ∀ j, j < ds.length → ∃ t : NRow w, vs[j]? = some t.1.1 ∧ ds[j]? = some t.1.2
theorem NRows.len {w : World} {vs : List Value} {l : List (List Int)} (h : NRows w vs l) {j : Nat} (hj : j < l.length) : ∃ (v : Value) (x : List Int), vs[j]? = some v ∧ l[j]? = some x ∧ IRow w w.heap.size v x := by
  obtain ⟨t, h1, h2⟩ := h j hj
  exact ⟨_, _, h1, h2, t.2⟩
theorem IRow.bk {bs : Nat} {w w' : World} {v : Value} {x : List Int} (h : IRow w w.heap.size v x) (hb : BK bs w w') : IRow w' w'.heap.size v x := h.keep hb.kp (by decide) hb.kp.size
theorem NRows.bk {bs : Nat} {w w' : World} {vs : List Value} {l : List (List Int)} (h : NRows w vs l) (hb : BK bs w w') : NRows w' vs l := fun j hj => by
  obtain ⟨v, x, h1, h2, h3⟩ := h.len hj
  exact ⟨⟨(v, x), h3.bk hb⟩, h1, h2⟩
def nsEnc {w : World} (t : NRow w) : Value := t.1.1
def nsCf {w : World} (a b : NRow w) : Int := cmpI a.1.2 b.1.2
theorem nsOne {w : World} : OneCell (nsEnc (w := w)) := fun t => by
  obtain ⟨A, c, e, _⟩ := t.2.shape
  unfold nsEnc
  rw [e]
  rfl
theorem nsLt {w : World} (a b : NRow w) : ltOf nsCf a b = decide (cmpI a.1.2 b.1.2 < 0) := rfl
theorem nsSwo {w : World} : Sort.SWO (ltOf (nsCf (w := w))) := by
  refine ⟨fun x => ?_, fun x y z h1 h2 => ?_, fun x y z h1 h2 => ?_⟩
  · rw [nsLt, cmpI_self]; rfl
  · rw [nsLt] at *
    rw [decide_eq_true_eq] at *
    exact cmpI_trans h1 h2
  · rw [nsLt] at *
    rw [decide_eq_false_iff_not] at *
    intro h
    rcases cmpI_total x.1.2 y.1.2 with h3 | h3 | h3
    · exact h1 h3
    · rw [h3] at h; exact h2 h
    · exact h2 (cmpI_trans h3 h)

theorem nsLays {w : World} [Inhabited (NRow w)] (g n : Nat) (ht : TyB w g 66) :
    CmpLays1 Tryz.prog 39 #[] (nsEnc (w := w)) nsCf g 0 n w := by
  intro m os dk _ x y
  have hB := bk_sort (bs := 0) (nsEnc (w := w)) w g m dk os (Nat.zero_le _) ht
  have hC := rowCompare_any x.1.1 y.1.1 x.1.2 y.1.2 (sortWorld (nsEnc (w := w)) w g 0 m dk os) (x.2.bk hB).row (y.2.bk hB).row
  exact (calls_up hC).mono fun e w' ⟨⟨he, hb2⟩, hd⟩ => ⟨he, below_regrow hb2 (hd (by rw [he]; exact fun h => by cases h))⟩

theorem nsRows {w : World} (g c bs : Nat) (vs : List Value) (l : List (List Int)) (hn : 0 < l.length) (hn2 : l.length ≤ 1000000)
    (hown : w.ownsRow bs 66 1 (.slice (some ⟨g, 0, Option.none⟩) l.length c) l.length vs)
    (hr : NRows w vs l) :
    Calls Tryz.prog 84 #[.slice (some ⟨g, 0, Option.none⟩) l.length c, .func (.func 39) #[] #[]] w fun e w' =>
      e = .returned (.tuple #[]) ∧ (∃ (l' : List (List Int)) (vs' : List Value), l'.length = l.length ∧ l'.Perm l ∧ (∀ i j, i < j → j < l.length → ¬ cmpI (l'[j]?.getD []) (l'[i]?.getD []) < 0) ∧ w'.ownsRow bs 66 1 (.slice (some ⟨g, 0, Option.none⟩) l.length c) l.length vs' ∧ NRows w vs' l') ∧ BK bs w w' := by
  haveI : Inhabited (NRow w) := ⟨Classical.choose (hr 0 hn)⟩
  obtain ⟨d, hd⟩ : ∃ d : Array (NRow w), d = Array.ofFn (fun j : Fin l.length => Classical.choose (hr j.1 j.2)) := ⟨_, rfl⟩
  have hds : d.size = l.length := by rw [hd]; simp
  have hdj : ∀ j, j < l.length → vs[j]? = some (d[j]!).1.1 ∧ l[j]? = some (d[j]!).1.2 := fun j hj => by
    have e : d[j]! = Classical.choose (hr j hj) := by rw [hd, getElem!_pos _ j (by simpa using hj), Array.getElem_ofFn]
    rw [e]
    exact Classical.choose_spec (hr j hj)
  have hH : Sort.Holds (nsEnc (w := w)) w g 0 d := fun j hj => by
    have hj2 : j < l.length := by omega
    refine ⟨?_, ?_⟩
    · rw [Nat.zero_add]; exact (hown.cellAt j (by omega)).trans (hdj j hj2).1
    · rw [Nat.zero_add]; exact hown.frozenAt j
  have hglt : g < w.heap.size := (hown.lt g rfl).2
  have hty : TyB w g 66 := TyB.of_own hown rfl
  have h := Any.slices_SortFunc Tryz.srtL (nsEnc (w := w)) nsOne nsCf nsSwo 39 #[] g 0 c d w
    (fun args W => enters_of Tryz.func39 (by kernel_rfl) rfl args W) (nsLays g d.size hty) hH hglt (by omega)
  rw [hds] at h
  refine Calls.mono h ?_
  rintro e w' ⟨rfl, d', m, os, ⟨hs', _, hperm⟩, hsort, rfl⟩
  have hs2 : d'.size = l.length := by omega
  have hB := bk_sort (bs := bs) (nsEnc (w := w)) w g m d' os (hown.lt g rfl).1 hty
  have hmap : d.toList.map (fun t => t.1.2) = l := by
    apply List.ext_getElem
    · rw [List.length_map, Array.length_toList, hds]
    · intro j h1 h2
      have h3 := (hdj j h2).2
      rw [getElem!_pos d j (by omega), List.getElem?_eq_getElem h2] at h3
      injection h3 with h3
      rw [List.getElem_map, Array.getElem_toList, ← h3]
  have hex : ∀ D : Array (NRow w), D.size = l.length → (D.extract 0 l.length).toList = D.toList := fun D hD => by
    rw [← hD, Array.extract_size]
  rw [hex d' hs2, hex d hds] at hperm
  have hget : ∀ j, j < l.length → (d'.toList.map (fun t => t.1.2))[j]? = some (d'[j]!).1.2 := fun j hj => by
    rw [List.getElem?_map, Array.getElem?_toList, Array.getElem?_eq_getElem (by omega), getElem!_pos d' j (by omega)]
    rfl
  have hgetv : ∀ j, j < l.length → (d'.toList.map (nsEnc (w := w)))[j]? = some (d'[j]!).1.1 := fun j hj => by
    rw [List.getElem?_map, Array.getElem?_toList, Array.getElem?_eq_getElem (by omega), getElem!_pos d' j (by omega)]
    rfl
  have hvs : vs = d.toList.map (nsEnc (w := w)) := by
    have hl1 : vs.length = l.length := by have := hown.1; omega
    apply List.ext_getElem?
    intro j
    by_cases hj : j < l.length
    · rw [(hdj j hj).1, List.getElem?_map, Array.getElem?_toList, Array.getElem?_eq_getElem (by omega), getElem!_pos d j (by omega)]
      rfl
    · rw [List.getElem?_eq_none (by omega), List.getElem?_eq_none (by simp [hds]; omega)]
  rw [hvs] at hown
  have hso := sort_own (nsEnc (w := w)) w g m c l.length bs d.toList d' os 66 hs2 hown
  refine ⟨rfl, ⟨d'.toList.map (fun t => t.1.2), d'.toList.map (nsEnc (w := w)), by rw [List.length_map, Array.length_toList, hs2], by rw [← hmap]; exact hperm.map _, fun i j hij hj => ?_, hso, fun j hj => ?_⟩, hB⟩
  · have h5 := hsort i j (Nat.zero_le _) hij hj
    rw [nsLt] at h5
    rw [hget i (by omega), hget j hj]
    exact of_decide_eq_false h5
  · rw [List.length_map, Array.length_toList, hs2] at hj
    exact ⟨d'[j]!, hgetv j hj, hget j hj⟩

end Go.Proofs.YtphlodmdcmcjnaaGreatDoor

namespace Go.Proofs.YtphlodmdcmcjnaaGreatDoor
open Go.RowKit Go.Lib

theorem ci_nrows {w : World} {vs cs cs' : List Value} {l : List (List Int)} {kk n : Nat} (hsr : NRows w vs l) (hn : n = l.length) (ht : cs.take n = vs) (h : CI l cs n kk cs') (hle : n ≤ cs.length) : (dedup l).length = kk ∧ NRows w (cs'.take kk) (dedup l) := by
  subst hn
  have hlen : (dedup l).length = kk := by unfold dedup; rw [List.length_map]; exact h.len
  refine ⟨hlen, fun j hj => ?_⟩
  rw [hlen] at hj
  have hjk : j < (kpI l l.length).length := by rw [h.len]; exact hj
  have hi := kpI_lt (List.getElem_mem hjk)
  obtain ⟨t, h1, h2⟩ := hsr _ hi
  have h3 := h.low j _ (List.getElem?_eq_getElem hjk)
  refine ⟨t, ?_, ?_⟩
  · rw [List.getElem?_take_of_lt hj, h3, ← h1, ← ht, List.getElem?_take_of_lt hi]
  · unfold dedup
    rw [List.getElem?_map, List.getElem?_eq_getElem hjk, Option.map_some, h2]
    rfl

set_option maxRecDepth 100000 in
set_option maxHeartbeats 4000000 in
theorem nsCompact (g c bs : Nat) (vs : List Value) (l : List (List Int)) (w : World) (hown : w.ownsRow bs 66 1 (.slice (some ⟨g, 0, Option.none⟩) l.length c) l.length vs) (hr : NRows w vs l) (hn : l.length ≤ 1000000) :
    Calls Tryz.prog 85 #[.slice (some ⟨g, 0, Option.none⟩) l.length c, .func (.func 86) #[] #[]] w fun e w' => (∃ vs', e = .returned (.slice (some ⟨g, 0, Option.none⟩) (dedup l).length c) ∧ w'.ownsRow bs 66 1 (.slice (some ⟨g, 0, Option.none⟩) (dedup l).length c) (dedup l).length vs' ∧ NRows w vs' (dedup l)) ∧ BK bs w w' := by
  have hpe := fun (args : Array Value) (W : World) => enters_of (P := Tryz.prog) Tryz.func86 (by kernel_rfl) rfl args W
  have HOW := Lib.hid hown
  have HSR : Box (NRows w vs l) := ⟨hr⟩
  have HB0 : Hid (BK bs w w) := Lib.hid BK.refl
  obtain ⟨cs, hcs, hgb, hnc, hcm, hcl, htk⟩ := own_parts hown
  have HCS : Box (Cells w g 66 cs) := ⟨hcs⟩
  have HTK : Box (cs.take l.length = vs) := ⟨htk⟩
  have HCL : Box (cs.length = c) := ⟨hcl⟩
  unfold maxLen at hcm
  have hglt := hcs.lt
  have HG : Box (bs ≤ g) := ⟨hgb⟩
  clear hown hr hcs htk hcl hgb hglt
  by_cases h2 : l.length < 2
  · have hd : dedup l = l := dedup_all fun j hj => by
      obtain rfl : j = 0 := by omega
      exact kp_zero l
    have HD := Lib.hid hd
    clear hd
    go_enter Tryz.func85, Tryz.ntmps85
    go_wp2_with fail
    go_ret
    rw [HD.out]
    exact ⟨⟨vs, rfl, HOW.out, HSR.out⟩, HB0.out⟩
  · go_enter Tryz.func85, Tryz.ntmps85
    go_wp2_with fail
    go_loopw [5] (fun i wr => ∃ k : Nat, 1 ≤ k ∧ k ≤ l.length ∧ i = .int .i64 k ∧ Box (∀ j, j < k → kpt l j = true) ∧ Box (Cells wr g 66 cs) ∧ BK bs w wr) (fun i _ => l.length - (intOf i).toNat)
    case atStart => exact ⟨1, by omega, by omega, rfl, ⟨fun j hj => by obtain rfl : j = 0 := by omega
                                                                       exact kp_zero l⟩, ⟨HCS.out⟩, HB0.out⟩
    case round =>
      clear HB0 HCS HOW
      obtain ⟨k0, hk1, hk, rfl, HK, HCW, hbw⟩ := hrel
      obtain ⟨k, rfl⟩ : ∃ k, k0 = k + 1 := ⟨k0 - 1, by omega⟩
      by_cases hlt : k + 1 < l.length
      · obtain ⟨v1, x1, a1, b1, r1⟩ := HSR.out.len hlt
        obtain ⟨v0, x0, a0, b0, r0⟩ := HSR.out.len (show k < l.length by omega)
        have hc1 : wr.cell? ⟨g, k + 1, Option.none⟩ = some v1 := by rw [HCW.out.cell (k + 1), ← a1, ← HTK.out, List.getElem?_take_of_lt hlt]
        have hc0 : wr.cell? ⟨g, k, Option.none⟩ = some v0 := by rw [HCW.out.cell k, ← a0, ← HTK.out, List.getElem?_take_of_lt (by omega)]
        have HKS : Hid (sameB x1 x0 = true → kpt l (k + 1) = false) := Lib.hid fun h => kp_same (by rw [b1, b0]; exact of_decide_eq_true h)
        have HKO : Hid (sameB x1 x0 = false → kpt l (k + 1) = true) := Lib.hid fun h => kp_other (by rw [b1, b0]; exact of_decide_eq_false h)
        have HQ := Lib.hid (fun (W : World) (h : Below wr.heap.size wr W) => rowEqual_any v1 v0 x1 x0 W ((r1.bk hbw).lift h).row ((r0.bk hbw).lift h).row)
        have hw1 : IntKind.i64.wrap (((k + 1 : Nat) : Int) - 1) = (k : Int) := by rw [show ((k + 1 : Nat) : Int) - 1 = (k : Int) by omega]; exact IntWalk.i64_in _ (by omega)
        obtain ⟨AX, cx, rfl, _⟩ := r1.shape
        obtain ⟨AY, cy, rfl, _⟩ := r0.shape
        have HB := Lib.hid hbw
        have hglt := HCW.out.lt
        have hi1 : (0 : Int) ≤ (k : Int) + 1 := by omega
        have hi2 : (k : Int) + 1 < (l.length : Int) := by omega
        have hw0 : IntKind.i64.wrap (k : Int) = (k : Int) := IntWalk.i64_in _ (by omega)
        have hi3 : (0 : Int) ≤ (k : Int) := by omega
        have hi4 : (k : Int) < (l.length : Int) := by omega
        clear hbw a1 b1 r1 a0 b0 r0
        generalize sameB x1 x0 = tb at *
        have hB : Below wr.heap.size wr wr.drew := below_drew (Below.refl _ _)
        cases tb with
        | false =>
          have HKK : Box (∀ j, j < k + 2 → kpt l j = true) := ⟨fun j hj => by
            by_cases e : j = k + 1
            · subst e; exact HKO.out rfl
            · exact HK.out j (by omega)⟩
          clear HKS HKO HK
          go_wp2_with fail
          go_region_held3 (fun w' => w'.cell? ⟨g, k + 1, Option.none⟩ = some (.slice AX x1.length cx) ∧ w'.cell? ⟨g, k, Option.none⟩ = some (.slice AY x0.length cy))
            (first | exact ⟨keep_cell hc1 hB, keep_cell hc0 hB⟩ | go_keep)
            ((first | (go_at_call 86; (with_reducible refine (HQ.out _ hB).mono ?_); rintro e w7 ⟨rfl, hbk⟩; replace hB := hB.trans (hbk.mono hB.size); clear hbk)))
          all_goals
            have HCN : Box (Cells _ g 66 cs) := ⟨HCW.out.below hB hglt⟩
            have HBN := Lib.hid (HB.out.next hB (by have := HG.out; omega))
            go_wp2_with fail
            go_roundw
            case rel => exact ⟨k + 2, by omega, by omega, by go_num, HKK, HCN, HBN.out⟩
            case measure => simp [intOf]; omega
        | true =>
          have HST : Box (CI l cs (k + 1 + 1) (k + 1) cs) := ⟨CI.start HK.out (HKS.out rfl)⟩
          have HLT := Lib.hid hlt
          clear HKS HKO HK
          go_wp2_with fail
          go_region_held3 (fun w' => w'.cell? ⟨g, k + 1, Option.none⟩ = some (.slice AX x1.length cx) ∧ w'.cell? ⟨g, k, Option.none⟩ = some (.slice AY x0.length cy))
            (first | exact ⟨keep_cell hc1 hB, keep_cell hc0 hB⟩ | go_keep)
            ((first | (go_at_call 86; (with_reducible refine (HQ.out _ hB).mono ?_); rintro e w7 ⟨rfl, hbk⟩; replace hB := hB.trans (hbk.mono hB.size); clear hbk)))
          all_goals
            have HCN : Box (Cells _ g 66 cs) := ⟨HCW.out.below hB hglt⟩
            have HBN := Lib.hid (HB.out.next hB (by have := HG.out; omega))
            clear HQ HB hc1 hc0 hB
            go_wp2_with fail
            go_loopw [5, 7] (fun a b wr => ∃ (kk k2 : Nat) (cs' : List Value), 1 ≤ k2 ∧ k + 1 + k2 ≤ l.length ∧ a = .int .i64 kk ∧ b = .int .i64 k2 ∧ Box (CI l cs (k + 1 + k2) kk cs') ∧ Box (Cells wr g 66 cs') ∧ BK bs w wr) (fun _ b _ => l.length - (intOf b).toNat)
            case atStart => exact ⟨k + 1, 1, cs, Nat.le_refl _, by omega, by go_num, rfl, ⟨HST.out⟩, ⟨HCN.out⟩, HBN.out⟩
            case round =>
              clear HST HCN HBN
              obtain ⟨kk, k20, cs', hk21, hke, rfl, rfl, HCI, HC2, hbw2⟩ := hrel
              obtain ⟨k2, rfl⟩ : ∃ k2, k20 = k2 + 1 := ⟨k20 - 1, by omega⟩
              have hkk := HCI.out.lt
              have hsz := HCI.out.size
              have hcl := HCL.out
              by_cases hlt2 : k + 1 + (k2 + 1) < l.length
              · obtain ⟨u1, y1, a1, b1, r1⟩ := HSR.out.len hlt2
                obtain ⟨u0, y0, a0, b0, r0⟩ := HSR.out.len (show k + 1 + k2 < l.length by omega)
                have hcu : cs[k + 1 + (k2 + 1)]? = some u1 := by rw [← a1, ← HTK.out, List.getElem?_take_of_lt hlt2]
                have hcd : cs[k + 1 + k2]? = some u0 := by rw [← a0, ← HTK.out, List.getElem?_take_of_lt (by omega)]
                have hd1 : wr.cell? ⟨g, k + 1 + (k2 + 1), Option.none⟩ = some u1 := by rw [HC2.out.cell, HCI.out.high _ (by omega), hcu]
                have hd0 : wr.cell? ⟨g, k + 1 + k2, Option.none⟩ = some u0 := by rw [HC2.out.cell, HCI.out.high _ (by omega), hcd]
                have HKS : Hid (sameB y1 y0 = true → kpt l (k + 1 + k2 + 1) = false) := Lib.hid fun h => kp_same (by rw [show k + 1 + k2 + 1 = k + 1 + (k2 + 1) by omega, b1, b0]; exact of_decide_eq_true h)
                have HKO : Hid (sameB y1 y0 = false → kpt l (k + 1 + k2 + 1) = true) := Lib.hid fun h => kp_other (by rw [show k + 1 + k2 + 1 = k + 1 + (k2 + 1) by omega, b1, b0]; exact of_decide_eq_false h)
                have HQ := Lib.hid (fun (W : World) (h : Below wr.heap.size wr W) => rowEqual_any u1 u0 y1 y0 W ((r1.bk hbw2).lift h).row ((r0.bk hbw2).lift h).row)
                have hw2 : IntKind.i64.wrap (((k2 + 1 : Nat) : Int) - 1) = (k2 : Int) := by rw [show ((k2 + 1 : Nat) : Int) - 1 = (k2 : Int) by omega]; exact IntWalk.i64_in _ (by omega)
                obtain ⟨AU, cu, rfl, _⟩ := r1.shape
                obtain ⟨AV, cv, rfl, _⟩ := r0.shape
                have HCU := Lib.hid hcu
                have HB := Lib.hid hbw2
                have hglt := HC2.out.lt
                have hw20 : IntKind.i64.wrap (k2 : Int) = (k2 : Int) := IntWalk.i64_in _ (by omega)
                have hj1 : (0 : Int) ≤ (k2 : Int) + 1 := by omega
                have hj2 : (k2 : Int) + 1 < ((l.length - (k + 1) : Nat) : Int) := by omega
                have hj3 : (0 : Int) ≤ (k2 : Int) := by omega
                have hj4 : (k2 : Int) < ((l.length - (k + 1) : Nat) : Int) := by omega
                clear hbw2 a1 b1 r1 a0 b0 r0 hcu hcd
                generalize sameB y1 y0 = tb at *
                have hB : Below wr.heap.size wr wr.drew := below_drew (Below.refl _ _)
                cases tb with
                | true =>
                  have HCI2 : Box (CI l cs (k + 1 + (k2 + 1 + 1)) kk cs') := ⟨HCI.out.skip (HKS.out rfl)⟩
                  clear HKS HKO HCI
                  go_wp2_with fail
                  go_region_held3 (fun w' => w'.cell? ⟨g, k + 1 + (k2 + 1), Option.none⟩ = some (.slice AU y1.length cu) ∧ w'.cell? ⟨g, k + 1 + k2, Option.none⟩ = some (.slice AV y0.length cv))
                    (first | exact ⟨keep_cell hd1 hB, keep_cell hd0 hB⟩ | go_keep)
                    ((first | (go_at_call 86; (with_reducible refine (HQ.out _ hB).mono ?_); rintro e w7 ⟨rfl, hbk⟩; replace hB := hB.trans (hbk.mono hB.size); clear hbk)))
                  all_goals
                    have HCN : Box (Cells _ g 66 cs') := ⟨HC2.out.below hB hglt⟩
                    have HBN := Lib.hid (HB.out.next hB (by have := HG.out; omega))
                    go_wp2_with fail
                    go_roundw
                    case rel => exact ⟨kk, k2 + 2, cs', by omega, by omega, rfl, by go_num, HCI2, HCN, HBN.out⟩
                    case measure => simp [intOf]; omega
                | false =>
                  have HCI2 : Box (CI l cs (k + 1 + (k2 + 1 + 1)) (kk + 1) (cs'.set kk (.slice AU y1.length cu))) := ⟨HCI.out.keep (HKO.out rfl) HCU.out⟩
                  clear HKS HKO HCI
                  go_wp2_with fail
                  go_region_held3 (fun w' => w'.cell? ⟨g, k + 1 + (k2 + 1), Option.none⟩ = some (.slice AU y1.length cu) ∧ w'.cell? ⟨g, k + 1 + k2, Option.none⟩ = some (.slice AV y0.length cv))
                    (first | exact ⟨keep_cell hd1 hB, keep_cell hd0 hB⟩ | go_keep)
                    ((first | (go_at_call 86; (with_reducible refine (HQ.out _ hB).mono ?_); rintro e w7 ⟨rfl, hbk⟩; replace hB := hB.trans (hbk.mono hB.size); clear hbk)))
                  all_goals
                    have HCN : Box (Cells _ g 66 cs') := ⟨HC2.out.below hB hglt⟩
                    have HBN := Lib.hid (HB.out.next hB (by have := HG.out; omega))
                    have hf := HCN.out.free kk
                    have hs := HCN.out.cell kk
                    rw [List.getElem?_eq_getElem (by omega)] at hs
                    go_wp2_with fail
                    go_roundw
                    case rel => exact ⟨kk + 1, k2 + 2, _, by omega, by omega, by go_num, by go_num, HCI2, ⟨HCN.out.set kk _⟩, HBN.out.store HG.out (TyB.of_cells HCN.out) _⟩
                    case measure => simp [intOf]; omega
              · have hend : k + 1 + (k2 + 1) = l.length := by omega
                obtain ⟨q1, q2⟩ := ci_nrows HSR.out rfl HTK.out (by have := HCI.out; rw [hend] at this; exact this) (by omega)
                have Q1 := Lib.hid q1
                have Q2 : Box (NRows w (cs'.take kk) (dedup l)) := ⟨q2⟩
                obtain ⟨ys, z1, z2, z3⟩ := Cells.puts (List.replicate (l.length - kk) (.slice Option.none 0 0)) kk HC2.out
                have Z1 : Box (Cells (wr.setCells g kk (List.replicate (l.length - kk) (.slice Option.none 0 0))) g 66 ys) := ⟨z1⟩
                have Z3 : Hid (ys.take kk = cs'.take kk) := Lib.hid (by
                  refine List.ext_getElem? fun j => ?_
                  by_cases hj : j < kk
                  · rw [List.getElem?_take_of_lt hj, List.getElem?_take_of_lt hj, z3 j hj]
                  · rw [List.getElem?_eq_none (by rw [List.length_take]; omega), List.getElem?_eq_none (by rw [List.length_take]; omega)])
                have hcr : ∀ ty, (Builtin.clear_ #[63] ty #[.slice (some ⟨g, kk, Option.none⟩) (l.length - kk) (c - kk)]).run Tryz.prog wr = .ok (.tuple #[]) (wr.setCells g kk (List.replicate (l.length - kk) (.slice Option.none 0 0))) :=
                  fun ty => Lib.run_clear_slice wr 63 66 ty (.slice Option.none 0 0) Tryz.underlying63 (fun _ => by kernel_rfl) rfl rfl g kk _ _ (by omega) (fun j hj => by rw [HC2.out.cell, List.getElem?_eq_getElem (by omega)]; rfl) (fun j hj => HC2.out.free _)
                have HBX := Lib.hid hbw2
                clear hbw2 q1 q2 z1 z3 HCI
                go_wp2_with fail
                go_ret
                rw [Q1.out]
                refine ⟨⟨ys.take kk, rfl, own_of Z1.out HG.out (by omega) (by unfold maxLen; omega) (by omega), by rw [Z3.out]; exact Q2.out⟩, BK.puts _ _ HBX.out HG.out HC2.out⟩
      · have hkl : k + 1 = l.length := by omega
        have HD : Hid (dedup l = l) := Lib.hid (dedup_all fun j hj => HK.out j (by omega))
        clear HK
        go_wp2_with fail
        go_ret
        rw [HD.out]
        exact ⟨⟨vs, rfl, by rw [← HTK.out]; exact own_of HCW.out HG.out hnc (by unfold maxLen; omega) HCL.out, HSR.out⟩, hbw⟩

end Go.Proofs.YtphlodmdcmcjnaaGreatDoor

namespace Go.Proofs.YtphlodmdcmcjnaaGreatDoor
open Go.RowKit Go.Lib

theorem dedup_mem {l : List (List Int)} {x : List Int} : x ∈ dedup l ↔ x ∈ l := by
  unfold dedup kpI
  rw [List.mem_map]
  constructor
  · rintro ⟨j, hj, rfl⟩
    rw [List.mem_filter, List.mem_range] at hj
    rw [List.getElem?_eq_getElem hj.1]
    exact List.getElem_mem hj.1
  · intro hx
    obtain ⟨j, hj, e⟩ := List.getElem_of_mem hx
    have key : ∀ j (hj : j < l.length), l[j]'hj = x → ∃ i, i < l.length ∧ kpt l i = true ∧ l[i]?.getD [] = x := by
      intro j
      induction j with
      | zero => exact fun hj e => ⟨0, hj, kp_zero l, by rw [List.getElem?_eq_getElem hj]; exact e⟩
      | succ j ih =>
        intro hj e
        by_cases h : l[j]'(by omega) = x
        · exact ih (by omega) h
        · refine ⟨j + 1, hj, kp_other ?_, by rw [List.getElem?_eq_getElem hj]; exact e⟩
          rw [List.getElem?_eq_getElem hj, List.getElem?_eq_getElem (show j < l.length by omega)]
          exact fun e2 => h (by
            have e3 : l[j + 1] = l[j] := e2
            rw [← e3]; exact e)
    obtain ⟨i, h1, h2, h3⟩ := key j hj e
    exact ⟨i, by rw [List.mem_filter, List.mem_range]; exact ⟨h1, h2⟩, h3⟩
theorem dedup_len (l : List (List Int)) : (dedup l).length ≤ l.length := by
  unfold dedup
  rw [List.length_map]
  exact kpI_len l l.length
/-- In order, each greater than the one before it. -/
def SrtI (l : List (List Int)) : Prop := l.Pairwise fun a b => cmpI a b < 0
theorem dedup_srt {l : List (List Int)} (h : ∀ i j, i < j → j < l.length → ¬ cmpI (l[j]?.getD []) (l[i]?.getD []) < 0) : SrtI (dedup l) := by
  unfold SrtI dedup kpI
  rw [List.pairwise_map]
  refine List.Pairwise.imp_of_mem (R := fun i j => i < j) ?_ (List.pairwise_lt_range.filter _)
  intro i j hi hj hij
  rw [List.mem_filter, List.mem_range] at hi hj
  obtain ⟨j, rfl⟩ : ∃ j', j = j' + 1 := ⟨j - 1, by omega⟩
  have hk := hj.2
  unfold kpt at hk
  simp only [Nat.add_sub_cancel, decide_eq_true_eq] at hk
  have h2 := h j (j + 1) (by omega) hj.1
  have h3 : cmpI (l[j]?.getD []) (l[j + 1]?.getD []) < 0 := by
    rcases cmpI_total (l[j]?.getD []) (l[j + 1]?.getD []) with h4 | h4 | h4
    · exact h4
    · exact absurd h4.symm (hk.resolve_left (by omega))
    · exact absurd h4 h2
  by_cases e : i = j
  · subst e; exact h3
  · have h1 := h i j (by omega) (by omega)
    rcases cmpI_total (l[i]?.getD []) (l[j]?.getD []) with h4 | h4 | h4
    · exact cmpI_trans h4 h3
    · rw [h4]; exact h3
    · exact absurd h4 h1

/-- The notes of events, of voices. -/
def ntsE (es : List Ev) : List (List Int) := (es.map (·.notes)).flatten
def ntsV (vs : List Vc) : List (List Int) := (vs.map fun v => ntsE v.evs).flatten
theorem ntsE_next {es : List Ev} {k : Nat} (hk : k < es.length) : ntsE (es.take (k + 1)) = ntsE (es.take k) ++ (es[k]'hk).notes := by
  unfold ntsE
  rw [List.take_succ_eq_append_getElem hk, List.map_append, List.flatten_append]
  simp
theorem ntsV_next {vs : List Vc} {k : Nat} (hk : k < vs.length) : ntsV (vs.take (k + 1)) = ntsV (vs.take k) ++ ntsE (vs[k]'hk).evs := by
  unfold ntsV
  rw [List.take_succ_eq_append_getElem hk, List.map_append, List.flatten_append]
  simp
theorem ntsE_le (es : List Ev) (k : Nat) : (ntsE (es.take k)).length ≤ (ntsE es).length := by
  have : ntsE es = ntsE (es.take k) ++ ntsE (es.drop k) := by
    unfold ntsE
    rw [← List.flatten_append, ← List.map_append, List.take_append_drop]
  rw [this, List.length_append]
  omega
theorem ntsV_le (vs : List Vc) (k : Nat) : (ntsV (vs.take k)).length ≤ (ntsV vs).length := by
  have : ntsV vs = ntsV (vs.take k) ++ ntsV (vs.drop k) := by
    unfold ntsV
    rw [← List.flatten_append, ← List.map_append, List.take_append_drop]
  rw [this, List.length_append]
  omega
theorem ntsV_mem {vs : List Vc} {x : List Int} : x ∈ ntsV vs ↔ ∃ v ∈ vs, ∃ e ∈ v.evs, x ∈ e.notes := by
  unfold ntsV ntsE
  constructor
  · intro h
    obtain ⟨l, hl, hx⟩ := List.mem_flatten.1 h
    obtain ⟨v, hv, rfl⟩ := List.mem_map.1 hl
    obtain ⟨l2, hl2, hx2⟩ := List.mem_flatten.1 hx
    obtain ⟨e, he, rfl⟩ := List.mem_map.1 hl2
    exact ⟨v, hv, e, he, hx2⟩
  · rintro ⟨v, hv, e, he, hx⟩
    exact List.mem_flatten.2 ⟨_, List.mem_map.2 ⟨v, hv, rfl⟩, List.mem_flatten.2 ⟨_, List.mem_map.2 ⟨e, he, rfl⟩, hx⟩⟩
/-- What score.Notes returns for notes l. -/
structure NtsOk (l out : List (List Int)) : Prop where
  srt : SrtI out
  mem : ∀ x, x ∈ out ↔ x ∈ l
  len : out.length ≤ l.length
theorem nts_ok {l l' : List (List Int)} (hp : l'.Perm l) (h : ∀ i j, i < j → j < l.length → ¬ cmpI (l'[j]?.getD []) (l'[i]?.getD []) < 0) : NtsOk l (dedup l') :=
  ⟨dedup_srt (by rw [hp.length_eq]; exact h), fun x => by rw [dedup_mem, hp.mem_iff], by rw [← hp.length_eq]; exact dedup_len l'⟩
theorem nts_nil : NtsOk [] [] := ⟨List.Pairwise.nil, fun _ => Iff.rfl, Nat.le_refl _⟩

end Go.Proofs.YtphlodmdcmcjnaaGreatDoor

namespace Go.Proofs.YtphlodmdcmcjnaaGreatDoor
open Go.RowKit Go.Lib

set_option maxHeartbeats 1000000 in
theorem ins_none (A : Option Addr) (c : Nat) (fv : Value) (w : World) :
    Calls Tryz.prog 187 #[.slice A 0 c, .int .i64 0, .int .i64 0, fv] w fun e w' => e = .returned (.tuple #[]) ∧ w' = w := by
  go_enter Tryz.func187, Tryz.ntmps187
  go_wp2
  refine wp_loop_rounds 1 ?_
  rw [rounds_succ]
  go_wp2
  go_end0
  exact ⟨rfl, rfl⟩

set_option maxHeartbeats 1000000 in
theorem pdq_none (A : Option Addr) (c : Nat) (lim : Int) (fv : Value) (w : World) :
    Calls Tryz.prog 135 #[.slice A 0 c, .int .i64 0, .int .i64 0, .int .i64 lim, fv] w fun e w' => e = .returned (.tuple #[]) ∧ w' = w := by
  have hi := fun W => ins_none A c fv W
  go_enter Tryz.func135, Tryz.ntmps135
  go_wp2
  refine wp_loop_rounds 1 ?_
  rw [rounds_succ]
  go_wp2_with (go_at_call 187; refine (hi _).mono ?_; rintro e w' ⟨rfl, rfl⟩)
  (try simp only [Exit.inBlock, Exit.then]); refine bodyPost_ret (results_none rfl _ _ _) rfl ?_
  exact ⟨rfl, rfl⟩

set_option maxHeartbeats 1000000 in
theorem sort_none (A : Option Addr) (c : Nat) (fv : Value) (w : World) :
    Calls Tryz.prog 84 #[.slice A 0 c, fv] w fun e w' => e = .returned (.tuple #[]) ∧ w = w' := by
  have hp := fun lim W => pdq_none A c lim fv W
  have hl := fun W => Tryz.bits_Len (0 : Int) W (by omega) (by omega)
  go_enter Tryz.func84, Tryz.ntmps84
  go_wp2_with (first | (go_at_call 120; refine (hl _).mono ?_; rintro e w' ⟨rfl, hw⟩; have hw2 := hw.symm; clear hw; subst hw2) | (go_at_call 135; refine (hp _ _).mono ?_; rintro e w' ⟨rfl, hw⟩; have hw2 := hw.symm; clear hw; subst hw2))
  go_end0
  exact ⟨rfl, rfl⟩

set_option maxHeartbeats 1000000 in
theorem compact_none (A : Option Addr) (c : Nat) (fv : Value) (w : World) :
    Calls Tryz.prog 85 #[.slice A 0 c, fv] w fun e w' => e = .returned (.slice A 0 c) ∧ w' = w := by
  go_enter Tryz.func85, Tryz.ntmps85
  go_wp2_with fail
  go_ret
  exact ⟨rfl, rfl⟩

end Go.Proofs.YtphlodmdcmcjnaaGreatDoor
