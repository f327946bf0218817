/- slices.SortFunc of rows, as chord.sorted calls it (printed by gen_cs.py). slices.SortFunc of rows, as schismalaw39.sorted calls it (printed by gen_cs.py). -/
import Derived.Test.YteenfcmnmenigaaGreatDoorGCA
namespace Go.Proofs.YteenfcmnmenigaaGreatDoor
open Go.RowKit Go.Lib Go.Shelf

set_option maxHeartbeats 1000000 in
theorem csC1_any (pv xv yv : Value) (p x y : List Int) (bp : Nat) (w : World) (hS : Std w) (hp : IsRow w w.heap.size pv p) (hx : IsRow w w.heap.size xv x) (hy : IsRow w w.heap.size yv y) (h : chkAll p [x, y] = 0) (hb : w.cell? ⟨bp, 0, Option.none⟩ = some pv) :
    Calls Tryz.prog 68 #[xv, yv, .pointer (some ⟨bp, 0, Option.none⟩)] w fun e w' => e = .returned (.int .i64 (cmpN (num p x * den p y) (num p y * den p x))) ∧ RowKit.Below w.heap.size w w' := by
  have HC := Lib.hid (compare_mon pv xv yv p x y w hp hx hy h hS)
  obtain ⟨AP, cp, rfl⟩ := hp.shape
  obtain ⟨AX, cx, rfl⟩ := hx.shape
  obtain ⟨AY, cy, rfl⟩ := hy.shape
  clear hS hp hx hy h
  generalize cmpN (num p x * den p y) (num p y * den p x) = z at *
  go_enter Tryz.func68, Tryz.ntmps68
  go_wp2_with fail
  refine HC.out.mono ?_
  rintro e w1 ⟨rfl, hb1⟩
  go_wp2_with fail
  go_ret
  exact ⟨rfl, hb1⟩

theorem csCLays {w0 w : World} {p : List Int} [Inhabited (SRow w0 p)] (pv : Value) (g bp n : Nat) (hS : Std w0) (h0 : RowKit.Below w0.heap.size w0 w) (hg0 : w0.heap.size ≤ g) (hp : IsRow w0 w0.heap.size pv p) (hb : w.cell? ⟨bp, 0, Option.none⟩ = some pv) (hne : bp ≠ g) :
    CmpLays1 Tryz.prog 68 #[.pointer (some ⟨bp, 0, Option.none⟩)] (srEnc (w := w0) (p := p)) srCf g 0 n w := by
  intro m os dk _ x y
  have hB := below_sort (srEnc (w := w0) (p := p)) w0 w g m dk os h0 hg0
  have hbp : (sortWorld (srEnc (w := w0) (p := p)) w g 0 m dk os).cell? ⟨bp, 0, Option.none⟩ = some pv := by
    have h1 : (Sort.putRow (srEnc (w := w0) (p := p)) (Sort.ahead w m) g 0 dk).cell? ⟨bp, 0, Option.none⟩ = some pv := (Sort.cell?_putRow_other _ _ g 0 dk _ (Or.inl hne)).trans hb
    have h2 := (Lib.below_grow (Sort.putRow (srEnc (w := w0) (p := p)) (Sort.ahead w m) g 0 dk).heap.size (Sort.putRow (srEnc (w := w0) (p := p)) (Sort.ahead w m) g 0 dk) (Nat.le_refl _) 0 os).cell (p := ⟨bp, 0, Option.none⟩) (cell_lt h1)
    exact h2.trans h1
  have hC := csC1_any pv x.1.1 y.1.1 p x.1.2 y.1.2 bp _ (hS.below hB (Nat.le_refl _)) (hp.lift hB) (x.2.1.lift hB) (y.2.1.lift hB) (chk_join x.2.2 y.2.2) hbp
  exact (calls_up hC).mono fun e w' ⟨⟨he, hb2⟩, hd⟩ => ⟨he, below_regrow hb2 (hd (by rw [he]; exact fun h => by cases h))⟩

theorem csCRows {w0 w : World} (pv : Value) (p : List Int) (hP : Primed p) (g c bp : Nat) (vs : List Value) (l : List (List Int)) (hS : Std w0) (h0 : RowKit.Below w0.heap.size w0 w) (hg0 : w0.heap.size ≤ g) (hp : IsRow w0 w0.heap.size pv p)
    (hb : w.cell? ⟨bp, 0, Option.none⟩ = some pv) (hne : bp ≠ g) (hn : 0 < l.length) (hn2 : l.length ≤ 1000)
    (hown : w.ownsRow w0.heap.size 31 1 (.slice (some ⟨g, 0, Option.none⟩) l.length c) l.length vs)
    (hr : SRows w0 p vs l) :
    Calls Tryz.prog 40 #[.slice (some ⟨g, 0, Option.none⟩) l.length c, .func (.func 68) #[] #[.pointer (some ⟨bp, 0, Option.none⟩)]] w fun e w' =>
      e = .returned (.tuple #[]) ∧ (∃ (l' : List (List Int)) (vs' : List Value), l'.length = l.length ∧ l'.Perm l ∧ (∀ i j, i < j → j < l.length → ltR p (l'[j]?.getD []) (l'[i]?.getD []) = false) ∧ w'.ownsRow w0.heap.size 31 1 (.slice (some ⟨g, 0, Option.none⟩) l.length c) l.length vs' ∧ SRows w0 p vs' l') ∧ RowKit.Below w0.heap.size w0 w' := by
  haveI : Inhabited (SRow w0 p) := ⟨Classical.choose (hr 0 hn)⟩
  obtain ⟨d, hd⟩ : ∃ d : Array (SRow w0 p), d = Array.ofFn (fun j : Fin l.length => Classical.choose (hr j.1 j.2)) := ⟨_, rfl⟩
  have hds : d.size = l.length := by rw [hd]; simp
  have hdj : ∀ j, j < l.length → vs[j]? = some (d[j]!).1.1 ∧ l[j]? = some (d[j]!).1.2 := fun j hj => by
    have e : d[j]! = Classical.choose (hr j hj) := by rw [hd, getElem!_pos _ j (by simpa using hj), Array.getElem_ofFn]
    rw [e]
    exact Classical.choose_spec (hr j hj)
  have hH : Sort.Holds (srEnc (w := w0) (p := p)) w g 0 d := fun j hj => by
    have hj2 : j < l.length := by omega
    refine ⟨?_, ?_⟩
    · rw [Nat.zero_add]; exact (hown.cellAt j (by omega)).trans (hdj j hj2).1
    · rw [Nat.zero_add]; exact hown.frozenAt j
  have hglt : g < w.heap.size := (hown.lt g rfl).2
  have h := Any.slices_SortFunc Tryz.srtL (srEnc (w := w0) (p := p)) srOne srCf (srSwo hP) 68 #[.pointer (some ⟨bp, 0, Option.none⟩)] g 0 c d w
    (fun args W => enters_of Tryz.func68 (by kernel_rfl) rfl args W) (csCLays pv g bp d.size hS h0 hg0 hp hb hne) hH hglt (by omega)
  rw [hds] at h
  refine Calls.mono h ?_
  rintro e w' ⟨rfl, d', m, os, ⟨hs', _, hperm⟩, hsort, rfl⟩
  have hs2 : d'.size = l.length := by omega
  have hB := below_sort (srEnc (w := w0) (p := p)) w0 w g m d' os h0 hg0
  have hmap : d.toList.map (fun t => t.1.2) = l := by
    apply List.ext_getElem
    · rw [List.length_map, Array.length_toList, hds]
    · intro j h1 h2
      have h3 := (hdj j h2).2
      rw [getElem!_pos d j (by omega), List.getElem?_eq_getElem h2] at h3
      injection h3 with h3
      rw [List.getElem_map, Array.getElem_toList, ← h3]
  have hex : ∀ D : Array (SRow w0 p), D.size = l.length → (D.extract 0 l.length).toList = D.toList := fun D hD => by
    rw [← hD, Array.extract_size]
  rw [hex d' hs2, hex d hds] at hperm
  have hget : ∀ j, j < l.length → (d'.toList.map (fun t => t.1.2))[j]? = some (d'[j]!).1.2 := fun j hj => by
    rw [List.getElem?_map, Array.getElem?_toList, Array.getElem?_eq_getElem (by omega), getElem!_pos d' j (by omega)]
    rfl
  have hgetv : ∀ j, j < l.length → (d'.toList.map (srEnc (w := w0) (p := p)))[j]? = some (d'[j]!).1.1 := fun j hj => by
    rw [List.getElem?_map, Array.getElem?_toList, Array.getElem?_eq_getElem (by omega), getElem!_pos d' j (by omega)]
    rfl
  have hvs : vs = d.toList.map (srEnc (w := w0) (p := p)) := by
    have hl1 : vs.length = l.length := by have := hown.1; omega
    apply List.ext_getElem?
    intro j
    by_cases hj : j < l.length
    · rw [(hdj j hj).1, List.getElem?_map, Array.getElem?_toList, Array.getElem?_eq_getElem (by omega), getElem!_pos d j (by omega)]
      rfl
    · rw [List.getElem?_eq_none (by omega), List.getElem?_eq_none (by simp [hds]; omega)]
  rw [hvs] at hown
  have hso := sort_own (srEnc (w := w0) (p := p)) w g m c l.length w0.heap.size d.toList d' os 31 hs2 hown
  refine ⟨rfl, ⟨d'.toList.map (fun t => t.1.2), d'.toList.map (srEnc (w := w0) (p := p)), by rw [List.length_map, Array.length_toList, hs2], by rw [← hmap]; exact hperm.map _, fun i j hij hj => ?_, hso, fun j hj => ?_⟩, hB⟩
  · have h5 := hsort i j (Nat.zero_le _) hij hj
    rw [srLt] at h5
    rw [hget i (by omega), hget j hj]
    exact h5
  · rw [List.length_map, Array.length_toList, hs2] at hj
    exact ⟨d'[j]!, hgetv j hj, hget j hj⟩

end Go.Proofs.YteenfcmnmenigaaGreatDoor

namespace Go.Proofs.YteenfcmnmenigaaGreatDoor
open Go.RowKit Go.Lib Go.Shelf

set_option maxHeartbeats 1000000 in
theorem csW1_any (pv xv yv : Value) (p x y : List Int) (bp : Nat) (w : World) (hS : Std w) (hp : IsRow w w.heap.size pv p) (hx : IsRow w w.heap.size xv x) (hy : IsRow w w.heap.size yv y) (h : chkAll p [x, y] = 0) (hb : w.cell? ⟨bp, 0, Option.none⟩ = some pv) :
    Calls Tryz.prog 41 #[xv, yv, .pointer (some ⟨bp, 0, Option.none⟩)] w fun e w' => e = .returned (.int .i64 (cmpN (num p x * den p y) (num p y * den p x))) ∧ RowKit.Below w.heap.size w w' := by
  have HC := Lib.hid (compare_mon pv xv yv p x y w hp hx hy h hS)
  obtain ⟨AP, cp, rfl⟩ := hp.shape
  obtain ⟨AX, cx, rfl⟩ := hx.shape
  obtain ⟨AY, cy, rfl⟩ := hy.shape
  clear hS hp hx hy h
  generalize cmpN (num p x * den p y) (num p y * den p x) = z at *
  go_enter Tryz.func41, Tryz.ntmps41
  go_wp2_with fail
  refine HC.out.mono ?_
  rintro e w1 ⟨rfl, hb1⟩
  go_wp2_with fail
  go_ret
  exact ⟨rfl, hb1⟩

theorem csWLays {w0 w : World} {p : List Int} [Inhabited (SRow w0 p)] (pv : Value) (g bp n : Nat) (hS : Std w0) (h0 : RowKit.Below w0.heap.size w0 w) (hg0 : w0.heap.size ≤ g) (hp : IsRow w0 w0.heap.size pv p) (hb : w.cell? ⟨bp, 0, Option.none⟩ = some pv) (hne : bp ≠ g) :
    CmpLays1 Tryz.prog 41 #[.pointer (some ⟨bp, 0, Option.none⟩)] (srEnc (w := w0) (p := p)) srCf g 0 n w := by
  intro m os dk _ x y
  have hB := below_sort (srEnc (w := w0) (p := p)) w0 w g m dk os h0 hg0
  have hbp : (sortWorld (srEnc (w := w0) (p := p)) w g 0 m dk os).cell? ⟨bp, 0, Option.none⟩ = some pv := by
    have h1 : (Sort.putRow (srEnc (w := w0) (p := p)) (Sort.ahead w m) g 0 dk).cell? ⟨bp, 0, Option.none⟩ = some pv := (Sort.cell?_putRow_other _ _ g 0 dk _ (Or.inl hne)).trans hb
    have h2 := (Lib.below_grow (Sort.putRow (srEnc (w := w0) (p := p)) (Sort.ahead w m) g 0 dk).heap.size (Sort.putRow (srEnc (w := w0) (p := p)) (Sort.ahead w m) g 0 dk) (Nat.le_refl _) 0 os).cell (p := ⟨bp, 0, Option.none⟩) (cell_lt h1)
    exact h2.trans h1
  have hC := csW1_any pv x.1.1 y.1.1 p x.1.2 y.1.2 bp _ (hS.below hB (Nat.le_refl _)) (hp.lift hB) (x.2.1.lift hB) (y.2.1.lift hB) (chk_join x.2.2 y.2.2) hbp
  exact (calls_up hC).mono fun e w' ⟨⟨he, hb2⟩, hd⟩ => ⟨he, below_regrow hb2 (hd (by rw [he]; exact fun h => by cases h))⟩

theorem csWRows {w0 w : World} (pv : Value) (p : List Int) (hP : Primed p) (g c bp : Nat) (vs : List Value) (l : List (List Int)) (hS : Std w0) (h0 : RowKit.Below w0.heap.size w0 w) (hg0 : w0.heap.size ≤ g) (hp : IsRow w0 w0.heap.size pv p)
    (hb : w.cell? ⟨bp, 0, Option.none⟩ = some pv) (hne : bp ≠ g) (hn : 0 < l.length) (hn2 : l.length ≤ 1000)
    (hown : w.ownsRow w0.heap.size 31 1 (.slice (some ⟨g, 0, Option.none⟩) l.length c) l.length vs)
    (hr : SRows w0 p vs l) :
    Calls Tryz.prog 40 #[.slice (some ⟨g, 0, Option.none⟩) l.length c, .func (.func 41) #[] #[.pointer (some ⟨bp, 0, Option.none⟩)]] w fun e w' =>
      e = .returned (.tuple #[]) ∧ (∃ (l' : List (List Int)) (vs' : List Value), l'.length = l.length ∧ l'.Perm l ∧ (∀ i j, i < j → j < l.length → ltR p (l'[j]?.getD []) (l'[i]?.getD []) = false) ∧ w'.ownsRow w0.heap.size 31 1 (.slice (some ⟨g, 0, Option.none⟩) l.length c) l.length vs' ∧ SRows w0 p vs' l') ∧ RowKit.Below w0.heap.size w0 w' := by
  haveI : Inhabited (SRow w0 p) := ⟨Classical.choose (hr 0 hn)⟩
  obtain ⟨d, hd⟩ : ∃ d : Array (SRow w0 p), d = Array.ofFn (fun j : Fin l.length => Classical.choose (hr j.1 j.2)) := ⟨_, rfl⟩
  have hds : d.size = l.length := by rw [hd]; simp
  have hdj : ∀ j, j < l.length → vs[j]? = some (d[j]!).1.1 ∧ l[j]? = some (d[j]!).1.2 := fun j hj => by
    have e : d[j]! = Classical.choose (hr j hj) := by rw [hd, getElem!_pos _ j (by simpa using hj), Array.getElem_ofFn]
    rw [e]
    exact Classical.choose_spec (hr j hj)
  have hH : Sort.Holds (srEnc (w := w0) (p := p)) w g 0 d := fun j hj => by
    have hj2 : j < l.length := by omega
    refine ⟨?_, ?_⟩
    · rw [Nat.zero_add]; exact (hown.cellAt j (by omega)).trans (hdj j hj2).1
    · rw [Nat.zero_add]; exact hown.frozenAt j
  have hglt : g < w.heap.size := (hown.lt g rfl).2
  have h := Any.slices_SortFunc Tryz.srtL (srEnc (w := w0) (p := p)) srOne srCf (srSwo hP) 41 #[.pointer (some ⟨bp, 0, Option.none⟩)] g 0 c d w
    (fun args W => enters_of Tryz.func41 (by kernel_rfl) rfl args W) (csWLays pv g bp d.size hS h0 hg0 hp hb hne) hH hglt (by omega)
  rw [hds] at h
  refine Calls.mono h ?_
  rintro e w' ⟨rfl, d', m, os, ⟨hs', _, hperm⟩, hsort, rfl⟩
  have hs2 : d'.size = l.length := by omega
  have hB := below_sort (srEnc (w := w0) (p := p)) w0 w g m d' os h0 hg0
  have hmap : d.toList.map (fun t => t.1.2) = l := by
    apply List.ext_getElem
    · rw [List.length_map, Array.length_toList, hds]
    · intro j h1 h2
      have h3 := (hdj j h2).2
      rw [getElem!_pos d j (by omega), List.getElem?_eq_getElem h2] at h3
      injection h3 with h3
      rw [List.getElem_map, Array.getElem_toList, ← h3]
  have hex : ∀ D : Array (SRow w0 p), D.size = l.length → (D.extract 0 l.length).toList = D.toList := fun D hD => by
    rw [← hD, Array.extract_size]
  rw [hex d' hs2, hex d hds] at hperm
  have hget : ∀ j, j < l.length → (d'.toList.map (fun t => t.1.2))[j]? = some (d'[j]!).1.2 := fun j hj => by
    rw [List.getElem?_map, Array.getElem?_toList, Array.getElem?_eq_getElem (by omega), getElem!_pos d' j (by omega)]
    rfl
  have hgetv : ∀ j, j < l.length → (d'.toList.map (srEnc (w := w0) (p := p)))[j]? = some (d'[j]!).1.1 := fun j hj => by
    rw [List.getElem?_map, Array.getElem?_toList, Array.getElem?_eq_getElem (by omega), getElem!_pos d' j (by omega)]
    rfl
  have hvs : vs = d.toList.map (srEnc (w := w0) (p := p)) := by
    have hl1 : vs.length = l.length := by have := hown.1; omega
    apply List.ext_getElem?
    intro j
    by_cases hj : j < l.length
    · rw [(hdj j hj).1, List.getElem?_map, Array.getElem?_toList, Array.getElem?_eq_getElem (by omega), getElem!_pos d j (by omega)]
      rfl
    · rw [List.getElem?_eq_none (by omega), List.getElem?_eq_none (by simp [hds]; omega)]
  rw [hvs] at hown
  have hso := sort_own (srEnc (w := w0) (p := p)) w g m c l.length w0.heap.size d.toList d' os 31 hs2 hown
  refine ⟨rfl, ⟨d'.toList.map (fun t => t.1.2), d'.toList.map (srEnc (w := w0) (p := p)), by rw [List.length_map, Array.length_toList, hs2], by rw [← hmap]; exact hperm.map _, fun i j hij hj => ?_, hso, fun j hj => ?_⟩, hB⟩
  · have h5 := hsort i j (Nat.zero_le _) hij hj
    rw [srLt] at h5
    rw [hget i (by omega), hget j hj]
    exact h5
  · rw [List.length_map, Array.length_toList, hs2] at hj
    exact ⟨d'[j]!, hgetv j hj, hget j hj⟩

end Go.Proofs.YteenfcmnmenigaaGreatDoor
