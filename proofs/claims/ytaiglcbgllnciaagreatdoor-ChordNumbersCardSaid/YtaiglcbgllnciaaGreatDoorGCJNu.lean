/- schismalaw39.sorted: slices.SortFunc with the pairs kept (printed by gen_cs.py). slices.CompactFunc of rows with the closure of schismalaw39.sorted (printed by gen_cc.py). Comparing rows and chords; the least chord (printed by gen_cm.py). -/
import Derived.Test.YtaiglcbgllnciaaGreatDoorGCBNu
import Derived.Test.YtaiglcbgllnciaaGreatDoorGCCNu
import Derived.Test.YtaiglcbgllnciaaGreatDoorGCDNu
namespace Go.Proofs.YtaiglcbgllnciaaGreatDoor
open Go.RowKit Go.Lib Go.Shelf

theorem csWRowsP {w0 w : World} (pv : Value) (p : List Int) (hP : Primed p) (g c bp : Nat) (vs : List Value) (l : List (List Int)) (hS : Std w0) (h0 : RowKit.Below w0.heap.size w0 w) (hg0 : w0.heap.size ≤ g) (hp : IsRow w0 w0.heap.size pv p)
    (hb : w.cell? ⟨bp, 0, Option.none⟩ = some pv) (hne : bp ≠ g) (hn : 0 < l.length) (hn2 : l.length ≤ 1000)
    (hown : w.ownsRow w0.heap.size 41 1 (.slice (some ⟨g, 0, Option.none⟩) l.length c) l.length vs)
    (hr : SRows w0 p vs l) :
    Calls Tryz.prog 68 #[.slice (some ⟨g, 0, Option.none⟩) l.length c, .func (.func 69) #[] #[.pointer (some ⟨bp, 0, Option.none⟩)]] w fun e w' =>
      e = .returned (.tuple #[]) ∧ (∃ (l' : List (List Int)) (vs' : List Value), l'.length = l.length ∧ l'.Perm l ∧ (∀ i j, i < j → j < l.length → ltR p (l'[j]?.getD []) (l'[i]?.getD []) = false) ∧ w'.ownsRow w0.heap.size 41 1 (.slice (some ⟨g, 0, Option.none⟩) l.length c) l.length vs' ∧ SRows w0 p vs' l' ∧ (∀ (j : Nat) (u : Value) (y : List Int), vs'[j]? = some u → l'[j]? = some y → ∃ i : Nat, vs[i]? = some u ∧ l[i]? = some y)) ∧ RowKit.Below w0.heap.size w0 w' := by
  haveI : Inhabited (SRow w0 p) := ⟨Classical.choose (hr 0 hn)⟩
  obtain ⟨d, hd⟩ : ∃ d : Array (SRow w0 p), d = Array.ofFn (fun j : Fin l.length => Classical.choose (hr j.1 j.2)) := ⟨_, rfl⟩
  have hds : d.size = l.length := by rw [hd]; simp
  have hdj : ∀ j, j < l.length → vs[j]? = some (d[j]!).1.1 ∧ l[j]? = some (d[j]!).1.2 := fun j hj => by
    have e : d[j]! = Classical.choose (hr j hj) := by rw [hd, getElem!_pos _ j (by simpa using hj), Array.getElem_ofFn]
    rw [e]
    exact Classical.choose_spec (hr j hj)
  have hH : Sort.Holds (srEnc (w := w0) (p := p)) w g 0 d := fun j hj => by
    have hj2 : j < l.length := by omega
    refine ⟨?_, ?_⟩
    · rw [Nat.zero_add]; exact (hown.cellAt j (by omega)).trans (hdj j hj2).1
    · rw [Nat.zero_add]; exact hown.frozenAt j
  have hglt : g < w.heap.size := (hown.lt g rfl).2
  have h := Any.slices_SortFunc Tryz.srtL (srEnc (w := w0) (p := p)) srOne srCf (srSwo hP) 69 #[.pointer (some ⟨bp, 0, Option.none⟩)] g 0 c d w
    (fun args W => enters_of Tryz.func69 (by kernel_rfl) rfl args W) (csWLays pv g bp d.size hS h0 hg0 hp hb hne) hH hglt (by omega)
  rw [hds] at h
  refine Calls.mono h ?_
  rintro e w' ⟨rfl, d', m, os, ⟨hs', _, hperm⟩, hsort, rfl⟩
  have hs2 : d'.size = l.length := by omega
  have hB := below_sort (srEnc (w := w0) (p := p)) w0 w g m d' os h0 hg0
  have hmap : d.toList.map (fun t => t.1.2) = l := by
    apply List.ext_getElem
    · rw [List.length_map, Array.length_toList, hds]
    · intro j h1 h2
      have h3 := (hdj j h2).2
      rw [getElem!_pos d j (by omega), List.getElem?_eq_getElem h2] at h3
      injection h3 with h3
      rw [List.getElem_map, Array.getElem_toList, ← h3]
  have hex : ∀ D : Array (SRow w0 p), D.size = l.length → (D.extract 0 l.length).toList = D.toList := fun D hD => by
    rw [← hD, Array.extract_size]
  rw [hex d' hs2, hex d hds] at hperm
  have hget : ∀ j, j < l.length → (d'.toList.map (fun t => t.1.2))[j]? = some (d'[j]!).1.2 := fun j hj => by
    rw [List.getElem?_map, Array.getElem?_toList, Array.getElem?_eq_getElem (by omega), getElem!_pos d' j (by omega)]
    rfl
  have hgetv : ∀ j, j < l.length → (d'.toList.map (srEnc (w := w0) (p := p)))[j]? = some (d'[j]!).1.1 := fun j hj => by
    rw [List.getElem?_map, Array.getElem?_toList, Array.getElem?_eq_getElem (by omega), getElem!_pos d' j (by omega)]
    rfl
  have hvs : vs = d.toList.map (srEnc (w := w0) (p := p)) := by
    have hl1 : vs.length = l.length := by have := hown.1; omega
    apply List.ext_getElem?
    intro j
    by_cases hj : j < l.length
    · rw [(hdj j hj).1, List.getElem?_map, Array.getElem?_toList, Array.getElem?_eq_getElem (by omega), getElem!_pos d j (by omega)]
      rfl
    · rw [List.getElem?_eq_none (by omega), List.getElem?_eq_none (by simp [hds]; omega)]
  rw [hvs] at hown
  have hso := sort_own (srEnc (w := w0) (p := p)) w g m c l.length w0.heap.size d.toList d' os 41 hs2 hown
  refine ⟨rfl, ⟨d'.toList.map (fun t => t.1.2), d'.toList.map (srEnc (w := w0) (p := p)), by rw [List.length_map, Array.length_toList, hs2], by rw [← hmap]; exact hperm.map _, fun i j hij hj => ?_, hso, fun j hj => ?_, fun j u y hu hy => ?_⟩, hB⟩
  · have h5 := hsort i j (Nat.zero_le _) hij hj
    rw [srLt] at h5
    rw [hget i (by omega), hget j hj]
    exact h5
  · rw [List.length_map, Array.length_toList, hs2] at hj
    exact ⟨d'[j]!, hgetv j hj, hget j hj⟩
  · have hj : j < l.length := by
      have := (List.getElem?_eq_some_iff.1 hu).1
      rw [List.length_map, Array.length_toList, hs2] at this
      exact this
    rw [hgetv j hj] at hu
    rw [hget j hj] at hy
    cases hu
    cases hy
    have hm : d'[j]! ∈ d.toList := hperm.mem_iff.1 (by rw [getElem!_pos d' j (by omega)]; exact Array.getElem_mem_toList (by omega))
    obtain ⟨i, hi, e⟩ := List.getElem_of_mem hm
    rw [Array.length_toList, hds] at hi
    rw [Array.getElem_toList] at e
    refine ⟨i, ?_, ?_⟩
    · rw [(hdj i hi).1, getElem!_pos d i (by omega), e]
    · rw [(hdj i hi).2, getElem!_pos d i (by omega), e]

end Go.Proofs.YtaiglcbgllnciaaGreatDoor

namespace Go.Proofs.YtaiglcbgllnciaaGreatDoor
open Go.RowKit Go.Lib

theorem ci_pairs {vs cs cs' : List Value} {l : List (List Int)} {kk n : Nat} (hn : n = l.length) (ht : cs.take n = vs) (h : CI l cs n kk cs') : ∀ (j : Nat) (u : Value) (y : List Int), (cs'.take kk)[j]? = some u → (dedup l)[j]? = some y → ∃ i : Nat, vs[i]? = some u ∧ l[i]? = some y := by
  subst hn
  intro j u y hu hy
  have hj : j < kk := by
    have := (List.getElem?_eq_some_iff.1 hu).1
    rw [List.length_take] at this
    omega
  have hjk : j < (kpI l l.length).length := by rw [h.len]; exact hj
  have hi := kpI_lt (List.getElem_mem hjk)
  have h3 := h.low j _ (List.getElem?_eq_getElem hjk)
  rw [List.getElem?_take_of_lt hj, h3] at hu
  unfold dedup at hy
  rw [List.getElem?_map, List.getElem?_eq_getElem hjk, Option.map_some] at hy
  refine ⟨(kpI l l.length)[j], ?_, ?_⟩
  · rw [← ht, List.getElem?_take_of_lt hi]; exact hu
  · rw [← hy, List.getElem?_eq_getElem hi]; rfl

set_option maxRecDepth 100000 in
set_option maxHeartbeats 4000000 in
theorem compactWP (g c : Nat) (vs : List Value) (p : List Int) (l : List (List Int)) (w0 w : World) (h0 : Below w0.heap.size w0 w) (hown : w.ownsRow w0.heap.size 41 1 (.slice (some ⟨g, 0, Option.none⟩) l.length c) l.length vs) (hr : SRows w0 p vs l) (hn : l.length ≤ 1000) :
    Calls Tryz.prog 71 #[.slice (some ⟨g, 0, Option.none⟩) l.length c, .func (.func 72) #[] #[]] w fun e w' => (∃ vs', e = .returned (.slice (some ⟨g, 0, Option.none⟩) (dedup l).length c) ∧ w'.ownsRow w0.heap.size 41 1 (.slice (some ⟨g, 0, Option.none⟩) (dedup l).length c) (dedup l).length vs' ∧ SRows w0 p vs' (dedup l) ∧ (∀ (j : Nat) (u : Value) (y : List Int), vs'[j]? = some u → (dedup l)[j]? = some y → ∃ i : Nat, vs[i]? = some u ∧ l[i]? = some y)) ∧ Below w0.heap.size w0 w' := by
  have hpe := fun (args : Array Value) (W : World) => enters_of (P := Tryz.prog) Tryz.func72 (by kernel_rfl) rfl args W
  have HOW := Lib.hid hown
  have HSR : Box (SRows w0 p vs l) := ⟨hr⟩
  have HB0 := Lib.hid h0
  obtain ⟨cs, hcs, hgb, hnc, hcm, hcl, htk⟩ := own_parts hown
  have HCS : Box (Cells w g 41 cs) := ⟨hcs⟩
  have HTK : Box (cs.take l.length = vs) := ⟨htk⟩
  have HCL : Box (cs.length = c) := ⟨hcl⟩
  unfold maxLen at hcm
  have hglt := hcs.lt
  have HG : Box (w0.heap.size ≤ g) := ⟨hgb⟩
  clear h0 hown hr hcs htk hcl hgb hglt
  by_cases h2 : l.length < 2
  · have hd : dedup l = l := dedup_all fun j hj => by
      obtain rfl : j = 0 := by omega
      exact kp_zero l
    have HD := Lib.hid hd
    clear hd
    go_enter Tryz.func71, Tryz.ntmps71
    go_wp2_with fail
    go_ret
    rw [HD.out]
    exact ⟨⟨vs, rfl, HOW.out, HSR.out, fun j u y h1 h2 => ⟨j, h1, h2⟩⟩, HB0.out⟩
  · go_enter Tryz.func71, Tryz.ntmps71
    go_wp2_with fail
    go_loopw [5] (fun i wr => ∃ k : Nat, 1 ≤ k ∧ k ≤ l.length ∧ i = .int .i64 k ∧ Box (∀ j, j < k → kpt l j = true) ∧ Box (Cells wr g 41 cs) ∧ Below w0.heap.size w0 wr) (fun i _ => l.length - (intOf i).toNat)
    case atStart => exact ⟨1, by omega, by omega, rfl, ⟨fun j hj => by obtain rfl : j = 0 := by omega
                                                                       exact kp_zero l⟩, ⟨HCS.out⟩, HB0.out⟩
    case round =>
      clear HB0 HCS HOW
      obtain ⟨k0, hk1, hk, rfl, HK, HCW, hbw⟩ := hrel
      obtain ⟨k, rfl⟩ : ∃ k, k0 = k + 1 := ⟨k0 - 1, by omega⟩
      by_cases hlt : k + 1 < l.length
      · obtain ⟨v1, x1, a1, b1, r1, _⟩ := HSR.out.len hlt
        obtain ⟨v0, x0, a0, b0, r0, _⟩ := HSR.out.len (show k < l.length by omega)
        have hc1 : wr.cell? ⟨g, k + 1, Option.none⟩ = some v1 := by rw [HCW.out.cell (k + 1), ← a1, ← HTK.out, List.getElem?_take_of_lt hlt]
        have hc0 : wr.cell? ⟨g, k, Option.none⟩ = some v0 := by rw [HCW.out.cell k, ← a0, ← HTK.out, List.getElem?_take_of_lt (by omega)]
        have HKS : Hid (sameB x1 x0 = true → kpt l (k + 1) = false) := Lib.hid fun h => kp_same (by rw [b1, b0]; exact of_decide_eq_true h)
        have HKO : Hid (sameB x1 x0 = false → kpt l (k + 1) = true) := Lib.hid fun h => kp_other (by rw [b1, b0]; exact of_decide_eq_false h)
        have HQ := Lib.hid (fun (W : World) (h : Below wr.heap.size wr W) => sortedEq_any v1 v0 x1 x0 W ((r1.lift hbw).lift h) ((r0.lift hbw).lift h))
        have hw1 : IntKind.i64.wrap (((k + 1 : Nat) : Int) - 1) = (k : Int) := by rw [show ((k + 1 : Nat) : Int) - 1 = (k : Int) by omega]; exact IntWalk.i64_in _ (by omega)
        obtain ⟨AX, cx, rfl⟩ := r1.shape
        obtain ⟨AY, cy, rfl⟩ := r0.shape
        have HB := Lib.hid hbw
        have hglt := HCW.out.lt
        have hi1 : (0 : Int) ≤ (k : Int) + 1 := by omega
        have hi2 : (k : Int) + 1 < (l.length : Int) := by omega
        have hw0 : IntKind.i64.wrap (k : Int) = (k : Int) := IntWalk.i64_in _ (by omega)
        have hi3 : (0 : Int) ≤ (k : Int) := by omega
        have hi4 : (k : Int) < (l.length : Int) := by omega
        clear hbw a1 b1 r1 a0 b0 r0
        generalize sameB x1 x0 = tb at *
        have hB : Below wr.heap.size wr wr.drew := below_drew (Below.refl _ _)
        cases tb with
        | false =>
          have HKK : Box (∀ j, j < k + 2 → kpt l j = true) := ⟨fun j hj => by
            by_cases e : j = k + 1
            · subst e; exact HKO.out rfl
            · exact HK.out j (by omega)⟩
          clear HKS HKO HK
          go_wp2_with fail
          go_region_held3 (fun w' => w'.cell? ⟨g, k + 1, Option.none⟩ = some (.slice AX x1.length cx) ∧ w'.cell? ⟨g, k, Option.none⟩ = some (.slice AY x0.length cy))
            (first | exact ⟨keep_cell hc1 hB, keep_cell hc0 hB⟩ | go_keep)
            ((first | (go_at_call 72; (with_reducible refine (HQ.out _ hB).mono ?_); rintro e w7 ⟨rfl, hbk⟩; replace hB := hB.trans (hbk.mono hB.size); clear hbk)))
          all_goals
            have HCN : Box (Cells _ g 41 cs) := ⟨HCW.out.below hB hglt⟩
            have HBN := Lib.hid (HB.out.trans (hB.mono HB.out.size))
            go_wp2_with fail
            go_roundw
            case rel => exact ⟨k + 2, by omega, by omega, by go_num, HKK, HCN, HBN.out⟩
            case measure => simp [intOf]; omega
        | true =>
          have HST : Box (CI l cs (k + 1 + 1) (k + 1) cs) := ⟨CI.start HK.out (HKS.out rfl)⟩
          have HLT := Lib.hid hlt
          clear HKS HKO HK
          go_wp2_with fail
          go_region_held3 (fun w' => w'.cell? ⟨g, k + 1, Option.none⟩ = some (.slice AX x1.length cx) ∧ w'.cell? ⟨g, k, Option.none⟩ = some (.slice AY x0.length cy))
            (first | exact ⟨keep_cell hc1 hB, keep_cell hc0 hB⟩ | go_keep)
            ((first | (go_at_call 72; (with_reducible refine (HQ.out _ hB).mono ?_); rintro e w7 ⟨rfl, hbk⟩; replace hB := hB.trans (hbk.mono hB.size); clear hbk)))
          all_goals
            have HCN : Box (Cells _ g 41 cs) := ⟨HCW.out.below hB hglt⟩
            have HBN := Lib.hid (HB.out.trans (hB.mono HB.out.size))
            clear HQ HB HCW hc1 hc0 hB
            go_wp2_with fail
            go_loopw [5, 7] (fun a b wr => ∃ (kk k2 : Nat) (cs' : List Value), 1 ≤ k2 ∧ k + 1 + k2 ≤ l.length ∧ a = .int .i64 kk ∧ b = .int .i64 k2 ∧ Box (CI l cs (k + 1 + k2) kk cs') ∧ Box (Cells wr g 41 cs') ∧ Below w0.heap.size w0 wr) (fun _ b _ => l.length - (intOf b).toNat)
            case atStart => exact ⟨k + 1, 1, cs, Nat.le_refl _, by omega, by go_num, rfl, ⟨HST.out⟩, ⟨HCN.out⟩, HBN.out⟩
            case round =>
              clear HST HCN HBN
              obtain ⟨kk, k20, cs', hk21, hke, rfl, rfl, HCI, HC2, hbw2⟩ := hrel
              obtain ⟨k2, rfl⟩ : ∃ k2, k20 = k2 + 1 := ⟨k20 - 1, by omega⟩
              have hkk := HCI.out.lt
              have hsz := HCI.out.size
              have hcl := HCL.out
              by_cases hlt2 : k + 1 + (k2 + 1) < l.length
              · obtain ⟨u1, y1, a1, b1, r1, _⟩ := HSR.out.len hlt2
                obtain ⟨u0, y0, a0, b0, r0, _⟩ := HSR.out.len (show k + 1 + k2 < l.length by omega)
                have hcu : cs[k + 1 + (k2 + 1)]? = some u1 := by rw [← a1, ← HTK.out, List.getElem?_take_of_lt hlt2]
                have hcd : cs[k + 1 + k2]? = some u0 := by rw [← a0, ← HTK.out, List.getElem?_take_of_lt (by omega)]
                have hd1 : wr.cell? ⟨g, k + 1 + (k2 + 1), Option.none⟩ = some u1 := by rw [HC2.out.cell, HCI.out.high _ (by omega), hcu]
                have hd0 : wr.cell? ⟨g, k + 1 + k2, Option.none⟩ = some u0 := by rw [HC2.out.cell, HCI.out.high _ (by omega), hcd]
                have HKS : Hid (sameB y1 y0 = true → kpt l (k + 1 + k2 + 1) = false) := Lib.hid fun h => kp_same (by rw [show k + 1 + k2 + 1 = k + 1 + (k2 + 1) by omega, b1, b0]; exact of_decide_eq_true h)
                have HKO : Hid (sameB y1 y0 = false → kpt l (k + 1 + k2 + 1) = true) := Lib.hid fun h => kp_other (by rw [show k + 1 + k2 + 1 = k + 1 + (k2 + 1) by omega, b1, b0]; exact of_decide_eq_false h)
                have HQ := Lib.hid (fun (W : World) (h : Below wr.heap.size wr W) => sortedEq_any u1 u0 y1 y0 W ((r1.lift hbw2).lift h) ((r0.lift hbw2).lift h))
                have hw2 : IntKind.i64.wrap (((k2 + 1 : Nat) : Int) - 1) = (k2 : Int) := by rw [show ((k2 + 1 : Nat) : Int) - 1 = (k2 : Int) by omega]; exact IntWalk.i64_in _ (by omega)
                obtain ⟨AU, cu, rfl⟩ := r1.shape
                obtain ⟨AV, cv, rfl⟩ := r0.shape
                have HCU := Lib.hid hcu
                have HB := Lib.hid hbw2
                have hglt := HC2.out.lt
                have hw20 : IntKind.i64.wrap (k2 : Int) = (k2 : Int) := IntWalk.i64_in _ (by omega)
                have hj1 : (0 : Int) ≤ (k2 : Int) + 1 := by omega
                have hj2 : (k2 : Int) + 1 < ((l.length - (k + 1) : Nat) : Int) := by omega
                have hj3 : (0 : Int) ≤ (k2 : Int) := by omega
                have hj4 : (k2 : Int) < ((l.length - (k + 1) : Nat) : Int) := by omega
                clear hbw2 a1 b1 r1 a0 b0 r0 hcu hcd
                generalize sameB y1 y0 = tb at *
                have hB : Below wr.heap.size wr wr.drew := below_drew (Below.refl _ _)
                cases tb with
                | true =>
                  have HCI2 : Box (CI l cs (k + 1 + (k2 + 1 + 1)) kk cs') := ⟨HCI.out.skip (HKS.out rfl)⟩
                  clear HKS HKO HCI
                  go_wp2_with fail
                  go_region_held3 (fun w' => w'.cell? ⟨g, k + 1 + (k2 + 1), Option.none⟩ = some (.slice AU y1.length cu) ∧ w'.cell? ⟨g, k + 1 + k2, Option.none⟩ = some (.slice AV y0.length cv))
                    (first | exact ⟨keep_cell hd1 hB, keep_cell hd0 hB⟩ | go_keep)
                    ((first | (go_at_call 72; (with_reducible refine (HQ.out _ hB).mono ?_); rintro e w7 ⟨rfl, hbk⟩; replace hB := hB.trans (hbk.mono hB.size); clear hbk)))
                  all_goals
                    have HCN : Box (Cells _ g 41 cs') := ⟨HC2.out.below hB hglt⟩
                    have HBN := Lib.hid (HB.out.trans (hB.mono HB.out.size))
                    go_wp2_with fail
                    go_roundw
                    case rel => exact ⟨kk, k2 + 2, cs', by omega, by omega, rfl, by go_num, HCI2, HCN, HBN.out⟩
                    case measure => simp [intOf]; omega
                | false =>
                  have HCI2 : Box (CI l cs (k + 1 + (k2 + 1 + 1)) (kk + 1) (cs'.set kk (.slice AU y1.length cu))) := ⟨HCI.out.keep (HKO.out rfl) HCU.out⟩
                  clear HKS HKO HCI
                  go_wp2_with fail
                  go_region_held3 (fun w' => w'.cell? ⟨g, k + 1 + (k2 + 1), Option.none⟩ = some (.slice AU y1.length cu) ∧ w'.cell? ⟨g, k + 1 + k2, Option.none⟩ = some (.slice AV y0.length cv))
                    (first | exact ⟨keep_cell hd1 hB, keep_cell hd0 hB⟩ | go_keep)
                    ((first | (go_at_call 72; (with_reducible refine (HQ.out _ hB).mono ?_); rintro e w7 ⟨rfl, hbk⟩; replace hB := hB.trans (hbk.mono hB.size); clear hbk)))
                  all_goals
                    have HCN : Box (Cells _ g 41 cs') := ⟨HC2.out.below hB hglt⟩
                    have HBN := Lib.hid (HB.out.trans (hB.mono HB.out.size))
                    have hf := HCN.out.free kk
                    have hs := HCN.out.cell kk
                    rw [List.getElem?_eq_getElem (by omega)] at hs
                    go_wp2_with fail
                    go_roundw
                    case rel => exact ⟨kk + 1, k2 + 2, _, by omega, by omega, by go_num, by go_num, HCI2, ⟨HCN.out.set kk _⟩, HBN.out.setCell HG.out _⟩
                    case measure => simp [intOf]; omega
              · have hend : k + 1 + (k2 + 1) = l.length := by omega
                obtain ⟨q1, q2⟩ := ci_rows HSR.out rfl HTK.out (by have := HCI.out; rw [hend] at this; exact this) (by omega)
                have Q1 := Lib.hid q1
                have q3 := ci_pairs rfl HTK.out (by have := HCI.out; rw [hend] at this; exact this)
                have Q3 := Lib.hid q3
                have Q2 : Box (SRows w0 p (cs'.take kk) (dedup l)) := ⟨q2⟩
                obtain ⟨ys, z1, z2, z3⟩ := Cells.puts (List.replicate (l.length - kk) (.slice Option.none 0 0)) kk HC2.out
                have Z1 : Box (Cells (wr.setCells g kk (List.replicate (l.length - kk) (.slice Option.none 0 0))) g 41 ys) := ⟨z1⟩
                have Z3 : Hid (ys.take kk = cs'.take kk) := Lib.hid (by
                  refine List.ext_getElem? fun j => ?_
                  by_cases hj : j < kk
                  · rw [List.getElem?_take_of_lt hj, List.getElem?_take_of_lt hj, z3 j hj]
                  · rw [List.getElem?_eq_none (by rw [List.length_take]; omega), List.getElem?_eq_none (by rw [List.length_take]; omega)])
                have hcr : ∀ ty, (Builtin.clear_ #[30] ty #[.slice (some ⟨g, kk, Option.none⟩) (l.length - kk) (c - kk)]).run Tryz.prog wr = .ok (.tuple #[]) (wr.setCells g kk (List.replicate (l.length - kk) (.slice Option.none 0 0))) :=
                  fun ty => Lib.run_clear_slice wr 30 41 ty (.slice Option.none 0 0) Tryz.underlying30 (fun _ => by kernel_rfl) rfl rfl g kk _ _ (by omega) (fun j hj => by rw [HC2.out.cell, List.getElem?_eq_getElem (by omega)]; rfl) (fun j hj => HC2.out.free _)
                have HBX := Lib.hid hbw2
                clear hbw2 q1 q2 q3 z1 z3 HCI
                go_wp2_with fail
                go_ret
                rw [Q1.out]
                refine ⟨⟨ys.take kk, rfl, own_of Z1.out HG.out (by omega) (by unfold maxLen; omega) (by omega), by rw [Z3.out]; exact Q2.out, by rw [Z3.out]; exact Q3.out⟩, below_puts HG.out _ _ HBX.out⟩
      · have hkl : k + 1 = l.length := by omega
        have HD : Hid (dedup l = l) := Lib.hid (dedup_all fun j hj => HK.out j (by omega))
        clear HK
        go_wp2_with fail
        go_ret
        rw [HD.out]
        exact ⟨⟨vs, rfl, by rw [← HTK.out]; exact own_of HCW.out HG.out hnc (by unfold maxLen; omega) HCL.out, HSR.out, fun j u y h1 h2 => ⟨j, h1, h2⟩⟩, hbw⟩

end Go.Proofs.YtaiglcbgllnciaaGreatDoor

namespace Go.Proofs.YtaiglcbgllnciaaGreatDoor
open Go.RowKit Go.Lib

/-- A slice of chords. -/
structure LLAt (w : World) (B : Nat) (A : Option Addr) (l : List (List (List Int))) : Prop where
  pl : ∀ {k : Nat} (hk : k < l.length), ∃ b o A' c', A = some ⟨b, o, Option.none⟩ ∧ b < B ∧ w.cell? ⟨b, o + k, Option.none⟩ = some (.slice A' (l[k]'hk).length c') ∧ RowsAt w B A' (l[k]'hk)
end Go.Proofs.YtaiglcbgllnciaaGreatDoor
