/- slices.CompactFunc of rows with row.Equal (printed by gen_cc.py). slices.CompactFunc of rows with the closure of schismalaw39.sorted (printed by gen_cc.py). -/
import Derived.Test.YteenfcmnmenigaaGreatDoorGCA
namespace Go.Proofs.YteenfcmnmenigaaGreatDoor
open Go.RowKit Go.Lib

set_option maxRecDepth 100000 in
set_option maxHeartbeats 4000000 in
theorem compactC (g c : Nat) (vs : List Value) (p : List Int) (l : List (List Int)) (w0 w : World) (h0 : Below w0.heap.size w0 w) (hown : w.ownsRow w0.heap.size 31 1 (.slice (some ⟨g, 0, Option.none⟩) l.length c) l.length vs) (hr : SRows w0 p vs l) (hn : l.length ≤ 1000) :
    Calls Tryz.prog 43 #[.slice (some ⟨g, 0, Option.none⟩) l.length c, .func (.func 64) #[] #[]] w fun e w' => (∃ vs', e = .returned (.slice (some ⟨g, 0, Option.none⟩) (dedup l).length c) ∧ w'.ownsRow w0.heap.size 31 1 (.slice (some ⟨g, 0, Option.none⟩) (dedup l).length c) (dedup l).length vs' ∧ SRows w0 p vs' (dedup l)) ∧ Below w0.heap.size w0 w' := by
  have hpe := fun (args : Array Value) (W : World) => enters_of (P := Tryz.prog) Tryz.func64 (by kernel_rfl) rfl args W
  have HOW := Lib.hid hown
  have HSR : Box (SRows w0 p vs l) := ⟨hr⟩
  have HB0 := Lib.hid h0
  obtain ⟨cs, hcs, hgb, hnc, hcm, hcl, htk⟩ := own_parts hown
  have HCS : Box (Cells w g 31 cs) := ⟨hcs⟩
  have HTK : Box (cs.take l.length = vs) := ⟨htk⟩
  have HCL : Box (cs.length = c) := ⟨hcl⟩
  unfold maxLen at hcm
  have hglt := hcs.lt
  have HG : Box (w0.heap.size ≤ g) := ⟨hgb⟩
  clear h0 hown hr hcs htk hcl hgb hglt
  by_cases h2 : l.length < 2
  · have hd : dedup l = l := dedup_all fun j hj => by
      obtain rfl : j = 0 := by omega
      exact kp_zero l
    have HD := Lib.hid hd
    clear hd
    go_enter Tryz.func43, Tryz.ntmps43
    go_wp2_with fail
    go_ret
    rw [HD.out]
    exact ⟨⟨vs, rfl, HOW.out, HSR.out⟩, HB0.out⟩
  · go_enter Tryz.func43, Tryz.ntmps43
    go_wp2_with fail
    go_loopw [5] (fun i wr => ∃ k : Nat, 1 ≤ k ∧ k ≤ l.length ∧ i = .int .i64 k ∧ Box (∀ j, j < k → kpt l j = true) ∧ Box (Cells wr g 31 cs) ∧ Below w0.heap.size w0 wr) (fun i _ => l.length - (intOf i).toNat)
    case atStart => exact ⟨1, by omega, by omega, rfl, ⟨fun j hj => by obtain rfl : j = 0 := by omega
                                                                       exact kp_zero l⟩, ⟨HCS.out⟩, HB0.out⟩
    case round =>
      clear HB0 HCS HOW
      obtain ⟨k0, hk1, hk, rfl, HK, HCW, hbw⟩ := hrel
      obtain ⟨k, rfl⟩ : ∃ k, k0 = k + 1 := ⟨k0 - 1, by omega⟩
      by_cases hlt : k + 1 < l.length
      · obtain ⟨v1, x1, a1, b1, r1, _⟩ := HSR.out.len hlt
        obtain ⟨v0, x0, a0, b0, r0, _⟩ := HSR.out.len (show k < l.length by omega)
        have hc1 : wr.cell? ⟨g, k + 1, Option.none⟩ = some v1 := by rw [HCW.out.cell (k + 1), ← a1, ← HTK.out, List.getElem?_take_of_lt hlt]
        have hc0 : wr.cell? ⟨g, k, Option.none⟩ = some v0 := by rw [HCW.out.cell k, ← a0, ← HTK.out, List.getElem?_take_of_lt (by omega)]
        have HKS : Hid (sameB x1 x0 = true → kpt l (k + 1) = false) := Lib.hid fun h => kp_same (by rw [b1, b0]; exact of_decide_eq_true h)
        have HKO : Hid (sameB x1 x0 = false → kpt l (k + 1) = true) := Lib.hid fun h => kp_other (by rw [b1, b0]; exact of_decide_eq_false h)
        have HQ := Lib.hid (fun (W : World) (h : Below wr.heap.size wr W) => rowEqual_any v1 v0 x1 x0 W ((r1.lift hbw).lift h) ((r0.lift hbw).lift h))
        have hw1 : IntKind.i64.wrap (((k + 1 : Nat) : Int) - 1) = (k : Int) := by rw [show ((k + 1 : Nat) : Int) - 1 = (k : Int) by omega]; exact IntWalk.i64_in _ (by omega)
        obtain ⟨AX, cx, rfl⟩ := r1.shape
        obtain ⟨AY, cy, rfl⟩ := r0.shape
        have HB := Lib.hid hbw
        have hglt := HCW.out.lt
        have hi1 : (0 : Int) ≤ (k : Int) + 1 := by omega
        have hi2 : (k : Int) + 1 < (l.length : Int) := by omega
        have hw0 : IntKind.i64.wrap (k : Int) = (k : Int) := IntWalk.i64_in _ (by omega)
        have hi3 : (0 : Int) ≤ (k : Int) := by omega
        have hi4 : (k : Int) < (l.length : Int) := by omega
        clear hbw a1 b1 r1 a0 b0 r0
        generalize sameB x1 x0 = tb at *
        have hB : Below wr.heap.size wr wr.drew := below_drew (Below.refl _ _)
        cases tb with
        | false =>
          have HKK : Box (∀ j, j < k + 2 → kpt l j = true) := ⟨fun j hj => by
            by_cases e : j = k + 1
            · subst e; exact HKO.out rfl
            · exact HK.out j (by omega)⟩
          clear HKS HKO HK
          go_wp2_with fail
          go_region_held3 (fun w' => w'.cell? ⟨g, k + 1, Option.none⟩ = some (.slice AX x1.length cx) ∧ w'.cell? ⟨g, k, Option.none⟩ = some (.slice AY x0.length cy))
            (first | exact ⟨keep_cell hc1 hB, keep_cell hc0 hB⟩ | go_keep)
            ((first | (go_at_call 64; (with_reducible refine (HQ.out _ hB).mono ?_); rintro e w7 ⟨rfl, hbk⟩; replace hB := hB.trans (hbk.mono hB.size); clear hbk)))
          all_goals
            have HCN : Box (Cells _ g 31 cs) := ⟨HCW.out.below hB hglt⟩
            have HBN := Lib.hid (HB.out.trans (hB.mono HB.out.size))
            go_wp2_with fail
            go_roundw
            case rel => exact ⟨k + 2, by omega, by omega, by go_num, HKK, HCN, HBN.out⟩
            case measure => simp [intOf]; omega
        | true =>
          have HST : Box (CI l cs (k + 1 + 1) (k + 1) cs) := ⟨CI.start HK.out (HKS.out rfl)⟩
          have HLT := Lib.hid hlt
          clear HKS HKO HK
          go_wp2_with fail
          go_region_held3 (fun w' => w'.cell? ⟨g, k + 1, Option.none⟩ = some (.slice AX x1.length cx) ∧ w'.cell? ⟨g, k, Option.none⟩ = some (.slice AY x0.length cy))
            (first | exact ⟨keep_cell hc1 hB, keep_cell hc0 hB⟩ | go_keep)
            ((first | (go_at_call 64; (with_reducible refine (HQ.out _ hB).mono ?_); rintro e w7 ⟨rfl, hbk⟩; replace hB := hB.trans (hbk.mono hB.size); clear hbk)))
          all_goals
            have HCN : Box (Cells _ g 31 cs) := ⟨HCW.out.below hB hglt⟩
            have HBN := Lib.hid (HB.out.trans (hB.mono HB.out.size))
            clear HQ HB HCW hc1 hc0 hB
            go_wp2_with fail
            go_loopw [5, 7] (fun a b wr => ∃ (kk k2 : Nat) (cs' : List Value), 1 ≤ k2 ∧ k + 1 + k2 ≤ l.length ∧ a = .int .i64 kk ∧ b = .int .i64 k2 ∧ Box (CI l cs (k + 1 + k2) kk cs') ∧ Box (Cells wr g 31 cs') ∧ Below w0.heap.size w0 wr) (fun _ b _ => l.length - (intOf b).toNat)
            case atStart => exact ⟨k + 1, 1, cs, Nat.le_refl _, by omega, by go_num, rfl, ⟨HST.out⟩, ⟨HCN.out⟩, HBN.out⟩
            case round =>
              clear HST HCN HBN
              obtain ⟨kk, k20, cs', hk21, hke, rfl, rfl, HCI, HC2, hbw2⟩ := hrel
              obtain ⟨k2, rfl⟩ : ∃ k2, k20 = k2 + 1 := ⟨k20 - 1, by omega⟩
              have hkk := HCI.out.lt
              have hsz := HCI.out.size
              have hcl := HCL.out
              by_cases hlt2 : k + 1 + (k2 + 1) < l.length
              · obtain ⟨u1, y1, a1, b1, r1, _⟩ := HSR.out.len hlt2
                obtain ⟨u0, y0, a0, b0, r0, _⟩ := HSR.out.len (show k + 1 + k2 < l.length by omega)
                have hcu : cs[k + 1 + (k2 + 1)]? = some u1 := by rw [← a1, ← HTK.out, List.getElem?_take_of_lt hlt2]
                have hcd : cs[k + 1 + k2]? = some u0 := by rw [← a0, ← HTK.out, List.getElem?_take_of_lt (by omega)]
                have hd1 : wr.cell? ⟨g, k + 1 + (k2 + 1), Option.none⟩ = some u1 := by rw [HC2.out.cell, HCI.out.high _ (by omega), hcu]
                have hd0 : wr.cell? ⟨g, k + 1 + k2, Option.none⟩ = some u0 := by rw [HC2.out.cell, HCI.out.high _ (by omega), hcd]
                have HKS : Hid (sameB y1 y0 = true → kpt l (k + 1 + k2 + 1) = false) := Lib.hid fun h => kp_same (by rw [show k + 1 + k2 + 1 = k + 1 + (k2 + 1) by omega, b1, b0]; exact of_decide_eq_true h)
                have HKO : Hid (sameB y1 y0 = false → kpt l (k + 1 + k2 + 1) = true) := Lib.hid fun h => kp_other (by rw [show k + 1 + k2 + 1 = k + 1 + (k2 + 1) by omega, b1, b0]; exact of_decide_eq_false h)
                have HQ := Lib.hid (fun (W : World) (h : Below wr.heap.size wr W) => rowEqual_any u1 u0 y1 y0 W ((r1.lift hbw2).lift h) ((r0.lift hbw2).lift h))
                have hw2 : IntKind.i64.wrap (((k2 + 1 : Nat) : Int) - 1) = (k2 : Int) := by rw [show ((k2 + 1 : Nat) : Int) - 1 = (k2 : Int) by omega]; exact IntWalk.i64_in _ (by omega)
                obtain ⟨AU, cu, rfl⟩ := r1.shape
                obtain ⟨AV, cv, rfl⟩ := r0.shape
                have HCU := Lib.hid hcu
                have HB := Lib.hid hbw2
                have hglt := HC2.out.lt
                have hw20 : IntKind.i64.wrap (k2 : Int) = (k2 : Int) := IntWalk.i64_in _ (by omega)
                have hj1 : (0 : Int) ≤ (k2 : Int) + 1 := by omega
                have hj2 : (k2 : Int) + 1 < ((l.length - (k + 1) : Nat) : Int) := by omega
                have hj3 : (0 : Int) ≤ (k2 : Int) := by omega
                have hj4 : (k2 : Int) < ((l.length - (k + 1) : Nat) : Int) := by omega
                clear hbw2 a1 b1 r1 a0 b0 r0 hcu hcd
                generalize sameB y1 y0 = tb at *
                have hB : Below wr.heap.size wr wr.drew := below_drew (Below.refl _ _)
                cases tb with
                | true =>
                  have HCI2 : Box (CI l cs (k + 1 + (k2 + 1 + 1)) kk cs') := ⟨HCI.out.skip (HKS.out rfl)⟩
                  clear HKS HKO HCI
                  go_wp2_with fail
                  go_region_held3 (fun w' => w'.cell? ⟨g, k + 1 + (k2 + 1), Option.none⟩ = some (.slice AU y1.length cu) ∧ w'.cell? ⟨g, k + 1 + k2, Option.none⟩ = some (.slice AV y0.length cv))
                    (first | exact ⟨keep_cell hd1 hB, keep_cell hd0 hB⟩ | go_keep)
                    ((first | (go_at_call 64; (with_reducible refine (HQ.out _ hB).mono ?_); rintro e w7 ⟨rfl, hbk⟩; replace hB := hB.trans (hbk.mono hB.size); clear hbk)))
                  all_goals
                    have HCN : Box (Cells _ g 31 cs') := ⟨HC2.out.below hB hglt⟩
                    have HBN := Lib.hid (HB.out.trans (hB.mono HB.out.size))
                    go_wp2_with fail
                    go_roundw
                    case rel => exact ⟨kk, k2 + 2, cs', by omega, by omega, rfl, by go_num, HCI2, HCN, HBN.out⟩
                    case measure => simp [intOf]; omega
                | false =>
                  have HCI2 : Box (CI l cs (k + 1 + (k2 + 1 + 1)) (kk + 1) (cs'.set kk (.slice AU y1.length cu))) := ⟨HCI.out.keep (HKO.out rfl) HCU.out⟩
                  clear HKS HKO HCI
                  go_wp2_with fail
                  go_region_held3 (fun w' => w'.cell? ⟨g, k + 1 + (k2 + 1), Option.none⟩ = some (.slice AU y1.length cu) ∧ w'.cell? ⟨g, k + 1 + k2, Option.none⟩ = some (.slice AV y0.length cv))
                    (first | exact ⟨keep_cell hd1 hB, keep_cell hd0 hB⟩ | go_keep)
                    ((first | (go_at_call 64; (with_reducible refine (HQ.out _ hB).mono ?_); rintro e w7 ⟨rfl, hbk⟩; replace hB := hB.trans (hbk.mono hB.size); clear hbk)))
                  all_goals
                    have HCN : Box (Cells _ g 31 cs') := ⟨HC2.out.below hB hglt⟩
                    have HBN := Lib.hid (HB.out.trans (hB.mono HB.out.size))
                    have hf := HCN.out.free kk
                    have hs := HCN.out.cell kk
                    rw [List.getElem?_eq_getElem (by omega)] at hs
                    go_wp2_with fail
                    go_roundw
                    case rel => exact ⟨kk + 1, k2 + 2, _, by omega, by omega, by go_num, by go_num, HCI2, ⟨HCN.out.set kk _⟩, HBN.out.setCell HG.out _⟩
                    case measure => simp [intOf]; omega
              · have hend : k + 1 + (k2 + 1) = l.length := by omega
                obtain ⟨q1, q2⟩ := ci_rows HSR.out rfl HTK.out (by have := HCI.out; rw [hend] at this; exact this) (by omega)
                have Q1 := Lib.hid q1
                have Q2 : Box (SRows w0 p (cs'.take kk) (dedup l)) := ⟨q2⟩
                obtain ⟨ys, z1, z2, z3⟩ := Cells.puts (List.replicate (l.length - kk) (.slice Option.none 0 0)) kk HC2.out
                have Z1 : Box (Cells (wr.setCells g kk (List.replicate (l.length - kk) (.slice Option.none 0 0))) g 31 ys) := ⟨z1⟩
                have Z3 : Hid (ys.take kk = cs'.take kk) := Lib.hid (by
                  refine List.ext_getElem? fun j => ?_
                  by_cases hj : j < kk
                  · rw [List.getElem?_take_of_lt hj, List.getElem?_take_of_lt hj, z3 j hj]
                  · rw [List.getElem?_eq_none (by rw [List.length_take]; omega), List.getElem?_eq_none (by rw [List.length_take]; omega)])
                have hcr : ∀ ty, (Builtin.clear_ #[24] ty #[.slice (some ⟨g, kk, Option.none⟩) (l.length - kk) (c - kk)]).run Tryz.prog wr = .ok (.tuple #[]) (wr.setCells g kk (List.replicate (l.length - kk) (.slice Option.none 0 0))) :=
                  fun ty => Lib.run_clear_slice wr 24 31 ty (.slice Option.none 0 0) Tryz.underlying24 (fun _ => by kernel_rfl) rfl rfl g kk _ _ (by omega) (fun j hj => by rw [HC2.out.cell, List.getElem?_eq_getElem (by omega)]; rfl) (fun j hj => HC2.out.free _)
                have HBX := Lib.hid hbw2
                clear hbw2 q1 q2 z1 z3 HCI
                go_wp2_with fail
                go_ret
                rw [Q1.out]
                refine ⟨⟨ys.take kk, rfl, own_of Z1.out HG.out (by omega) (by unfold maxLen; omega) (by omega), by rw [Z3.out]; exact Q2.out⟩, below_puts HG.out _ _ HBX.out⟩
      · have hkl : k + 1 = l.length := by omega
        have HD : Hid (dedup l = l) := Lib.hid (dedup_all fun j hj => HK.out j (by omega))
        clear HK
        go_wp2_with fail
        go_ret
        rw [HD.out]
        exact ⟨⟨vs, rfl, by rw [← HTK.out]; exact own_of HCW.out HG.out hnc (by unfold maxLen; omega) HCL.out, HSR.out⟩, hbw⟩

end Go.Proofs.YteenfcmnmenigaaGreatDoor

namespace Go.Proofs.YteenfcmnmenigaaGreatDoor
open Go.RowKit Go.Lib

theorem sortedEq_any (xv yv : Value) (x y : List Int) (w : World) (hx : IsRow w w.heap.size xv x) (hy : IsRow w w.heap.size yv y) :
    Calls Tryz.prog 44 #[xv, yv] w fun e w' => e = .returned (.bool (sameB x y)) ∧ Below w.heap.size w w' := by
  have HE := Lib.hid (slEq_any xv yv x y w hx hy)
  generalize sameB x y = b at *
  obtain ⟨AX, cx, rfl, _⟩ := hx
  obtain ⟨AY, cy, rfl, _⟩ := hy
  go_enter Tryz.func44, Tryz.ntmps44
  go_wp2_with fail
  refine HE.out.mono ?_
  rintro e w1 ⟨rfl, hb1⟩
  go_wp2_with fail
  go_ret
  exact ⟨rfl, hb1⟩

set_option maxRecDepth 100000 in
set_option maxHeartbeats 4000000 in
theorem compactW (g c : Nat) (vs : List Value) (p : List Int) (l : List (List Int)) (w0 w : World) (h0 : Below w0.heap.size w0 w) (hown : w.ownsRow w0.heap.size 31 1 (.slice (some ⟨g, 0, Option.none⟩) l.length c) l.length vs) (hr : SRows w0 p vs l) (hn : l.length ≤ 1000) :
    Calls Tryz.prog 43 #[.slice (some ⟨g, 0, Option.none⟩) l.length c, .func (.func 44) #[] #[]] w fun e w' => (∃ vs', e = .returned (.slice (some ⟨g, 0, Option.none⟩) (dedup l).length c) ∧ w'.ownsRow w0.heap.size 31 1 (.slice (some ⟨g, 0, Option.none⟩) (dedup l).length c) (dedup l).length vs' ∧ SRows w0 p vs' (dedup l)) ∧ Below w0.heap.size w0 w' := by
  have hpe := fun (args : Array Value) (W : World) => enters_of (P := Tryz.prog) Tryz.func44 (by kernel_rfl) rfl args W
  have HOW := Lib.hid hown
  have HSR : Box (SRows w0 p vs l) := ⟨hr⟩
  have HB0 := Lib.hid h0
  obtain ⟨cs, hcs, hgb, hnc, hcm, hcl, htk⟩ := own_parts hown
  have HCS : Box (Cells w g 31 cs) := ⟨hcs⟩
  have HTK : Box (cs.take l.length = vs) := ⟨htk⟩
  have HCL : Box (cs.length = c) := ⟨hcl⟩
  unfold maxLen at hcm
  have hglt := hcs.lt
  have HG : Box (w0.heap.size ≤ g) := ⟨hgb⟩
  clear h0 hown hr hcs htk hcl hgb hglt
  by_cases h2 : l.length < 2
  · have hd : dedup l = l := dedup_all fun j hj => by
      obtain rfl : j = 0 := by omega
      exact kp_zero l
    have HD := Lib.hid hd
    clear hd
    go_enter Tryz.func43, Tryz.ntmps43
    go_wp2_with fail
    go_ret
    rw [HD.out]
    exact ⟨⟨vs, rfl, HOW.out, HSR.out⟩, HB0.out⟩
  · go_enter Tryz.func43, Tryz.ntmps43
    go_wp2_with fail
    go_loopw [5] (fun i wr => ∃ k : Nat, 1 ≤ k ∧ k ≤ l.length ∧ i = .int .i64 k ∧ Box (∀ j, j < k → kpt l j = true) ∧ Box (Cells wr g 31 cs) ∧ Below w0.heap.size w0 wr) (fun i _ => l.length - (intOf i).toNat)
    case atStart => exact ⟨1, by omega, by omega, rfl, ⟨fun j hj => by obtain rfl : j = 0 := by omega
                                                                       exact kp_zero l⟩, ⟨HCS.out⟩, HB0.out⟩
    case round =>
      clear HB0 HCS HOW
      obtain ⟨k0, hk1, hk, rfl, HK, HCW, hbw⟩ := hrel
      obtain ⟨k, rfl⟩ : ∃ k, k0 = k + 1 := ⟨k0 - 1, by omega⟩
      by_cases hlt : k + 1 < l.length
      · obtain ⟨v1, x1, a1, b1, r1, _⟩ := HSR.out.len hlt
        obtain ⟨v0, x0, a0, b0, r0, _⟩ := HSR.out.len (show k < l.length by omega)
        have hc1 : wr.cell? ⟨g, k + 1, Option.none⟩ = some v1 := by rw [HCW.out.cell (k + 1), ← a1, ← HTK.out, List.getElem?_take_of_lt hlt]
        have hc0 : wr.cell? ⟨g, k, Option.none⟩ = some v0 := by rw [HCW.out.cell k, ← a0, ← HTK.out, List.getElem?_take_of_lt (by omega)]
        have HKS : Hid (sameB x1 x0 = true → kpt l (k + 1) = false) := Lib.hid fun h => kp_same (by rw [b1, b0]; exact of_decide_eq_true h)
        have HKO : Hid (sameB x1 x0 = false → kpt l (k + 1) = true) := Lib.hid fun h => kp_other (by rw [b1, b0]; exact of_decide_eq_false h)
        have HQ := Lib.hid (fun (W : World) (h : Below wr.heap.size wr W) => sortedEq_any v1 v0 x1 x0 W ((r1.lift hbw).lift h) ((r0.lift hbw).lift h))
        have hw1 : IntKind.i64.wrap (((k + 1 : Nat) : Int) - 1) = (k : Int) := by rw [show ((k + 1 : Nat) : Int) - 1 = (k : Int) by omega]; exact IntWalk.i64_in _ (by omega)
        obtain ⟨AX, cx, rfl⟩ := r1.shape
        obtain ⟨AY, cy, rfl⟩ := r0.shape
        have HB := Lib.hid hbw
        have hglt := HCW.out.lt
        have hi1 : (0 : Int) ≤ (k : Int) + 1 := by omega
        have hi2 : (k : Int) + 1 < (l.length : Int) := by omega
        have hw0 : IntKind.i64.wrap (k : Int) = (k : Int) := IntWalk.i64_in _ (by omega)
        have hi3 : (0 : Int) ≤ (k : Int) := by omega
        have hi4 : (k : Int) < (l.length : Int) := by omega
        clear hbw a1 b1 r1 a0 b0 r0
        generalize sameB x1 x0 = tb at *
        have hB : Below wr.heap.size wr wr.drew := below_drew (Below.refl _ _)
        cases tb with
        | false =>
          have HKK : Box (∀ j, j < k + 2 → kpt l j = true) := ⟨fun j hj => by
            by_cases e : j = k + 1
            · subst e; exact HKO.out rfl
            · exact HK.out j (by omega)⟩
          clear HKS HKO HK
          go_wp2_with fail
          go_region_held3 (fun w' => w'.cell? ⟨g, k + 1, Option.none⟩ = some (.slice AX x1.length cx) ∧ w'.cell? ⟨g, k, Option.none⟩ = some (.slice AY x0.length cy))
            (first | exact ⟨keep_cell hc1 hB, keep_cell hc0 hB⟩ | go_keep)
            ((first | (go_at_call 44; (with_reducible refine (HQ.out _ hB).mono ?_); rintro e w7 ⟨rfl, hbk⟩; replace hB := hB.trans (hbk.mono hB.size); clear hbk)))
          all_goals
            have HCN : Box (Cells _ g 31 cs) := ⟨HCW.out.below hB hglt⟩
            have HBN := Lib.hid (HB.out.trans (hB.mono HB.out.size))
            go_wp2_with fail
            go_roundw
            case rel => exact ⟨k + 2, by omega, by omega, by go_num, HKK, HCN, HBN.out⟩
            case measure => simp [intOf]; omega
        | true =>
          have HST : Box (CI l cs (k + 1 + 1) (k + 1) cs) := ⟨CI.start HK.out (HKS.out rfl)⟩
          have HLT := Lib.hid hlt
          clear HKS HKO HK
          go_wp2_with fail
          go_region_held3 (fun w' => w'.cell? ⟨g, k + 1, Option.none⟩ = some (.slice AX x1.length cx) ∧ w'.cell? ⟨g, k, Option.none⟩ = some (.slice AY x0.length cy))
            (first | exact ⟨keep_cell hc1 hB, keep_cell hc0 hB⟩ | go_keep)
            ((first | (go_at_call 44; (with_reducible refine (HQ.out _ hB).mono ?_); rintro e w7 ⟨rfl, hbk⟩; replace hB := hB.trans (hbk.mono hB.size); clear hbk)))
          all_goals
            have HCN : Box (Cells _ g 31 cs) := ⟨HCW.out.below hB hglt⟩
            have HBN := Lib.hid (HB.out.trans (hB.mono HB.out.size))
            clear HQ HB HCW hc1 hc0 hB
            go_wp2_with fail
            go_loopw [5, 7] (fun a b wr => ∃ (kk k2 : Nat) (cs' : List Value), 1 ≤ k2 ∧ k + 1 + k2 ≤ l.length ∧ a = .int .i64 kk ∧ b = .int .i64 k2 ∧ Box (CI l cs (k + 1 + k2) kk cs') ∧ Box (Cells wr g 31 cs') ∧ Below w0.heap.size w0 wr) (fun _ b _ => l.length - (intOf b).toNat)
            case atStart => exact ⟨k + 1, 1, cs, Nat.le_refl _, by omega, by go_num, rfl, ⟨HST.out⟩, ⟨HCN.out⟩, HBN.out⟩
            case round =>
              clear HST HCN HBN
              obtain ⟨kk, k20, cs', hk21, hke, rfl, rfl, HCI, HC2, hbw2⟩ := hrel
              obtain ⟨k2, rfl⟩ : ∃ k2, k20 = k2 + 1 := ⟨k20 - 1, by omega⟩
              have hkk := HCI.out.lt
              have hsz := HCI.out.size
              have hcl := HCL.out
              by_cases hlt2 : k + 1 + (k2 + 1) < l.length
              · obtain ⟨u1, y1, a1, b1, r1, _⟩ := HSR.out.len hlt2
                obtain ⟨u0, y0, a0, b0, r0, _⟩ := HSR.out.len (show k + 1 + k2 < l.length by omega)
                have hcu : cs[k + 1 + (k2 + 1)]? = some u1 := by rw [← a1, ← HTK.out, List.getElem?_take_of_lt hlt2]
                have hcd : cs[k + 1 + k2]? = some u0 := by rw [← a0, ← HTK.out, List.getElem?_take_of_lt (by omega)]
                have hd1 : wr.cell? ⟨g, k + 1 + (k2 + 1), Option.none⟩ = some u1 := by rw [HC2.out.cell, HCI.out.high _ (by omega), hcu]
                have hd0 : wr.cell? ⟨g, k + 1 + k2, Option.none⟩ = some u0 := by rw [HC2.out.cell, HCI.out.high _ (by omega), hcd]
                have HKS : Hid (sameB y1 y0 = true → kpt l (k + 1 + k2 + 1) = false) := Lib.hid fun h => kp_same (by rw [show k + 1 + k2 + 1 = k + 1 + (k2 + 1) by omega, b1, b0]; exact of_decide_eq_true h)
                have HKO : Hid (sameB y1 y0 = false → kpt l (k + 1 + k2 + 1) = true) := Lib.hid fun h => kp_other (by rw [show k + 1 + k2 + 1 = k + 1 + (k2 + 1) by omega, b1, b0]; exact of_decide_eq_false h)
                have HQ := Lib.hid (fun (W : World) (h : Below wr.heap.size wr W) => sortedEq_any u1 u0 y1 y0 W ((r1.lift hbw2).lift h) ((r0.lift hbw2).lift h))
                have hw2 : IntKind.i64.wrap (((k2 + 1 : Nat) : Int) - 1) = (k2 : Int) := by rw [show ((k2 + 1 : Nat) : Int) - 1 = (k2 : Int) by omega]; exact IntWalk.i64_in _ (by omega)
                obtain ⟨AU, cu, rfl⟩ := r1.shape
                obtain ⟨AV, cv, rfl⟩ := r0.shape
                have HCU := Lib.hid hcu
                have HB := Lib.hid hbw2
                have hglt := HC2.out.lt
                have hw20 : IntKind.i64.wrap (k2 : Int) = (k2 : Int) := IntWalk.i64_in _ (by omega)
                have hj1 : (0 : Int) ≤ (k2 : Int) + 1 := by omega
                have hj2 : (k2 : Int) + 1 < ((l.length - (k + 1) : Nat) : Int) := by omega
                have hj3 : (0 : Int) ≤ (k2 : Int) := by omega
                have hj4 : (k2 : Int) < ((l.length - (k + 1) : Nat) : Int) := by omega
                clear hbw2 a1 b1 r1 a0 b0 r0 hcu hcd
                generalize sameB y1 y0 = tb at *
                have hB : Below wr.heap.size wr wr.drew := below_drew (Below.refl _ _)
                cases tb with
                | true =>
                  have HCI2 : Box (CI l cs (k + 1 + (k2 + 1 + 1)) kk cs') := ⟨HCI.out.skip (HKS.out rfl)⟩
                  clear HKS HKO HCI
                  go_wp2_with fail
                  go_region_held3 (fun w' => w'.cell? ⟨g, k + 1 + (k2 + 1), Option.none⟩ = some (.slice AU y1.length cu) ∧ w'.cell? ⟨g, k + 1 + k2, Option.none⟩ = some (.slice AV y0.length cv))
                    (first | exact ⟨keep_cell hd1 hB, keep_cell hd0 hB⟩ | go_keep)
                    ((first | (go_at_call 44; (with_reducible refine (HQ.out _ hB).mono ?_); rintro e w7 ⟨rfl, hbk⟩; replace hB := hB.trans (hbk.mono hB.size); clear hbk)))
                  all_goals
                    have HCN : Box (Cells _ g 31 cs') := ⟨HC2.out.below hB hglt⟩
                    have HBN := Lib.hid (HB.out.trans (hB.mono HB.out.size))
                    go_wp2_with fail
                    go_roundw
                    case rel => exact ⟨kk, k2 + 2, cs', by omega, by omega, rfl, by go_num, HCI2, HCN, HBN.out⟩
                    case measure => simp [intOf]; omega
                | false =>
                  have HCI2 : Box (CI l cs (k + 1 + (k2 + 1 + 1)) (kk + 1) (cs'.set kk (.slice AU y1.length cu))) := ⟨HCI.out.keep (HKO.out rfl) HCU.out⟩
                  clear HKS HKO HCI
                  go_wp2_with fail
                  go_region_held3 (fun w' => w'.cell? ⟨g, k + 1 + (k2 + 1), Option.none⟩ = some (.slice AU y1.length cu) ∧ w'.cell? ⟨g, k + 1 + k2, Option.none⟩ = some (.slice AV y0.length cv))
                    (first | exact ⟨keep_cell hd1 hB, keep_cell hd0 hB⟩ | go_keep)
                    ((first | (go_at_call 44; (with_reducible refine (HQ.out _ hB).mono ?_); rintro e w7 ⟨rfl, hbk⟩; replace hB := hB.trans (hbk.mono hB.size); clear hbk)))
                  all_goals
                    have HCN : Box (Cells _ g 31 cs') := ⟨HC2.out.below hB hglt⟩
                    have HBN := Lib.hid (HB.out.trans (hB.mono HB.out.size))
                    have hf := HCN.out.free kk
                    have hs := HCN.out.cell kk
                    rw [List.getElem?_eq_getElem (by omega)] at hs
                    go_wp2_with fail
                    go_roundw
                    case rel => exact ⟨kk + 1, k2 + 2, _, by omega, by omega, by go_num, by go_num, HCI2, ⟨HCN.out.set kk _⟩, HBN.out.setCell HG.out _⟩
                    case measure => simp [intOf]; omega
              · have hend : k + 1 + (k2 + 1) = l.length := by omega
                obtain ⟨q1, q2⟩ := ci_rows HSR.out rfl HTK.out (by have := HCI.out; rw [hend] at this; exact this) (by omega)
                have Q1 := Lib.hid q1
                have Q2 : Box (SRows w0 p (cs'.take kk) (dedup l)) := ⟨q2⟩
                obtain ⟨ys, z1, z2, z3⟩ := Cells.puts (List.replicate (l.length - kk) (.slice Option.none 0 0)) kk HC2.out
                have Z1 : Box (Cells (wr.setCells g kk (List.replicate (l.length - kk) (.slice Option.none 0 0))) g 31 ys) := ⟨z1⟩
                have Z3 : Hid (ys.take kk = cs'.take kk) := Lib.hid (by
                  refine List.ext_getElem? fun j => ?_
                  by_cases hj : j < kk
                  · rw [List.getElem?_take_of_lt hj, List.getElem?_take_of_lt hj, z3 j hj]
                  · rw [List.getElem?_eq_none (by rw [List.length_take]; omega), List.getElem?_eq_none (by rw [List.length_take]; omega)])
                have hcr : ∀ ty, (Builtin.clear_ #[24] ty #[.slice (some ⟨g, kk, Option.none⟩) (l.length - kk) (c - kk)]).run Tryz.prog wr = .ok (.tuple #[]) (wr.setCells g kk (List.replicate (l.length - kk) (.slice Option.none 0 0))) :=
                  fun ty => Lib.run_clear_slice wr 24 31 ty (.slice Option.none 0 0) Tryz.underlying24 (fun _ => by kernel_rfl) rfl rfl g kk _ _ (by omega) (fun j hj => by rw [HC2.out.cell, List.getElem?_eq_getElem (by omega)]; rfl) (fun j hj => HC2.out.free _)
                have HBX := Lib.hid hbw2
                clear hbw2 q1 q2 z1 z3 HCI
                go_wp2_with fail
                go_ret
                rw [Q1.out]
                refine ⟨⟨ys.take kk, rfl, own_of Z1.out HG.out (by omega) (by unfold maxLen; omega) (by omega), by rw [Z3.out]; exact Q2.out⟩, below_puts HG.out _ _ HBX.out⟩
      · have hkl : k + 1 = l.length := by omega
        have HD : Hid (dedup l = l) := Lib.hid (dedup_all fun j hj => HK.out j (by omega))
        clear HK
        go_wp2_with fail
        go_ret
        rw [HD.out]
        exact ⟨⟨vs, rfl, by rw [← HTK.out]; exact own_of HCW.out HG.out hnc (by unfold maxLen; omega) HCL.out, HSR.out⟩, hbw⟩

end Go.Proofs.YteenfcmnmenigaaGreatDoor
