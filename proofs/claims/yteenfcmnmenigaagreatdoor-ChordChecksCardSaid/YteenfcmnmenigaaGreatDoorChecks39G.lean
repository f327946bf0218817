/- ChordChecks: the walk. -/
import Derived.Test.YteenfcmnmenigaaGreatDoorGCG
import Derived.Test.YteenfcmnmenigaaGreatDoorGCH
import Derived.Test.YteenfcmnmenigaaGreatDoorGCI
import Derived.Test.YteenfcmnmenigaaGreatDoorArgRowsG
namespace Go.Proofs.YteenfcmnmenigaaGreatDoor
open Go.RowKit Go.Lib

set_option maxRecDepth 100000 in
set_option maxHeartbeats 4000000 in
theorem checks39_walk (pv : Value) (p : List Int) (lv : Value) (l : List (List Int)) (w : World) (hS : Std w) (hm : ∃ m, w.cell? ⟨2, 0, Option.none⟩ = some (.int .i64 m)) (hp : IsRow w w.heap.size pv p) (hl : RowsArg w lv l) :
    Calls Tryz.prog 6 #[pv, lv] w fun e w' => e = .returned (.bool true) ∧ Below w.heap.size w w' := by
  obtain ⟨m, hm⟩ := hm
  obtain ⟨AL, cl, rfl, hlm, hl⟩ := hl
  have HS := Lib.hid hS
  have HP := Lib.hid hp
  have HL : Box (RowsAt w w.heap.size AL l) := ⟨hl⟩
  have HK := Lib.hid (fun (W : World) (hb : Below w.heap.size w W) => known_any39 W m (hS.below hb (Nat.le_refl _)) (keep_cell hm hb))
  obtain ⟨AP, cp, rfl, _, hpm, _⟩ := hp
  unfold maxLen at hpm hlm
  have hpl : p.length ≤ 9223372036854775807 := by omega
  have HLM : Box (l.length ≤ 9223372036854775807) := ⟨by omega⟩
  clear hpm hm hl hS
  by_cases h9 : 9 < p.length
  · have d9 : decide ((9 : Int) < (p.length : Int)) = true := by rw [decide_eq_true_iff]; omega
    clear hlm
    go_enter Tryz.func6, Tryz.ntmps6
    go_wp2_with fail
    refine (HK.out w (Below.refl _ _)).mono ?_
    rintro e w1 ⟨rfl, hb1⟩
    go_wp2_with fail
    refine (HK.out w1 hb1).mono ?_
    rintro e w2 ⟨rfl, hb2⟩
    go_wp2_with fail
    go_ret
    exact ⟨rfl, hb1.trans (hb2.mono hb1.size)⟩
  have d9 : decide ((9 : Int) < (p.length : Int)) = false := by rw [decide_eq_false_iff_not]; omega
  clear h9
  have HFE := Lib.hid (fun (W : World) (hb : Below w.heap.size w W) => few_any39 AL cl l W (HL.out.lift hb) HLM.out)
  cases hf : few39 l with
  | false =>
    rw [hf] at HFE
    clear hlm hf
    go_enter Tryz.func6, Tryz.ntmps6
    go_wp2_with fail
    refine (HK.out w (Below.refl _ _)).mono ?_
    rintro e w1 ⟨rfl, hb1⟩
    go_wp2_with fail
    refine (HFE.out w1 hb1).mono ?_
    rintro e w2 ⟨rfl, hb2⟩
    have hbx := hb1.trans (hb2.mono hb1.size)
    clear hb1 hb2
    go_wp2_with fail
    refine (HK.out w2 hbx).mono ?_
    rintro e w3 ⟨rfl, hb3⟩
    go_wp2_with fail
    go_ret
    exact ⟨rfl, hbx.trans (hb3.mono hbx.size)⟩
  | true =>
    have h14 := few_len hf
    rw [hf] at HFE
    clear hf hlm
    have HLC := Lib.hid (fun (W : World) (hb : Below w.heap.size w W) => lwCheck_any _ p AL cl l W (HS.out.below hb (Nat.le_refl _)) (HP.out.lift hb) (HL.out.lift hb) (by omega))
    have HCC := Lib.hid (fun (W : World) (hb : Below w.heap.size w W) => chCheck_any _ p AL cl l W (HS.out.below hb (Nat.le_refl _)) (HP.out.lift hb) (HL.out.lift hb) (by omega))
    go_enter Tryz.func6, Tryz.ntmps6
    go_wp2_with fail
    refine (HK.out w (Below.refl _ _)).mono ?_
    rintro e w1 ⟨rfl, hb1⟩
    go_wp2_with fail
    refine (HFE.out w1 hb1).mono ?_
    rintro e w2 ⟨rfl, hb2⟩
    have hbx := hb1.trans (hb2.mono hb1.size)
    clear hb1 hb2
    by_cases h0 : chErr p l = 0
    · rw [h0] at HLC HCC
      clear h0
      go_wp2_with fail
      refine (HLC.out w2 hbx).mono ?_
      rintro e w3 ⟨rfl, hb3⟩
      have hbx3 := hbx.trans (hb3.mono hbx.size)
      clear hb3 hbx
      go_wp2_with fail
      refine (HCC.out w3 hbx3).mono ?_
      rintro e w4 ⟨rfl, hb4⟩
      go_wp2_with fail
      go_ret
      exact ⟨rfl, hbx3.trans (hb4.mono hbx3.size)⟩
    · have hE : (chErr p l != 0) = true := by simpa using h0
      clear h0
      have HRoot := Lib.hid (fun (W : World) (hb : Below w.heap.size w W) => chRoot_err _ p AL cl l W (HS.out.below hb (Nat.le_refl _)) (HP.out.lift hb) (HL.out.lift hb) (by omega) hE)
      have HDyads := Lib.hid (fun (W : World) (hb : Below w.heap.size w W) => chDyads_err _ p AL cl l W (HS.out.below hb (Nat.le_refl _)) (HP.out.lift hb) (HL.out.lift hb) (by omega) hE)
      have HSpan := Lib.hid (fun (W : World) (hb : Below w.heap.size w W) => chSpan_err _ p AL cl l W (HS.out.below hb (Nat.le_refl _)) (HP.out.lift hb) (HL.out.lift hb) (by omega) hE)
      have HDual := Lib.hid (fun (W : World) (hb : Below w.heap.size w W) => chDual_err _ p AL cl l W (HS.out.below hb (Nat.le_refl _)) (HP.out.lift hb) (HL.out.lift hb) (by omega) hE)
      have HClose := Lib.hid (fun (W : World) (hb : Below w.heap.size w W) => chClose_err _ p AL cl l W (HS.out.below hb (Nat.le_refl _)) (HP.out.lift hb) (HL.out.lift hb) (by omega) hE)
      have HInversions := Lib.hid (fun (W : World) (hb : Below w.heap.size w W) => chInversions_err _ p AL cl l W (HS.out.below hb (Nat.le_refl _)) (HP.out.lift hb) (HL.out.lift hb) (by omega) hE)
      have HCanonical := Lib.hid (fun (W : World) (hb : Below w.heap.size w W) => chCanonical_err _ p AL cl l W (HS.out.below hb (Nat.le_refl _)) (HP.out.lift hb) (HL.out.lift hb) (by omega) hE)
      have HAlike := Lib.hid (fun (W : World) (hb : Below w.heap.size w W) => chAlike_err _ p AL cl l W (HS.out.below hb (Nat.le_refl _)) (HP.out.lift hb) (HL.out.lift hb) (by omega) hE)
      have HOtonal := Lib.hid (fun (W : World) (hb : Below w.heap.size w W) => chOtonal_err _ p AL cl l W (HS.out.below hb (Nat.le_refl _)) (HP.out.lift hb) (HL.out.lift hb) (by omega) hE)
      have HUtonal := Lib.hid (fun (W : World) (hb : Below w.heap.size w W) => chUtonal_err _ p AL cl l W (HS.out.below hb (Nat.le_refl _)) (HP.out.lift hb) (HL.out.lift hb) (by omega) hE)
      have HText := Lib.hid (fun (W : World) (hb : Below w.heap.size w W) => chText_err _ p AL cl l W (HS.out.below hb (Nat.le_refl _)) (HP.out.lift hb) (HL.out.lift hb) (by omega) hE)
      generalize chErr p l = V at *
      have hV : (V == 0) = false := by simpa using hE
      go_wp2_with fail
      refine (HLC.out w2 hbx).mono ?_
      rintro e w3 ⟨rfl, hb3⟩
      replace hbx := hbx.trans (hb3.mono hbx.size)
      clear hb3
      go_wp2_with fail
      refine (HCC.out w3 hbx).mono ?_
      rintro e w4 ⟨rfl, hb4⟩
      replace hbx := hbx.trans (hb4.mono hbx.size)
      clear hb4
      go_wp2_with fail
      refine (HRoot.out w4 hbx).mono ?_
      rintro e w5 ⟨rfl, hb5⟩
      replace hbx := hbx.trans (hb5.mono hbx.size)
      clear hb5
      go_wp2_with fail
      refine (HDyads.out w5 hbx).mono ?_
      rintro e w6 ⟨rfl, hb5⟩
      replace hbx := hbx.trans (hb5.mono hbx.size)
      clear hb5
      go_wp2_with fail
      refine (HSpan.out w6 hbx).mono ?_
      rintro e w7 ⟨rfl, hb5⟩
      replace hbx := hbx.trans (hb5.mono hbx.size)
      clear hb5
      go_wp2_with fail
      refine (HDual.out w7 hbx).mono ?_
      rintro e w8 ⟨rfl, hb5⟩
      replace hbx := hbx.trans (hb5.mono hbx.size)
      clear hb5
      go_wp2_with fail
      refine (HClose.out w8 hbx).mono ?_
      rintro e w9 ⟨rfl, hb5⟩
      replace hbx := hbx.trans (hb5.mono hbx.size)
      clear hb5
      go_wp2_with fail
      refine (HInversions.out w9 hbx).mono ?_
      rintro e w10 ⟨rfl, hb5⟩
      replace hbx := hbx.trans (hb5.mono hbx.size)
      clear hb5
      go_wp2_with fail
      refine (HCanonical.out w10 hbx).mono ?_
      rintro e w11 ⟨rfl, hb5⟩
      replace hbx := hbx.trans (hb5.mono hbx.size)
      clear hb5
      go_wp2_with fail
      refine (HAlike.out w11 hbx).mono ?_
      rintro e w12 ⟨rfl, hb5⟩
      replace hbx := hbx.trans (hb5.mono hbx.size)
      clear hb5
      go_wp2_with fail
      refine (HOtonal.out w12 hbx).mono ?_
      rintro e w13 ⟨rfl, hb5⟩
      replace hbx := hbx.trans (hb5.mono hbx.size)
      clear hb5
      go_wp2_with fail
      refine (HUtonal.out w13 hbx).mono ?_
      rintro e w14 ⟨rfl, hb5⟩
      replace hbx := hbx.trans (hb5.mono hbx.size)
      clear hb5
      go_wp2_with fail
      refine (HText.out w14 hbx).mono ?_
      rintro e w15 ⟨rfl, hb5⟩
      replace hbx := hbx.trans (hb5.mono hbx.size)
      clear hb5
      go_wp2_with fail
      go_ret
      exact ⟨rfl, hbx⟩

end Go.Proofs.YteenfcmnmenigaaGreatDoor
