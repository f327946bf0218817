/- ChordMakes: the walk. -/
import Derived.Test.YteenfcmnmenigaaGreatDoorGCG
import Derived.Test.YteenfcmnmenigaaGreatDoorMk0G
import Derived.Test.YteenfcmnmenigaaGreatDoorGCI
import Derived.Test.YteenfcmnmenigaaGreatDoorArgRowsG
namespace Go.Proofs.YteenfcmnmenigaaGreatDoor
open Go.RowKit Go.Lib

set_option maxRecDepth 100000 in
set_option maxHeartbeats 4000000 in
theorem makes_walk (pv : Value) (p : List Int) (lv : Value) (l : List (List Int)) (w : World) (hS : Std w) (hm : ∃ m, w.cell? ⟨2, 0, Option.none⟩ = some (.int .i64 m)) (hp : IsRow w w.heap.size pv p) (hl : RowsArg w lv l) :
    Calls Tryz.prog 3 #[pv, lv] w fun e w' => e = .returned (.bool true) ∧ Below w.heap.size w w' := by
  obtain ⟨m, hm⟩ := hm
  obtain ⟨AL, cl, rfl, hlm, hl⟩ := hl
  have HS := Lib.hid hS
  have HM := Lib.hid hm
  have HP := Lib.hid hp
  have HL : Box (RowsAt w w.heap.size AL l) := ⟨hl⟩
  have HK := Lib.hid (fun (W : World) (hb : Below w.heap.size w W) => known_any39 W m (hS.below hb (Nat.le_refl _)) (keep_cell hm hb))
  obtain ⟨AP, cp, rfl, _, hpm, _⟩ := hp
  unfold maxLen at hpm hlm
  have hpl : p.length ≤ 9223372036854775807 := by omega
  have HLM : Box (l.length ≤ 9223372036854775807) := ⟨by omega⟩
  clear hpm hm hl hS
  by_cases h9 : 9 < p.length
  · have d9 : decide ((9 : Int) < (p.length : Int)) = true := by rw [decide_eq_true_iff]; omega
    clear hlm
    go_enter Tryz.func3, Tryz.ntmps3
    go_wp2_with fail
    refine (HK.out w (Below.refl _ _)).mono ?_
    rintro e w1 ⟨rfl, hb1⟩
    go_wp2_with fail
    refine (HK.out w1 hb1).mono ?_
    rintro e w2 ⟨rfl, hb2⟩
    go_wp2_with fail
    go_ret
    exact ⟨rfl, hb1.trans (hb2.mono hb1.size)⟩
  have d9 : decide ((9 : Int) < (p.length : Int)) = false := by rw [decide_eq_false_iff_not]; omega
  clear h9
  have HFE := Lib.hid (fun (W : World) (hb : Below w.heap.size w W) => few_any39 AL cl l W (HL.out.lift hb) HLM.out)
  cases hf : few39 l with
  | false =>
    rw [hf] at HFE
    clear hlm hf
    go_enter Tryz.func3, Tryz.ntmps3
    go_wp2_with fail
    refine (HK.out w (Below.refl _ _)).mono ?_
    rintro e w1 ⟨rfl, hb1⟩
    go_wp2_with fail
    refine (HFE.out w1 hb1).mono ?_
    rintro e w2 ⟨rfl, hb2⟩
    have hbx := hb1.trans (hb2.mono hb1.size)
    clear hb1 hb2
    go_wp2_with fail
    refine (HK.out w2 hbx).mono ?_
    rintro e w3 ⟨rfl, hb3⟩
    go_wp2_with fail
    go_ret
    exact ⟨rfl, hbx.trans (hb3.mono hbx.size)⟩
  | true =>
    have h14 := few_len hf
    rw [hf] at HFE
    clear hf hlm
    have HPC := Lib.hid (fun (W : World) (hb : Below w.heap.size w W) => primeCheck_any _ p _ W (HP.out.lift hb))
    have HOF := Lib.hid (fun (W : World) (hb : Below w.heap.size w W) => chOf_any _ p AL cl l W (HS.out.below hb (Nat.le_refl _)) (HP.out.lift hb) (HL.out.lift hb) (by omega))
    have HWA := Lib.hid (wantTo_all p l)
    have HOE := Lib.hid (ofErr_fst p l)
    have HFZ := Lib.hid (@fst_zero p l)
    have hcase : (primeErr p ≠ 0 ∧ wantTo p l 0 = primeErr p) ∨ (primeErr p = 0 ∧ l.length = 0 ∧ wantTo p l 0 = 13) ∨ (primeErr p = 0 ∧ l.length ≠ 0 ∧ wantTo p l 0 = 0) := by
      by_cases h1 : primeErr p = 0
      · by_cases h2 : l.length = 0
        · exact .inr (.inl ⟨h1, h2, by rw [wantTo, if_neg (by rw [h1]; decide), if_pos h2]⟩)
        · exact .inr (.inr ⟨h1, h2, by rw [wantTo, if_neg (by rw [h1]; decide), if_neg h2]⟩)
      · exact .inl ⟨h1, by rw [wantTo, if_pos h1]⟩
    have HCA := Lib.hid hcase
    clear hcase
    generalize ofErr p l = V at *
    go_enter Tryz.func3, Tryz.ntmps3
    go_wp2_with fail
    refine (HK.out w (Below.refl _ _)).mono ?_
    rintro e w1 ⟨rfl, hb1⟩
    go_wp2_with fail
    refine (HFE.out w1 hb1).mono ?_
    rintro e w2 ⟨rfl, hb2⟩
    have hbx := hb1.trans (hb2.mono hb1.size)
    clear hb1 hb2
    go_wp2_with fail
    refine (HOF.out w2 hbx).mono ?_
    rintro e w3 ⟨hpo, hb3⟩
    have HB3 := Lib.hid (hbx.trans (hb3.mono hbx.size))
    clear hbx HFE HK HOF
    have hpo2 : (V = 0 ∧ ∃ A2 c2, e = .returned (.tuple #[.slice A2 (onceL p l).length c2, .int .i64 0]) ∧ Box (RowsAt w3 w3.heap.size A2 (onceL p l))) ∨ (V ≠ 0 ∧ e = .returned (.tuple #[.slice Option.none 0 0, .int .i64 V])) := by
      rcases hpo with ⟨h1, v, h2, h3⟩ | h
      · obtain ⟨A2, c2, rfl⟩ := h3.shape
        exact .inl ⟨h1, A2, c2, h2, ⟨h3.rows.2⟩⟩
      · exact .inr h
    clear hpo hb3
    rcases hpo2 with ⟨hV, A2, c2, rfl, HR2⟩ | ⟨hV, rfl⟩
    · have HF0 : Hid (fstErr p l = 0 ∧ ¬ 12 < (onceL p l).length) := Lib.hid (by
        have h := HOE.out
        rw [hV] at h
        split at h
        · rename_i h1; exact absurd h.symm h1
        · rename_i h1
          split at h
          · exact absurd h (by decide)
          · rename_i h2; exact ⟨by simpa using h1, h2⟩)
      have hd12 : decide (12 < ((onceL p l).length : Int)) = false := decide_eq_false (by have := HF0.out.2; omega)
      obtain ⟨z1, z2, z3⟩ := HFZ.out HF0.out.1
      have z2' : ((l.length : Int) == 0) = false := by rw [beq_eq_false_iff_ne]; omega
      have hw0 : wantTo p l 0 = 0 := by rw [wantTo, if_neg (by rw [z1]; decide), if_neg (by omega)]
      have HSO := Lib.hid (fun (W : World) (hb : Below w.heap.size w W) => lwSorted_any _ p AL cl l W (HS.out.below hb (Nat.le_refl _)) (HP.out.lift hb) z1 (HL.out.lift hb) (chk_each z3) z2 (by omega))
      rw [z1] at HPC
      have HW0 := Lib.hid hw0
      have HWF : Hid (wantTo p l l.length = 0) := Lib.hid (by rw [HWA.out, HF0.out.1])
      clear z1 z3 hw0 hV HOE HCA HFZ HF0 HWA
      go_wp2_with fail
      refine (HPC.out w3 HB3.out).mono ?_
      rintro e w4 ⟨rfl, hw⟩
      subst hw
      go_wp2_with fail
      go_loopw [7, 41] (fun q i wr => ∃ (k : Nat), k ≤ l.length ∧ i = .int .i64 k ∧ q = .int .i64 (wantTo p l k) ∧ Below w3.heap.size w3 wr) (fun _ i _ => l.length - (intOf i).toNat)
      case atStart => exact ⟨0, Nat.zero_le _, rfl, by rw [HW0.out], Below.refl _ _⟩
      case round =>
        obtain ⟨k, hk, rfl, rfl, hbw⟩ := hrel
        have HBW := Lib.hid (HB3.out.trans (hbw.mono HB3.out.size))
        by_cases hlt : k < l.length
        · obtain ⟨b, o, xv, rfl, hab, hca, hrow⟩ := rows_pl HL.out (List.getElem?_eq_getElem hlt)
          have hca' := (HBW.out.cell (p := ⟨b, o + k, Option.none⟩) hab).trans hca
          have HCK := Lib.hid (check_any _ xv p l[k] wr (HP.out.lift HBW.out) (hrow.lift HBW.out))
          have HNX : Hid (wantTo p l (k + 1) = if wantTo p l k = 0 then chkAll p [l[k]] else wantTo p l k) := Lib.hid (by rw [wantTo, List.getElem?_eq_getElem hlt]; rfl)
          generalize l[k]'hlt = x at *
          obtain ⟨AX, cx, rfl⟩ := hrow.shape
          have HB := Lib.hid hbw
          clear hbw hca hrow
          by_cases hz : wantTo p l k = 0
          · rw [if_pos hz] at HNX
            rw [hz]
            clear hz
            go_wp2_with fail
            refine HCK.out.mono ?_
            rintro e w5 ⟨rfl, hb5⟩
            have HB5 := Lib.hid (HB.out.trans (hb5.mono HB.out.size))
            clear hb5
            go_wp2_with fail
            go_roundw
            case rel => exact ⟨k + 1, by omega, by go_num, by rw [HNX.out], HB5.out⟩
            case measure => simp [intOf]; omega
          · rw [if_neg hz] at HNX
            have hz' : (wantTo p l k == 0) = false := by simpa using hz
            clear hz
            generalize wantTo p l k = q at *
            go_wp2_with fail
            go_roundw
            case rel => exact ⟨k + 1, by omega, by go_num, by rw [HNX.out], HB.out⟩
            case measure => simp [intOf]; omega
        · obtain rfl : k = l.length := by omega
          rw [HWF.out]
          have HR2' : Box (RowsAt wr wr.heap.size A2 (onceL p l)) := ⟨HR2.out.lift hbw⟩
          have HS1 := Lib.hid (HSO.out wr HBW.out)
          clear hbw
          go_wp2_with fail
          refine HS1.out.mono ?_
          rintro e w5 ⟨⟨B, d, rfl, hr5⟩, hb5⟩
          have HSM := Lib.hid (same_any39 A2 B c2 d (onceL p l) (onceL p l) w5 (HR2'.out.lift hb5) hr5 (by have := decide_eq_false_iff_not.1 hd12; omega))
          have hse : rowsEq (onceL p l) (onceL p l) = true := decide_eq_true rfl
          rw [hse] at HSM
          have HB5 := Lib.hid (HBW.out.trans (hb5.mono HBW.out.size))
          clear hb5 hr5 hse
          go_wp2_with fail
          refine HSM.out.mono ?_
          rintro e w6 ⟨rfl, hb6⟩
          go_wp2_with fail
          go_ret
          exact ⟨rfl, HB5.out.trans (hb6.mono HB5.out.size)⟩
    · have HVN := Lib.hid hV
      clear hV
      rcases HCA.out with ⟨h1, h2⟩ | ⟨h1, h0, h2⟩ | ⟨h1, h0, h2⟩
      case inl =>
        have d1 : (primeErr p == 0) = false := by simpa using h1
        have HW0 := Lib.hid h2
        have HD1 := Lib.hid d1
        clear h1 h2
        go_wp2_with fail
        refine (HPC.out w3 HB3.out).mono ?_
        rintro e w4 ⟨rfl, hw⟩
        subst hw
        go_wp2_with fail
        go_loopw [7, 41] (fun q i wr => ∃ (k : Nat), k ≤ l.length ∧ i = .int .i64 k ∧ q = .int .i64 (wantTo p l k) ∧ Below w3.heap.size w3 wr) (fun _ i _ => l.length - (intOf i).toNat)
        case atStart => exact ⟨0, Nat.zero_le _, rfl, by rw [HW0.out], Below.refl _ _⟩
        case round =>
          obtain ⟨k, hk, rfl, rfl, hbw⟩ := hrel
          have HBW := Lib.hid (HB3.out.trans (hbw.mono HB3.out.size))
          by_cases hlt : k < l.length
          · obtain ⟨b, o, xv, rfl, hab, hca, hrow⟩ := rows_pl HL.out (List.getElem?_eq_getElem hlt)
            have hca' := (HBW.out.cell (p := ⟨b, o + k, Option.none⟩) hab).trans hca
            have HCK := Lib.hid (check_any _ xv p l[k] wr (HP.out.lift HBW.out) (hrow.lift HBW.out))
            have HNX : Hid (wantTo p l (k + 1) = if wantTo p l k = 0 then chkAll p [l[k]] else wantTo p l k) := Lib.hid (by rw [wantTo, List.getElem?_eq_getElem hlt]; rfl)
            generalize l[k]'hlt = x at *
            obtain ⟨AX, cx, rfl⟩ := hrow.shape
            have HB := Lib.hid hbw
            clear hbw hca hrow
            by_cases hz : wantTo p l k = 0
            · rw [if_pos hz] at HNX
              rw [hz]
              clear hz
              go_wp2_with fail
              refine HCK.out.mono ?_
              rintro e w5 ⟨rfl, hb5⟩
              have HB5 := Lib.hid (HB.out.trans (hb5.mono HB.out.size))
              clear hb5
              go_wp2_with fail
              go_roundw
              case rel => exact ⟨k + 1, by omega, by go_num, by rw [HNX.out], HB5.out⟩
              case measure => simp [intOf]; omega
            · rw [if_neg hz] at HNX
              have hz' : (wantTo p l k == 0) = false := by simpa using hz
              clear hz
              generalize wantTo p l k = q at *
              go_wp2_with fail
              go_roundw
              case rel => exact ⟨k + 1, by omega, by go_num, by rw [HNX.out], HB.out⟩
              case measure => simp [intOf]; omega
          · obtain rfl : k = l.length := by omega
            rw [HWA.out]
            by_cases hf : fstErr p l = 0
            · rw [if_neg (by rw [hf]; decide)] at HOE
              obtain ⟨z1, z2, z3⟩ := HFZ.out hf
              have HS1 := Lib.hid (lwSorted_any _ p AL cl l wr (HS.out.below HBW.out (Nat.le_refl _)) (HP.out.lift HBW.out) z1 (HL.out.lift HBW.out) (chk_each z3) z2 (by omega))
              have h12 : 12 < (onceL p l).length := by
                by_cases h : 12 < (onceL p l).length
                · exact h
                · have := HOE.out; rw [if_neg h] at this; exact absurd this HVN.out
              have hV4 : Hid (V = 4) := Lib.hid (by rw [HOE.out, if_pos h12])
              have d12 : decide (12 < ((onceL p l).length : Int)) = true := decide_eq_true (by omega)
              obtain rfl := hV4.out
              rw [hf]
              generalize onceL p l = ds at *
              clear z1 z3 hf hbw h12
              go_wp2_with fail
              refine HS1.out.mono ?_
              rintro e w5 ⟨⟨B, d, rfl, _⟩, hb5⟩
              have HB5 := Lib.hid (HBW.out.trans (hb5.mono HBW.out.size))
              clear hb5
              go_wp2_with fail
              go_ret
              exact ⟨rfl, HB5.out⟩
            · rw [if_pos hf] at HOE
              obtain rfl := HOE.out
              have hf' : (fstErr p l != 0) = true := by simpa using hf
              clear hf HFZ HVN
              generalize fstErr p l = z at *
              go_wp2_with fail
              go_ret
              exact ⟨rfl, HBW.out⟩
      case inr.inl =>
        have d0 : ((l.length : Int) == 0) = true := by rw [h0]; rfl
        have HW0 := Lib.hid h2
        rw [h1] at HPC
        clear h1 h2 h0
        go_wp2_with fail
        refine (HPC.out w3 HB3.out).mono ?_
        rintro e w4 ⟨rfl, hw⟩
        subst hw
        go_wp2_with fail
        go_loopw [7, 41] (fun q i wr => ∃ (k : Nat), k ≤ l.length ∧ i = .int .i64 k ∧ q = .int .i64 (wantTo p l k) ∧ Below w3.heap.size w3 wr) (fun _ i _ => l.length - (intOf i).toNat)
        case atStart => exact ⟨0, Nat.zero_le _, rfl, by rw [HW0.out], Below.refl _ _⟩
        case round =>
          obtain ⟨k, hk, rfl, rfl, hbw⟩ := hrel
          have HBW := Lib.hid (HB3.out.trans (hbw.mono HB3.out.size))
          by_cases hlt : k < l.length
          · obtain ⟨b, o, xv, rfl, hab, hca, hrow⟩ := rows_pl HL.out (List.getElem?_eq_getElem hlt)
            have hca' := (HBW.out.cell (p := ⟨b, o + k, Option.none⟩) hab).trans hca
            have HCK := Lib.hid (check_any _ xv p l[k] wr (HP.out.lift HBW.out) (hrow.lift HBW.out))
            have HNX : Hid (wantTo p l (k + 1) = if wantTo p l k = 0 then chkAll p [l[k]] else wantTo p l k) := Lib.hid (by rw [wantTo, List.getElem?_eq_getElem hlt]; rfl)
            generalize l[k]'hlt = x at *
            obtain ⟨AX, cx, rfl⟩ := hrow.shape
            have HB := Lib.hid hbw
            clear hbw hca hrow
            by_cases hz : wantTo p l k = 0
            · rw [if_pos hz] at HNX
              rw [hz]
              clear hz
              go_wp2_with fail
              refine HCK.out.mono ?_
              rintro e w5 ⟨rfl, hb5⟩
              have HB5 := Lib.hid (HB.out.trans (hb5.mono HB.out.size))
              clear hb5
              go_wp2_with fail
              go_roundw
              case rel => exact ⟨k + 1, by omega, by go_num, by rw [HNX.out], HB5.out⟩
              case measure => simp [intOf]; omega
            · rw [if_neg hz] at HNX
              have hz' : (wantTo p l k == 0) = false := by simpa using hz
              clear hz
              generalize wantTo p l k = q at *
              go_wp2_with fail
              go_roundw
              case rel => exact ⟨k + 1, by omega, by go_num, by rw [HNX.out], HB.out⟩
              case measure => simp [intOf]; omega
          · obtain rfl : k = l.length := by omega
            rw [HWA.out]
            by_cases hf : fstErr p l = 0
            · rw [if_neg (by rw [hf]; decide)] at HOE
              obtain ⟨z1, z2, z3⟩ := HFZ.out hf
              have HS1 := Lib.hid (lwSorted_any _ p AL cl l wr (HS.out.below HBW.out (Nat.le_refl _)) (HP.out.lift HBW.out) z1 (HL.out.lift HBW.out) (chk_each z3) z2 (by omega))
              have h12 : 12 < (onceL p l).length := by
                by_cases h : 12 < (onceL p l).length
                · exact h
                · have := HOE.out; rw [if_neg h] at this; exact absurd this HVN.out
              have hV4 : Hid (V = 4) := Lib.hid (by rw [HOE.out, if_pos h12])
              have d12 : decide (12 < ((onceL p l).length : Int)) = true := decide_eq_true (by omega)
              obtain rfl := hV4.out
              rw [hf]
              generalize onceL p l = ds at *
              clear z1 z3 hf hbw h12
              go_wp2_with fail
              refine HS1.out.mono ?_
              rintro e w5 ⟨⟨B, d, rfl, _⟩, hb5⟩
              have HB5 := Lib.hid (HBW.out.trans (hb5.mono HBW.out.size))
              clear hb5
              go_wp2_with fail
              go_ret
              exact ⟨rfl, HB5.out⟩
            · rw [if_pos hf] at HOE
              obtain rfl := HOE.out
              have hf' : (fstErr p l != 0) = true := by simpa using hf
              clear hf HFZ HVN
              generalize fstErr p l = z at *
              go_wp2_with fail
              go_ret
              exact ⟨rfl, HBW.out⟩
      case inr.inr =>
        have d0 : ((l.length : Int) == 0) = false := by rw [beq_eq_false_iff_ne]; omega
        have HW0 := Lib.hid h2
        rw [h1] at HPC
        clear h1 h2 h0
        go_wp2_with fail
        refine (HPC.out w3 HB3.out).mono ?_
        rintro e w4 ⟨rfl, hw⟩
        subst hw
        go_wp2_with fail
        go_loopw [7, 41] (fun q i wr => ∃ (k : Nat), k ≤ l.length ∧ i = .int .i64 k ∧ q = .int .i64 (wantTo p l k) ∧ Below w3.heap.size w3 wr) (fun _ i _ => l.length - (intOf i).toNat)
        case atStart => exact ⟨0, Nat.zero_le _, rfl, by rw [HW0.out], Below.refl _ _⟩
        case round =>
          obtain ⟨k, hk, rfl, rfl, hbw⟩ := hrel
          have HBW := Lib.hid (HB3.out.trans (hbw.mono HB3.out.size))
          by_cases hlt : k < l.length
          · obtain ⟨b, o, xv, rfl, hab, hca, hrow⟩ := rows_pl HL.out (List.getElem?_eq_getElem hlt)
            have hca' := (HBW.out.cell (p := ⟨b, o + k, Option.none⟩) hab).trans hca
            have HCK := Lib.hid (check_any _ xv p l[k] wr (HP.out.lift HBW.out) (hrow.lift HBW.out))
            have HNX : Hid (wantTo p l (k + 1) = if wantTo p l k = 0 then chkAll p [l[k]] else wantTo p l k) := Lib.hid (by rw [wantTo, List.getElem?_eq_getElem hlt]; rfl)
            generalize l[k]'hlt = x at *
            obtain ⟨AX, cx, rfl⟩ := hrow.shape
            have HB := Lib.hid hbw
            clear hbw hca hrow
            by_cases hz : wantTo p l k = 0
            · rw [if_pos hz] at HNX
              rw [hz]
              clear hz
              go_wp2_with fail
              refine HCK.out.mono ?_
              rintro e w5 ⟨rfl, hb5⟩
              have HB5 := Lib.hid (HB.out.trans (hb5.mono HB.out.size))
              clear hb5
              go_wp2_with fail
              go_roundw
              case rel => exact ⟨k + 1, by omega, by go_num, by rw [HNX.out], HB5.out⟩
              case measure => simp [intOf]; omega
            · rw [if_neg hz] at HNX
              have hz' : (wantTo p l k == 0) = false := by simpa using hz
              clear hz
              generalize wantTo p l k = q at *
              go_wp2_with fail
              go_roundw
              case rel => exact ⟨k + 1, by omega, by go_num, by rw [HNX.out], HB.out⟩
              case measure => simp [intOf]; omega
          · obtain rfl : k = l.length := by omega
            rw [HWA.out]
            by_cases hf : fstErr p l = 0
            · rw [if_neg (by rw [hf]; decide)] at HOE
              obtain ⟨z1, z2, z3⟩ := HFZ.out hf
              have HS1 := Lib.hid (lwSorted_any _ p AL cl l wr (HS.out.below HBW.out (Nat.le_refl _)) (HP.out.lift HBW.out) z1 (HL.out.lift HBW.out) (chk_each z3) z2 (by omega))
              have h12 : 12 < (onceL p l).length := by
                by_cases h : 12 < (onceL p l).length
                · exact h
                · have := HOE.out; rw [if_neg h] at this; exact absurd this HVN.out
              have hV4 : Hid (V = 4) := Lib.hid (by rw [HOE.out, if_pos h12])
              have d12 : decide (12 < ((onceL p l).length : Int)) = true := decide_eq_true (by omega)
              obtain rfl := hV4.out
              rw [hf]
              generalize onceL p l = ds at *
              clear z1 z3 hf hbw h12
              go_wp2_with fail
              refine HS1.out.mono ?_
              rintro e w5 ⟨⟨B, d, rfl, _⟩, hb5⟩
              have HB5 := Lib.hid (HBW.out.trans (hb5.mono HBW.out.size))
              clear hb5
              go_wp2_with fail
              go_ret
              exact ⟨rfl, HB5.out⟩
            · rw [if_pos hf] at HOE
              obtain rfl := HOE.out
              have hf' : (fstErr p l != 0) = true := by simpa using hf
              clear hf HFZ HVN
              generalize fstErr p l = z at *
              go_wp2_with fail
              go_ret
              exact ⟨rfl, HBW.out⟩

end Go.Proofs.YteenfcmnmenigaaGreatDoor
