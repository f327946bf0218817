/- ScoreNotes: the walk. (Printed by gen48.py.) -/
import Derived.Test.YtphlodmdcmcjnaaGreatDoorGXNCv
import Derived.Test.YtphlodmdcmcjnaaGreatDoorGXDMCv
import Derived.Test.YtphlodmdcmcjnaaGreatDoorMk48Cv
import Derived.Test.YtphlodmdcmcjnaaGreatDoorGXTCv
import Derived.BigQuiet
namespace Go.Proofs.YtphlodmdcmcjnaaGreatDoor
open Go.RowKit Go.Lib

set_option maxRecDepth 100000 in
set_option maxHeartbeats 8000000 in
theorem scNot_walk (n0 : Nat) (v0 : Value) (l0 : List (List Bt)) (w : World) (hS : Std w) (hL : ∃ m, w.cell? ⟨0, 0, Option.none⟩ = some (.int .i64 m)) (hn : n0 ≤ 255) (hv : PlA w v0 l0) :
    Calls Tryz.prog 11 #[.agg #[.int .u8 n0, v0]] w fun e w' => e = .returned (.bool true) ∧ Below w.heap.size w w' := by
  have HS := Lib.hid hS
  have HLI : Hid (LenIs w) := Lib.hid hL
  have HV0 := Lib.hid hv
  obtain ⟨A0, c0, rfl, hc01, hc02, _⟩ := hv
  unfold maxLen at hc02
  obtain ⟨W0, hW0⟩ : ∃ W0, W0 = (w.alloc (.cells #[.int .u8 n0, .slice A0 l0.length c0] 24)) := ⟨_, rfl⟩
  have hb0 : Below w.heap.size w W0 := by rw [hW0]; exact ((Below.refl w.heap.size w).alloc (Nat.le_refl _) _)
  have HPB : Hid (Cells W0 w.heap.size 24 [.int .u8 n0, .slice A0 l0.length c0]) := Lib.hid (by rw [hW0]; exact Cells.new w 24 #[.int .u8 n0, .slice A0 l0.length c0])
  have HB := Lib.hid hb0
  replace HS := Lib.hid (HS.out.below hb0 (Nat.le_refl _))
  replace HLI : Hid (LenIs W0) := Lib.hid (HLI.out.below hb0)
  replace HV0 := Lib.hid (HV0.out.lift hb0)
  clear hS hL hb0
  go_enter Tryz.func11, Tryz.ntmps11
  go_upto_region 1 with (fail)
  rw [← hW0]
  clear hW0
  obtain ⟨z0, z1⟩ := cel2 HPB.out
  go_wp2_with fail
  refine (known48 _ HS.out HLI.out).mono ?_
  rintro e w1 ⟨rfl, hb1⟩
  replace HPB := Lib.hid (HPB.out.below hb1 HPB.out.lt)
  replace HB := Lib.hid (HB.out.trans (hb1.mono HB.out.size))
  replace HS := Lib.hid (HS.out.below hb1 (Nat.le_refl _))
  replace HLI : Hid (LenIs w1) := Lib.hid (HLI.out.below hb1)
  replace HV0 := Lib.hid (HV0.out.lift hb1)
  clear z0 z1 hb1
  obtain ⟨z0, z1⟩ := cel2 HPB.out
  go_wp2_with fail
  refine (fits48_any n0 _ l0 _ HV0.out).mono ?_
  rintro e w2 ⟨rfl, hb2⟩
  replace HPB := Lib.hid (HPB.out.below hb2 HPB.out.lt)
  replace HB := Lib.hid (HB.out.trans (hb2.mono HB.out.size))
  replace HS := Lib.hid (HS.out.below hb2 (Nat.le_refl _))
  replace HLI : Hid (LenIs w2) := Lib.hid (HLI.out.below hb2)
  replace HV0 := Lib.hid (HV0.out.lift hb2)
  clear z0 z1 hb2
  cases hfit : fitsPl l0 with
  | false =>
    clear hfit
    go_wp2_with fail
    refine (known48 _ HS.out HLI.out).mono ?_
    rintro e w9 ⟨rfl, hb9⟩
    go_wp2_with fail
    go_ret
    exact ⟨rfl, HB.out.trans (hb9.mono HB.out.size)⟩
  | true =>
    have HMK := Lib.hid (fun W h1 h2 => make48_any n0 (.slice A0 l0.length c0) l0 W h1 hn h2 hfit)
    obtain ⟨s, hs⟩ : ∃ s, s = makeSc n0 l0 := ⟨_, rfl⟩
    obtain ⟨dss, hdss⟩ : ∃ dss, dss = dursOf l0 := ⟨_, rfl⟩
    have HSE : Box (scErr s = 0) := ⟨by rw [hs]; exact makeSc_err hfit⟩
    have HSM : Box (ScSm s) := ⟨by rw [hs]; exact makeSc_sm hfit⟩
    have HSH : Box (ShortV s.voices dss) := ⟨by rw [hs, hdss]; exact makeSc_times hfit⟩
    have HSL : Box (s.voices.length = l0.length ∧ l0.length ≤ 3) := ⟨by rw [hs]; exact ⟨(makeSc_len hfit), (fits_mem hfit).1⟩⟩
    have HSS : Box (s = makeSc n0 l0 ∧ dss = dursOf l0 ∧ fitsPl l0 = true) := ⟨⟨hs, hdss, hfit⟩⟩
    rw [← hs] at HMK
    clear hs hdss hfit
    obtain ⟨z0, z1⟩ := cel2 HPB.out
    go_wp2_with fail
    refine (HMK.out _ HS.out HV0.out).mono ?_
    rintro e w3 ⟨⟨pv, vv, rfl, hsv⟩, hb3⟩
    obtain ⟨W3, hW3⟩ : ∃ W3, W3 = w3.alloc (.cells #[pv, vv] 31) := ⟨_, rfl⟩
    have hba : Below w3.heap.size w3 W3 := by rw [hW3]; exact (Below.refl _ _).alloc (Nat.le_refl _) _
    obtain ⟨SB, hSB⟩ : ∃ SB, SB = w3.heap.size := ⟨_, rfl⟩
    have HCS : Hid (Cells W3 SB 31 [pv, vv]) := Lib.hid (by rw [hW3, hSB]; exact Cells.new w3 31 #[pv, vv])
    have hb33 := hb3.trans (hba.mono hb3.size)
    have HSV := Lib.hid (hsv.lift hba)
    replace HB := Lib.hid (HB.out.trans (hb33.mono HB.out.size))
    replace HS := Lib.hid (HS.out.below hb33 (Nat.le_refl _))
    replace HLI : Hid (LenIs W3) := Lib.hid (HLI.out.below hb33)
    obtain ⟨hpq, AV, cV, rfl, hcV1, hcV2, _⟩ := hsv
    obtain ⟨AP, cp, rfl, _⟩ := hpq.shape
    have hSBw : w.heap.size ≤ SB := by have := HB.out.size; have := HCS.out.lt; rw [hSB]; have h3 := hb3.size; have h4 := HPB.out.lt; omega
    unfold maxLen at hcV2
    clear hpq hba hb3 hb33 z0 z1 HPB HV0 HMK
    obtain ⟨sc0, sc1⟩ := cel2 HCS.out
    go_upto_region 4 with (fail)
    rw [← hW3, ← hSB]
    clear hW3 hSB
    have hok := ScOk.of HSE.out
    have HTO : Box ((ntsV s.voices).length ≤ 48000) := ⟨sc_total hok⟩
    have HV8 : Box (∀ v ∈ s.voices, v.evs.length ≤ 500 ∧ ∀ x ∈ v.evs, x.notes.length ≤ 12) := ⟨fun v hv => ⟨hok.evs v hv, fun x hx => (hok.ev v hv x hx).2.1⟩⟩
    have hv8 := hok.vcs
    clear hok
    go_wp2_with fail
    refine (scNotes_ok _ _ s W3 HS.out HSV.out HSM.out HSE.out).mono ?_
    rintro e w4 ⟨⟨A4, c4, out, rfl, hnt4, hok4, hol4⟩, hb4⟩
    have HNT : Hid (NotesT w4 w4.heap.size A4 out) := Lib.hid hnt4
    have HOK : Box (NtsOk (ntsV s.voices) out) := ⟨hok4⟩
    clear hnt4 hok4 sc0 sc1
    replace HCS := Lib.hid (HCS.out.below hb4 HCS.out.lt)
    replace HSV := Lib.hid (HSV.out.lift hb4)
    replace HB := Lib.hid (HB.out.trans (hb4.mono HB.out.size))
    replace HS := Lib.hid (HS.out.below hb4 (Nat.le_refl _))
    replace HLI : Hid (LenIs w4) := Lib.hid (HLI.out.below hb4)
    clear hb4
    obtain ⟨_, A9, c9, e9, _, _, hVs⟩ := HSV.out
    have e7 := (Value.slice.inj e9).1
    subst e7
    have HVT := Lib.hid hVs
    have hoi : (out.length : Int) ≤ 48000 := by omega
    clear hVs e9
    obtain ⟨W4, hW4⟩ : ∃ W4, W4 = w4 := ⟨_, rfl⟩
    rw [← hW4] at HNT HCS HSV HB HS HLI HVT ⊢
    clear hW4
    go_upto_region 7 with (fail)
    go_loopw [6, 7] (fun cnt i wr => ∃ k : Nat, k ≤ s.voices.length ∧ i = .int .i64 k ∧ cnt = .int .i64 (ntsV (s.voices.take k)).length ∧ Below W4.heap.size W4 wr) (fun _ i _ => s.voices.length - (intOf i).toNat)
    case atStart => exact ⟨0, Nat.zero_le _, rfl, by rw [List.take_zero]; rfl, Below.refl _ _⟩
    case round =>
      obtain ⟨k, hk, rfl, rfl, hbw⟩ := hrel
      have HCSr := Lib.hid (HCS.out.below hbw HCS.out.lt)
      obtain ⟨z0, z1⟩ := cel2 HCSr.out
      have hto := HTO.out
      by_cases hkl : k < s.voices.length
      · obtain ⟨b1, o1, A1, C1, rfl, _, _, q0, q1, h1c, h1m, hev⟩ := HVT.out.at_ hkl
        replace q0 := keep_cell q0 hbw
        replace q1 := keep_cell q1 hbw
        obtain ⟨h500, hnt⟩ := HV8.out _ (List.getElem_mem hkl)
        have HNT0 : Box (∀ x ∈ (s.voices[k]'hkl).evs, x.notes.length ≤ 12) := ⟨hnt⟩
        have HNX : Box (ntsV (s.voices.take (k + 1)) = ntsV (s.voices.take k) ++ ntsE (s.voices[k]'hkl).evs) := ⟨ntsV_next hkl⟩
        have hle := ntsV_le s.voices (k + 1)
        rw [HNX.out, List.length_append] at hle
        have HSUB : Box (∀ x ∈ ntsE (s.voices[k]'hkl).evs, x ∈ ntsV s.voices) := ⟨fun x hx => by
          have h1 : x ∈ ntsV (s.voices.take (k + 1)) := by rw [HNX.out]; exact List.mem_append_right _ hx
          rw [ntsV_mem] at h1 ⊢
          obtain ⟨v, hv, h2⟩ := h1
          exact ⟨v, List.mem_of_mem_take hv, h2⟩⟩
        have HEV := Lib.hid hev
        have HBW := Lib.hid hbw
        have hkv : (k : Int) < (s.voices.length : Int) := by omega
        have hk0 : (0 : Int) ≤ (k : Int) := by omega
        clear hev hnt hbw
        unfold maxLen at h1m
        generalize s.voices[k]'hkl = v at *
        obtain ⟨nm, es⟩ := v
        dsimp only at *
        generalize hst : ntsV (s.voices.take k) = st at *
        clear hst
        go_upto_region 10 with (fail)
        go_loopw [6, 44] (fun cnt i wb => ∃ j : Nat, j ≤ es.length ∧ i = .int .i64 j ∧ cnt = .int .i64 ((st ++ ntsE (es.take j)).length : Nat) ∧ Below W4.heap.size W4 wb) (fun _ i _ => es.length - (intOf i).toNat)
        case atStart => exact ⟨0, Nat.zero_le _, rfl, by rw [List.take_zero, show ntsE [] = [] from rfl, List.append_nil], HBW.out⟩
        case round =>
          clear HBW q0 q1 z0 z1 HCSr
          rename World => wb
          obtain ⟨j, hj, rfl, rfl, hbb⟩ := hrel
          by_cases hjl : j < es.length
          · obtain ⟨b2, o2, A2, C2, rfl, _, _, p0, p1, p2, h2c, h2m, hnt2⟩ := HEV.out.at_ hjl
            replace p0 := keep_cell p0 hbb
            replace p1 := keep_cell p1 hbb
            replace p2 := keep_cell p2 hbb
            have hn12 := HNT0.out _ (List.getElem_mem hjl)
            have HNE : Box (ntsE (es.take (j + 1)) = ntsE (es.take j) ++ (es[j]'hjl).notes) := ⟨ntsE_next hjl⟩
            have hle2 := ntsE_le es (j + 1)
            rw [HNE.out, List.length_append] at hle2
            have HSB2 : Box (∀ x ∈ (es[j]'hjl).notes, x ∈ ntsV s.voices) := ⟨fun x hx => HSUB.out x (by
              have h1 : x ∈ ntsE (es.take (j + 1)) := by rw [HNE.out]; exact List.mem_append_right _ hx
              have e1 : ntsE es = ntsE (es.take (j + 1)) ++ ntsE (es.drop (j + 1)) := by
                unfold ntsE
                rw [← List.flatten_append, ← List.map_append, List.take_append_drop]
              rw [e1]
              exact List.mem_append_left _ h1)⟩
            have HN2 := Lib.hid hnt2
            have hji : (j : Int) < (es.length : Int) := by omega
            have hj0 : (0 : Int) ≤ (j : Int) := by omega
            unfold maxLen at h2m
            generalize es[j]'hjl = y at *
            obtain ⟨tn, td, ns⟩ := y
            dsimp only at *
            generalize hsj : ntsE (es.take j) = sj at *
            clear hsj
            obtain ⟨W5, hW5⟩ : ∃ W5, W5 = wb.alloc (.cells #[.string ⟨tn.toArray⟩, .string ⟨td.toArray⟩, .slice A2 ns.length C2] 65) := ⟨_, rfl⟩
            have hb3 : Below wb.heap.size wb W5 := by rw [hW5]; exact (Below.refl _ _).alloc (Nat.le_refl _) _
            have HB3 := Lib.hid (hbb.trans (hb3.mono hbb.size))
            clear hb3 hnt2 hbb
            go_upto_region 13 with (fail)
            rw [← hW5]
            clear hW5
            go_loopw [6, 51] (fun cnt i wc => ∃ m : Nat, m ≤ ns.length ∧ i = .int .i64 m ∧ cnt = .int .i64 ((st ++ sj ++ ns.take m).length : Nat) ∧ Below W4.heap.size W4 wc) (fun _ i _ => ns.length - (intOf i).toNat)
            case atStart => exact ⟨0, Nat.zero_le _, rfl, by rw [List.take_zero, List.append_nil], HB3.out⟩
            case round =>
              clear HB3 p0 p1 p2
              rename World => wc
              obtain ⟨m, hm, rfl, rfl, hbc⟩ := hrel
              by_cases hml : m < ns.length
              · obtain ⟨b3, o3, u, rfl, _, _, r0, hir⟩ := HN2.out.at_ hml
                replace r0 := keep_cell r0 hbc
                have HNN : Box (ns.take (m + 1) = ns.take m ++ [ns[m]'hml]) := ⟨List.take_succ_eq_append_getElem hml⟩
                have HYM : Box (decide (ns[m]'hml ∈ out) = true) := ⟨decide_eq_true ((HOK.out.mem _).2 (HSB2.out _ (List.getElem_mem hml)))⟩
                have hmi : (m : Int) < (ns.length : Int) := by omega
                have hm0 : (0 : Int) ≤ (m : Int) := by omega
                have hl9 : (st ++ sj ++ ns.take m).length ≤ 47999 := by
                  rw [List.length_append, List.length_append, List.length_take]
                  omega
                have HIR := Lib.hid hir
                have HBC := Lib.hid hbc
                obtain ⟨AU, cu, rfl, _⟩ := hir.shape
                clear hir hbc
                generalize ns[m]'hml = y at *
                have HCUL : Box ((st ++ sj ++ ns.take m ++ [y]).length = (st ++ sj ++ ns.take m).length + 1) := ⟨by rw [List.length_append (bs := [y])]; rfl⟩
                have HD0 : Box (false = decide (y ∈ out.take 0)) := ⟨by rw [List.take_zero]; simp⟩
                generalize hcl : (st ++ sj ++ ns.take m).length = cl at *
                have HCL : Box ((st ++ sj ++ ns.take m).length = cl) := ⟨hcl⟩
                clear hcl
                go_upto_region 17 with (fail)
                go_loopw [12, 13] (fun f i wd => ∃ q : Nat, q ≤ out.length ∧ i = .int .i64 q ∧ f = .bool (decide (y ∈ out.take q)) ∧ Below W4.heap.size W4 wd) (fun _ i _ => out.length - (intOf i).toNat)
                case atStart => exact ⟨0, Nat.zero_le _, rfl, congrArg Value.bool HD0.out, HBC.out⟩
                case round =>
                  clear HBC HD0 r0
                  rename World => wd
                  obtain ⟨q, hq, rfl, rfl, hbd⟩ := hrel
                  by_cases hql : q < out.length
                  · obtain ⟨b4, o4, x, rfl, _, _, g0, hxr⟩ := HNT.out.at_ hql
                    replace g0 := keep_cell g0 hbd
                    have HNQ : Box (decide (y ∈ out.take (q + 1)) = (decide (y ∈ out.take q) || sameB (out[q]'hql) y)) := ⟨by rw [List.take_succ_eq_append_getElem hql, found_next]; congr 1; rw [sameB_eq, sameB_eq, decide_eq_decide]; exact eq_comm⟩
                    have hqi : (q : Int) < (out.length : Int) := by omega
                    have hq0 : (0 : Int) ≤ (q : Int) := by omega
                    have HSM := Lib.hid (same_any _ _ (out[q]'hql) y wd ((hxr.lift hbd).row) ((HIR.out.lift hbd).row))
                    obtain ⟨AX, cx, rfl, _⟩ := hxr.shape
                    have HBD := Lib.hid hbd
                    clear hxr hbd
                    generalize sameB (out[q]'hql) y = sb at *
                    generalize out[q]'hql = xr at *
                    generalize decide (y ∈ out.take q) = fb at *
                    cases fb with
                    | true =>
                      clear HSM
                      go_wp2_with fail
                      go_roundw
                      case rel => exact ⟨q + 1, by omega, by go_num, by rw [HNQ.out]; rfl, HBD.out⟩
                      case measure => simp [intOf]; omega
                    | false =>
                      go_wp2_with fail
                      refine HSM.out.mono ?_
                      rintro e w7 ⟨rfl, hb7⟩
                      have HBD7 := Lib.hid (HBD.out.trans (hb7.mono HBD.out.size))
                      clear hb7
                      go_wp2_with fail
                      go_roundw
                      case rel => exact ⟨q + 1, by omega, by go_num, by rw [HNQ.out]; rfl, HBD7.out⟩
                      case measure => simp [intOf]; omega
                  · obtain rfl : q = out.length := by omega
                    rw [List.take_of_length_le (Nat.le_refl _), HYM.out]
                    go_wp2_with fail
                    go_roundw
                    case rel => exact ⟨m + 1, by omega, by go_num, by rw [HNN.out, ← List.append_assoc, HCUL.out]; go_num, hbd⟩
                    case measure => simp [intOf]; omega
              · obtain rfl : m = ns.length := by omega
                rw [List.take_of_length_le (Nat.le_refl _)]
                go_wp2_with fail
                go_roundw
                case rel => exact ⟨j + 1, by omega, by go_num, by rw [HNE.out, ← List.append_assoc], hbc⟩
                case measure => simp [intOf]; omega
          · obtain rfl : j = es.length := by omega
            rw [List.take_of_length_le (Nat.le_refl _)]
            go_wp2_with fail
            go_roundw
            case rel => exact ⟨k + 1, by omega, by go_num, by rw [HNX.out], hbb⟩
            case measure => simp [intOf]; omega
      · obtain rfl : k = s.voices.length := by omega
        rw [List.take_of_length_le (Nat.le_refl _)]
        have hlen := HOK.out.len
        have HBW := Lib.hid hbw
        have hli : (out.length : Int) ≤ ((ntsV s.voices).length : Int) := by omega
        have HFR := Lib.hid (fun (W : World) (hb : Below W4.heap.size W4 W) => from48_any _ _ A4 c4 s out W (HSV.out.lift hb) (NotesT.lift HNT.out hb) (fun x hx => (HOK.out.mem x).1 hx) (by omega) (by omega) (fun v hv => ⟨by have := (HV8.out v hv).1; omega, fun x hx => by have := (HV8.out v hv).2 x hx; omega⟩))
        clear hbw
        generalize (ntsV s.voices).length = nl at *
        go_upto_region 26 with (fail)
        clear z0 z1 HCSr
        go_loopw [14] (fun i wd => ∃ q : Nat, 1 ≤ q ∧ q ≤ out.length + 1 ∧ i = .int .i64 q ∧ Below W4.heap.size W4 wd) (fun i _ => out.length - (intOf i).toNat)
        case atStart => exact ⟨1, Nat.le_refl _, by omega, rfl, HBW.out⟩
        case round =>
          clear HBW
          rename World => wd
          obtain ⟨q0, hq1, hq, rfl, hbd⟩ := hrel
          obtain ⟨q, rfl⟩ : ∃ q, q0 = q + 1 := ⟨q0 - 1, by omega⟩
          by_cases hql : q + 1 < out.length
          · obtain ⟨b4, o4, x, rfl, _, _, g0, hxr⟩ := HNT.out.at_ (show q < out.length by omega)
            obtain ⟨b5, o5, y, e5, _, _, g1, hyr⟩ := HNT.out.at_ hql
            injection e5 with e5
            injection e5 with e5 e6 _
            subst e5 e6
            replace g0 := keep_cell g0 hbd
            replace g1 := keep_cell g1 hbd
            have hcm : cmpI (out[q]'(by omega)) (out[q + 1]'hql) < 0 := List.pairwise_iff_getElem.1 HOK.out.srt q (q + 1) (by omega) hql (by omega)
            have HCM := Lib.hid (fun (W : World) (hb : Below wd.heap.size wd W) => rowCompare_any x y (out[q]'(by omega)) (out[q + 1]'hql) W (((hxr.lift hbd).lift hb).row) (((hyr.lift hbd).lift hb).row))
            obtain ⟨AX, cx, rfl, _⟩ := hxr.shape
            obtain ⟨AY, cy, rfl, _⟩ := hyr.shape
            have HBD := Lib.hid hbd
            have hw1 : IntKind.i64.wrap (((q + 1 : Nat) : Int) - 1) = (q : Int) := by rw [show ((q + 1 : Nat) : Int) - 1 = (q : Int) by omega]; exact IntWalk.i64_in _ (by omega)
            have hw0 : IntKind.i64.wrap (q : Int) = (q : Int) := IntWalk.i64_in _ (by omega)
            have hi1 : (0 : Int) ≤ (q : Int) + 1 := by omega
            have hi2 : (q : Int) + 1 < (out.length : Int) := by omega
            have hi3 : (0 : Int) ≤ (q : Int) := by omega
            have hi4 : (q : Int) < (out.length : Int) := by omega
            have hcn : ¬ (0 : Int) ≤ cmpI (out[q]'(by omega)) (out[q + 1]'hql) := by omega
            clear hxr hyr hbd hcm
            generalize cmpI (out[q]'(by omega)) (out[q + 1]'hql) = z at *
            generalize (out[q]'(by omega)) = xr at *
            generalize (out[q + 1]'hql) = yr at *
            have hB : Below wd.heap.size wd wd.drew := below_to_drew (Below.refl _ _)
            go_wp2_with fail
            go_region_held3 (fun w' => w'.cell? ⟨b4, o4 + q, Option.none⟩ = some (.slice AX xr.length cx) ∧ w'.cell? ⟨b4, o4 + (q + 1), Option.none⟩ = some (.slice AY yr.length cy))
              (first | exact ⟨keep_cell g0 hB, keep_cell g1 hB⟩ | go_keep)
              ((first
                | (go_at_call 39; (with_reducible refine (HCM.out _ hB).mono ?_); rintro e wA ⟨rfl, hbk⟩; replace hB := hB.trans (hbk.mono hB.size); clear hbk)))
            all_goals
              have HBN := Lib.hid (HBD.out.trans (hB.mono HBD.out.size))
              clear hB
              go_wp2_with fail
              go_roundw
              case rel => exact ⟨q + 2, by omega, by omega, by go_num, HBN.out⟩
              case measure => simp [intOf]; omega
          · have HCSr := Lib.hid (HCS.out.below hbd HCS.out.lt)
            obtain ⟨z0, z1⟩ := cel2 HCSr.out
            have HBD := Lib.hid (HB.out.trans (hbd.mono HB.out.size))
            have hqi : ¬ ((q : Int) + 1 < (out.length : Int)) := by omega
            have HFR2 := Lib.hid (HFR.out wd hbd)
            clear hbd
            go_wp2_with fail
            refine HFR2.out.mono ?_
            rintro e w9 ⟨rfl, hb9⟩
            go_wp2_with fail
            go_ret
            exact ⟨rfl, HBD.out.trans (hb9.mono HBD.out.size)⟩

end Go.Proofs.YtphlodmdcmcjnaaGreatDoor
