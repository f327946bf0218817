/- ScoreSlices: the walk. (Printed by gen48.py.) -/
import Derived.Test.YtphlodmdcmcjnaaGreatDoorGXNSv
import Derived.Test.YtphlodmdcmcjnaaGreatDoorGXDMSv
import Derived.Test.YtphlodmdcmcjnaaGreatDoorMk48Sv
import Derived.Test.YtphlodmdcmcjnaaGreatDoorGXOSv
import Derived.Test.YtphlodmdcmcjnaaGreatDoorGXFSv
import Derived.Test.YtphlodmdcmcjnaaGreatDoorGXRSv
import Derived.BigQuiet
namespace Go.Proofs.YtphlodmdcmcjnaaGreatDoor
open Go.RowKit Go.Lib

set_option maxRecDepth 100000 in
set_option maxHeartbeats 8000000 in
theorem scSli_walk (n0 : Nat) (v0 : Value) (l0 : List (List Bt)) (w : World) (hS : Std w) (hL : ∃ m, w.cell? ⟨0, 0, Option.none⟩ = some (.int .i64 m)) (hn : n0 ≤ 255) (hv : PlA w v0 l0) :
    Calls Tryz.prog 5 #[.agg #[.int .u8 n0, v0]] w fun e w' => e = .returned (.bool true) ∧ Below w.heap.size w w' := by
  have HS := Lib.hid hS
  have HLI : Hid (LenIs w) := Lib.hid hL
  have HV0 := Lib.hid hv
  obtain ⟨A0, c0, rfl, hc01, hc02, _⟩ := hv
  unfold maxLen at hc02
  obtain ⟨W0, hW0⟩ : ∃ W0, W0 = (w.alloc (.cells #[.int .u8 n0, .slice A0 l0.length c0] 24)) := ⟨_, rfl⟩
  have hb0 : Below w.heap.size w W0 := by rw [hW0]; exact ((Below.refl w.heap.size w).alloc (Nat.le_refl _) _)
  have HPB : Hid (Cells W0 w.heap.size 24 [.int .u8 n0, .slice A0 l0.length c0]) := Lib.hid (by rw [hW0]; exact Cells.new w 24 #[.int .u8 n0, .slice A0 l0.length c0])
  have HB := Lib.hid hb0
  replace HS := Lib.hid (HS.out.below hb0 (Nat.le_refl _))
  replace HLI : Hid (LenIs W0) := Lib.hid (HLI.out.below hb0)
  replace HV0 := Lib.hid (HV0.out.lift hb0)
  clear hS hL hb0
  go_enter Tryz.func5, Tryz.ntmps5
  go_upto_region 1 with (fail)
  rw [← hW0]
  clear hW0
  obtain ⟨z0, z1⟩ := cel2 HPB.out
  go_wp2_with fail
  refine (known48 _ HS.out HLI.out).mono ?_
  rintro e w1 ⟨rfl, hb1⟩
  replace HPB := Lib.hid (HPB.out.below hb1 HPB.out.lt)
  replace HB := Lib.hid (HB.out.trans (hb1.mono HB.out.size))
  replace HS := Lib.hid (HS.out.below hb1 (Nat.le_refl _))
  replace HLI : Hid (LenIs w1) := Lib.hid (HLI.out.below hb1)
  replace HV0 := Lib.hid (HV0.out.lift hb1)
  clear z0 z1 hb1
  obtain ⟨z0, z1⟩ := cel2 HPB.out
  go_wp2_with fail
  refine (fits48_any n0 _ l0 _ HV0.out).mono ?_
  rintro e w2 ⟨rfl, hb2⟩
  replace HPB := Lib.hid (HPB.out.below hb2 HPB.out.lt)
  replace HB := Lib.hid (HB.out.trans (hb2.mono HB.out.size))
  replace HS := Lib.hid (HS.out.below hb2 (Nat.le_refl _))
  replace HLI : Hid (LenIs w2) := Lib.hid (HLI.out.below hb2)
  replace HV0 := Lib.hid (HV0.out.lift hb2)
  clear z0 z1 hb2
  cases hfit : fitsPl l0 with
  | false =>
    clear hfit
    go_wp2_with fail
    refine (known48 _ HS.out HLI.out).mono ?_
    rintro e w9 ⟨rfl, hb9⟩
    go_wp2_with fail
    go_ret
    exact ⟨rfl, HB.out.trans (hb9.mono HB.out.size)⟩
  | true =>
    have HMK := Lib.hid (fun W h1 h2 => make48_any n0 (.slice A0 l0.length c0) l0 W h1 hn h2 hfit)
    obtain ⟨s, hs⟩ : ∃ s, s = makeSc n0 l0 := ⟨_, rfl⟩
    obtain ⟨dss, hdss⟩ : ∃ dss, dss = dursOf l0 := ⟨_, rfl⟩
    have HSE : Box (scErr s = 0) := ⟨by rw [hs]; exact makeSc_err hfit⟩
    have HSM : Box (ScSm s) := ⟨by rw [hs]; exact makeSc_sm hfit⟩
    have HSH : Box (ShortV s.voices dss) := ⟨by rw [hs, hdss]; exact makeSc_times hfit⟩
    have HSL : Box (s.voices.length = l0.length ∧ l0.length ≤ 3) := ⟨by rw [hs]; exact ⟨(makeSc_len hfit), (fits_mem hfit).1⟩⟩
    have HSS : Box (s = makeSc n0 l0 ∧ dss = dursOf l0 ∧ fitsPl l0 = true) := ⟨⟨hs, hdss, hfit⟩⟩
    rw [← hs] at HMK
    clear hs hdss hfit
    obtain ⟨z0, z1⟩ := cel2 HPB.out
    go_wp2_with fail
    refine (HMK.out _ HS.out HV0.out).mono ?_
    rintro e w3 ⟨⟨pv, vv, rfl, hsv⟩, hb3⟩
    obtain ⟨W3, hW3⟩ : ∃ W3, W3 = w3.alloc (.cells #[pv, vv] 31) := ⟨_, rfl⟩
    have hba : Below w3.heap.size w3 W3 := by rw [hW3]; exact (Below.refl _ _).alloc (Nat.le_refl _) _
    obtain ⟨SB, hSB⟩ : ∃ SB, SB = w3.heap.size := ⟨_, rfl⟩
    have HCS : Hid (Cells W3 SB 31 [pv, vv]) := Lib.hid (by rw [hW3, hSB]; exact Cells.new w3 31 #[pv, vv])
    have hb33 := hb3.trans (hba.mono hb3.size)
    have HSV := Lib.hid (hsv.lift hba)
    replace HB := Lib.hid (HB.out.trans (hb33.mono HB.out.size))
    replace HS := Lib.hid (HS.out.below hb33 (Nat.le_refl _))
    replace HLI : Hid (LenIs W3) := Lib.hid (HLI.out.below hb33)
    obtain ⟨hpq, AV, cV, rfl, hcV1, hcV2, _⟩ := hsv
    obtain ⟨AP, cp, rfl, _⟩ := hpq.shape
    have hSBw : w.heap.size ≤ SB := by have := HB.out.size; have := HCS.out.lt; rw [hSB]; have h3 := hb3.size; have h4 := HPB.out.lt; omega
    unfold maxLen at hcV2
    clear hpq hba hb3 hb33 z0 z1 HPB HV0 HMK
    obtain ⟨sc0, sc1⟩ := cel2 HCS.out
    go_upto_region 4 with (fail)
    rw [← hW3, ← hSB]
    clear hW3 hSB
    go_wp2_with fail
    refine (scSlices_ok _ _ s dss W3 HS.out HSV.out HSM.out HSE.out HSH.out).mono ?_
    rintro e w4 ⟨⟨v4, rfl, hsl⟩, hb4⟩
    obtain ⟨A4, c4, rfl, hc41, hc42, ht4⟩ := hsl.shape
    have HT4 : Hid (SlT w4 w4.heap.size A4 (slcN dss)) := Lib.hid ht4
    clear hsl ht4 sc0 sc1
    replace HCS := Lib.hid (HCS.out.below hb4 HCS.out.lt)
    replace HSV := Lib.hid (HSV.out.lift hb4)
    replace HB := Lib.hid (HB.out.trans (hb4.mono HB.out.size))
    replace HS := Lib.hid (HS.out.below hb4 (Nat.le_refl _))
    replace HLI : Hid (LenIs w4) := Lib.hid (HLI.out.below hb4)
    clear hb4
    have HFIN : Box ((slcN dss).length = (insTo (dss.map strt) s.voices.length).length - 1 ∧ (insTo (dss.map strt) s.voices.length).length ≤ 1001000 ∧ ∀ i, i < (insTo (dss.map strt) s.voices.length).length - 1 → ∃ a b, (insTo (dss.map strt) s.voices.length)[i]? = some a ∧ (insTo (dss.map strt) s.voices.length)[i + 1]? = some b ∧ a ≤ 1000000 ∧ (slcN dss)[i]? = some (a, b, sndN (dss.map strt) a) ∧ (sndN (dss.map strt) a).length ≤ 10000000) := ⟨sli_fin HSH.out⟩
    have HLE : Box (∀ k, k ≤ s.voices.length → (insTo (dss.map strt) k).length ≤ k * 1001) := ⟨sli_len HSH.out⟩
    have HVS : Box (∀ k (hk : k < s.voices.length), ∃ ds, dss[k]? = some ds ∧ TimesOf (s.voices[k]'hk).evs ds ∧ ds.sum ≤ 1000000 ∧ (s.voices[k]'hk).evs.length ≤ 1000 ∧ (strt ds).length = (s.voices[k]'hk).evs.length + 1 ∧ insTo (dss.map strt) (k + 1) = insAll (insTo (dss.map strt) k) (strt ds) ∧ ∀ x ∈ strt ds, x ≤ 1000000) := ⟨sli_voice HSH.out⟩
    have HIB : Box (∀ k, ∀ x ∈ insTo (dss.map strt) k, x ≤ 1000000) := ⟨sli_bd HSH.out⟩
    have HAT := Lib.hid (fun (a : Nat) W (ha : a ≤ 1000000) h1 h2 => at48_any (.slice AP s.primes.length cp) (.slice AV s.voices.length cV) s dss (t12n a) (t12d a) (fun x => cmpN x a) (fun b => cmpN a b) W h1 h2 HSH.out (fun x => by unfold cmpN; split; exact .inl rfl; split; exact .inr (.inl rfl); exact .inr (.inr rfl)) (Lib.hid fun x W hx _ => tCmp_any x a W hx ha) (Lib.hid fun x W hx _ => tCmp_any a x W ha hx))
    simp only [snd_cmp] at HAT
    generalize slcN dss = sl at *
    obtain ⟨W4, hW4⟩ : ∃ W4, W4 = w4 := ⟨_, rfl⟩
    rw [← hW4] at HT4 HCS HSV HB HS HLI ⊢
    clear hW4
    have HSLL : Box (sl.length ≤ 1001000) := ⟨by have := HFIN.out.1; have := HFIN.out.2.1; omega⟩
    generalize hall : dss.map strt = all at *
    clear hall
    generalize hins : insTo all = ito at *
    have HI0 : Box (ito 0 = []) := ⟨by rw [← hins]; rfl⟩
    clear hins
    go_upto_region 7 with (fail)
    go_loopw [6, 7] (fun o i wr => ∃ k : Nat, k ≤ s.voices.length ∧ i = .int .i64 k ∧ TmO wr 0 o (ito k) ∧ Below W4.heap.size W4 wr) (fun _ i _ => s.voices.length - (intOf i).toNat)
    case atStart => exact ⟨0, Nat.zero_le _, rfl, by rw [HI0.out]; exact ⟨[], LO.nil _ _⟩, Below.refl _ _⟩
    case round =>
      obtain ⟨k, hk, rfl, ht, hbw⟩ := hrel
      have HCSr := Lib.hid (HCS.out.below hbw HCS.out.lt)
      have HSVr := Lib.hid (HSV.out.lift hbw)
      have HSr := Lib.hid (HS.out.below hbw (Nat.le_refl _))
      have HBr := Lib.hid (HB.out.trans (hbw.mono HB.out.size))
      obtain ⟨sc0, sc1⟩ := cel2 HCSr.out
      by_cases hlt : k < s.voices.length
      · obtain ⟨_, A9, c9, e9, _, _, hVs⟩ := HSVr.out
        obtain ⟨b1, o1, A1, C1, e8, hb1, _, q0, q1, _, _, hev⟩ := hVs.at_ hlt
        have e7 := (Value.slice.inj e9).1
        subst e7
        subst e8
        obtain ⟨ds, hdk, hto, hsm, hel, hsl2, hnx, hbd⟩ := HVS.out k hlt
        have HNX : Box (ito (k + 1) = insAll (ito k) (strt ds)) := ⟨hnx⟩
        have HBD : Box (∀ x ∈ strt ds, x ≤ 1000000) := ⟨hbd⟩
        have hitl := HLE.out k hk
        have HSTB : Box (∀ x ∈ ito k, x ≤ 1000000) := ⟨HIB.out k⟩
        have hli : (k : Int) < (s.voices.length : Int) := by omega
        generalize s.voices[k]'hlt = v at *
        obtain ⟨nm, es⟩ := v
        dsimp only at *
        have HST := Lib.hid (starts48_any nm A1 C1 es ds _ HSr.out hev hto hsm (by omega))
        have HITL : Box ((ito k).length ≤ 4000) := ⟨by have := HSL.out; omega⟩
        have HSN : Box ((strt ds).length ≤ 1001) := ⟨by omega⟩
        have HT := Lib.hid ht
        clear hev hto hdk hb1 hVs e9 hbd hnx ht hsl2 hitl
        generalize strt ds = l at *
        generalize ito k = st at *
        go_wp2_with fail
        refine HST.out.mono ?_
        rintro e w8 ⟨⟨v3, rfl, ht3⟩, hb8⟩
        obtain ⟨A3, c3, rfl, _, _, h3t⟩ := ht3.shape
        have HT3 := Lib.hid h3t
        replace HT := Lib.hid (HT.out.below hb8)
        replace HBr := Lib.hid (HBr.out.trans (hb8.mono HBr.out.size))
        have hbw8 := hbw.trans (hb8.mono hbw.size)
        have HBW := Lib.hid hbw8
        clear ht3 h3t hb8 hbw hbw8 HST sc0 sc1 q0 q1 HSVr HCSr
        obtain ⟨W8, hW8⟩ : ∃ W8, W8 = w8 := ⟨_, rfl⟩
        rw [← hW8] at HT3 HT HBr HBW ⊢
        clear hW8
        have HS8 := Lib.hid (HS.out.below HBW.out (Nat.le_refl _))
        go_upto_region 10 with (fail)
        go_loopw [6, 41] (fun o i wy => ∃ j : Nat, j ≤ l.length ∧ i = .int .i64 j ∧ TmO wy 0 o (insAll st (l.take j)) ∧ Below W8.heap.size W8 wy) (fun _ i _ => l.length - (intOf i).toNat)
        case atStart => exact ⟨0, Nat.zero_le _, rfl, HT.out, Below.refl _ _⟩
        case round =>
          clear HT
          rename World => wy
          obtain ⟨j, hj, rfl, ht, hby⟩ := hrel
          by_cases hjl : j < l.length
          · have hlj := List.getElem?_eq_getElem hjl
            obtain ⟨b4, o4, rfl, hb4, p0, p1⟩ := TmT.at_ (TmT.lift HT3.out hby) hlj
            clear hb4
            have htl : l[j]'hjl ≤ 1000000 := HBD.out _ (List.getElem_mem hjl)
            have HNI : Box (insAll st (l.take (j + 1)) = insD (l[j]'hjl) (insAll st (l.take j))) := ⟨insAll_next hlj⟩
            have hcl : (insAll st (l.take j)).length ≤ 5001 := by have h1 := insTo_len_le (l := st) (ts := l.take j); have := HITL.out; have := HSN.out; rw [List.length_take] at h1; omega
            have HCB : Box (∀ x ∈ insAll st (l.take j), x ≤ 1000000) := ⟨fun x hx => (insAll_mem.1 hx).elim (fun h => HBD.out x (List.mem_of_mem_take h)) (fun h => HSTB.out x h)⟩
            have hji : (j : Int) < (l.length : Int) := by omega
            have hj0 : (0 : Int) ≤ (j : Int) := by omega
            have HT := Lib.hid ht
            have HBY := Lib.hid hby
            clear hlj ht hby
            generalize l[j]'hjl = t at *
            generalize insAll st (l.take j) = cu at *
            obtain ⟨tn, htn⟩ : ∃ tn, tn = t12n t := ⟨_, rfl⟩
            obtain ⟨td, htd⟩ : ∃ td, td = t12d t := ⟨_, rfl⟩
            rw [← htn] at p0
            rw [← htd] at p1
            have HTT : Box (tn = t12n t ∧ td = t12d t) := ⟨⟨htn, htd⟩⟩
            clear htn htd
            go_upto_region 11 with (fail)
            obtain ⟨W9, hW9⟩ : ∃ W9, W9 = wy.alloc (.cells #[.string ⟨tn.toArray⟩, .string ⟨td.toArray⟩] 55) := ⟨_, rfl⟩
            have hba : Below wy.heap.size wy W9 := by rw [hW9]; exact (Below.refl _ _).alloc (Nat.le_refl _) _
            obtain ⟨TB, hTB⟩ : ∃ TB, TB = wy.heap.size := ⟨_, rfl⟩
            have HTB : Hid (Cells W9 TB 55 [.string ⟨tn.toArray⟩, .string ⟨td.toArray⟩]) := Lib.hid (by rw [hW9, hTB]; exact Cells.new wy 55 #[.string ⟨tn.toArray⟩, .string ⟨td.toArray⟩])
            replace HT := Lib.hid (HT.out.below hba)
            replace HBY := Lib.hid (HBY.out.trans (hba.mono HBY.out.size))
            clear hba
            go_upto_region 12 with (fail)
            rw [← hW9, ← hTB]
            clear hW9 hTB p0 p1
            have HS9 := Lib.hid (HS8.out.below HBY.out (Nat.le_refl _))
            go_upto_region 13 with (fail)
            have hown := HT.out.own
            rcases hown.2 with ⟨hnil, hn0⟩ | ⟨g, cap, cur, hval, _, _, hcap1, hcap2, _⟩
            · obtain rfl : cu = [] := List.eq_nil_of_length_eq_zero hn0
              subst hnil
              have HNJ : Box (insD t [] = [t]) := ⟨rfl⟩
              rw [HNJ.out] at HNI
              clear HT hown hcl HNJ
              go_loopw [10] (fun i wx => i = .int .i64 0 ∧ wx = W9) (fun i _ => 0)
              case atStart => exact ⟨rfl, rfl⟩
              case round =>
                obtain ⟨rfl, rfl⟩ := hrel
                obtain ⟨y0, y1⟩ := cel2 HTB.out
                go_wp2_with fail
                go_region
                go_wp2_with fail
                go_region
                go_wp2_with fail
                obtain ⟨V, hV⟩ : ∃ V, V = wr.drew.drew := ⟨_, rfl⟩
                have hbv : Below wr.heap.size wr V := by rw [hV]; exact below_to_drew (below_to_drew (Below.refl _ _))
                rw [← hV]
                replace HTB := Lib.hid (HTB.out.below hbv HTB.out.lt)
                replace HBY := Lib.hid (HBY.out.trans (hbv.mono HBY.out.size))
                clear hbv hV y0 y1
                obtain ⟨y0, y1⟩ := cel2 HTB.out
                obtain ⟨q1, hq1⟩ : ∃ q : List Nat, q = ([] : List Nat).take 0 := ⟨_, rfl⟩
                obtain ⟨q2, hq2⟩ : ∃ q : List Nat, q = ([] : List Nat).drop 0 := ⟨_, rfl⟩
                have HU1 : Hid (∀ W, Below V.heap.size V W → (((Value.slice Option.none 0 0) = .slice Option.none 0 0 ∧ q1 = []) ∨ ∃ ad c, (Value.slice Option.none 0 0) = .slice (some ad) q1.length c ∧ ∀ (j : Nat) y, (flatT q1)[j]? = some y → W.cell? (ad.add j) = some y)) := Lib.hid fun W hb => by rw [hq1]; exact (.inl ⟨rfl, rfl⟩)
                have HU2 : Hid (∀ W, Below V.heap.size V W → (((Value.slice Option.none 0 0) = .slice Option.none 0 0 ∧ q2 = []) ∨ ∃ ad c, (Value.slice Option.none 0 0) = .slice (some ad) q2.length c ∧ ∀ (j : Nat) y, (flatT q2)[j]? = some y → W.cell? (ad.add j) = some y)) := Lib.hid fun W hb => by rw [hq2]; exact (.inl ⟨rfl, rfl⟩)
                have HCELL : Box (flatT [t] = [.string ⟨tn.toArray⟩, .string ⟨td.toArray⟩]) := ⟨by rw [HTT.out.1, HTT.out.2]; rfl⟩
                have HINS : Box (([] ++ q1 ++ [t]) ++ q2 = insD t ([])) := ⟨by rw [hq1, hq2]; rfl⟩
                have HTAK : Box (q1.length ≤ 5001 ∧ q2.length ≤ 5001) := ⟨by rw [hq1, hq2, List.length_take, List.length_drop]; simp⟩
                clear hq1 hq2
                have u0 := keep_cell y0 ((Below.refl V.heap.size V).alloc (Nat.le_refl _) (.cells #[] 55))
                have u1 := keep_cell y1 ((Below.refl V.heap.size V).alloc (Nat.le_refl _) (.cells #[] 55))
                go_region_law (first
                  | (refine step_append_T (by rfl) (.tmp 72) (.tmp 75) (by rfl) V.heap.size (.slice (some ⟨V.heap.size, 0, Option.none⟩) 0 0) _ [] (q1) (by rfl) ?own (by rfl) (HU1.out _ ?bel) (by have := HTAK.out.1; simp only [List.length_nil]; omega) ?siz ?_
                     case own => first | exact World.ownsRow_lit V #[] 0 (by simp) (by decide) rfl | exact (World.ownsRow_lit V #[] 0 (by simp) (by decide) rfl).alloc _
                     case siz => first | (simp; done) | (simp; omega)
                     case bel => first | exact below_to_drew ((Below.refl V.heap.size V).alloc (Nat.le_refl _) _) | exact below_to_drew (((Below.refl V.heap.size V).alloc (Nat.le_refl _) _).alloc (by simp) _)
                     intro vA wA hownA hbA hkA
                     have hBA : Below V.heap.size V wA := by first | exact (below_to_drew ((Below.refl V.heap.size V).alloc (Nat.le_refl _) _)).trans hbA | exact (below_to_drew (((Below.refl V.heap.size V).alloc (Nat.le_refl _) _).alloc (by simp) _)).trans hbA
                     have a0 := keep_cell y0 hBA
                     have a1 := keep_cell y1 hBA)
                  | (refine step_append_T (by rfl) (.tmp 72) (.tmp 75) (by rfl) V.heap.size (.slice (some ⟨V.heap.size + 1, 0, Option.none⟩) 0 0) _ [] (q1) (by rfl) ?own (by rfl) (HU1.out _ (below_to_drew (((Below.refl V.heap.size V).alloc (Nat.le_refl _) _).alloc (by simp) _))) (by have := HTAK.out.1; simp only [List.length_nil]; omega) ?siz ?_
                     case own => exact own_second V _ _ (by simp)
                     case siz => first | (simp; done) | (simp; omega)
                     intro vA wA hownA hbA hkA
                     have hBA : Below V.heap.size V wA := (below_to_drew (((Below.refl V.heap.size V).alloc (Nat.le_refl _) _).alloc (by simp) _)).trans hbA
                     have a0 := keep_cell y0 hBA
                     have a1 := keep_cell y1 hBA)
                  | (refine step_append_T (by rfl) (.tmp 76) (.tmp 78) (by rfl) V.heap.size _ _ ([] ++ q1) [t] (by rfl) ?own (by rfl) (.inr ⟨_, _, rfl, ?cells⟩) (by have := HTAK.out.1; simp only [List.nil_append, List.length_cons, List.length_nil]; omega) ?siz ?_
                     case own => first | exact hownA.alloc _ | exact hownA
                     case cells => rw [HCELL.out]; first | exact World.news_of_block (cs := #[.string ⟨tn.toArray⟩, .string ⟨td.toArray⟩]) (heap_alloc_new wA _) | exact World.news_of_block (cs := #[.string ⟨tn.toArray⟩, .string ⟨td.toArray⟩]) (t := 55) (fr := (0, 0)) ((hkA _ (by first | (simp; done) | (simp; omega)) (by simp [Value.ownBlock])).trans (heap_second V _ _)) | exact World.news_of_block (cs := #[.string ⟨tn.toArray⟩, .string ⟨td.toArray⟩]) (t := 55) (fr := (0, 0)) ((hkA _ (by first | (simp; done) | (simp; omega)) (by simp [Value.ownBlock])).trans (heap_first V _ _))
                     case siz => first | exact Nat.le_trans hBA.size (by simp) | exact hBA.size
                     intro vB wB hownB hbB hkB
                     have hBB : Below V.heap.size V wB := by first | exact (hBA.alloc hBA.size _).trans hbB | exact hBA.trans hbB)
                  | (refine step_append_T (by rfl) (.tmp 79) (.tmp 82) (by rfl) V.heap.size _ _ ([] ++ q1 ++ [t]) q2 (by rfl) hownB (by rfl) (HU2.out _ hBB) (by have := HTAK.out; simp only [List.nil_append, List.length_append, List.length_cons, List.length_nil]; omega) hBB.size ?_
                     intro vC wC hownC hbC hkC
                     have hBC := hBB.trans hbC))
                all_goals
                  have HTN : Hid (TmO wC 0 vC (insD t ([]))) := Lib.hid (TmO.of_own (by rw [← HINS.out]; exact own_base hownC (Nat.zero_le _)))
                  have HBN := Lib.hid (HBY.out.trans (hBC.mono HBY.out.size))
                  clear hownA hownB hownC hbA hbB hbC hkA hkB hkC hBA hBB hBC y0 y1 u0 u1 a0 a1
                  have hjb := HSN.out
                  go_wp2_with fail
                  go_roundw
                  case rel => exact ⟨j + 1, by omega, by go_num, by rw [HNI.out]; exact HTN.out, HBN.out⟩
                  case measure => simp [intOf]; omega
            · subst hval
              have HOW := Lib.hid hown
              have HTC : Hid (TmT W9 W9.heap.size (some ⟨g, 0, Option.none⟩) cu) := Lib.hid (by obtain ⟨A7, c7, e7, _, _, h7⟩ := HT.out.shape; have e6 := (Value.slice.inj e7).1; rw [e6]; exact h7)
              clear HT hown
              go_loopw [10] (fun i wx => ∃ m : Nat, m ≤ posD t cu ∧ i = .int .i64 m ∧ Below W9.heap.size W9 wx) (fun i _ => cu.length - (intOf i).toNat)
              case atStart => exact ⟨0, Nat.zero_le _, rfl, Below.refl _ _⟩
              case round =>
                rename World => wx
                obtain ⟨m, hm, rfl, hbx⟩ := hrel
                have hpl := posD_le t cu
                have HTX := Lib.hid (TmT.lift HTC.out hbx)
                have HTBx := Lib.hid (HTB.out.below hbx HTB.out.lt)
                have HSx := Lib.hid (HS9.out.below hbx (Nat.le_refl _))
                have HBX := Lib.hid hbx
                obtain ⟨y0, y1⟩ := cel2 HTBx.out
                have hB : Below wx.heap.size wx wx.drew := below_to_drew (Below.refl _ _)
                clear hbx
                by_cases hml : m < cu.length
                · obtain ⟨b5, o5, e5, hb5, x0, x1⟩ := TmT.at_ HTX.out (List.getElem?_eq_getElem hml)
                  injection e5 with e5
                  injection e5 with e5 e6 _
                  subst e5 e6
                  have hal : cu[m]'hml ≤ 1000000 := HCB.out _ (List.getElem_mem hml)
                  have HCM := Lib.hid (fun W => tCmp_any (cu[m]'hml) t W hal htl)
                  have HLT : Box (cmpN (cu[m]'hml) t < 0 ↔ cu[m]'hml < t) := ⟨cmpN_lt48⟩
                  have hmi : (m : Int) < (cu.length : Int) := by omega
                  have hm0 : (0 : Int) ≤ (m : Int) := by omega
                  rw [← HTT.out.1, ← HTT.out.2] at HCM
                  clear hb5
                  rw [Nat.zero_add] at x0 x1
                  by_cases hlt : cu[m]'hml < t
                  · have hcm : cmpN (cu[m]'hml) t < 0 := HLT.out.2 hlt
                    have hmp := posD_next hm hml hlt
                    clear HLT hlt
                    generalize cmpN (cu[m]'hml) t = cv at *
                    generalize cu[m]'hml = a at *
                    go_wp2_with fail
                    go_region_held3 (fun w' => w'.cell? ⟨g, m * 2, Option.none⟩ = some (.string ⟨(t12n a).toArray⟩) ∧ w'.cell? ⟨g, m * 2 + 1, Option.none⟩ = some (.string ⟨(t12d a).toArray⟩) ∧ w'.cell? ⟨TB, 0, Option.none⟩ = some (.string ⟨tn.toArray⟩) ∧ w'.cell? ⟨TB, 1, Option.none⟩ = some (.string ⟨td.toArray⟩))
          (first | exact ⟨keep_cell x0 hB, keep_cell x1 hB, keep_cell y0 hB, keep_cell y1 hB⟩ | go_keep)
          ((first
            | (go_at_call 23; (with_reducible refine (HCM.out _).mono ?_); rintro e wA ⟨rfl, hbk⟩; replace hB := hB.trans (hbk.mono hB.size); clear hbk)))
                    have HBN := Lib.hid (HBX.out.trans (hB.mono HBX.out.size))
                    clear hB
                    go_wp2_with fail
                    go_roundw
                    case rel => exact ⟨m + 1, hmp, by go_num, HBN.out⟩
                    case measure => simp [intOf]; omega
                  · have hcm : ¬ cmpN (cu[m]'hml) t < 0 := fun h => hlt (HLT.out.1 h)
                    obtain rfl := posD_here hm hml hlt
                    have HEA : Box (cu[posD t cu]? = some (cu[posD t cu]'hml)) := ⟨List.getElem?_eq_getElem hml⟩
                    clear HLT hlt
                    generalize cmpN (cu[posD t cu]'hml) t = cv at *
                    generalize cu[posD t cu]'hml = a at *
                    go_wp2_with fail
                    go_region_held3 (fun w' => w'.cell? ⟨g, posD t cu * 2, Option.none⟩ = some (.string ⟨(t12n a).toArray⟩) ∧ w'.cell? ⟨g, posD t cu * 2 + 1, Option.none⟩ = some (.string ⟨(t12d a).toArray⟩) ∧ w'.cell? ⟨TB, 0, Option.none⟩ = some (.string ⟨tn.toArray⟩) ∧ w'.cell? ⟨TB, 1, Option.none⟩ = some (.string ⟨td.toArray⟩))
          (first | exact ⟨keep_cell x0 hB, keep_cell x1 hB, keep_cell y0 hB, keep_cell y1 hB⟩ | go_keep)
          ((first
            | (go_at_call 23; (with_reducible refine (HCM.out _).mono ?_); rintro e wA ⟨rfl, hbk⟩; replace hB := hB.trans (hbk.mono hB.size); clear hbk)))
                    replace HBX := Lib.hid (HBX.out.trans (hB.mono HBX.out.size))
                    replace HTBx := Lib.hid (HTBx.out.below hB HTBx.out.lt)
                    replace HTX := Lib.hid (TmT.lift HTX.out hB)
                    have r0 := keep_cell x0 hB
                    have r1 := keep_cell x1 hB
                    have s0 := keep_cell y0 hB
                    have s1 := keep_cell y1 hB
                    clear hB x0 x1 y0 y1
                    have hpc : posD t cu ≤ cap := by omega
                    have hpd : decide (posD t cu = cu.length) = false := decide_eq_false (by omega)
                    have hpe : decide ((posD t cu : Int) = (cu.length : Int)) = false := decide_eq_false (by omega)
                    have hpi : (posD t cu : Int) < (cu.length : Int) := by omega
                    have hpq : ((posD t cu : Int) == (cu.length : Int)) = false := by rw [beq_eq_false_iff_ne]; omega
                    have hpr : (posD t cu == cu.length) = false := by rw [beq_eq_false_iff_ne]; omega
                    have hps : ¬ posD t cu = cu.length := by omega
                    have hpt : ¬ (posD t cu : Int) = (cu.length : Int) := by omega
                    by_cases hat : a = t
                    · have hne : ∀ W, (binOp .neq 55 (.agg #[.string ⟨(t12n a).toArray⟩, .string ⟨(t12d a).toArray⟩]) (.agg #[.string ⟨tn.toArray⟩, .string ⟨td.toArray⟩])).run Tryz.prog W = .ok (.bool false) W := fun W => by rw [rat_neq, HTT.out.1, HTT.out.2, t12_beq, decide_eq_true hat]; rfl
                      have HOLD : Box (insD t cu = cu) := ⟨insD_old (by rw [HEA.out, hat])⟩
                      have hjb := HSN.out
                      clear hat
                      have hB : Below wA.heap.size wA wA.drew := below_to_drew (Below.refl _ _)
                      go_wp2_with fail
                      go_region_held3 (fun w' => w'.cell? ⟨g, posD t cu * 2, Option.none⟩ = some (.string ⟨(t12n a).toArray⟩) ∧ w'.cell? ⟨g, posD t cu * 2 + 1, Option.none⟩ = some (.string ⟨(t12d a).toArray⟩) ∧ w'.cell? ⟨TB, 0, Option.none⟩ = some (.string ⟨tn.toArray⟩) ∧ w'.cell? ⟨TB, 1, Option.none⟩ = some (.string ⟨td.toArray⟩))
          (first | exact ⟨keep_cell r0 hB, keep_cell r1 hB, keep_cell s0 hB, keep_cell s1 hB⟩ | go_keep)
          ((first
            | fail))
                      go_wp2_with fail
                      have hbd := below_to_drew (Below.refl wA.heap.size wA)
                      go_roundw
                      case rel => exact ⟨j + 1, by omega, by go_num, by rw [HNI.out, HOLD.out]; exact ((TmO.of_own (own_base HOW.out (Nat.zero_le _))).below HBX.out).below hbd, (HBY.out.trans (HBX.out.mono HBY.out.size)).trans (hbd.mono (HBY.out.trans (HBX.out.mono HBY.out.size)).size)⟩
                      case measure => simp [intOf]; omega
                    · have hne : ∀ W, (binOp .neq 55 (.agg #[.string ⟨(t12n a).toArray⟩, .string ⟨(t12d a).toArray⟩]) (.agg #[.string ⟨tn.toArray⟩, .string ⟨td.toArray⟩])).run Tryz.prog W = .ok (.bool true) W := fun W => by rw [rat_neq, HTT.out.1, HTT.out.2, t12_beq, decide_eq_false hat]; rfl
                      have HNEW : Box (cu[posD t cu]? ≠ some t) := ⟨by rw [HEA.out]; exact fun h => hat (Option.some.inj h)⟩
                      have hcp : ¬ cap = posD t cu := by omega
                      clear hat
                      have hB : Below wA.heap.size wA wA.drew := below_to_drew (Below.refl _ _)
                      go_wp2_with fail
                      go_region_held3 (fun w' => w'.cell? ⟨g, posD t cu * 2, Option.none⟩ = some (.string ⟨(t12n a).toArray⟩) ∧ w'.cell? ⟨g, posD t cu * 2 + 1, Option.none⟩ = some (.string ⟨(t12d a).toArray⟩) ∧ w'.cell? ⟨TB, 0, Option.none⟩ = some (.string ⟨tn.toArray⟩) ∧ w'.cell? ⟨TB, 1, Option.none⟩ = some (.string ⟨td.toArray⟩))
          (first | exact ⟨keep_cell r0 hB, keep_cell r1 hB, keep_cell s0 hB, keep_cell s1 hB⟩ | go_keep)
          ((first
            | fail))
                      obtain ⟨V, hV⟩ : ∃ V, V = wA.drew := ⟨_, rfl⟩
                      have hbv : Below wA.heap.size wA V := by rw [hV]; exact below_to_drew (Below.refl _ _)
                      rw [← hV]
                      replace HTB := Lib.hid (HTBx.out.below hbv HTBx.out.lt)
                      have HTV : Hid (TmT V V.heap.size (some ⟨g, 0, Option.none⟩) cu) := Lib.hid (TmT.lift HTX.out hbv)
                      replace HBY := Lib.hid (HBY.out.trans ((HBX.out.trans (hbv.mono HBX.out.size)).mono HBY.out.size))
                      clear hbv hV r0 r1 s0 s1 hB
                      go_wp2_with fail
                      obtain ⟨y0, y1⟩ := cel2 HTB.out
                      obtain ⟨q1, hq1⟩ : ∃ q : List Nat, q = (cu : List Nat).take (posD t cu) := ⟨_, rfl⟩
                      obtain ⟨q2, hq2⟩ : ∃ q : List Nat, q = (cu : List Nat).drop (posD t cu) := ⟨_, rfl⟩
                      have HU1 : Hid (∀ W, Below V.heap.size V W → (((Value.slice (some ⟨g, 0, Option.none⟩) (posD t cu) cap) = .slice Option.none 0 0 ∧ q1 = []) ∨ ∃ ad c, (Value.slice (some ⟨g, 0, Option.none⟩) (posD t cu) cap) = .slice (some ad) q1.length c ∧ ∀ (j : Nat) y, (flatT q1)[j]? = some y → W.cell? (ad.add j) = some y)) := Lib.hid fun W hb => by rw [hq1]; exact (.inr ⟨_, _, by rw [List.length_take, Nat.min_eq_left (posD_le t cu)], TmT.cells (LT.take (TmT.lift HTV.out hb) _)⟩)
                      have HU2 : Hid (∀ W, Below V.heap.size V W → (((Value.slice (some ⟨g, posD t cu * 2, Option.none⟩) (cu.length - posD t cu) (cap - posD t cu)) = .slice Option.none 0 0 ∧ q2 = []) ∨ ∃ ad c, (Value.slice (some ⟨g, posD t cu * 2, Option.none⟩) (cu.length - posD t cu) (cap - posD t cu)) = .slice (some ad) q2.length c ∧ ∀ (j : Nat) y, (flatT q2)[j]? = some y → W.cell? (ad.add j) = some y)) := Lib.hid fun W hb => by rw [hq2]; exact (.inr ⟨_, _, by rw [List.length_drop], TmT.cells (by have h9 := LT.dropAt (TmT.lift HTV.out hb) (posD t cu); rwa [Nat.zero_add] at h9)⟩)
                      have HCELL : Box (flatT [t] = [.string ⟨tn.toArray⟩, .string ⟨td.toArray⟩]) := ⟨by rw [HTT.out.1, HTT.out.2]; rfl⟩
                      have HINS : Box (([] ++ q1 ++ [t]) ++ q2 = insD t (cu)) := ⟨by rw [hq1, hq2]; rw [insD_new (.inr HNEW.out)]; simp⟩
                      have HTAK : Box (q1.length ≤ 5001 ∧ q2.length ≤ 5001) := ⟨by rw [hq1, hq2, List.length_take, List.length_drop]; omega⟩
                      clear hq1 hq2
                      have u0 := keep_cell y0 ((Below.refl V.heap.size V).alloc (Nat.le_refl _) (.cells #[] 55))
                      have u1 := keep_cell y1 ((Below.refl V.heap.size V).alloc (Nat.le_refl _) (.cells #[] 55))
                      go_region_law (first
                        | (refine step_append_T (by rfl) (.tmp 72) (.tmp 75) (by rfl) V.heap.size (.slice (some ⟨V.heap.size, 0, Option.none⟩) 0 0) _ [] (q1) (by rfl) ?own (by rfl) (HU1.out _ ?bel) (by have := HTAK.out.1; simp only [List.length_nil]; omega) ?siz ?_
                           case own => first | exact World.ownsRow_lit V #[] 0 (by simp) (by decide) rfl | exact (World.ownsRow_lit V #[] 0 (by simp) (by decide) rfl).alloc _
                           case siz => first | (simp; done) | (simp; omega)
                           case bel => first | exact below_to_drew ((Below.refl V.heap.size V).alloc (Nat.le_refl _) _) | exact below_to_drew (((Below.refl V.heap.size V).alloc (Nat.le_refl _) _).alloc (by simp) _)
                           intro vA wA hownA hbA hkA
                           have hBA : Below V.heap.size V wA := by first | exact (below_to_drew ((Below.refl V.heap.size V).alloc (Nat.le_refl _) _)).trans hbA | exact (below_to_drew (((Below.refl V.heap.size V).alloc (Nat.le_refl _) _).alloc (by simp) _)).trans hbA
                           have a0 := keep_cell y0 hBA
                           have a1 := keep_cell y1 hBA)
                        | (refine step_append_T (by rfl) (.tmp 72) (.tmp 75) (by rfl) V.heap.size (.slice (some ⟨V.heap.size + 1, 0, Option.none⟩) 0 0) _ [] (q1) (by rfl) ?own (by rfl) (HU1.out _ (below_to_drew (((Below.refl V.heap.size V).alloc (Nat.le_refl _) _).alloc (by simp) _))) (by have := HTAK.out.1; simp only [List.length_nil]; omega) ?siz ?_
                           case own => exact own_second V _ _ (by simp)
                           case siz => first | (simp; done) | (simp; omega)
                           intro vA wA hownA hbA hkA
                           have hBA : Below V.heap.size V wA := (below_to_drew (((Below.refl V.heap.size V).alloc (Nat.le_refl _) _).alloc (by simp) _)).trans hbA
                           have a0 := keep_cell y0 hBA
                           have a1 := keep_cell y1 hBA)
                        | (refine step_append_T (by rfl) (.tmp 76) (.tmp 78) (by rfl) V.heap.size _ _ ([] ++ q1) [t] (by rfl) ?own (by rfl) (.inr ⟨_, _, rfl, ?cells⟩) (by have := HTAK.out.1; simp only [List.nil_append, List.length_cons, List.length_nil]; omega) ?siz ?_
                           case own => first | exact hownA.alloc _ | exact hownA
                           case cells => rw [HCELL.out]; first | exact World.news_of_block (cs := #[.string ⟨tn.toArray⟩, .string ⟨td.toArray⟩]) (heap_alloc_new wA _) | exact World.news_of_block (cs := #[.string ⟨tn.toArray⟩, .string ⟨td.toArray⟩]) (t := 55) (fr := (0, 0)) ((hkA _ (by first | (simp; done) | (simp; omega)) (by simp [Value.ownBlock])).trans (heap_second V _ _)) | exact World.news_of_block (cs := #[.string ⟨tn.toArray⟩, .string ⟨td.toArray⟩]) (t := 55) (fr := (0, 0)) ((hkA _ (by first | (simp; done) | (simp; omega)) (by simp [Value.ownBlock])).trans (heap_first V _ _))
                           case siz => first | exact Nat.le_trans hBA.size (by simp) | exact hBA.size
                           intro vB wB hownB hbB hkB
                           have hBB : Below V.heap.size V wB := by first | exact (hBA.alloc hBA.size _).trans hbB | exact hBA.trans hbB)
                        | (refine step_append_T (by rfl) (.tmp 79) (.tmp 82) (by rfl) V.heap.size _ _ ([] ++ q1 ++ [t]) q2 (by rfl) hownB (by rfl) (HU2.out _ hBB) (by have := HTAK.out; simp only [List.nil_append, List.length_append, List.length_cons, List.length_nil]; omega) hBB.size ?_
                           intro vC wC hownC hbC hkC
                           have hBC := hBB.trans hbC))
                      all_goals
                        have HTN : Hid (TmO wC 0 vC (insD t (cu))) := Lib.hid (TmO.of_own (by rw [← HINS.out]; exact own_base hownC (Nat.zero_le _)))
                        have HBN := Lib.hid (HBY.out.trans (hBC.mono HBY.out.size))
                        clear hownA hownB hownC hbA hbB hbC hkA hkB hkC hBA hBB hBC y0 y1 u0 u1 a0 a1
                        have hjb := HSN.out
                        go_wp2_with fail
                        go_roundw
                        case rel => exact ⟨j + 1, by omega, by go_num, by rw [HNI.out]; exact HTN.out, HBN.out⟩
                        case measure => simp [intOf]; omega
                · have hmp : m = posD t cu := by omega
                  have hmc : m = cu.length := by omega
                  subst hmc
                  go_wp2_with fail
                  go_region
                  go_wp2_with fail
                  go_region
                  have hpc : posD t cu ≤ cap := by omega
                  obtain ⟨V, hV⟩ : ∃ V, V = wx.drew.drew := ⟨_, rfl⟩
                  have hbv : Below wx.heap.size wx V := by rw [hV]; exact below_to_drew (below_to_drew (Below.refl _ _))
                  rw [← hV]
                  replace HTB := Lib.hid (HTBx.out.below hbv HTBx.out.lt)
                  have HTV : Hid (TmT V V.heap.size (some ⟨g, 0, Option.none⟩) cu) := Lib.hid (TmT.lift HTX.out hbv)
                  replace HBY := Lib.hid (HBY.out.trans ((HBX.out.trans (hbv.mono HBX.out.size)).mono HBY.out.size))
                  clear hbv hV y0 y1 hB
                  by_cases hcp : cap = posD t cu
                  · subst hcp
                    go_wp2_with fail
                    obtain ⟨y0, y1⟩ := cel2 HTB.out
                    obtain ⟨q1, hq1⟩ : ∃ q : List Nat, q = (cu : List Nat).take (posD t cu) := ⟨_, rfl⟩
                    obtain ⟨q2, hq2⟩ : ∃ q : List Nat, q = (cu : List Nat).drop (posD t cu) := ⟨_, rfl⟩
                    have HU1 : Hid (∀ W, Below V.heap.size V W → (((Value.slice (some ⟨g, 0, Option.none⟩) (posD t cu) (posD t cu)) = .slice Option.none 0 0 ∧ q1 = []) ∨ ∃ ad c, (Value.slice (some ⟨g, 0, Option.none⟩) (posD t cu) (posD t cu)) = .slice (some ad) q1.length c ∧ ∀ (j : Nat) y, (flatT q1)[j]? = some y → W.cell? (ad.add j) = some y)) := Lib.hid fun W hb => by rw [hq1]; exact (.inr ⟨_, _, by rw [List.length_take, Nat.min_eq_left (posD_le t cu)], TmT.cells (LT.take (TmT.lift HTV.out hb) _)⟩)
                    have HU2 : Hid (∀ W, Below V.heap.size V W → (((Value.slice (some ⟨g, 0, Option.none⟩) 0 0) = .slice Option.none 0 0 ∧ q2 = []) ∨ ∃ ad c, (Value.slice (some ⟨g, 0, Option.none⟩) 0 0) = .slice (some ad) q2.length c ∧ ∀ (j : Nat) y, (flatT q2)[j]? = some y → W.cell? (ad.add j) = some y)) := Lib.hid fun W hb => by rw [hq2]; exact (.inr ⟨_, _, by rw [List.drop_of_length_le (by omega)]; rfl, fun j y h => by rw [List.drop_of_length_le (by omega)] at h; simp [flatT] at h⟩)
                    have HCELL : Box (flatT [t] = [.string ⟨tn.toArray⟩, .string ⟨td.toArray⟩]) := ⟨by rw [HTT.out.1, HTT.out.2]; rfl⟩
                    have HINS : Box (([] ++ q1 ++ [t]) ++ q2 = insD t (cu)) := ⟨by rw [hq1, hq2]; rw [insD_new (.inl (by omega))]; simp⟩
                    have HTAK : Box (q1.length ≤ 5001 ∧ q2.length ≤ 5001) := ⟨by rw [hq1, hq2, List.length_take, List.length_drop]; omega⟩
                    clear hq1 hq2
                    have u0 := keep_cell y0 ((Below.refl V.heap.size V).alloc (Nat.le_refl _) (.cells #[] 55))
                    have u1 := keep_cell y1 ((Below.refl V.heap.size V).alloc (Nat.le_refl _) (.cells #[] 55))
                    go_region_law (first
                      | (refine step_append_T (by rfl) (.tmp 72) (.tmp 75) (by rfl) V.heap.size (.slice (some ⟨V.heap.size, 0, Option.none⟩) 0 0) _ [] (q1) (by rfl) ?own (by rfl) (HU1.out _ ?bel) (by have := HTAK.out.1; simp only [List.length_nil]; omega) ?siz ?_
                         case own => first | exact World.ownsRow_lit V #[] 0 (by simp) (by decide) rfl | exact (World.ownsRow_lit V #[] 0 (by simp) (by decide) rfl).alloc _
                         case siz => first | (simp; done) | (simp; omega)
                         case bel => first | exact below_to_drew ((Below.refl V.heap.size V).alloc (Nat.le_refl _) _) | exact below_to_drew (((Below.refl V.heap.size V).alloc (Nat.le_refl _) _).alloc (by simp) _)
                         intro vA wA hownA hbA hkA
                         have hBA : Below V.heap.size V wA := by first | exact (below_to_drew ((Below.refl V.heap.size V).alloc (Nat.le_refl _) _)).trans hbA | exact (below_to_drew (((Below.refl V.heap.size V).alloc (Nat.le_refl _) _).alloc (by simp) _)).trans hbA
                         have a0 := keep_cell y0 hBA
                         have a1 := keep_cell y1 hBA)
                      | (refine step_append_T (by rfl) (.tmp 72) (.tmp 75) (by rfl) V.heap.size (.slice (some ⟨V.heap.size + 1, 0, Option.none⟩) 0 0) _ [] (q1) (by rfl) ?own (by rfl) (HU1.out _ (below_to_drew (((Below.refl V.heap.size V).alloc (Nat.le_refl _) _).alloc (by simp) _))) (by have := HTAK.out.1; simp only [List.length_nil]; omega) ?siz ?_
                         case own => exact own_second V _ _ (by simp)
                         case siz => first | (simp; done) | (simp; omega)
                         intro vA wA hownA hbA hkA
                         have hBA : Below V.heap.size V wA := (below_to_drew (((Below.refl V.heap.size V).alloc (Nat.le_refl _) _).alloc (by simp) _)).trans hbA
                         have a0 := keep_cell y0 hBA
                         have a1 := keep_cell y1 hBA)
                      | (refine step_append_T (by rfl) (.tmp 76) (.tmp 78) (by rfl) V.heap.size _ _ ([] ++ q1) [t] (by rfl) ?own (by rfl) (.inr ⟨_, _, rfl, ?cells⟩) (by have := HTAK.out.1; simp only [List.nil_append, List.length_cons, List.length_nil]; omega) ?siz ?_
                         case own => first | exact hownA.alloc _ | exact hownA
                         case cells => rw [HCELL.out]; first | exact World.news_of_block (cs := #[.string ⟨tn.toArray⟩, .string ⟨td.toArray⟩]) (heap_alloc_new wA _) | exact World.news_of_block (cs := #[.string ⟨tn.toArray⟩, .string ⟨td.toArray⟩]) (t := 55) (fr := (0, 0)) ((hkA _ (by first | (simp; done) | (simp; omega)) (by simp [Value.ownBlock])).trans (heap_second V _ _)) | exact World.news_of_block (cs := #[.string ⟨tn.toArray⟩, .string ⟨td.toArray⟩]) (t := 55) (fr := (0, 0)) ((hkA _ (by first | (simp; done) | (simp; omega)) (by simp [Value.ownBlock])).trans (heap_first V _ _))
                         case siz => first | exact Nat.le_trans hBA.size (by simp) | exact hBA.size
                         intro vB wB hownB hbB hkB
                         have hBB : Below V.heap.size V wB := by first | exact (hBA.alloc hBA.size _).trans hbB | exact hBA.trans hbB)
                      | (refine step_append_T (by rfl) (.tmp 79) (.tmp 82) (by rfl) V.heap.size _ _ ([] ++ q1 ++ [t]) q2 (by rfl) hownB (by rfl) (HU2.out _ hBB) (by have := HTAK.out; simp only [List.nil_append, List.length_append, List.length_cons, List.length_nil]; omega) hBB.size ?_
                         intro vC wC hownC hbC hkC
                         have hBC := hBB.trans hbC))
                    all_goals
                      have HTN : Hid (TmO wC 0 vC (insD t (cu))) := Lib.hid (TmO.of_own (by rw [← HINS.out]; exact own_base hownC (Nat.zero_le _)))
                      have HBN := Lib.hid (HBY.out.trans (hBC.mono HBY.out.size))
                      clear hownA hownB hownC hbA hbB hbC hkA hkB hkC hBA hBB hBC y0 y1 u0 u1 a0 a1
                      have hjb := HSN.out
                      go_wp2_with fail
                      go_roundw
                      case rel => exact ⟨j + 1, by omega, by go_num, by rw [HNI.out]; exact HTN.out, HBN.out⟩
                      case measure => simp [intOf]; omega
                  · go_wp2_with fail
                    obtain ⟨y0, y1⟩ := cel2 HTB.out
                    obtain ⟨q1, hq1⟩ : ∃ q : List Nat, q = (cu : List Nat).take (posD t cu) := ⟨_, rfl⟩
                    obtain ⟨q2, hq2⟩ : ∃ q : List Nat, q = (cu : List Nat).drop (posD t cu) := ⟨_, rfl⟩
                    have HU1 : Hid (∀ W, Below V.heap.size V W → (((Value.slice (some ⟨g, 0, Option.none⟩) (posD t cu) cap) = .slice Option.none 0 0 ∧ q1 = []) ∨ ∃ ad c, (Value.slice (some ⟨g, 0, Option.none⟩) (posD t cu) cap) = .slice (some ad) q1.length c ∧ ∀ (j : Nat) y, (flatT q1)[j]? = some y → W.cell? (ad.add j) = some y)) := Lib.hid fun W hb => by rw [hq1]; exact (.inr ⟨_, _, by rw [List.length_take, Nat.min_eq_left (posD_le t cu)], TmT.cells (LT.take (TmT.lift HTV.out hb) _)⟩)
                    have HU2 : Hid (∀ W, Below V.heap.size V W → (((Value.slice (some ⟨g, posD t cu * 2, Option.none⟩) 0 (cap - posD t cu)) = .slice Option.none 0 0 ∧ q2 = []) ∨ ∃ ad c, (Value.slice (some ⟨g, posD t cu * 2, Option.none⟩) 0 (cap - posD t cu)) = .slice (some ad) q2.length c ∧ ∀ (j : Nat) y, (flatT q2)[j]? = some y → W.cell? (ad.add j) = some y)) := Lib.hid fun W hb => by rw [hq2]; exact (.inr ⟨_, _, by rw [List.drop_of_length_le (by omega)]; rfl, fun j y h => by rw [List.drop_of_length_le (by omega)] at h; simp [flatT] at h⟩)
                    have HCELL : Box (flatT [t] = [.string ⟨tn.toArray⟩, .string ⟨td.toArray⟩]) := ⟨by rw [HTT.out.1, HTT.out.2]; rfl⟩
                    have HINS : Box (([] ++ q1 ++ [t]) ++ q2 = insD t (cu)) := ⟨by rw [hq1, hq2]; rw [insD_new (.inl (by omega))]; simp⟩
                    have HTAK : Box (q1.length ≤ 5001 ∧ q2.length ≤ 5001) := ⟨by rw [hq1, hq2, List.length_take, List.length_drop]; omega⟩
                    clear hq1 hq2
                    have u0 := keep_cell y0 ((Below.refl V.heap.size V).alloc (Nat.le_refl _) (.cells #[] 55))
                    have u1 := keep_cell y1 ((Below.refl V.heap.size V).alloc (Nat.le_refl _) (.cells #[] 55))
                    go_region_law (first
                      | (refine step_append_T (by rfl) (.tmp 72) (.tmp 75) (by rfl) V.heap.size (.slice (some ⟨V.heap.size, 0, Option.none⟩) 0 0) _ [] (q1) (by rfl) ?own (by rfl) (HU1.out _ ?bel) (by have := HTAK.out.1; simp only [List.length_nil]; omega) ?siz ?_
                         case own => first | exact World.ownsRow_lit V #[] 0 (by simp) (by decide) rfl | exact (World.ownsRow_lit V #[] 0 (by simp) (by decide) rfl).alloc _
                         case siz => first | (simp; done) | (simp; omega)
                         case bel => first | exact below_to_drew ((Below.refl V.heap.size V).alloc (Nat.le_refl _) _) | exact below_to_drew (((Below.refl V.heap.size V).alloc (Nat.le_refl _) _).alloc (by simp) _)
                         intro vA wA hownA hbA hkA
                         have hBA : Below V.heap.size V wA := by first | exact (below_to_drew ((Below.refl V.heap.size V).alloc (Nat.le_refl _) _)).trans hbA | exact (below_to_drew (((Below.refl V.heap.size V).alloc (Nat.le_refl _) _).alloc (by simp) _)).trans hbA
                         have a0 := keep_cell y0 hBA
                         have a1 := keep_cell y1 hBA)
                      | (refine step_append_T (by rfl) (.tmp 72) (.tmp 75) (by rfl) V.heap.size (.slice (some ⟨V.heap.size + 1, 0, Option.none⟩) 0 0) _ [] (q1) (by rfl) ?own (by rfl) (HU1.out _ (below_to_drew (((Below.refl V.heap.size V).alloc (Nat.le_refl _) _).alloc (by simp) _))) (by have := HTAK.out.1; simp only [List.length_nil]; omega) ?siz ?_
                         case own => exact own_second V _ _ (by simp)
                         case siz => first | (simp; done) | (simp; omega)
                         intro vA wA hownA hbA hkA
                         have hBA : Below V.heap.size V wA := (below_to_drew (((Below.refl V.heap.size V).alloc (Nat.le_refl _) _).alloc (by simp) _)).trans hbA
                         have a0 := keep_cell y0 hBA
                         have a1 := keep_cell y1 hBA)
                      | (refine step_append_T (by rfl) (.tmp 76) (.tmp 78) (by rfl) V.heap.size _ _ ([] ++ q1) [t] (by rfl) ?own (by rfl) (.inr ⟨_, _, rfl, ?cells⟩) (by have := HTAK.out.1; simp only [List.nil_append, List.length_cons, List.length_nil]; omega) ?siz ?_
                         case own => first | exact hownA.alloc _ | exact hownA
                         case cells => rw [HCELL.out]; first | exact World.news_of_block (cs := #[.string ⟨tn.toArray⟩, .string ⟨td.toArray⟩]) (heap_alloc_new wA _) | exact World.news_of_block (cs := #[.string ⟨tn.toArray⟩, .string ⟨td.toArray⟩]) (t := 55) (fr := (0, 0)) ((hkA _ (by first | (simp; done) | (simp; omega)) (by simp [Value.ownBlock])).trans (heap_second V _ _)) | exact World.news_of_block (cs := #[.string ⟨tn.toArray⟩, .string ⟨td.toArray⟩]) (t := 55) (fr := (0, 0)) ((hkA _ (by first | (simp; done) | (simp; omega)) (by simp [Value.ownBlock])).trans (heap_first V _ _))
                         case siz => first | exact Nat.le_trans hBA.size (by simp) | exact hBA.size
                         intro vB wB hownB hbB hkB
                         have hBB : Below V.heap.size V wB := by first | exact (hBA.alloc hBA.size _).trans hbB | exact hBA.trans hbB)
                      | (refine step_append_T (by rfl) (.tmp 79) (.tmp 82) (by rfl) V.heap.size _ _ ([] ++ q1 ++ [t]) q2 (by rfl) hownB (by rfl) (HU2.out _ hBB) (by have := HTAK.out; simp only [List.nil_append, List.length_append, List.length_cons, List.length_nil]; omega) hBB.size ?_
                         intro vC wC hownC hbC hkC
                         have hBC := hBB.trans hbC))
                    all_goals
                      have HTN : Hid (TmO wC 0 vC (insD t (cu))) := Lib.hid (TmO.of_own (by rw [← HINS.out]; exact own_base hownC (Nat.zero_le _)))
                      have HBN := Lib.hid (HBY.out.trans (hBC.mono HBY.out.size))
                      clear hownA hownB hownC hbA hbB hbC hkA hkB hkC hBA hBB hBC y0 y1 u0 u1 a0 a1
                      have hjb := HSN.out
                      go_wp2_with fail
                      go_roundw
                      case rel => exact ⟨j + 1, by omega, by go_num, by rw [HNI.out]; exact HTN.out, HBN.out⟩
                      case measure => simp [intOf]; omega
          · obtain rfl : j = l.length := by omega
            rw [List.take_of_length_le (Nat.le_refl _), ← HNX.out] at ht
            have hsl3 := HSL.out.1
            have hsl4 := HSL.out.2
            go_wp2_with fail
            go_roundw
            case rel => exact ⟨k + 1, by omega, by go_num, ht, HBW.out.trans (hby.mono HBW.out.size)⟩
            case measure => simp [intOf]; omega
      · obtain rfl : k = s.voices.length := by omega
        obtain ⟨hf1, hf2, hf3⟩ := HFIN.out
        have HF3 : Box (_) := ⟨hf3⟩
        have HT := Lib.hid ht
        obtain ⟨A7, c7, e7, hq1, hq2, ht7⟩ := ht.shape
        subst e7
        have HT7 := Lib.hid ht7
        have HT4r : Hid (SlT wr wr.heap.size A4 sl) := Lib.hid (LT.keep HT4.out (E := []) (KpT.of_below hbw) (by simp) hbw.size fun _ _ _ h => h.keep (E := []) (KpT.of_below hbw) (by simp) hbw.size)
        clear HT hf3 ht7 ht HT4 HSV HCS HB HS HLI
        generalize ito s.voices.length = q at *
        have hw1 : max (IntKind.i64.wrap ((q.length : Int) - 1)) 0 = (sl.length : Int) := by rw [IntWalk.i64_in _ (by omega)]; omega
        go_upto_region 18 with (fail)
        go_upto_region 21 with (fail)
        go_loopw [11] (fun i wx => ∃ j : Nat, j ≤ sl.length ∧ i = .int .i64 j ∧ Below wr.heap.size wr wx) (fun i _ => sl.length - (intOf i).toNat)
        case atStart => exact ⟨0, Nat.zero_le _, rfl, Below.refl _ _⟩
        case round =>
          rename World => wx
          obtain ⟨j, hj, rfl, hbx⟩ := hrel
          by_cases hjl : j < sl.length
          · obtain ⟨a, b, ha, hb, hal, hs, hsn⟩ := HF3.out j (by omega)
            have hTX := TmT.lift HT7.out hbx
            obtain ⟨b7, o7, rfl, _, x0, x1⟩ := TmT.at_ hTX ha
            obtain ⟨b8, o8, e8, _, y0, y1⟩ := TmT.at_ hTX hb
            injection e8 with e8
            injection e8 with e8 e7 _
            subst e8 e7
            have hSX : SlT wx wx.heap.size A4 sl := LT.keep HT4r.out (E := []) (KpT.of_below hbx) (by simp) hbx.size fun _ _ _ h => h.keep (E := []) (KpT.of_below hbx) (by simp) hbx.size
            obtain ⟨b9, o9, cs9, rfl, _, _, _, h4, hq⟩ := hSX.get j _ hs
            obtain ⟨A5, c5, rfl, hc51, hc52, ht5⟩ := hq
            have p0 : wx.cell? ⟨b9, o9 + j * 5, Option.none⟩ = some (.string ⟨(t12n a).toArray⟩) := h4 0 (by decide)
            have p1 : wx.cell? ⟨b9, o9 + j * 5 + 1, Option.none⟩ = some (.string ⟨(t12d a).toArray⟩) := h4 1 (by decide)
            have p2 : wx.cell? ⟨b9, o9 + j * 5 + 2, Option.none⟩ = some (.string ⟨(t12n b).toArray⟩) := h4 2 (by decide)
            have p3 : wx.cell? ⟨b9, o9 + j * 5 + 3, Option.none⟩ = some (.string ⟨(t12d b).toArray⟩) := h4 3 (by decide)
            have p4 : wx.cell? ⟨b9, o9 + j * 5 + 4, Option.none⟩ = some (.slice A5 (sndN all a).length c5) := h4 4 (by decide)
            have HT5 : Hid (SnT wx wx.heap.size A5 (sndN all a)) := Lib.hid ht5
            have HCSx := Lib.hid (HCSr.out.below hbx HCSr.out.lt)
            have HSVx := Lib.hid (HSVr.out.lift hbx)
            have HSx := Lib.hid (HSr.out.below hbx (Nat.le_refl _))
            have HBX := Lib.hid hbx
            obtain ⟨z0, z1⟩ := cel2 HCSx.out
            have HA := Lib.hid (fun W => HAT.out a W hal)
            have HSM5 : Box ((sndN all a).length ≤ 10000000) := ⟨hsn⟩
            have hji : (j : Int) < (sl.length : Int) := by omega
            have hj0 : (0 : Int) ≤ (j : Int) := by omega
            have hqi : (j : Int) < (q.length : Int) := by omega
            have hqi1 : (j : Int) + 1 < (q.length : Int) := by omega
            have hj1 : (0 : Int) ≤ (j : Int) + 1 := by omega
            have hwj : IntKind.i64.wrap ((j : Int) + 1) = (j : Int) + 1 := IntWalk.i64_in _ (by omega)
            clear ha hb hal hs hsn hTX hSX h4 ht5 hbx hc51 hc52
            generalize sndN all a = x at *
            have hne1 : ∀ W, (binOp .neq 55 (.agg #[.string ⟨(t12n a).toArray⟩, .string ⟨(t12d a).toArray⟩]) (.agg #[.string ⟨(t12n a).toArray⟩, .string ⟨(t12d a).toArray⟩])).run Tryz.prog W = .ok (.bool false) W := fun W => by rw [rat_neq]; simp
            have hne2 : ∀ W, (binOp .neq 55 (.agg #[.string ⟨(t12n b).toArray⟩, .string ⟨(t12d b).toArray⟩]) (.agg #[.string ⟨(t12n b).toArray⟩, .string ⟨(t12d b).toArray⟩])).run Tryz.prog W = .ok (.bool false) W := fun W => by rw [rat_neq]; simp
            have hB : Below wx.heap.size wx wx.drew := below_to_drew (Below.refl _ _)
            go_wp2_with fail
            go_region_held3 (fun w' => w'.cell? ⟨b7, o7 + j * 2, Option.none⟩ = some (.string ⟨(t12n a).toArray⟩) ∧ w'.cell? ⟨b7, o7 + j * 2 + 1, Option.none⟩ = some (.string ⟨(t12d a).toArray⟩) ∧ w'.cell? ⟨b7, o7 + (j + 1) * 2, Option.none⟩ = some (.string ⟨(t12n b).toArray⟩) ∧ w'.cell? ⟨b7, o7 + (j + 1) * 2 + 1, Option.none⟩ = some (.string ⟨(t12d b).toArray⟩) ∧ w'.cell? ⟨b9, o9 + j * 5, Option.none⟩ = some (.string ⟨(t12n a).toArray⟩) ∧ w'.cell? ⟨b9, o9 + j * 5 + 1, Option.none⟩ = some (.string ⟨(t12d a).toArray⟩) ∧ w'.cell? ⟨b9, o9 + j * 5 + 2, Option.none⟩ = some (.string ⟨(t12n b).toArray⟩) ∧ w'.cell? ⟨b9, o9 + j * 5 + 3, Option.none⟩ = some (.string ⟨(t12d b).toArray⟩) ∧ w'.cell? ⟨b9, o9 + j * 5 + 4, Option.none⟩ = some (.slice A5 x.length c5) ∧ w'.cell? ⟨SB, 0, Option.none⟩ = some (.slice AP s.primes.length cp) ∧ w'.cell? ⟨SB, 1, Option.none⟩ = some (.slice AV s.voices.length cV))
          (first | exact ⟨keep_cell x0 hB, keep_cell x1 hB, keep_cell y0 hB, keep_cell y1 hB, keep_cell p0 hB, keep_cell p1 hB, keep_cell p2 hB, keep_cell p3 hB, keep_cell p4 hB, keep_cell z0 hB, keep_cell z1 hB⟩ | go_keep)
          ((first
            | (go_at_call 25; (with_reducible refine (HA.out _ (HSx.out.below hB (Nat.le_refl _)) (HSVx.out.lift hB)).mono ?_); rintro e wA ⟨⟨v6, rfl, h6⟩, hbk⟩; obtain ⟨A6, c6, rfl, _, _, ht6⟩ := h6.shape; have HT6 := Lib.hid ht6; clear ht6 h6; replace HT5 := Lib.hid (SnT.lift HT5.out (hB.trans hbk)); replace hB := hB.trans (hbk.mono hB.size); clear hbk)
            | (go_at_call 24; (with_reducible refine (same48_eq _ _ _ _ x _ HT5.out HT6.out HSM5.out).mono ?_); rintro e wA ⟨rfl, hbk⟩; replace hB := hB.trans (hbk.mono hB.size); clear hbk)))
            all_goals
              have HBN := Lib.hid (HBX.out.trans (hB.mono HBX.out.size))
              clear hB
              go_wp2_with fail
              go_roundw
              case rel => exact ⟨j + 1, by omega, by go_num, HBN.out⟩
              case measure => simp [intOf]; omega
          · obtain rfl : j = sl.length := by omega
            go_wp2_with fail
            go_ret
            exact ⟨rfl, HBr.out.trans (hbx.mono HBr.out.size)⟩

end Go.Proofs.YtphlodmdcmcjnaaGreatDoor
