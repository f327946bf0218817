/- ScoreTransposes: the walk. (Printed by gen_tra48.py.) -/
import Derived.Test.YtaaeekahhhookaaGreatDoorGXNTr
import Derived.Test.YtaaeekahhhookaaGreatDoorGXDMTr
import Derived.Test.YtaaeekahhhookaaGreatDoorMk48MTr
import Derived.Test.YtaaeekahhhookaaGreatDoorTr1MTr
import Derived.Test.YtaaeekahhhookaaGreatDoorGXFMTr
namespace Go.Proofs.YtaaeekahhhookaaGreatDoor
open Go.RowKit Go.Lib

set_option maxRecDepth 100000 in
set_option maxHeartbeats 8000000 in
theorem scTra_walk (n0 : Nat) (v0 : Value) (l0 : List (List Bt)) (v1 : Value) (y : List Int) (w : World) (hS : Std w) (hL : ∃ m, w.cell? ⟨0, 0, Option.none⟩ = some (.int .i64 m)) (hn : n0 ≤ 255) (hv : PlA w v0 l0) (hy1 : IsRow w w.heap.size v1 y) :
  Calls Tryz.prog 4 #[.agg #[.int .u8 n0, v0], v1] w fun e w' => e = .returned (.bool true) ∧ Below w.heap.size w w' := by
 have HS := Lib.hid hS
 have HYV := Lib.hid hy1
 obtain ⟨AY, cy, rfl⟩ := hy1.shape
 clear hy1
 have HLI : Hid (LenIs w) := Lib.hid hL
 have HV0 := Lib.hid hv
 obtain ⟨A0, c0, rfl, hc01, hc02, _⟩ := hv
 unfold maxLen at hc02
 obtain ⟨W0, hW0⟩ : ∃ W0, W0 = (w.alloc (.cells #[.int .u8 n0, .slice A0 l0.length c0] 39)) := ⟨_, rfl⟩
 have hb0 : Below w.heap.size w W0 := by rw [hW0]; exact ((Below.refl w.heap.size w).alloc (Nat.le_refl _) _)
 have HPB : Hid (Cells W0 w.heap.size 39 [.int .u8 n0, .slice A0 l0.length c0]) := Lib.hid (by rw [hW0]; exact Cells.new w 39 #[.int .u8 n0, .slice A0 l0.length c0])
 have HB := Lib.hid hb0
 replace HS := Lib.hid (HS.out.below hb0 (Nat.le_refl _))
 replace HLI : Hid (LenIs W0) := Lib.hid (HLI.out.below hb0)
 replace HV0 := Lib.hid (HV0.out.lift hb0)
 clear hS hL hb0
 go_enter Tryz.func4, Tryz.ntmps4
 go_upto_region 1 with (fail)
 rw [← hW0]
 clear hW0
 obtain ⟨z0, z1⟩ := cel2 HPB.out
 go_wp2_with fail
 refine (known48 _ HS.out HLI.out).mono ?_
 rintro e w1 ⟨rfl, hb1⟩
 replace HPB := Lib.hid (HPB.out.below hb1 HPB.out.lt)
 replace HB := Lib.hid (HB.out.trans (hb1.mono HB.out.size))
 replace HS := Lib.hid (HS.out.below hb1 (Nat.le_refl _))
 replace HLI : Hid (LenIs w1) := Lib.hid (HLI.out.below hb1)
 replace HV0 := Lib.hid (HV0.out.lift hb1)
 clear z0 z1 hb1
 obtain ⟨z0, z1⟩ := cel2 HPB.out
 go_wp2_with fail
 refine (fits48_any n0 _ l0 _ HV0.out).mono ?_
 rintro e w2 ⟨rfl, hb2⟩
 replace HPB := Lib.hid (HPB.out.below hb2 HPB.out.lt)
 replace HB := Lib.hid (HB.out.trans (hb2.mono HB.out.size))
 replace HS := Lib.hid (HS.out.below hb2 (Nat.le_refl _))
 replace HLI : Hid (LenIs w2) := Lib.hid (HLI.out.below hb2)
 replace HV0 := Lib.hid (HV0.out.lift hb2)
 clear z0 z1 hb2
 cases hfit : fitsPl l0 with
 | false =>
   clear hfit
   go_wp2_with fail
   refine (known48 _ HS.out HLI.out).mono ?_
   rintro e w9 ⟨rfl, hb9⟩
   go_wp2_with fail
   go_ret
   exact ⟨rfl, HB.out.trans (hb9.mono HB.out.size)⟩
 | true =>
   obtain ⟨z0, z1⟩ := cel2 HPB.out
   by_cases hlen : 8 < y.length
   ·clear hfit
    have hlb : (8 : Int) < (y.length : Int) := by omega
    go_wp2_with fail
    refine (known48 _ HS.out HLI.out).mono ?_
    rintro e w9 ⟨rfl, hb9⟩
    go_wp2_with fail
    go_ret
    exact ⟨rfl, HB.out.trans (hb9.mono HB.out.size)⟩
   have hlb : ¬ (8 : Int) < (y.length : Int) := by omega
   have HMK := Lib.hid (fun W h1 h2 => make48_any n0 (.slice A0 l0.length c0) l0 W h1 hn h2 hfit)
   have HM2 := Lib.hid (fun W h1 h2 => make48_sep n0 (.slice A0 l0.length c0) l0 W h1 hn h2 hfit)
   obtain ⟨s, hs⟩ : ∃ s, s = makeSc n0 l0 := ⟨_, rfl⟩
   obtain ⟨dss, hdss⟩ : ∃ dss, dss = dursOf l0 := ⟨_, rfl⟩
   have HSE : Box (scErr s = 0) := ⟨by rw [hs]; exact makeSc_err hfit⟩
   have HSM : Box (ScSm s) := ⟨by rw [hs]; exact makeSc_sm hfit⟩
   have HSH : Box (ShortV s.voices dss) := ⟨by rw [hs, hdss]; exact makeSc_times hfit⟩
   have HSL : Box (s.voices.length = l0.length ∧ l0.length ≤ 3) := ⟨by rw [hs]; exact ⟨(makeSc_len hfit), (fits_mem hfit).1⟩⟩
   have HSS : Box (s = makeSc n0 l0 ∧ dss = dursOf l0 ∧ fitsPl l0 = true) := ⟨⟨hs, hdss, hfit⟩⟩
   rw [← hs] at HMK HM2
   clear hs hdss hfit
   go_wp2_with fail
   refine (HMK.out _ HS.out HV0.out).mono ?_
   rintro e w3 ⟨⟨pv, vv, rfl, hsv⟩, hb3⟩
   obtain ⟨W3, hW3⟩ : ∃ W3, W3 = w3.alloc (.cells #[pv, vv] 29) := ⟨_, rfl⟩
   have hba : Below w3.heap.size w3 W3 := by rw [hW3]; exact (Below.refl _ _).alloc (Nat.le_refl _) _
   obtain ⟨SB, hSB⟩ : ∃ SB, SB = w3.heap.size := ⟨_, rfl⟩
   have HCS : Hid (Cells W3 SB 29 [pv, vv]) := Lib.hid (by rw [hW3, hSB]; exact Cells.new w3 29 #[pv, vv])
   have hb33 := hb3.trans (hba.mono hb3.size)
   have HSV := Lib.hid (hsv.lift hba)
   replace HB := Lib.hid (HB.out.trans (hb33.mono HB.out.size))
   replace HS := Lib.hid (HS.out.below hb33 (Nat.le_refl _))
   replace HLI : Hid (LenIs W3) := Lib.hid (HLI.out.below hb33)
   obtain ⟨hpq, AV, cV, rfl, hcV1, hcV2, _⟩ := hsv
   obtain ⟨AP, cp, rfl, _⟩ := hpq.shape
   have hSBw : w.heap.size ≤ SB := by have := HB.out.size; have := HCS.out.lt; rw [hSB]; have h3 := hb3.size; have h4 := HPB.out.lt; omega
   unfold maxLen at hcV2
   replace HV0 := Lib.hid (HV0.out.lift hb33)
   replace HPB := Lib.hid (HPB.out.below hb33 HPB.out.lt)
   clear hpq hba hb3 hb33 z0 z1 HMK
   obtain ⟨sc0, sc1⟩ := cel2 HCS.out
   go_upto_region 4 with (fail)
   rw [← hW3, ← hSB]
   clear hW3 hSB
   have HBY : Hid (Below w.heap.size w W3) := HB
   have HYW := Lib.hid (fun W (hb : Below w.heap.size w W) => HYV.out.lift hb)
   have HTR := Lib.hid (fun W h1 h2 hb => scTrans_any (.slice AP s.primes.length cp) (.slice AV s.voices.length cV) (.slice AY y.length cy) y s W h1 h2 (HYW.out W hb) HSM.out HSE.out)
   have HOK := Box.mk (ScOk.of HSE.out)
   have HTB : Box (trE y s ≠ 0 → trS y s = ⟨[], []⟩) := ⟨trS_bad⟩
   have HTN : Box (chkAll s.primes [y] = 0 → upVcs s.primes y s.voices = none → trE y s = 4) := ⟨trE_none⟩
   have HTC : Box (chkAll s.primes [y] ≠ 0 → trE y s = chkAll s.primes [y]) := ⟨trE_bad⟩
   have HTS : Box (∀ m, chkAll s.primes [y] = 0 → upVcs s.primes y s.voices = some m → trE y s = 0 ∧ trS y s = ⟨s.primes, m⟩ ∧ upSc y s = some ⟨s.primes, m⟩) := ⟨fun m => trE_some⟩
   generalize hte : trE y s = te at *
   generalize hts : trS y s = ts at *
   clear hte hts
   go_wp2_with fail
   refine (HTR.out _ HS.out HSV.out HB.out).mono ?_
   rintro e w4 ⟨⟨pu, vu, rfl, hsu⟩, hb4⟩
   obtain ⟨hpq, BV, dV, rfl, hd1, hd2, _⟩ := id hsu
   obtain ⟨BP, dp, rfl, _⟩ := hpq.shape
   obtain ⟨W4, hW4⟩ : ∃ W4, W4 = w4.alloc (.cells #[.slice BP ts.primes.length dp, .slice BV ts.voices.length dV] 29) := ⟨_, rfl⟩
   obtain ⟨UB, hUB⟩ : ∃ UB, UB = w4.heap.size := ⟨_, rfl⟩
   have hba : Below w4.heap.size w4 W4 := by rw [hW4]; exact (Below.refl _ _).alloc (Nat.le_refl _) _
   have HCU : Hid (Cells W4 UB 29 [.slice BP ts.primes.length dp, .slice BV ts.voices.length dV]) := Lib.hid (by rw [hW4, hUB]; exact Cells.new w4 29 #[.slice BP ts.primes.length dp, .slice BV ts.voices.length dV])
   have hb44 := hb4.trans (hba.mono hb4.size)
   have HSU := Lib.hid (hsu.lift hba)
   replace HPB := Lib.hid (HPB.out.below hb44 HPB.out.lt)
   replace HV0 := Lib.hid (HV0.out.lift hb44)
   replace HCS := Lib.hid (HCS.out.below hb44 HCS.out.lt)
   replace HSV := Lib.hid (HSV.out.lift hb44)
   replace HB := Lib.hid (HB.out.trans (hb44.mono HB.out.size))
   replace HS := Lib.hid (HS.out.below hb44 (Nat.le_refl _))
   unfold maxLen at hd2
   clear hb4 hba hb44 hsu hpq sc0 sc1 HTR HLI HBY
   obtain ⟨sc0, sc1⟩ := cel2 HCS.out
   go_upto_region 5 with (fail)
   rw [← hW4, ← hUB]
   clear hW4 hUB
   have HCY := Lib.hid (fun W (h : ScV W W.heap.size (.slice AP s.primes.length cp) (.slice AV s.voices.length cV) s) hb => check_any (.slice AP s.primes.length cp) (.slice AY y.length cy) s.primes y W h.1.row (HYW.out W hb))
   have HADD := Lib.hid (fun xv x W (h : ScV W W.heap.size (.slice AP s.primes.length cp) (.slice AV s.voices.length cV) s) (hb : Below w.heap.size w W) (hx : IsRow W W.heap.size xv x) (hc : chkAll s.primes [x] = 0) (hcy : chkAll s.primes [y] = 0) => addT_any (.slice AP s.primes.length cp) xv (.slice AY y.length cy) s.primes x y W h.1.row hx (HYW.out W hb) hc hcy)
   have HNEG := Lib.hid (fun W (h : ScV W W.heap.size (.slice AP s.primes.length cp) (.slice AV s.voices.length cV) s) (hb : Below w.heap.size w W) (hcy : chkAll s.primes [y] = 0) => neg_ok (.slice AP s.primes.length cp) (.slice AY y.length cy) s.primes y W h.1.row (HYW.out W hb) hcy)
   obtain ⟨q0, hq0⟩ : ∃ q0, q0 = chkAll s.primes [y] := ⟨_, rfl⟩
   rw [← hq0] at HCY
   have HQ0 : Box (q0 = chkAll s.primes [y]) := ⟨hq0⟩
   clear hq0
   go_wp2_with fail
   refine (HCY.out _ HSV.out HB.out).mono ?_
   rintro e w5 ⟨rfl, hb5⟩
   replace HPB := Lib.hid (HPB.out.below hb5 HPB.out.lt)
   replace HV0 := Lib.hid (HV0.out.lift hb5)
   replace HCS := Lib.hid (HCS.out.below hb5 HCS.out.lt)
   replace HCU := Lib.hid (HCU.out.below hb5 HCU.out.lt)
   replace HSV := Lib.hid (HSV.out.lift hb5)
   replace HSU := Lib.hid (HSU.out.lift hb5)
   replace HB := Lib.hid (HB.out.trans (hb5.mono HB.out.size))
   replace HS := Lib.hid (HS.out.below hb5 (Nat.le_refl _))
   clear hb5 sc0 sc1 HCY
   obtain ⟨z0, z1⟩ := cel2 HPB.out
   obtain ⟨DL, hDL⟩ : ∃ DL, DL = w5.heap.size := ⟨_, rfl⟩
   have HDLE : Box (DL = w5.heap.size) := ⟨hDL⟩
   go_wp2_with fail
   refine (HM2.out _ HS.out HV0.out).mono ?_
   rintro e w6 ⟨⟨pd, AD, cD, gs, rfl, hcD1, hcD2, hpd, hdue, hsep⟩, hb6⟩
   obtain ⟨DP, dq, rfl, _⟩ := hpd.shape
   obtain ⟨W6, hW6⟩ : ∃ W6, W6 = w6.alloc (.cells #[.slice DP s.primes.length dq, .slice AD s.voices.length cD] 29) := ⟨_, rfl⟩
   obtain ⟨DB, hDB⟩ : ∃ DB, DB = w6.heap.size := ⟨_, rfl⟩
   have hba : Below w6.heap.size w6 W6 := by rw [hW6]; exact (Below.refl _ _).alloc (Nat.le_refl _) _
   have HCD : Hid (Cells W6 DB 29 [.slice DP s.primes.length dq, .slice AD s.voices.length cD]) := Lib.hid (by rw [hW6, hDB]; exact Cells.new w6 29 #[.slice DP s.primes.length dq, .slice AD s.voices.length cD])
   have HPD := Lib.hid (hpd.keep (E := []) (KpT.of_below hba) (by simp) (Nat.le_refl _))
   have HPDB : Box (w6.heap.size ≤ W6.heap.size) := ⟨hba.size⟩
   have HDU := Lib.hid (hdue.lift hba)
   have HSP := Box.mk ((hDL ▸ hsep).up (Nat.le_refl DL) hba.size)
   have HBD : Hid (Below DL w5 W6) := Lib.hid (by rw [hDL]; exact hb6.trans (hba.mono hb6.size))
   have hDLB : DL ≤ DB := by rw [hDL, hDB]; exact hb6.size
   have HPD2 : Hid (IRow W6 DB (.slice DP s.primes.length dq) s.primes) := Lib.hid (by rw [hDB]; exact HPD.out)
   unfold maxLen at hcD2
   clear hb6 hba hpd hdue hsep z0 z1 HM2 HPD
   go_upto_region 7 with (fail)
   rw [← hW6, ← hDB]
   clear hW6 hDB hDL
   -- the loops
   obtain ⟨pr, vs0⟩ := s
   dsimp only at *
   have HSTART : Box ((q0 = 0 ∧ ∃ P, P.length = 0 ∧ vs0 = P ++ vs0.drop 0 ∧ upVcs pr y vs0 = (upVcs pr y (vs0.drop 0)).map (P ++ ·)) ∨ (q0 ≠ 0 ∧ q0 = te)) := ⟨by
    by_cases h : chkAll pr [y] = 0
    ·exact .inl ⟨by rw [HQ0.out]; exact h, [], rfl, rfl, map_start _⟩
    ·exact .inr ⟨by rw [HQ0.out]; exact h, by rw [HQ0.out, HTC.out h]⟩⟩
   go_wp2_with fail
   go_loopw [10, 8] (fun i q wr => ∃ (k : Nat) (qq : Int) (vs : List Vc), k ≤ vs0.length ∧ vs.length = vs0.length ∧ i = .int .i64 k ∧ q = .int .i64 qq ∧ Cells wr DB 29 [.slice DP pr.length dq, .slice AD vs0.length cD] ∧ IRow wr DB (.slice DP pr.length dq) pr ∧ DueT wr AD vs gs ∧ SepL DL wr.heap.size gs.flatten ∧ Below DL w5 wr ∧ Box ((qq = 0 ∧ q0 = 0 ∧ ∃ P, P.length = k ∧ vs = P ++ vs0.drop k ∧ upVcs pr y vs0 = (upVcs pr y (vs0.drop k)).map (P ++ ·)) ∨ (qq ≠ 0 ∧ qq = te))) (fun i _ _ => vs0.length - (intOf i).toNat)
   case atStart => exact ⟨0, q0, vs0, Nat.zero_le _, rfl, rfl, rfl, HCD.out, HPD2.out, HDU.out, HSP.out, HBD.out, ⟨HSTART.out.elim (fun h => .inl ⟨h.1, h.1, h.2⟩) .inr⟩⟩
   case round =>
    clear HCD HPD2 HDU HSP HBD HSTART
    obtain ⟨k, qq, vs, hk, hvl, rfl, rfl, hcd, hpd, hdu, hsp, hbd, HST⟩ := hrel
    have hb5r : Below w5.heap.size w5 wr := HDLE.out ▸ hbd
    have HBr := Lib.hid (HB.out.trans (hb5r.mono HB.out.size))
    have HSr := Lib.hid (HS.out.below hb5r (Nat.le_refl _))
    have HCSr := Lib.hid (HCS.out.below hb5r HCS.out.lt)
    have HCUr := Lib.hid (HCU.out.below hb5r HCU.out.lt)
    have HSVr := Lib.hid (HSV.out.lift hb5r)
    have HSUr := Lib.hid (HSU.out.lift hb5r)
    have HCD := Lib.hid hcd
    have HPD := Lib.hid hpd
    have HDU := Lib.hid hdu
    have HSP := Box.mk hsp
    have HBD := Lib.hid hbd
    have HVL := Box.mk hvl
    clear hcd hpd hdu hsp hbd hvl hb5r
    obtain ⟨d0, d1⟩ := cel2 HCD.out
    by_cases hq : qq = 0
    ·subst hq
     obtain ⟨hq00, P, hP, hvs, HUP⟩ : q0 = 0 ∧ ∃ P, P.length = k ∧ vs = P ++ vs0.drop k ∧ Box (upVcs pr y vs0 = (upVcs pr y (vs0.drop k)).map (P ++ ·)) := by
      rcases HST.out with ⟨_, h0, P, h1, h2, h3⟩ | ⟨h, _⟩
      ·exact ⟨h0, P, h1, h2, ⟨h3⟩⟩
      ·exact absurd rfl h
     have hchk : chkAll pr [y] = 0 := by rw [← HQ0.out, hq00]
     have HCHK := Box.mk hchk
     subst hvs
     clear hchk hq00 HST
     by_cases hlt : k < vs0.length
     ·rw [List.drop_eq_getElem_cons hlt] at HDU HVL
      have HOKN : Box (∀ x ∈ (vs0[k]'hlt).evs, x.notes.length ≤ 12 ∧ ∀ z ∈ x.notes, chkAll pr [z] = 0) := ⟨fun x hx => (HOK.out.ev _ (List.getElem_mem hlt) x hx).2⟩
      have hel := HOK.out.evs _ (List.getElem_mem hlt)
      have HNXT : Box (∀ es, upEvs pr y (vs0[k]'hlt).evs = some es → upVcs pr y vs0 = (upVcs pr y (vs0.drop (k + 1))).map ((P ++ [⟨(vs0[k]'hlt).name, es⟩]) ++ ·)) := ⟨fun es h => by rw [HUP.out, upVcs_ok hlt h]⟩
      have HBAD : Box (upEvs pr y (vs0[k]'hlt).evs = none → 4 = te) := ⟨fun h => (HTN.out HCHK.out (by rw [HUP.out, upVcs_bad hlt h]; rfl)).symm⟩
      generalize vs0[k]'hlt = v at *
      obtain ⟨nm, es⟩ := v
      dsimp only at *
      generalize hR : vs0.drop (k + 1) = R at *
      have HR : Box (vs0.drop (k + 1) = R) := ⟨hR⟩
      clear hR HUP
      subst hP
      have hki : (P.length : Int) < (vs0.length : Int) := by omega
      have hk0 : (0 : Int) ≤ (P.length : Int) := by omega
      go_upto_region 11 with (fail)
      clear d0 d1
      go_loopw [11, 8] (fun i q wx => ∃ (j : Nat) (qq : Int) (es' : List Ev), j ≤ es.length ∧ es'.length = es.length ∧ i = .int .i64 j ∧ q = .int .i64 qq ∧ Cells wx DB 29 [.slice DP pr.length dq, .slice AD vs0.length cD] ∧ IRow wx DB (.slice DP pr.length dq) pr ∧ DueT wx AD (P ++ ⟨nm, es'⟩ :: R) gs ∧ SepL DL wx.heap.size gs.flatten ∧ Below DL w5 wx ∧ Box ((qq = 0 ∧ ∃ D, D.length = j ∧ es' = D ++ es.drop j ∧ upEvs pr y es = (upEvs pr y (es.drop j)).map (D ++ ·)) ∨ (qq ≠ 0 ∧ qq = te))) (fun i _ _ => es.length - (intOf i).toNat)
      case atStart => exact ⟨0, 0, es, Nat.zero_le _, rfl, rfl, rfl, HCD.out, HPD.out, HDU.out, HSP.out, HBD.out, ⟨.inl ⟨rfl, [], rfl, rfl, map_start _⟩⟩⟩
      case round =>
       rename World => wx
       clear HCD HPD HDU HSP HBD HBr HSr HCSr HCUr HSVr HSUr
       obtain ⟨j, qq, es', hj, hesl, rfl, rfl, hcd, hpd, hdu, hsp, hbd, HST⟩ := hrel
       have hb5x : Below w5.heap.size w5 wx := HDLE.out ▸ hbd
       have HBx := Lib.hid (HB.out.trans (hb5x.mono HB.out.size))
       have HCSx := Lib.hid (HCS.out.below hb5x HCS.out.lt)
       have HSVx := Lib.hid (HSV.out.lift hb5x)
       have HCD := Lib.hid hcd
       have HPD := Lib.hid hpd
       have HDU := Lib.hid hdu
       have HSP := Box.mk hsp
       have HBD := Lib.hid hbd
       obtain ⟨b1, o1, A1, c1, bs, rfl, p1, h1c, h1m, hg1, hg2, hes⟩ := hdu.voice_mid
       dsimp only at p1 h1c hg2 hes
       rw [hesl] at p1 h1c
       have HES := Box.mk (And.intro hg1 (And.intro hg2 hesl))
       unfold maxLen at h1m
       clear hcd hpd hdu hsp hbd hb5x hg1 hg2 hesl
       obtain ⟨d0, d1⟩ := cel2 HCD.out
       by_cases hq : qq = 0
       ·subst hq
        obtain ⟨D, hD, hes', HUE⟩ : ∃ D, D.length = j ∧ es' = D ++ es.drop j ∧ Box (upEvs pr y es = (upEvs pr y (es.drop j)).map (D ++ ·)) := by
         rcases HST.out with ⟨_, P, h1, h2, h3⟩ | ⟨h, _⟩
         ·exact ⟨P, h1, h2, ⟨h3⟩⟩
         ·exact absurd rfl h
        subst hes'
        clear HST
        by_cases hjl : j < es.length
        ·rw [List.drop_eq_getElem_cons hjl] at HDU HES hes
         obtain ⟨hn12, hnc⟩ := HOKN.out _ (List.getElem_mem hjl)
         have HNC := Box.mk hnc
         have HJN : Box (∀ ns, upNs pr y (es[j]'hjl).notes = some ns → upEvs pr y es = (upEvs pr y (es.drop (j + 1))).map ((D ++ [⟨(es[j]'hjl).num, (es[j]'hjl).den, ns⟩]) ++ ·)) := ⟨fun ns h => by rw [HUE.out, upEvs_ok hjl h]⟩
         have HJB : Box (upNs pr y (es[j]'hjl).notes = none → 4 = te) := ⟨fun h => HBAD.out (by rw [HUE.out, upEvs_bad hjl h]; rfl)⟩
         generalize es[j]'hjl = x at *
         obtain ⟨tn, td, ns⟩ := x
         dsimp only at *
         generalize hE : es.drop (j + 1) = E at *
         have HE : Box (es.drop (j + 1) = E) := ⟨hE⟩
         clear hE hnc HUE
         subst hD
         obtain ⟨b2, o2, A2, c2, β, rfl, p2, h2c, h2m, hβ, hA2, hnt⟩ := EvsS.event_mid hes HES.out.2.1
         dsimp only at p2 h2c hA2 hnt
         have HA2 := Box.mk hA2
         have HBT := Box.mk hβ
         unfold maxLen at h2m
         have hji : (D.length : Int) < (es.length : Int) := by omega
         have hj0 : (0 : Int) ≤ (D.length : Int) := by omega
         clear hes hβ hA2 hnt
         go_upto_region 14 with (fail)
         clear d0 d1 p1 p2
         go_loopw [84, 8] (fun i q wy => ∃ (M : List (List Int)), M.length ≤ ns.length ∧ i = .int .i64 M.length ∧ q = .int .i64 0 ∧ Cells wy DB 29 [.slice DP pr.length dq, .slice (some ⟨b1, o1, Option.none⟩) vs0.length cD] ∧ IRow wy DB (.slice DP pr.length dq) pr ∧ DueT wy (some ⟨b1, o1, Option.none⟩) (P ++ ⟨nm, D ++ ⟨tn, td, M ++ ns.drop M.length⟩ :: E⟩ :: R) gs ∧ SepL DL wy.heap.size gs.flatten ∧ Below DL w5 wy ∧ Box (upNs pr y ns = (upNs pr y (ns.drop M.length)).map (M ++ ·))) (fun i _ _ => ns.length - (intOf i).toNat)
         case atStart => exact ⟨[], Nat.zero_le _, rfl, rfl, HCD.out, HPD.out, HDU.out, HSP.out, HBD.out, ⟨map_start _⟩⟩
         case round =>
          rename World => wy
          clear HCD HPD HDU HSP HBD HBx HCSx HSVx
          obtain ⟨M, hml, rfl, rfl, hcd, hpd, hdu, hsp, hbd, HM⟩ := hrel
          have hb5y : Below w5.heap.size w5 wy := HDLE.out ▸ hbd
          have HBy := Lib.hid (HB.out.trans (hb5y.mono HB.out.size))
          have HCSy := Lib.hid (HCS.out.below hb5y HCS.out.lt)
          have HSVy := Lib.hid (HSV.out.lift hb5y)
          have HCD := Lib.hid hcd
          have HPD := Lib.hid hpd
          have HDU := Lib.hid hdu
          have HSP := Box.mk hsp
          have HBD := Lib.hid hbd
          clear hcd hpd hdu hsp hbd hb5y
          by_cases hmlt : M.length < ns.length
          ·rw [List.drop_eq_getElem_cons hmlt] at HDU
           have hcx := HNC.out _ (List.getElem_mem hmlt)
           have HMN : Box (chkAll pr [upN y (ns[M.length]'hmlt)] = 0 → upNs pr y ns = (upNs pr y (ns.drop (M.length + 1))).map ((M ++ [upN y (ns[M.length]'hmlt)]) ++ ·)) := ⟨fun h => by rw [HM.out, upNs_ok hmlt h]⟩
           have HMB : Box (chkAll pr [upN y (ns[M.length]'hmlt)] ≠ 0 → 4 = te) := ⟨fun h => HJB.out (by rw [HM.out, upNs_bad hmlt h]; rfl)⟩
           obtain ⟨rfl, _, _⟩ := HA2.out (by omega)
           obtain ⟨rv, g0, hir⟩ : ∃ rv, wy.cell? ⟨β, M.length, Option.none⟩ = some rv ∧ IRow wy wy.heap.size rv (ns[M.length]'hmlt) := by
            obtain ⟨b, o, A', c', bs', e1, _, _, _, f1, f2, f3⟩ := HDU.out.voice_mid
            dsimp only at f2 f3
            obtain ⟨b', o', A'', c'', β', e2, _, _, _, f4, f5, f6⟩ := EvsS.event_mid f3 f2
            rw [HES.out.1] at f1
            injection f1 with f1
            subst f1
            rw [HBT.out] at f4
            injection f4 with f4
            subst f4
            dsimp only at f5 f6
            obtain ⟨rfl, _, _⟩ := f5 (by simp; omega)
            obtain ⟨v, _, _, f7, f8⟩ := NotesT.mid_at f6
            exact ⟨v, f7, f8⟩
           have HAD := Lib.hid (HADD.out rv (ns[M.length]'hmlt) wy HSVy.out HBy.out hir.row hcx HCHK.out)
           obtain ⟨A3, c3, rfl, _⟩ := hir.shape
           have hmi : (M.length : Int) < (ns.length : Int) := by omega
           have hm0 : (0 : Int) ≤ (M.length : Int) := by omega
           obtain ⟨s0, s1⟩ := cel2 HCSy.out
           clear hir hcx HM
           generalize hup : upN y (ns[M.length]'hmlt) = up at *
           clear hup
           generalize (ns[M.length]'hmlt).length = xl at *
           go_wp2_with fail
           refine HAD.out.mono ?_
           rintro e w7 ⟨hpost, hb7⟩
           have HCD7 := Lib.hid (HCD.out.below hb7 HCD.out.lt)
           have HPD7 := Lib.hid (HPD.out.keep (E := []) (KpT.of_below (hb7.mono (Nat.le_of_lt HCD.out.lt))) (by simp) (Nat.le_refl _))
           have HDU7 := Lib.hid (HDU.out.lift hb7)
           have HSP7 := Box.mk (HSP.out.up (Nat.le_refl _) hb7.size)
           have HBD7 := Lib.hid (HBD.out.trans (hb7.mono (Nat.le_of_lt (Nat.lt_of_le_of_lt hDLB HCD.out.lt))))
           clear hb7 s0 s1 g0 HAD
           rcases hpost with ⟨hz, AU, cU, rfl, htr⟩ | ⟨hz, rfl⟩
           ·have HMK := Box.mk (HMN.out hz)
            have HIU := Lib.hid (IRow.of_trow htr)
            obtain ⟨d0, d1⟩ := cel2 HCD7.out
            obtain ⟨bx, ox, A', c', bs', e1, p1, _, _, f1, f2, f3⟩ := HDU7.out.voice_mid
            dsimp only at p1 f2 f3
            obtain ⟨bq, oy, A'', c'', β', rfl, p2, _, _, f4, f5, f6⟩ := EvsS.event_mid f3 f2
            injection e1 with e1
            injection e1 with eb eo _
            subst eb eo
            rw [HES.out.1] at f1
            injection f1 with f1
            subst f1
            rw [HBT.out] at f4
            injection f4 with f4
            subst f4
            dsimp only at p2 f5 f6
            obtain ⟨rfl, hβ, hfree⟩ := f5 (by simp; omega)
            obtain ⟨vx, _, _, p3, _⟩ := NotesT.mid_at f6
            have hfz := hfree.frozen M.length
            have hL1 : (D ++ (⟨tn, td, M ++ ns[M.length]'hmlt :: ns.drop (M.length + 1)⟩ : Ev) :: E).length = es.length := by rw [← HES.out.2.2]; simp
            have hL2 : (M ++ ns[M.length]'hmlt :: ns.drop (M.length + 1)).length = ns.length := by simp; omega
            rw [hL1] at p1
            rw [hL2] at p2
            have hβg : β ∈ gs.flatten := List.mem_flatten.2 ⟨bs, List.mem_of_getElem? HES.out.1, List.mem_of_getElem? HBT.out⟩
            have hdl : DL ≤ β := HSP7.out.low β hβg
            have HK7 : Box (KpT [40] w7.heap.size w7 (w7.setCell ⟨β, M.length, Option.none⟩ (.slice AU up.length cU))) := ⟨(KpT.refl _ _ _).setCell hfree.tyb (by simp) _⟩
            have hsz : (w7.setCell ⟨β, M.length, Option.none⟩ (.slice AU up.length cU)).heap.size = w7.heap.size := by simp [World.setCell]
            have HSZ := Box.mk hsz
            have HDN := Lib.hid (HDU7.out.mid HSP7.out.lt HES.out.1 HBT.out HIU.out)
            have HBN := Lib.hid (HBD7.out.setCell (p := ⟨β, M.length, Option.none⟩) hdl (.slice AU up.length cU))
            have hDBl := HCD7.out.lt
            have HCN := Lib.hid (show Cells (w7.setCell ⟨β, M.length, Option.none⟩ (.slice AU up.length cU)) DB _ _ from (HK7.out.block DB _ hDBl (TyB.of_cells HCD7.out) (by decide)).trans HCD7.out)
            have HPN := Lib.hid (HPD7.out.keep (HK7.out.mono (Nat.le_of_lt hDBl)) (by decide) (Nat.le_refl _))
            clear htr hz HMN HMB f2 f3 f5 f6 hL1 hL2 hβg hfree hsz
            go_wp2_with fail
            go_roundw
            case rel =>
             refine ⟨M ++ [up], by rw [List.length_append]; exact hmlt, by simp, rfl, HCN.out, HPN.out, ?_, by rw [HSZ.out]; exact HSP7.out, HBN.out, ?_⟩
             ·rw [show (M ++ [up]).length = M.length + 1 by simp, List.append_assoc]
              exact HDN.out
             ·rw [show (M ++ [up]).length = M.length + 1 by simp]
              exact HMK
            case measure => simp [intOf]; omega
           ·have HQB := Box.mk (HMB.out hz)
            have hL1 : (D ++ (⟨tn, td, M ++ ns[M.length]'hmlt :: ns.drop (M.length + 1)⟩ : Ev) :: E).length = es.length := by rw [← HES.out.2.2]; simp
            have HL1 := Box.mk hL1
            clear hz HMN HMB hL1
            go_wp2_with fail
            exact ⟨⟨D.length + 1, 4, _, by omega, HL1.out, by go_num, rfl, HCD7.out, HPD7.out, HDU7.out, HSP7.out, HBD7.out, ⟨.inr ⟨by decide, HQB.out⟩⟩⟩, by simp [intOf]; omega⟩
          ·have hme : M.length = ns.length := by omega
           have HMK : Box (upNs pr y ns = some M) := ⟨by rw [HM.out, hme, List.drop_length]; exact map_end M⟩
           have HDN : Hid (DueT wy (some ⟨b1, o1, Option.none⟩) (P ++ ⟨nm, D ++ ⟨tn, td, M⟩ :: E⟩ :: R) gs) := Lib.hid (by
            have h := HDU.out
            rw [hme, List.drop_length, List.append_nil] at h
            exact h)
           have HEK := Box.mk (HJN.out M HMK.out)
           have HL1 : Box ((D ++ (⟨tn, td, M⟩ : Ev) :: E).length = es.length) := ⟨by rw [← HES.out.2.2]; simp⟩
           clear hme HMK HM HDU
           go_wp2_with fail
           go_roundw
           case rel =>
            refine ⟨D.length + 1, 0, _, by omega, HL1.out, by go_num, rfl, HCD.out, HPD.out, HDN.out, HSP.out, HBD.out, ⟨.inl ⟨rfl, D ++ [⟨tn, td, M⟩], by simp, ?_, by rw [HE.out]; exact HEK.out⟩⟩⟩
            rw [HE.out, List.append_assoc]
            rfl
           case measure => simp [intOf]; omega
        ·obtain rfl : j = es.length := by omega
         have HEK : Box (upEvs pr y es = some D) := ⟨by rw [HUE.out, List.drop_length]; exact map_end D⟩
         have HDN : Hid (DueT wx (some ⟨b1, o1, Option.none⟩) (P ++ ⟨nm, D⟩ :: R) gs) := Lib.hid (by
          have h := HDU.out
          rw [List.drop_length, List.append_nil] at h
          exact h)
         have HVK := Box.mk (HNXT.out D HEK.out)
         have HL1 : Box ((P ++ (⟨nm, D⟩ : Vc) :: R).length = vs0.length) := ⟨by rw [← HVL.out]; simp⟩
         clear HEK HUE HDU hes
         go_wp2_with fail
         go_roundw
         case rel =>
          refine ⟨P.length + 1, 0, _, by omega, HL1.out, by go_num, rfl, HCD.out, HPD.out, HDN.out, HSP.out, HBD.out, ⟨.inl ⟨rfl, by rw [HQ0.out]; exact HCHK.out, P ++ [⟨nm, D⟩], by simp, ?_, by rw [HR.out]; exact HVK.out⟩⟩⟩
          rw [HR.out, List.append_assoc]
          rfl
         case measure => simp [intOf]; omega
       ·have hqb : (qq == 0) = false := by simpa using hq
        have HQQ : Box (qq ≠ 0 ∧ qq = te) := ⟨HST.out.elim (fun h => absurd h.1 hq) id⟩
        have HL1 : Box ((P ++ (⟨nm, es'⟩ : Vc) :: R).length = vs0.length) := ⟨by rw [← HVL.out]; simp⟩
        clear hq HST hes
        by_cases hjl : j < es.length
        ·have hji : (j : Int) < (es.length : Int) := by omega
         go_wp2_with fail
         go_roundw
         case rel => exact ⟨P.length + 1, qq, _, by omega, HL1.out, by go_num, rfl, HCD.out, HPD.out, HDU.out, HSP.out, HBD.out, ⟨.inr HQQ.out⟩⟩
         case measure => simp [intOf]; omega
        ·obtain rfl : j = es.length := by omega
         go_wp2_with fail
         go_roundw
         case rel => exact ⟨P.length + 1, qq, _, by omega, HL1.out, by go_num, rfl, HCD.out, HPD.out, HDU.out, HSP.out, HBD.out, ⟨.inr HQQ.out⟩⟩
         case measure => simp [intOf]; omega
     ·obtain rfl : k = vs0.length := by omega
      have hup : upVcs pr y vs0 = some P := by rw [HUP.out, List.drop_length]; exact map_end P
      obtain ⟨hte, hts, hus⟩ := HTS.out P HCHK.out hup
      have hok : ScOk ts := by
       have h := upSc_sm hus HSE.out
       rw [← hts] at h
       exact h
      have HEV : Box (∀ v ∈ ts.voices, v.evs.length ≤ 1000000 ∧ ∀ x ∈ v.evs, x.notes.length ≤ 1000000) := ⟨fun v hv => ⟨by have := hok.evs v hv; omega, fun x hx => by have := (hok.ev v hv x hx).2.1; omega⟩⟩
      have hte0 : scErr ts = 0 := by
       have h := upSc_right hus HSE.out
       rw [← hts] at h
       exact h
      have hbk : upSc (ngN y) ts = some ⟨pr, vs0⟩ := by
       have h := upSc_back hus HSE.out HCHK.out
       rw [← hts] at h
       exact h
      have hcn : chkAll pr [ngN y] = 0 := chk_ng HCHK.out
      have hcn2 : chkAll ts.primes [ngN y] = 0 := by rw [hts]; exact hcn
      have HTR2 := Lib.hid (fun W yv (h1 : Std W) (h2 : ScV W W.heap.size (.slice BP ts.primes.length dp) (.slice BV ts.voices.length dV) ts) (h3 : IsRow W W.heap.size yv (ngN y)) => scTrans_any _ _ yv (ngN y) ts W h1 h2 h3 (ScSm.of_ok hok) hte0)
      have hE2 : trE (ngN y) ts = 0 := by unfold trE; rw [if_neg (by rw [hcn2]; simp), hbk]
      have hS2 : trS (ngN y) ts = ⟨pr, vs0⟩ := by unfold trS; rw [if_neg (by rw [hcn2]; simp), hbk]
      rw [hE2, hS2] at HTR2
      have HNG := Lib.hid (HNEG.out wr HSVr.out HBr.out HCHK.out)
      have HDV : Hid (ScV wr wr.heap.size (.slice DP pr.length dq) (.slice AD vs0.length cD) ts) := Lib.hid (by
       have h := HDU.out.read
       rw [List.drop_length, List.append_nil] at h
       rw [hts]
       exact ⟨HPD.out.up (Nat.le_of_lt HCD.out.lt), AD, cD, by rw [hP], by show P.length ≤ cD; rw [hP]; exact hcD1, by unfold maxLen; omega, h⟩)
      have HEV0 : Box (∀ v ∈ vs0, v.evs.length ≤ 1000000 ∧ ∀ x ∈ v.evs, x.notes.length ≤ 1000000) := ⟨fun v hv => ⟨by have := HOK.out.evs v hv; omega, fun x hx => by have := (HOK.out.ev v hv x hx).2.1; omega⟩⟩
      have HTE := Box.mk hte
      clear hup hts hus hok hte0 hbk hcn2 hE2 hS2 hP HUP HDU
      subst te
      obtain ⟨s0, s1⟩ := cel2 HCSr.out
      go_wp2_with fail
      refine HNG.out.mono ?_
      rintro e w8 ⟨hp8, hb8⟩
      obtain ⟨nv, rfl, hnv⟩ := hp8.yes hcn
      have HNV := Lib.hid hnv
      obtain ⟨AN, cN, rfl⟩ := hnv.shape
      replace HCSr := Lib.hid (HCSr.out.below hb8 HCSr.out.lt)
      replace HCUr := Lib.hid (HCUr.out.below hb8 HCUr.out.lt)
      replace HCD := Lib.hid (HCD.out.below hb8 HCD.out.lt)
      replace HSVr := Lib.hid (HSVr.out.lift hb8)
      replace HSUr := Lib.hid (HSUr.out.lift hb8)
      replace HDV := Lib.hid (HDV.out.lift hb8)
      replace HSr := Lib.hid (HSr.out.below hb8 (Nat.le_refl _))
      replace HBr := Lib.hid (HBr.out.trans (hb8.mono HBr.out.size))
      clear hb8 s0 s1 d0 d1 hp8 hnv HNG
      obtain ⟨u0, u1⟩ := cel2 HCUr.out
      go_wp2_with fail
      refine (HTR2.out _ _ HSr.out HSUr.out HNV.out).mono ?_
      rintro e w9 ⟨⟨pv2, vv2, rfl, hs2⟩, hb9⟩
      obtain ⟨hq2, EV2, eV, rfl, _, _, _⟩ := id hs2
      obtain ⟨EP, ep, rfl, _⟩ := hq2.shape
      dsimp only at *
      obtain ⟨W9, hW9⟩ : ∃ W9, W9 = w9.alloc (.cells #[.slice EP pr.length ep, .slice EV2 vs0.length eV] 29) := ⟨_, rfl⟩
      obtain ⟨XB, hXB⟩ : ∃ XB, XB = w9.heap.size := ⟨_, rfl⟩
      have hba : Below w9.heap.size w9 W9 := by rw [hW9]; exact (Below.refl _ _).alloc (Nat.le_refl _) _
      have HCX : Hid (Cells W9 XB 29 [.slice EP pr.length ep, .slice EV2 vs0.length eV]) := Lib.hid (by rw [hW9, hXB]; exact Cells.new w9 29 #[.slice EP pr.length ep, .slice EV2 vs0.length eV])
      have hb99 := hb9.trans (hba.mono hb9.size)
      have HS2 := Lib.hid (hs2.lift hba)
      replace HCSr := Lib.hid (HCSr.out.below hb99 HCSr.out.lt)
      replace HCUr := Lib.hid (HCUr.out.below hb99 HCUr.out.lt)
      replace HCD := Lib.hid (HCD.out.below hb99 HCD.out.lt)
      replace HSVr := Lib.hid (HSVr.out.lift hb99)
      replace HSUr := Lib.hid (HSUr.out.lift hb99)
      replace HDV := Lib.hid (HDV.out.lift hb99)
      replace HBr := Lib.hid (HBr.out.trans (hb99.mono HBr.out.size))
      clear hb9 hb99 hba hs2 hq2 u0 u1 HTR2
      go_upto_region 25 with (fail)
      rw [← hW9, ← hXB]
      clear hW9 hXB
      obtain ⟨u0, u1⟩ := cel2 HCUr.out
      obtain ⟨d0, d1⟩ := cel2 HCD.out
      go_wp2_with fail
      refine (equal48_same _ _ _ _ ts _ HSUr.out HDV.out HEV.out).mono ?_
      rintro e w10 ⟨rfl, hb10⟩
      replace HCSr := Lib.hid (HCSr.out.below hb10 HCSr.out.lt)
      replace HCX := Lib.hid (HCX.out.below hb10 HCX.out.lt)
      replace HSVr := Lib.hid (HSVr.out.lift hb10)
      replace HS2 := Lib.hid (HS2.out.lift hb10)
      replace HBr := Lib.hid (HBr.out.trans (hb10.mono HBr.out.size))
      clear hb10 u0 u1 d0 d1
      obtain ⟨s0, s1⟩ := cel2 HCSr.out
      obtain ⟨x0, x1⟩ := cel2 HCX.out
      go_wp2_with fail
      refine (equal48_same _ _ _ _ ⟨pr, vs0⟩ _ HS2.out HSVr.out HEV0.out).mono ?_
      rintro e w11 ⟨rfl, hb11⟩
      go_wp2_with fail
      go_ret
      exact ⟨rfl, HBr.out.trans (hb11.mono HBr.out.size)⟩
    ·have hqb : (qq == 0) = false := by simpa using hq
     have hqn : (qq != 0) = true := by simpa using hq
     have hqt : qq = te := by rcases HST.out with h | h; exact absurd h.1 hq; exact h.2
     have htz : ts = ⟨[], []⟩ := HTB.out (by rw [← hqt]; exact hq)
     have HEM : Box (∀ W, ScV W W.heap.size (.slice Option.none 0 0) (.slice Option.none 0 0) ts) := ⟨fun W => by rw [htz]; exact ⟨IRow.nil _ _, Option.none, 0, rfl, Nat.le_refl _, Nat.zero_le _, LT.nil _ _ _⟩⟩
     have HEV : Box (∀ v ∈ ts.voices, v.evs.length ≤ 1000000 ∧ ∀ x ∈ v.evs, x.notes.length ≤ 1000000) := ⟨by rw [htz]; simp⟩
     have htq : (te == qq) = true := by rw [hqt]; simp
     obtain ⟨u0, u1⟩ := cel2 HCUr.out
     clear hq hqt htz HST
     by_cases hlt : k < vs0.length
     ·have hki : (k : Int) < (vs0.length : Int) := by omega
      go_wp2_with fail
      refine (equal48_same _ _ _ _ ts _ HSUr.out (HEM.out _) HEV.out).mono ?_
      rintro e w11 ⟨rfl, hb11⟩
      go_wp2_with fail
      go_ret
      exact ⟨rfl, HBr.out.trans (hb11.mono HBr.out.size)⟩
     ·obtain rfl : k = vs0.length := by omega
      go_wp2_with fail
      refine (equal48_same _ _ _ _ ts _ HSUr.out (HEM.out _) HEV.out).mono ?_
      rintro e w11 ⟨rfl, hb11⟩
      go_wp2_with fail
      go_ret
      exact ⟨rfl, HBr.out.trans (hb11.mono HBr.out.size)⟩

end Go.Proofs.YtaaeekahhhookaaGreatDoor
