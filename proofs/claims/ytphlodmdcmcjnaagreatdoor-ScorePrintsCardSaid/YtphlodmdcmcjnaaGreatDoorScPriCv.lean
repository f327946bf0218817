/- ScorePrints: the walk. (Printed by gen48.py.) -/
import Derived.Test.YtphlodmdcmcjnaaGreatDoorGXNCv
import Derived.Test.YtphlodmdcmcjnaaGreatDoorGXDMCv
import Derived.Test.YtphlodmdcmcjnaaGreatDoorMk48Cv
import Derived.Test.YtphlodmdcmcjnaaGreatDoorGXUCv
import Derived.Test.YtphlodmdcmcjnaaGreatDoorPn48Cv
import Derived.Test.YtphlodmdcmcjnaaGreatDoorEq48Cv
import Derived.Test.YtphlodmdcmcjnaaGreatDoorGXLCv
namespace Go.Proofs.YtphlodmdcmcjnaaGreatDoor
open Go.RowKit Go.Lib

set_option maxRecDepth 100000 in
set_option maxHeartbeats 8000000 in
theorem scPri_walk (n0 : Nat) (v0 : Value) (l0 : List (List Bt)) (w : World) (hS : Std w) (hL : ∃ m, w.cell? ⟨0, 0, Option.none⟩ = some (.int .i64 m)) (hn : n0 ≤ 255) (hv : PlA w v0 l0) :
    Calls Tryz.prog 3 #[.agg #[.int .u8 n0, v0]] w fun e w' => e = .returned (.bool true) ∧ Below w.heap.size w w' := by
  have HS := Lib.hid hS
  have HLI : Hid (LenIs w) := Lib.hid hL
  have HV0 := Lib.hid hv
  obtain ⟨A0, c0, rfl, hc01, hc02, _⟩ := hv
  unfold maxLen at hc02
  obtain ⟨W0, hW0⟩ : ∃ W0, W0 = (w.alloc (.cells #[.int .u8 n0, .slice A0 l0.length c0] 24)) := ⟨_, rfl⟩
  have hb0 : Below w.heap.size w W0 := by rw [hW0]; exact ((Below.refl w.heap.size w).alloc (Nat.le_refl _) _)
  have HPB : Hid (Cells W0 w.heap.size 24 [.int .u8 n0, .slice A0 l0.length c0]) := Lib.hid (by rw [hW0]; exact Cells.new w 24 #[.int .u8 n0, .slice A0 l0.length c0])
  have HB := Lib.hid hb0
  replace HS := Lib.hid (HS.out.below hb0 (Nat.le_refl _))
  replace HLI : Hid (LenIs W0) := Lib.hid (HLI.out.below hb0)
  replace HV0 := Lib.hid (HV0.out.lift hb0)
  clear hS hL hb0
  go_enter Tryz.func3, Tryz.ntmps3
  go_upto_region 1 with (fail)
  rw [← hW0]
  clear hW0
  obtain ⟨z0, z1⟩ := cel2 HPB.out
  go_wp2_with fail
  refine (known48 _ HS.out HLI.out).mono ?_
  rintro e w1 ⟨rfl, hb1⟩
  replace HPB := Lib.hid (HPB.out.below hb1 HPB.out.lt)
  replace HB := Lib.hid (HB.out.trans (hb1.mono HB.out.size))
  replace HS := Lib.hid (HS.out.below hb1 (Nat.le_refl _))
  replace HLI : Hid (LenIs w1) := Lib.hid (HLI.out.below hb1)
  replace HV0 := Lib.hid (HV0.out.lift hb1)
  clear z0 z1 hb1
  obtain ⟨z0, z1⟩ := cel2 HPB.out
  go_wp2_with fail
  refine (fits48_any n0 _ l0 _ HV0.out).mono ?_
  rintro e w2 ⟨rfl, hb2⟩
  replace HPB := Lib.hid (HPB.out.below hb2 HPB.out.lt)
  replace HB := Lib.hid (HB.out.trans (hb2.mono HB.out.size))
  replace HS := Lib.hid (HS.out.below hb2 (Nat.le_refl _))
  replace HLI : Hid (LenIs w2) := Lib.hid (HLI.out.below hb2)
  replace HV0 := Lib.hid (HV0.out.lift hb2)
  clear z0 z1 hb2
  cases hfit : fitsPl l0 with
  | false =>
    clear hfit
    go_wp2_with fail
    refine (known48 _ HS.out HLI.out).mono ?_
    rintro e w9 ⟨rfl, hb9⟩
    go_wp2_with fail
    go_ret
    exact ⟨rfl, HB.out.trans (hb9.mono HB.out.size)⟩
  | true =>
    have HMK := Lib.hid (fun W h1 h2 => make48_any n0 (.slice A0 l0.length c0) l0 W h1 hn h2 hfit)
    obtain ⟨s, hs⟩ : ∃ s, s = makeSc n0 l0 := ⟨_, rfl⟩
    obtain ⟨dss, hdss⟩ : ∃ dss, dss = dursOf l0 := ⟨_, rfl⟩
    have HSE : Box (scErr s = 0) := ⟨by rw [hs]; exact makeSc_err hfit⟩
    have HSM : Box (ScSm s) := ⟨by rw [hs]; exact makeSc_sm hfit⟩
    have HSH : Box (ShortV s.voices dss) := ⟨by rw [hs, hdss]; exact makeSc_times hfit⟩
    have HSL : Box (s.voices.length = l0.length ∧ l0.length ≤ 3) := ⟨by rw [hs]; exact ⟨(makeSc_len hfit), (fits_mem hfit).1⟩⟩
    have HSS : Box (s = makeSc n0 l0 ∧ dss = dursOf l0 ∧ fitsPl l0 = true) := ⟨⟨hs, hdss, hfit⟩⟩
    rw [← hs] at HMK
    clear hs hdss hfit
    obtain ⟨z0, z1⟩ := cel2 HPB.out
    go_wp2_with fail
    refine (HMK.out _ HS.out HV0.out).mono ?_
    rintro e w3 ⟨⟨pv, vv, rfl, hsv⟩, hb3⟩
    obtain ⟨W3, hW3⟩ : ∃ W3, W3 = w3.alloc (.cells #[pv, vv] 31) := ⟨_, rfl⟩
    have hba : Below w3.heap.size w3 W3 := by rw [hW3]; exact (Below.refl _ _).alloc (Nat.le_refl _) _
    obtain ⟨SB, hSB⟩ : ∃ SB, SB = w3.heap.size := ⟨_, rfl⟩
    have HCS : Hid (Cells W3 SB 31 [pv, vv]) := Lib.hid (by rw [hW3, hSB]; exact Cells.new w3 31 #[pv, vv])
    have hb33 := hb3.trans (hba.mono hb3.size)
    have HSV := Lib.hid (hsv.lift hba)
    replace HB := Lib.hid (HB.out.trans (hb33.mono HB.out.size))
    replace HS := Lib.hid (HS.out.below hb33 (Nat.le_refl _))
    replace HLI : Hid (LenIs W3) := Lib.hid (HLI.out.below hb33)
    obtain ⟨hpq, AV, cV, rfl, hcV1, hcV2, _⟩ := hsv
    obtain ⟨AP, cp, rfl, _⟩ := hpq.shape
    have hSBw : w.heap.size ≤ SB := by have := HB.out.size; have := HCS.out.lt; rw [hSB]; have h3 := hb3.size; have h4 := HPB.out.lt; omega
    unfold maxLen at hcV2
    clear hpq hba hb3 hb33 z0 z1 HPB HV0 HMK
    obtain ⟨sc0, sc1⟩ := cel2 HCS.out
    go_upto_region 4 with (fail)
    rw [← hW3, ← hSB]
    clear hW3 hSB
    have hmk := mk_print (n := n0) HSS.out.2.2
    rw [← HSS.out.1] at hmk
    obtain ⟨hpo, hT, hN, hsc, hpa⟩ := hmk
    have hok := ScOk.of HSE.out
    have HPR := Lib.hid (fun W h1 h2 => scPrint_ok (.slice AP s.primes.length cp) (.slice AV s.voices.length cV) s W h1 h2 HSM.out HSE.out (by omega) (by omega))
    rw [hpo] at HPR
    have HPA := Lib.hid (fun W h1 h2 => scParse_any (lnsT (scL s)) W h1 h2 hsc)
    rw [hpa] at HPA
    have HPN := Lib.hid (fun W h1 h2 => print48_any (.slice AP s.primes.length cp) (.slice AV s.voices.length cV) s W h1 h2 hok (by omega))
    have HEV : Box (∀ v ∈ s.voices, v.evs.length ≤ 1000000 ∧ ∀ x ∈ v.evs, x.notes.length ≤ 1000000) := ⟨fun v hv => ⟨by have := hok.evs v hv; omega, fun x hx => by have := (hok.ev v hv x hx).2.1; omega⟩⟩
    clear hpo hT hN hsc hpa hok
    generalize lnsT (scL s) = T at *
    go_wp2_with fail
    refine (HPR.out _ HS.out HSV.out).mono ?_
    rintro e w4 ⟨rfl, hb4⟩
    clear sc0 sc1 HPR
    replace HCS := Lib.hid (HCS.out.below hb4 HCS.out.lt)
    replace HSV := Lib.hid (HSV.out.lift hb4)
    replace HB := Lib.hid (HB.out.trans (hb4.mono HB.out.size))
    replace HS := Lib.hid (HS.out.below hb4 (Nat.le_refl _))
    replace HLI : Hid (LenIs w4) := Lib.hid (HLI.out.below hb4)
    clear hb4
    go_wp2_with fail
    refine (HPA.out _ HS.out HLI.out).mono ?_
    rintro e w5 ⟨⟨qv, uv, rfl, hsv2⟩, hb5⟩
    clear HPA
    replace HCS := Lib.hid (HCS.out.below hb5 HCS.out.lt)
    replace HSV := Lib.hid (HSV.out.lift hb5)
    replace HB := Lib.hid (HB.out.trans (hb5.mono HB.out.size))
    replace HS := Lib.hid (HS.out.below hb5 (Nat.le_refl _))
    replace HLI : Hid (LenIs w5) := Lib.hid (HLI.out.below hb5)
    have HSV2 := Lib.hid hsv2
    obtain ⟨hpq2, BV, dV, rfl, hd1, hd2, _⟩ := hsv2
    obtain ⟨BP, dp, rfl, _⟩ := hpq2.shape
    clear hpq2 hb5
    obtain ⟨W6, hW6⟩ : ∃ W6, W6 = (w5.alloc (.cells #[.slice BP s.primes.length dp, .slice BV s.voices.length dV] 31)).alloc (.cells #[.int .i64 0, .int .i64 0] 37) := ⟨_, rfl⟩
    obtain ⟨UB, hUB⟩ : ∃ UB, UB = w5.heap.size := ⟨_, rfl⟩
    have hb6 : Below w5.heap.size w5 W6 := by rw [hW6]; exact ((Below.refl _ _).alloc (Nat.le_refl _) _).alloc (by simp) _
    have HUC : Hid (Cells W6 UB 31 [.slice BP s.primes.length dp, .slice BV s.voices.length dV]) := Lib.hid (by rw [hW6, hUB]; exact (Cells.new w5 31 #[.slice BP s.primes.length dp, .slice BV s.voices.length dV]).alloc _)
    have HUP : Hid (Cells W6 (UB + 1) 37 [.int .i64 0, .int .i64 0]) := Lib.hid (by
      have h := Cells.new (w5.alloc (.cells #[.slice BP s.primes.length dp, .slice BV s.voices.length dV] 31)) 37 #[.int .i64 0, .int .i64 0]
      rw [World.size_alloc, ← hUB] at h
      rw [hW6]
      exact h)
    replace HCS := Lib.hid (HCS.out.below hb6 HCS.out.lt)
    replace HSV := Lib.hid (HSV.out.lift hb6)
    replace HB := Lib.hid (HB.out.trans (hb6.mono HB.out.size))
    replace HS := Lib.hid (HS.out.below hb6 (Nat.le_refl _))
    replace HLI : Hid (LenIs W6) := Lib.hid (HLI.out.below hb6)
    replace HSV2 := Lib.hid (HSV2.out.lift hb6)
    clear hb6
    go_upto_region 6 with (fail)
    rw [← hW6, ← hUB]
    clear hW6 hUB
    have hpe : ∀ W, (binOp .eql 37 (.agg #[.int .i64 0, .int .i64 0]) (.agg #[.int .i64 0, .int .i64 0])).run Tryz.prog W = .ok (.bool true) W := place_eql
    obtain ⟨sc0, sc1⟩ := cel2 HCS.out
    go_wp2_with fail
    refine (HPN.out _ HS.out HSV.out).mono ?_
    rintro e w7 ⟨rfl, hb7⟩
    replace HCS := Lib.hid (HCS.out.below hb7 HCS.out.lt)
    replace HUC := Lib.hid (HUC.out.below hb7 HUC.out.lt)
    replace HUP := Lib.hid (HUP.out.below hb7 HUP.out.lt)
    replace HSV := Lib.hid (HSV.out.lift hb7)
    replace HSV2 := Lib.hid (HSV2.out.lift hb7)
    replace HB := Lib.hid (HB.out.trans (hb7.mono HB.out.size))
    clear hb7 sc0 sc1 HPN
    obtain ⟨sc0, sc1⟩ := cel2 HCS.out
    obtain ⟨y0, y1⟩ := cel2 HUC.out
    go_wp2_with fail
    refine (equal48_same _ _ _ _ s w7 HSV.out HSV2.out HEV.out).mono ?_
    rintro e w8 ⟨rfl, hb8⟩
    replace HUP := Lib.hid (HUP.out.below hb8 HUP.out.lt)
    replace HB := Lib.hid (HB.out.trans (hb8.mono HB.out.size))
    clear hb8 sc0 sc1 y0 y1
    obtain ⟨y0, y1⟩ := cel2 HUP.out
    go_wp2_with fail
    go_ret
    exact ⟨rfl, HB.out⟩

end Go.Proofs.YtphlodmdcmcjnaaGreatDoor
