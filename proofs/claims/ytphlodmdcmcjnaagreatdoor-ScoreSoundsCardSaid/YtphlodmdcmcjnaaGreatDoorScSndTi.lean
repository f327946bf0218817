/- ScoreSounds: the walk. (Printed by gen48.py.) -/
import Derived.Test.YtphlodmdcmcjnaaGreatDoorGXNTi
import Derived.Test.YtphlodmdcmcjnaaGreatDoorGXDMTi
import Derived.Test.YtphlodmdcmcjnaaGreatDoorMk48Ti
import Derived.Test.YtphlodmdcmcjnaaGreatDoorGXOTi
import Derived.Test.YtphlodmdcmcjnaaGreatDoorGXFTi
namespace Go.Proofs.YtphlodmdcmcjnaaGreatDoor
open Go.RowKit Go.Lib

set_option maxRecDepth 100000 in
set_option maxHeartbeats 8000000 in
theorem scSnd_walk (n0 : Nat) (v0 : Value) (l0 : List (List Bt)) (s1 t1 : List UInt8) (w : World) (hS : Std w) (hL : ∃ m, w.cell? ⟨0, 0, Option.none⟩ = some (.int .i64 m)) (hn : n0 ≤ 255) (hv : PlA w v0 l0) (hs1 : s1.length ≤ maxLen) (ht1 : t1.length ≤ maxLen) :
    Calls Tryz.prog 8 #[.agg #[.int .u8 n0, v0], .agg #[.string ⟨s1.toArray⟩, .string ⟨t1.toArray⟩]] w fun e w' => e = .returned (.bool true) ∧ Below w.heap.size w w' := by
  unfold maxLen at hs1 ht1
  have HS := Lib.hid hS
  have HLI : Hid (LenIs w) := Lib.hid hL
  have HV0 := Lib.hid hv
  obtain ⟨A0, c0, rfl, hc01, hc02, _⟩ := hv
  unfold maxLen at hc02
  obtain ⟨W0, hW0⟩ : ∃ W0, W0 = ((w.alloc (.cells #[.int .u8 n0, .slice A0 l0.length c0] 24)).alloc (.cells #[.string ⟨s1.toArray⟩, .string ⟨t1.toArray⟩] 55)) := ⟨_, rfl⟩
  have hb0 : Below w.heap.size w W0 := by rw [hW0]; exact (((Below.refl w.heap.size w).alloc (Nat.le_refl _) _).alloc (by simp) _)
  have HPB : Hid (Cells W0 w.heap.size 24 [.int .u8 n0, .slice A0 l0.length c0]) := Lib.hid (by rw [hW0]; exact ((Cells.new w 24 #[.int .u8 n0, .slice A0 l0.length c0]).alloc _))
  have HBX1 : Hid (Cells W0 (w.heap.size + 1) 55 [.string ⟨s1.toArray⟩, .string ⟨t1.toArray⟩]) := Lib.hid (by
    have h := Cells.new (w.alloc (.cells #[.int .u8 n0, .slice A0 l0.length c0] 24)) 55 #[.string ⟨s1.toArray⟩, .string ⟨t1.toArray⟩]
    simp only [World.size_alloc] at h
    rw [hW0]
    exact h)
  have HB := Lib.hid hb0
  replace HS := Lib.hid (HS.out.below hb0 (Nat.le_refl _))
  replace HLI : Hid (LenIs W0) := Lib.hid (HLI.out.below hb0)
  replace HV0 := Lib.hid (HV0.out.lift hb0)
  clear hS hL hb0
  go_enter Tryz.func8, Tryz.ntmps8
  go_upto_region 1 with (fail)
  rw [← hW0]
  clear hW0
  obtain ⟨z0, z1⟩ := cel2 HPB.out
  go_wp2_with fail
  refine (known48 _ HS.out HLI.out).mono ?_
  rintro e w1 ⟨rfl, hb1⟩
  replace HPB := Lib.hid (HPB.out.below hb1 HPB.out.lt)
  replace HBX1 := Lib.hid (HBX1.out.below hb1 HBX1.out.lt)
  replace HB := Lib.hid (HB.out.trans (hb1.mono HB.out.size))
  replace HS := Lib.hid (HS.out.below hb1 (Nat.le_refl _))
  replace HLI : Hid (LenIs w1) := Lib.hid (HLI.out.below hb1)
  replace HV0 := Lib.hid (HV0.out.lift hb1)
  clear z0 z1 hb1
  obtain ⟨z0, z1⟩ := cel2 HPB.out
  go_wp2_with fail
  refine (fits48_any n0 _ l0 _ HV0.out).mono ?_
  rintro e w2 ⟨rfl, hb2⟩
  replace HPB := Lib.hid (HPB.out.below hb2 HPB.out.lt)
  replace HBX1 := Lib.hid (HBX1.out.below hb2 HBX1.out.lt)
  replace HB := Lib.hid (HB.out.trans (hb2.mono HB.out.size))
  replace HS := Lib.hid (HS.out.below hb2 (Nat.le_refl _))
  replace HLI : Hid (LenIs w2) := Lib.hid (HLI.out.below hb2)
  replace HV0 := Lib.hid (HV0.out.lift hb2)
  clear z0 z1 hb2
  obtain ⟨y0, y1⟩ := cel2 HBX1.out
  cases hfit : fitsPl l0 with
  | false =>
    clear hfit
    go_wp2_with fail
    refine (known48 _ HS.out HLI.out).mono ?_
    rintro e w9 ⟨rfl, hb9⟩
    go_wp2_with fail
    go_ret
    exact ⟨rfl, HB.out.trans (hb9.mono HB.out.size)⟩
  | true =>
    obtain ⟨z0, z1⟩ := cel2 HPB.out
    by_cases hlen : 13 < s1.length
    · clear hfit
      go_wp2_with fail
      refine (known48 _ HS.out HLI.out).mono ?_
      rintro e w9 ⟨rfl, hb9⟩
      go_wp2_with fail
      go_ret
      exact ⟨rfl, HB.out.trans (hb9.mono HB.out.size)⟩
    by_cases hlen2 : 13 < t1.length
    · clear hfit
      go_wp2_with fail
      refine (known48 _ HS.out HLI.out).mono ?_
      rintro e w9 ⟨rfl, hb9⟩
      go_wp2_with fail
      go_ret
      exact ⟨rfl, HB.out.trans (hb9.mono HB.out.size)⟩
    have HMK := Lib.hid (fun W h1 h2 => make48_any n0 (.slice A0 l0.length c0) l0 W h1 hn h2 hfit)
    obtain ⟨s, hs⟩ : ∃ s, s = makeSc n0 l0 := ⟨_, rfl⟩
    obtain ⟨dss, hdss⟩ : ∃ dss, dss = dursOf l0 := ⟨_, rfl⟩
    have HSE : Box (scErr s = 0) := ⟨by rw [hs]; exact makeSc_err hfit⟩
    have HSM : Box (ScSm s) := ⟨by rw [hs]; exact makeSc_sm hfit⟩
    have HSH : Box (ShortV s.voices dss) := ⟨by rw [hs, hdss]; exact makeSc_times hfit⟩
    have HSL : Box (s.voices.length = l0.length ∧ l0.length ≤ 3) := ⟨by rw [hs]; exact ⟨(makeSc_len hfit), (fits_mem hfit).1⟩⟩
    have HSS : Box (s = makeSc n0 l0 ∧ dss = dursOf l0 ∧ fitsPl l0 = true) := ⟨⟨hs, hdss, hfit⟩⟩
    rw [← hs] at HMK
    clear hs hdss hfit
    go_wp2_with fail
    refine (HMK.out _ HS.out HV0.out).mono ?_
    rintro e w3 ⟨⟨pv, vv, rfl, hsv⟩, hb3⟩
    obtain ⟨W3, hW3⟩ : ∃ W3, W3 = w3.alloc (.cells #[pv, vv] 31) := ⟨_, rfl⟩
    have hba : Below w3.heap.size w3 W3 := by rw [hW3]; exact (Below.refl _ _).alloc (Nat.le_refl _) _
    obtain ⟨SB, hSB⟩ : ∃ SB, SB = w3.heap.size := ⟨_, rfl⟩
    have HCS : Hid (Cells W3 SB 31 [pv, vv]) := Lib.hid (by rw [hW3, hSB]; exact Cells.new w3 31 #[pv, vv])
    have hb33 := hb3.trans (hba.mono hb3.size)
    replace HBX1 := Lib.hid (HBX1.out.below hb33 HBX1.out.lt)
    have HSV := Lib.hid (hsv.lift hba)
    replace HB := Lib.hid (HB.out.trans (hb33.mono HB.out.size))
    replace HS := Lib.hid (HS.out.below hb33 (Nat.le_refl _))
    replace HLI : Hid (LenIs W3) := Lib.hid (HLI.out.below hb33)
    obtain ⟨hpq, AV, cV, rfl, hcV1, hcV2, _⟩ := hsv
    obtain ⟨AP, cp, rfl, _⟩ := hpq.shape
    have hSBw : w.heap.size ≤ SB := by have := HB.out.size; have := HCS.out.lt; rw [hSB]; have h3 := hb3.size; have h4 := HPB.out.lt; omega
    unfold maxLen at hcV2
    clear hpq hba hb3 hb33 z0 z1 y0 y1 HPB HV0 HMK
    obtain ⟨sc0, sc1⟩ := cel2 HCS.out
    go_upto_region 4 with (fail)
    rw [← hW3, ← hSB]
    clear hW3 hSB
    obtain ⟨y0, y1⟩ := cel2 HBX1.out
    by_cases hF : FracB s1 t1
    · obtain ⟨n, d, rfl, rfl, hn4, hd4, hd0, hg⟩ := hF
      have hn13 : (itoa n).length ≤ 400 := by omega
      have hd13 : (itoa d).length ≤ 400 := by omega
      have HAT := Lib.hid (fun W h1 h2 => at48_any (.slice AP s.primes.length cp) (.slice AV s.voices.length cV) s dss (itoa n) (itoa d) (fun a => cmpQ (lowN a 12) (lowD a 12) n d) (fun b => cmpQ n d (lowN b 12) (lowD b 12)) W h1 h2 HSH.out (fun x => by unfold cmpQ cmpZ; split; exact .inl rfl; split; exact .inr (.inl rfl); exact .inr (.inr rfl)) (Lib.hid fun x W hx hS => fCmp_any (lowN x 12) (lowD x 12) n d W hS (Nat.le_trans (t12_len hx).1 (by decide)) (Nat.le_trans (t12_len hx).2 (by decide)) hn13 hd13 hd0) (Lib.hid fun x W hx hS => fCmp_any n d (lowN x 12) (lowD x 12) W hS hn13 hd13 (Nat.le_trans (t12_len hx).1 (by decide)) (Nat.le_trans (t12_len hx).2 (by decide)) (low_pos (by decide)).1))
      have HA4 := Lib.hid (fun W h1 h2 => scAt_ok (.slice AP s.primes.length cp) (.slice AV s.voices.length cV) s dss n d W h1 h2 HSM.out HSE.out HSH.out hn13 hd13 hd0 hg)
      have HCK := Lib.hid (fun W h => fracCheck_long n d W h (by omega) (by omega) hd0 hg)
      have HSNL : Box ((snd (fun a => decide (cmpQ (lowN a 12) (lowD a 12) n d ≤ 0)) (fun b => decide (cmpQ n d (lowN b 12) (lowD b 12) < 0)) (dss.map strt)).length ≤ 10000000) := ⟨by
        have h1 := sndAll_len (fun a => decide (cmpQ (lowN a 12) (lowD a 12) n d ≤ 0)) (fun b => decide (cmpQ n d (lowN b 12) (lowD b 12) < 0)) (dss.map strt) 1000 (fun l hl => (all_short HSH.out hl).2) (dss.map strt).length (Nat.le_refl _)
        have h2 : (dss.map strt).length ≤ 1000 := by rw [List.length_map, ← HSH.out.tv.len]; exact HSH.out.vcs
        unfold snd
        have h3 := Nat.mul_le_mul_right 1000 h2
        omega⟩
      generalize snd (fun a => decide (cmpQ (lowN a 12) (lowD a 12) n d ≤ 0)) (fun b => decide (cmpQ n d (lowN b 12) (lowD b 12) < 0)) (dss.map strt) = sl at *
      clear hn4 hd4 hd0 hg hn13 hd13 hs1 ht1 hlen hlen2
      generalize itoa n = s1 at *
      generalize itoa d = t1 at *
      go_wp2_with fail
      refine (HA4.out _ HS.out HSV.out).mono ?_
      rintro e w4 ⟨⟨v4, rfl, h4⟩, hb4⟩
      obtain ⟨A4, c4, rfl, _, _, ht4⟩ := h4.shape
      have HT4 := Lib.hid ht4
      clear h4 ht4 sc0 sc1 y0 y1 HA4
      replace HCS := Lib.hid (HCS.out.below hb4 HCS.out.lt)
      replace HBX1 := Lib.hid (HBX1.out.below hb4 HBX1.out.lt)
      replace HSV := Lib.hid (HSV.out.lift hb4)
      replace HB := Lib.hid (HB.out.trans (hb4.mono HB.out.size))
      replace HS := Lib.hid (HS.out.below hb4 (Nat.le_refl _))
      clear hb4
      obtain ⟨y0, y1⟩ := cel2 HBX1.out
      go_wp2_with fail
      refine (HCK.out _ HS.out).mono ?_
      rintro e w5 ⟨rfl, hb5⟩
      replace HCS := Lib.hid (HCS.out.below hb5 HCS.out.lt)
      replace HBX1 := Lib.hid (HBX1.out.below hb5 HBX1.out.lt)
      replace HSV := Lib.hid (HSV.out.lift hb5)
      replace HB := Lib.hid (HB.out.trans (hb5.mono HB.out.size))
      replace HS := Lib.hid (HS.out.below hb5 (Nat.le_refl _))
      replace HT4 := Lib.hid (SnT.lift HT4.out hb5)
      clear hb5 y0 y1
      obtain ⟨y0, y1⟩ := cel2 HBX1.out
      obtain ⟨sc0, sc1⟩ := cel2 HCS.out
      go_wp2_with fail
      refine (HAT.out _ HS.out HSV.out).mono ?_
      rintro e w6 ⟨⟨v6, rfl, h6⟩, hb6⟩
      obtain ⟨A6, c6, rfl, _, _, ht6⟩ := h6.shape
      replace HT4 := Lib.hid (SnT.lift HT4.out hb6)
      replace HB := Lib.hid (HB.out.trans (hb6.mono HB.out.size))
      go_wp2_with fail
      refine (same48_eq _ _ _ _ sl w6 HT4.out ht6 HSNL.out).mono ?_
      rintro e w7 ⟨rfl, hb7⟩
      go_wp2_with fail
      go_ret
      exact ⟨rfl, HB.out.trans (hb7.mono HB.out.size)⟩
    · have HA4 := Lib.hid (fun W h1 h2 => scAt_num (.slice AP s.primes.length cp) (.slice AV s.voices.length cV) s s1 t1 W h1 h2 HSM.out HSE.out (by omega) (by omega) hF)
      have HCK := Lib.hid (fun W h => fracCheck_no s1 t1 W h (by omega) (by omega) hF)
      go_wp2_with fail
      refine (HA4.out _ HS.out HSV.out).mono ?_
      rintro e w4 ⟨rfl, hb4⟩
      clear sc0 sc1 y0 y1
      replace HBX1 := Lib.hid (HBX1.out.below hb4 HBX1.out.lt)
      replace HB := Lib.hid (HB.out.trans (hb4.mono HB.out.size))
      replace HS := Lib.hid (HS.out.below hb4 (Nat.le_refl _))
      obtain ⟨y0, y1⟩ := cel2 HBX1.out
      go_wp2_with fail
      refine (HCK.out _ HS.out).mono ?_
      rintro e w5 ⟨rfl, hb5⟩
      go_wp2_with fail
      go_ret
      exact ⟨rfl, HB.out.trans (hb5.mono HB.out.size)⟩

end Go.Proofs.YtphlodmdcmcjnaaGreatDoor
