/- ScoreCovers: the walk. (Printed by gen48.py.) -/
import Derived.Test.YtphlodmdcmcjnaaGreatDoorGXNCv
import Derived.Test.YtphlodmdcmcjnaaGreatDoorGXDMCv
import Derived.Test.YtphlodmdcmcjnaaGreatDoorMk48Cv
import Derived.Test.YtphlodmdcmcjnaaGreatDoorGXOCv
import Derived.Test.YtphlodmdcmcjnaaGreatDoorGXFCv
import Derived.Test.YtphlodmdcmcjnaaGreatDoorGXRCv
import Derived.BigQuiet
namespace Go.Proofs.YtphlodmdcmcjnaaGreatDoor
open Go.RowKit Go.Lib

set_option maxRecDepth 100000 in
set_option maxHeartbeats 8000000 in
theorem scCov_walk (n0 : Nat) (v0 : Value) (l0 : List (List Bt)) (w : World) (hS : Std w) (hL : ∃ m, w.cell? ⟨0, 0, Option.none⟩ = some (.int .i64 m)) (hn : n0 ≤ 255) (hv : PlA w v0 l0) :
    Calls Tryz.prog 9 #[.agg #[.int .u8 n0, v0]] w fun e w' => e = .returned (.bool true) ∧ Below w.heap.size w w' := by
  have HS := Lib.hid hS
  have HLI : Hid (LenIs w) := Lib.hid hL
  have HV0 := Lib.hid hv
  obtain ⟨A0, c0, rfl, hc01, hc02, _⟩ := hv
  unfold maxLen at hc02
  obtain ⟨W0, hW0⟩ : ∃ W0, W0 = (w.alloc (.cells #[.int .u8 n0, .slice A0 l0.length c0] 24)) := ⟨_, rfl⟩
  have hb0 : Below w.heap.size w W0 := by rw [hW0]; exact ((Below.refl w.heap.size w).alloc (Nat.le_refl _) _)
  have HPB : Hid (Cells W0 w.heap.size 24 [.int .u8 n0, .slice A0 l0.length c0]) := Lib.hid (by rw [hW0]; exact Cells.new w 24 #[.int .u8 n0, .slice A0 l0.length c0])
  have HB := Lib.hid hb0
  replace HS := Lib.hid (HS.out.below hb0 (Nat.le_refl _))
  replace HLI : Hid (LenIs W0) := Lib.hid (HLI.out.below hb0)
  replace HV0 := Lib.hid (HV0.out.lift hb0)
  clear hS hL hb0
  go_enter Tryz.func9, Tryz.ntmps9
  go_upto_region 1 with (fail)
  rw [← hW0]
  clear hW0
  obtain ⟨z0, z1⟩ := cel2 HPB.out
  go_wp2_with fail
  refine (known48 _ HS.out HLI.out).mono ?_
  rintro e w1 ⟨rfl, hb1⟩
  replace HPB := Lib.hid (HPB.out.below hb1 HPB.out.lt)
  replace HB := Lib.hid (HB.out.trans (hb1.mono HB.out.size))
  replace HS := Lib.hid (HS.out.below hb1 (Nat.le_refl _))
  replace HLI : Hid (LenIs w1) := Lib.hid (HLI.out.below hb1)
  replace HV0 := Lib.hid (HV0.out.lift hb1)
  clear z0 z1 hb1
  obtain ⟨z0, z1⟩ := cel2 HPB.out
  go_wp2_with fail
  refine (fits48_any n0 _ l0 _ HV0.out).mono ?_
  rintro e w2 ⟨rfl, hb2⟩
  replace HPB := Lib.hid (HPB.out.below hb2 HPB.out.lt)
  replace HB := Lib.hid (HB.out.trans (hb2.mono HB.out.size))
  replace HS := Lib.hid (HS.out.below hb2 (Nat.le_refl _))
  replace HLI : Hid (LenIs w2) := Lib.hid (HLI.out.below hb2)
  replace HV0 := Lib.hid (HV0.out.lift hb2)
  clear z0 z1 hb2
  cases hfit : fitsPl l0 with
  | false =>
    clear hfit
    go_wp2_with fail
    refine (known48 _ HS.out HLI.out).mono ?_
    rintro e w9 ⟨rfl, hb9⟩
    go_wp2_with fail
    go_ret
    exact ⟨rfl, HB.out.trans (hb9.mono HB.out.size)⟩
  | true =>
    have HMK := Lib.hid (fun W h1 h2 => make48_any n0 (.slice A0 l0.length c0) l0 W h1 hn h2 hfit)
    obtain ⟨s, hs⟩ : ∃ s, s = makeSc n0 l0 := ⟨_, rfl⟩
    obtain ⟨dss, hdss⟩ : ∃ dss, dss = dursOf l0 := ⟨_, rfl⟩
    have HSE : Box (scErr s = 0) := ⟨by rw [hs]; exact makeSc_err hfit⟩
    have HSM : Box (ScSm s) := ⟨by rw [hs]; exact makeSc_sm hfit⟩
    have HSH : Box (ShortV s.voices dss) := ⟨by rw [hs, hdss]; exact makeSc_times hfit⟩
    have HSL : Box (s.voices.length = l0.length ∧ l0.length ≤ 3) := ⟨by rw [hs]; exact ⟨(makeSc_len hfit), (fits_mem hfit).1⟩⟩
    have HSS : Box (s = makeSc n0 l0 ∧ dss = dursOf l0 ∧ fitsPl l0 = true) := ⟨⟨hs, hdss, hfit⟩⟩
    rw [← hs] at HMK
    clear hs hdss hfit
    obtain ⟨z0, z1⟩ := cel2 HPB.out
    go_wp2_with fail
    refine (HMK.out _ HS.out HV0.out).mono ?_
    rintro e w3 ⟨⟨pv, vv, rfl, hsv⟩, hb3⟩
    obtain ⟨W3, hW3⟩ : ∃ W3, W3 = w3.alloc (.cells #[pv, vv] 31) := ⟨_, rfl⟩
    have hba : Below w3.heap.size w3 W3 := by rw [hW3]; exact (Below.refl _ _).alloc (Nat.le_refl _) _
    obtain ⟨SB, hSB⟩ : ∃ SB, SB = w3.heap.size := ⟨_, rfl⟩
    have HCS : Hid (Cells W3 SB 31 [pv, vv]) := Lib.hid (by rw [hW3, hSB]; exact Cells.new w3 31 #[pv, vv])
    have hb33 := hb3.trans (hba.mono hb3.size)
    have HSV := Lib.hid (hsv.lift hba)
    replace HB := Lib.hid (HB.out.trans (hb33.mono HB.out.size))
    replace HS := Lib.hid (HS.out.below hb33 (Nat.le_refl _))
    replace HLI : Hid (LenIs W3) := Lib.hid (HLI.out.below hb33)
    obtain ⟨hpq, AV, cV, rfl, hcV1, hcV2, _⟩ := hsv
    obtain ⟨AP, cp, rfl, _⟩ := hpq.shape
    have hSBw : w.heap.size ≤ SB := by have := HB.out.size; have := HCS.out.lt; rw [hSB]; have h3 := hb3.size; have h4 := HPB.out.lt; omega
    unfold maxLen at hcV2
    clear hpq hba hb3 hb33 z0 z1 HPB HV0 HMK
    obtain ⟨sc0, sc1⟩ := cel2 HCS.out
    go_upto_region 4 with (fail)
    rw [← hW3, ← hSB]
    clear hW3 hSB
    go_wp2_with fail
    refine (scSlices_ok _ _ s dss W3 HS.out HSV.out HSM.out HSE.out HSH.out).mono ?_
    rintro e w4 ⟨⟨v4, rfl, hsl⟩, hb4⟩
    obtain ⟨A4, c4, rfl, hc41, hc42, ht4⟩ := hsl.shape
    have HT4 : Hid (SlT w4 w4.heap.size A4 (slcN dss)) := Lib.hid ht4
    clear hsl ht4 sc0 sc1
    replace HCS := Lib.hid (HCS.out.below hb4 HCS.out.lt)
    replace HSV := Lib.hid (HSV.out.lift hb4)
    replace HB := Lib.hid (HB.out.trans (hb4.mono HB.out.size))
    replace HS := Lib.hid (HS.out.below hb4 (Nat.le_refl _))
    replace HLI : Hid (LenIs w4) := Lib.hid (HLI.out.below hb4)
    clear hb4
    have HFIN : Box (_) := ⟨cov_fin HSH.out⟩
    have HA4 := Lib.hid (fun (c : Nat) W (hc : c ≤ 2000000) h1 h2 => scAt_ok (.slice AP s.primes.length cp) (.slice AV s.voices.length cV) s dss (lowN (c : Int) 24) (lowD (c : Int) 24) W h1 h2 HSM.out HSE.out HSH.out (tMid_len hc).1 (tMid_len hc).2 (low_pos (by decide)).1 (low_pos (by decide)).2)
    obtain ⟨sc0, sc1⟩ := cel2 HCS.out
    go_wp2_with fail
    refine (scLength_ok _ _ s dss w4 HS.out HSV.out HSM.out HSE.out HSH.out).mono ?_
    rintro e w5 ⟨rfl, hb5⟩
    obtain ⟨W5, hW5⟩ : ∃ W5, W5 = w5.alloc (.cells #[.string ⟨(t12n (endOf dss)).toArray⟩, .string ⟨(t12d (endOf dss)).toArray⟩] 55) := ⟨_, rfl⟩
    have hba : Below w5.heap.size w5 W5 := by rw [hW5]; exact (Below.refl _ _).alloc (Nat.le_refl _) _
    obtain ⟨XB, hXB⟩ : ∃ XB, XB = w5.heap.size := ⟨_, rfl⟩
    have HXB : Hid (Cells W5 XB 55 [.string ⟨(t12n (endOf dss)).toArray⟩, .string ⟨(t12d (endOf dss)).toArray⟩]) := Lib.hid (by rw [hW5, hXB]; exact Cells.new w5 55 #[.string ⟨(t12n (endOf dss)).toArray⟩, .string ⟨(t12d (endOf dss)).toArray⟩])
    have hb55 := hb5.trans (hba.mono hb5.size)
    replace HCS := Lib.hid (HCS.out.below hb55 HCS.out.lt)
    replace HSV := Lib.hid (HSV.out.lift hb55)
    replace HB := Lib.hid (HB.out.trans (hb55.mono HB.out.size))
    replace HS := Lib.hid (HS.out.below hb55 (Nat.le_refl _))
    replace HLI : Hid (LenIs W5) := Lib.hid (HLI.out.below hb55)
    replace HT4 : Hid (SlT W5 W5.heap.size A4 (slcN dss)) := Lib.hid (LT.keep HT4.out (E := []) (KpT.of_below hb55) (by simp) hb55.size fun _ _ _ h => h.keep (E := []) (KpT.of_below hb55) (by simp) hb55.size)
    clear hb5 hba hb55 sc0 sc1
    go_upto_region 6 with (fail)
    rw [← hW5, ← hXB]
    clear hW5 hXB
    generalize slcN dss = sl at *
    generalize ptsN dss = pts at *
    generalize endOf dss = en at *
    have HSLL : Box (sl.length ≤ 1001000) := ⟨HFIN.out.2.1⟩
    obtain ⟨W6, hW6⟩ : ∃ W6, W6 = W5.alloc (.cells #[.string ⟨#[48]⟩, .string ⟨#[49]⟩] 55) := ⟨_, rfl⟩
    have hba : Below W5.heap.size W5 W6 := by rw [hW6]; exact (Below.refl _ _).alloc (Nat.le_refl _) _
    obtain ⟨NB, hNB⟩ : ∃ NB, NB = W5.heap.size := ⟨_, rfl⟩
    have HNB : Hid (Cells W6 NB 55 [.string ⟨(t12n 0).toArray⟩, .string ⟨(t12d 0).toArray⟩]) := Lib.hid (by
      have e0 : t12n 0 = [48] := congrArg Prod.fst t12_zero
      have e1 : t12d 0 = [49] := congrArg Prod.snd t12_zero
      rw [e0, e1, hW6, hNB]
      exact Cells.new W5 55 #[.string ⟨#[48]⟩, .string ⟨#[49]⟩])
    have HBM : Hid (Below NB W5 W6) := Lib.hid (by rw [hNB]; exact hba)
    have hNBX : XB < NB := by rw [hNB]; exact HXB.out.lt
    have hNBw : w.heap.size ≤ NB := by rw [hNB]; exact HB.out.size
    have HSIZ : Box (NB = W5.heap.size) := ⟨hNB⟩
    clear hba
    go_upto_region 10 with (fail)
    rw [← hW6, ← hNB]
    clear hW6 hNB
    go_loopw [9] (fun i wr => ∃ k t : Nat, k ≤ sl.length ∧ pts[k]? = some t ∧ i = .int .i64 k ∧ Cells wr NB 55 [.string ⟨(t12n t).toArray⟩, .string ⟨(t12d t).toArray⟩] ∧ Below NB W5 wr) (fun i _ => sl.length - (intOf i).toNat)
    case atStart => exact ⟨0, 0, Nat.zero_le _, HFIN.out.2.2.1, rfl, HNB.out, HBM.out⟩
    case round =>
      clear HNB HBM
      obtain ⟨k, t, hk, hkt, rfl, hnb, hbm⟩ := hrel
      have hbw : Below W5.heap.size W5 wr := hbm.mono (by rw [← HSIZ.out]; exact Nat.le_refl _)
      have HCSr := Lib.hid (HCS.out.below hbw HCS.out.lt)
      have HSVr := Lib.hid (HSV.out.lift hbw)
      have HSr := Lib.hid (HS.out.below hbw (Nat.le_refl _))
      have HXBr := Lib.hid (HXB.out.below hbw HXB.out.lt)
      have HBr := Lib.hid (HB.out.trans (hbw.mono HB.out.size))
      have HBMr := Lib.hid hbm
      have HNBr := Lib.hid hnb
      have HKT : Box (pts[k]? = some t) := ⟨hkt⟩
      have hSX : SlT wr wr.heap.size A4 sl := LT.keep HT4.out (E := []) (KpT.of_below hbw) (by simp) hbw.size fun _ _ _ h => h.keep (E := []) (KpT.of_below hbw) (by simp) hbw.size
      obtain ⟨n0', n1'⟩ := cel2 hnb
      by_cases hlt : k < sl.length
      · obtain ⟨a, b, x, ha, hb, hab, hbl, hs, hxl, hmid⟩ := HFIN.out.2.2.2.2 k hlt
        obtain rfl : t = a := by rw [hkt] at ha; exact Option.some.inj ha
        obtain ⟨b9, o9, cs9, rfl, _, _, _, h4, hq⟩ := hSX.get k _ hs
        obtain ⟨A5, c5, rfl, hc51, hc52, ht5⟩ := hq
        have p0 : wr.cell? ⟨b9, o9 + k * 5, Option.none⟩ = some (.string ⟨(t12n t).toArray⟩) := h4 0 (by decide)
        have p1 : wr.cell? ⟨b9, o9 + k * 5 + 1, Option.none⟩ = some (.string ⟨(t12d t).toArray⟩) := h4 1 (by decide)
        have p2 : wr.cell? ⟨b9, o9 + k * 5 + 2, Option.none⟩ = some (.string ⟨(t12n b).toArray⟩) := h4 2 (by decide)
        have p3 : wr.cell? ⟨b9, o9 + k * 5 + 3, Option.none⟩ = some (.string ⟨(t12d b).toArray⟩) := h4 3 (by decide)
        have p4 : wr.cell? ⟨b9, o9 + k * 5 + 4, Option.none⟩ = some (.slice A5 x.length c5) := h4 4 (by decide)
        have HT5 : Hid (SnT wr wr.heap.size A5 x) := Lib.hid ht5
        have HA := HA4.out (t + b)
        rw [hmid] at HA
        have HSK : Box (sl[k]? = some (t, b, x)) := ⟨hs⟩
        have HLT : Box (k < sl.length) := ⟨hlt⟩
        have HNX : Box (pts[k + 1]? = some b) := ⟨hb⟩
        have HXL : Box (x.length ≤ 10000000) := ⟨hxl⟩
        have HAH := Lib.hid HA
        have htl : t ≤ 1000000 := by omega
        have HCM := Lib.hid (fun W => tCmp_any t b W htl hbl)
        have hcm : cmpN t b = -1 := by unfold cmpN; rw [if_pos hab]
        rw [hcm] at HCM
        have HAD := Lib.hid (fun W h => tAdd_any t b W h htl hbl)
        have HMU := Lib.hid (fun W h => tMid_any (t + b) W h (by omega))
        have HC2 : Box (t + b ≤ 2000000) := ⟨by omega⟩
        have hki : (k : Int) < (sl.length : Int) := by omega
        have hk0 : (0 : Int) ≤ (k : Int) := by omega
        have hnbl := hnb.lt
        have hne1 : ∀ W, (binOp .neq 55 (.agg #[.string ⟨(t12n t).toArray⟩, .string ⟨(t12d t).toArray⟩]) (.agg #[.string ⟨(t12n t).toArray⟩, .string ⟨(t12d t).toArray⟩])).run Tryz.prog W = .ok (.bool false) W := fun W => by rw [rat_neq]; simp
        clear ha hb hkt hs hxl hmid HA hSX h4 ht5 hc51 hc52 hnb hbm hcm hab hbl htl hbw
        generalize lowN ((t + b : Nat) : Int) 24 = mn at *
        generalize lowD ((t + b : Nat) : Int) 24 = md at *
        generalize itoa mn = mN at *
        generalize itoa md = mD at *
        have hB : Below wr.heap.size wr wr.drew := below_to_drew (Below.refl _ _)
        go_wp2_with fail
        go_region_held3 (fun w' => w'.cell? ⟨b9, o9 + k * 5, Option.none⟩ = some (.string ⟨(t12n t).toArray⟩) ∧ w'.cell? ⟨b9, o9 + k * 5 + 1, Option.none⟩ = some (.string ⟨(t12d t).toArray⟩) ∧ w'.cell? ⟨b9, o9 + k * 5 + 2, Option.none⟩ = some (.string ⟨(t12n b).toArray⟩) ∧ w'.cell? ⟨b9, o9 + k * 5 + 3, Option.none⟩ = some (.string ⟨(t12d b).toArray⟩) ∧ w'.cell? ⟨NB, 0, Option.none⟩ = some (.string ⟨(t12n t).toArray⟩) ∧ w'.cell? ⟨NB, 1, Option.none⟩ = some (.string ⟨(t12d t).toArray⟩))
          (first | exact ⟨keep_cell p0 hB, keep_cell p1 hB, keep_cell p2 hB, keep_cell p3 hB, keep_cell n0' hB, keep_cell n1' hB⟩ | go_keep)
          ((first
            | (go_at_call 23; (with_reducible refine (HCM.out _).mono ?_); rintro e wA ⟨rfl, hbk⟩; replace hB := hB.trans (hbk.mono hB.size); clear hbk)))
        have HNBa := Lib.hid (HNBr.out.below hB HNBr.out.lt)
        have HBMa := Lib.hid (HBMr.out.trans (hB.mono (Nat.le_of_lt hnbl)))
        have HCSa := Lib.hid (HCSr.out.below hB HCSr.out.lt)
        have HSVa := Lib.hid (HSVr.out.lift hB)
        have HSa := Lib.hid (HSr.out.below hB (Nat.le_refl _))
        have HBa := Lib.hid (HBr.out.trans (hB.mono HBr.out.size))
        have hwn := HNBa.out.lt
        have f0 := HNBa.out.free 0
        have f1 := HNBa.out.free 1
        obtain ⟨m0, m1⟩ := cel2 HNBa.out
        replace p2 := keep_cell p2 hB
        replace p3 := keep_cell p3 hB
        have HPA := Lib.hid HNBa.out
        clear hB p0 p1 p4 n0' n1' hnbl HT5 HCM hne1
        go_upto_region 15 with (fail)
        obtain ⟨W6, hW6⟩ : ∃ W6, W6 = (wA.setCell ⟨NB, 0, Option.none⟩ (.string ⟨(t12n b).toArray⟩)).setCell ⟨NB, 1, Option.none⟩ (.string ⟨(t12d b).toArray⟩) := ⟨_, rfl⟩
        have HNB6 : Hid (Cells W6 NB 55 [.string ⟨(t12n b).toArray⟩, .string ⟨(t12d b).toArray⟩]) := Lib.hid (by rw [hW6]; exact sr2_same HNBa.out)
        have HBM6 : Hid (Below NB W5 W6) := Lib.hid (by rw [hW6]; exact sr2_below (Nat.le_refl _) HBMa.out)
        have hb6 : Below W5.heap.size W5 W6 := HBM6.out.mono (by rw [← HSIZ.out]; exact Nat.le_refl _)
        have HCS6 := Lib.hid (HCS.out.below hb6 HCS.out.lt)
        have HSV6 := Lib.hid (HSV.out.lift hb6)
        have HS6 := Lib.hid (HS.out.below hb6 (Nat.le_refl _))
        have HB6 := Lib.hid (HB.out.trans (hb6.mono HB.out.size))
        have hSX6 : SlT W6 W6.heap.size (some ⟨b9, o9, Option.none⟩) sl := LT.keep HT4.out (E := []) (KpT.of_below hb6) (by simp) hb6.size fun _ _ _ h => h.keep (E := []) (KpT.of_below hb6) (by simp) hb6.size
        have HSX6 := Lib.hid hSX6
        rw [← hW6]
        clear hW6 p2 p3 f0 f1 m0 m1 hwn HPA HNBa HBMa HCSa HSVa HSa HBa hb6 HNBr HBMr HCSr HSVr HSr HBr HXBr
        obtain ⟨b8, o8, cs8, e8, _, _, _, h4, hq⟩ := hSX6.get k _ HSK.out
        injection e8 with e8
        injection e8 with e8 e7 _
        subst e8 e7
        obtain ⟨A6, c6, rfl, _, _, ht6⟩ := hq
        have p0 : W6.cell? ⟨b9, o9 + k * 5, Option.none⟩ = some (.string ⟨(t12n t).toArray⟩) := h4 0 (by decide)
        have p1 : W6.cell? ⟨b9, o9 + k * 5 + 1, Option.none⟩ = some (.string ⟨(t12d t).toArray⟩) := h4 1 (by decide)
        have p2 : W6.cell? ⟨b9, o9 + k * 5 + 2, Option.none⟩ = some (.string ⟨(t12n b).toArray⟩) := h4 2 (by decide)
        have p3 : W6.cell? ⟨b9, o9 + k * 5 + 3, Option.none⟩ = some (.string ⟨(t12d b).toArray⟩) := h4 3 (by decide)
        have HP4 : Hid (W6.cell? ⟨b9, o9 + k * 5 + 4, Option.none⟩ = some (.slice A6 x.length c6)) := Lib.hid (h4 4 (by decide))
        have HT6 : Hid (SnT W6 W6.heap.size A6 x) := Lib.hid ht6
        clear h4 ht6 hSX6
        go_cut [10] (fun s10 wx => ∃ g, s10 = .pointer (some ⟨g, 0, Option.none⟩) ∧ Cells wx g 55 [.string ⟨mN.toArray⟩, .string ⟨mD.toArray⟩] ∧ Below W6.heap.size W6 wx ∧ W6.heap.size ≤ g)
        case first =>
          have hB : Below W6.heap.size W6 W6.drew := below_to_drew (Below.refl _ _)
          go_region_held3 (fun w' => w'.cell? ⟨b9, o9 + k * 5, Option.none⟩ = some (.string ⟨(t12n t).toArray⟩) ∧ w'.cell? ⟨b9, o9 + k * 5 + 1, Option.none⟩ = some (.string ⟨(t12d t).toArray⟩) ∧ w'.cell? ⟨b9, o9 + k * 5 + 2, Option.none⟩ = some (.string ⟨(t12n b).toArray⟩) ∧ w'.cell? ⟨b9, o9 + k * 5 + 3, Option.none⟩ = some (.string ⟨(t12d b).toArray⟩))
            (first | exact ⟨keep_cell p0 hB, keep_cell p1 hB, keep_cell p2 hB, keep_cell p3 hB⟩ | exact ⟨keep_cell p0 (Below.alloc hB hB.size _), keep_cell p1 (Below.alloc hB hB.size _), keep_cell p2 (Below.alloc hB hB.size _), keep_cell p3 (Below.alloc hB hB.size _)⟩ | exact ⟨keep_cell p0 (sr2_below (by omega) hB), keep_cell p1 (sr2_below (by omega) hB), keep_cell p2 (sr2_below (by omega) hB), keep_cell p3 (sr2_below (by omega) hB)⟩ | go_keep)
            ((first
              | (go_at_call 32; (with_reducible refine (HAD.out _ ?hst).mono ?_); (case hst => first | exact HS6.out.below hB (Nat.le_refl _) | exact HS6.out.below (Below.alloc hB hB.size _) (Nat.le_refl _)); rintro e w7 ⟨rfl, hbk⟩; have hB7 : Below W6.heap.size W6 w7 := (by first | exact hB.trans (hbk.mono hB.size) | exact (Below.alloc hB hB.size _).trans (hbk.mono (Below.alloc hB hB.size _).size)); replace hB := hB7; have hs7 := hB7.size; (first | have K1 : Cells w7 (W6.heap.size) 55 [.string ⟨#[]⟩, .string ⟨#[]⟩] := ((Cells.new W6 55 #[.string ⟨#[]⟩, .string ⟨#[]⟩]).drew).below hbk (Cells.lt (Cells.drew (Cells.new W6 55 #[.string ⟨#[]⟩, .string ⟨#[]⟩]))) | skip); clear hbk)
              | (go_at_call 31; (with_reducible refine (HMU.out _ ?hst).mono ?_); (case hst => first | exact HS6.out.below hB (Nat.le_refl _) | exact HS6.out.below (Below.alloc hB hB.size _) (Nat.le_refl _)); rintro e w8 ⟨rfl, hbk⟩; have hB8 : Below W6.heap.size W6 w8 := (by first | exact hB.trans (hbk.mono hB.size) | exact (Below.alloc hB hB.size _).trans (hbk.mono (Below.alloc hB hB.size _).size)); replace hB := hB8; have hs8 := hB8.size; (first | (have J1 : Cells w8 (W6.heap.size) 55 [.string ⟨#[]⟩, .string ⟨#[]⟩] := K1.below hbk K1.lt; have z10 := J1.cell 0; have z11 := J1.cell 1; have f10 := J1.free 0; have f11 := J1.free 1; have l10 := J1.lt; simp only [List.getElem?_cons_succ, List.getElem?_cons_zero] at z10 z11) | (have J1 : Cells w8 (w7.heap.size) 55 [.string ⟨#[]⟩, .string ⟨#[]⟩] := (Cells.new w7 55 #[.string ⟨#[]⟩, .string ⟨#[]⟩]).below hbk (Cells.lt (Cells.new w7 55 #[.string ⟨#[]⟩, .string ⟨#[]⟩])); have z10 := J1.cell 0; have z11 := J1.cell 1; have f10 := J1.free 0; have f11 := J1.free 1; have l10 := J1.lt; simp only [List.getElem?_cons_succ, List.getElem?_cons_zero] at z10 z11) | skip); clear hbk)))
          all_goals
            go_wp2_with fail
            go_meet
            refine ⟨_, rfl, ?_, ?_, ?_⟩
            · (first | with_reducible exact Cells.new w8 55 #[.string ⟨mN.toArray⟩, .string ⟨mD.toArray⟩] | with_reducible exact sr2_same J1)
            · (first | with_reducible exact (Below.alloc hB hB.size _) | with_reducible exact (sr2_below (by omega) hB))
            · omega
        case rest =>
          rename World => wx
          obtain ⟨gm, rfl, hcm, hbx, hgm⟩ := hcut
          have hNB6 := HNB6.out.lt
          have HM := Lib.hid hcm
          have HCSx := Lib.hid (HCS6.out.below hbx HCS6.out.lt)
          have HSVx := Lib.hid (HSV6.out.lift hbx)
          have HSx := Lib.hid (HS6.out.below hbx (Nat.le_refl _))
          have HNBx := Lib.hid (HNB6.out.below hbx HNB6.out.lt)
          have HBMx := Lib.hid (HBM6.out.trans (hbx.mono (Nat.le_of_lt hNB6)))
          have HT6x := Lib.hid (SnT.lift HT6.out hbx)
          have hP4x := keep_cell HP4.out hbx
          have HP4x := Lib.hid hP4x
          clear hcm hbx HCS6 HSV6 HS6 HNB6 HBM6 HT6 HP4 hP4x HSX6 HB6 p0 p1 p2 p3 hNB6 HAD HMU
          obtain ⟨z0, z1⟩ := cel2 HCSx.out
          obtain ⟨y0, y1⟩ := cel2 HM.out
          have hnx := HNBx.out.lt
          go_wp2_with fail
          refine (HAH.out _ HC2.out HSx.out HSVx.out).mono ?_
          rintro e w9 ⟨⟨v9, rfl, hso⟩, hb9⟩
          obtain ⟨A8, c8, rfl, _, _, ht8⟩ := hso.shape
          have HT8 := Lib.hid ht8
          have p4 := keep_cell HP4x.out hb9
          have HT9 := Lib.hid (SnT.lift HT6x.out hb9)
          have HNB9 := Lib.hid (HNBx.out.below hb9 hnx)
          have HBM9 := Lib.hid (HBMx.out.trans (hb9.mono (Nat.le_of_lt hnx)))
          clear hso ht8 hb9 HCSx HSVx HSx HNBx HBMx HT6x HP4x HM z0 z1 y0 y1 hnx HAH
          go_wp2_with fail
          refine (same48_eq _ _ _ _ x w9 HT8.out HT9.out HXL.out).mono ?_
          rintro e w10 ⟨rfl, hb10⟩
          have HNB10 := Lib.hid (HNB9.out.below hb10 HNB9.out.lt)
          have HBM10 := Lib.hid (HBM9.out.trans (hb10.mono (Nat.le_of_lt HNB9.out.lt)))
          clear hb10 HNB9 HBM9 p4
          have hsll := HSLL.out
          go_wp2_with fail
          go_roundw
          case rel => exact ⟨k + 1, b, by have := HLT.out; omega, HNX.out, by go_num, HNB10.out, HBM10.out⟩
          case measure =>
            have := HLT.out
            simp [intOf]
            omega
      · obtain rfl : k = sl.length := by omega
        obtain rfl : t = en := by
          have h := HFIN.out.2.2.2.1
          rw [hkt] at h
          exact Option.some.inj h
        obtain ⟨x0, x1⟩ := cel2 HXBr.out
        have heq : ∀ W, (binOp .eql 55 (.agg #[.string ⟨(t12n t).toArray⟩, .string ⟨(t12d t).toArray⟩]) (.agg #[.string ⟨(t12n t).toArray⟩, .string ⟨(t12d t).toArray⟩])).run Tryz.prog W = .ok (.bool true) W := fun W => by rw [rat_eql]; simp
        go_wp2_with fail
        go_ret
        exact ⟨rfl, HBr.out⟩

end Go.Proofs.YtphlodmdcmcjnaaGreatDoor
