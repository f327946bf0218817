import Derived.Test.YtaaeekahhhookaaGreatDoorGXNCk
import Derived.Test.YtaaeekahhhookaaGreatDoorGXDMCk
import Derived.Test.YtaaeekahhhookaaGreatDoorMk48MCk
import Derived.Test.YtaaeekahhhookaaGreatDoorChgMCk
import Derived.Test.YtaaeekahhhookaaGreatDoorUckCk
import Derived.Test.YtaaeekahhhookaaGreatDoorUeq5Ck
import Derived.Test.YtaaeekahhhookaaGreatDoorUerrCk
import Derived.Test.YtaaeekahhhookaaGreatDoorGXLCk
namespace Go.Proofs.YtaaeekahhhookaaGreatDoor
open Go.RowKit Go.Lib
theorem rat_eq00 (w : World) : (binOp .eql 51 (.agg #[.string ⟨#[]⟩, .string ⟨#[]⟩]) (.agg #[.string ⟨#[]⟩, .string ⟨#[]⟩])).run Tryz.prog w = .ok (.bool true) w := by kernel_rfl
set_option maxRecDepth 100000 in
set_option maxHeartbeats 8000000 in
theorem scChk_walk (n0 : Nat) (v0 : Value) (l0 : List (List Bt)) (how : Nat) (nm nu de : List UInt8) (nv : Value) (note : List Int) (w : World) (hS : Std w) (hL : ∃ m, w.cell? ⟨0, 0, Option.none⟩ = some (.int .i64 m)) (hn : n0 ≤ 255) (hv : PlA w v0 l0) (hh : how ≤ 255) (hlm : nm.length ≤ maxLen ∧ nu.length ≤ maxLen ∧ de.length ≤ maxLen) (hnv : IsRow w w.heap.size nv note) :
  Calls Tryz.prog 5 #[.agg #[.int .u8 n0, v0], .agg #[.int .u8 how, .string ⟨nm.toArray⟩, .string ⟨nu.toArray⟩, .string ⟨de.toArray⟩, nv]] w fun e w' => e = .returned (.bool true) ∧ Below w.heap.size w w' := by
 obtain ⟨hlm1, hlm2, hlm3⟩ := hlm
 unfold maxLen at hlm1 hlm2 hlm3
 have HS := Lib.hid hS
 have HNV := Lib.hid hnv
 obtain ⟨AN, cN, rfl⟩ := hnv.shape
 clear hnv
 have HLI : Hid (LenIs w) := Lib.hid hL
 have HV0 := Lib.hid hv
 obtain ⟨A0, c0, rfl, hc01, hc02, _⟩ := hv
 unfold maxLen at hc02
 obtain ⟨W0, hW0⟩ : ∃ W0, W0 = ((w.alloc (.cells #[.int .u8 n0, .slice A0 l0.length c0] 39)).alloc (.cells #[.int .u8 how, .string ⟨nm.toArray⟩, .string ⟨nu.toArray⟩, .string ⟨de.toArray⟩, .slice AN note.length cN] 60)) := ⟨_, rfl⟩
 have hb0 : Below w.heap.size w W0 := by rw [hW0]; exact (((Below.refl w.heap.size w).alloc (Nat.le_refl _) _).alloc (by simp) _)
 have HPB : Hid (Cells W0 w.heap.size 39 [.int .u8 n0, .slice A0 l0.length c0]) := Lib.hid (by rw [hW0]; exact ((Cells.new w 39 #[.int .u8 n0, .slice A0 l0.length c0]).alloc _))
 have HBX1 : Hid (Cells W0 (w.heap.size + 1) 60 [.int .u8 how, .string ⟨nm.toArray⟩, .string ⟨nu.toArray⟩, .string ⟨de.toArray⟩, .slice AN note.length cN]) := Lib.hid (by
  have h := Cells.new (w.alloc (.cells #[.int .u8 n0, .slice A0 l0.length c0] 39)) 60 #[.int .u8 how, .string ⟨nm.toArray⟩, .string ⟨nu.toArray⟩, .string ⟨de.toArray⟩, .slice AN note.length cN]
  simp only [World.size_alloc] at h
  rw [hW0]
  exact h)
 have HB := Lib.hid hb0
 replace HS := Lib.hid (HS.out.below hb0 (Nat.le_refl _))
 replace HLI : Hid (LenIs W0) := Lib.hid (HLI.out.below hb0)
 replace HV0 := Lib.hid (HV0.out.lift hb0)
 clear hS hL hb0
 go_enter Tryz.func5, Tryz.ntmps5
 go_upto_region 1 with (fail)
 rw [← hW0]
 clear hW0
 obtain ⟨z0, z1⟩ := cel2 HPB.out
 go_wp2_with fail
 refine (known48 _ HS.out HLI.out).mono ?_
 rintro e w1 ⟨rfl, hb1⟩
 replace HPB := Lib.hid (HPB.out.below hb1 HPB.out.lt)
 replace HBX1 := Lib.hid (HBX1.out.below hb1 HBX1.out.lt)
 replace HB := Lib.hid (HB.out.trans (hb1.mono HB.out.size))
 replace HS := Lib.hid (HS.out.below hb1 (Nat.le_refl _))
 replace HLI : Hid (LenIs w1) := Lib.hid (HLI.out.below hb1)
 replace HV0 := Lib.hid (HV0.out.lift hb1)
 clear z0 z1 hb1
 obtain ⟨z0, z1⟩ := cel2 HPB.out
 go_wp2_with fail
 refine (fits48_any n0 _ l0 _ HV0.out).mono ?_
 rintro e w2 ⟨rfl, hb2⟩
 replace HPB := Lib.hid (HPB.out.below hb2 HPB.out.lt)
 replace HBX1 := Lib.hid (HBX1.out.below hb2 HBX1.out.lt)
 replace HB := Lib.hid (HB.out.trans (hb2.mono HB.out.size))
 replace HS := Lib.hid (HS.out.below hb2 (Nat.le_refl _))
 replace HLI : Hid (LenIs w2) := Lib.hid (HLI.out.below hb2)
 replace HV0 := Lib.hid (HV0.out.lift hb2)
 clear z0 z1 hb2
 obtain ⟨y0, y1, y2, y3, y4⟩ := celC HBX1.out
 cases hfit : fitsPl l0 with
 | false =>
   clear hfit
   go_wp2_with fail
   refine (known48 _ HS.out HLI.out).mono ?_
   rintro e w9 ⟨rfl, hb9⟩
   go_wp2_with fail
   go_ret
   exact ⟨rfl, HB.out.trans (hb9.mono HB.out.size)⟩
 | true =>
   obtain ⟨z0, z1⟩ := cel2 HPB.out
   by_cases hlea : 40 < nm.length
   ·have hlba : (40 : Int) < (nm.length : Int) := by omega
    clear hfit
    go_wp2_with fail
    refine (known48 _ HS.out HLI.out).mono ?_
    rintro e w9 ⟨rfl, hb9⟩
    go_wp2_with fail
    go_ret
    exact ⟨rfl, HB.out.trans (hb9.mono HB.out.size)⟩
   have hlba : ¬ (40 : Int) < (nm.length : Int) := by omega
   by_cases hleb : 13 < nu.length
   ·have hlbb : (13 : Int) < (nu.length : Int) := by omega
    clear hfit
    go_wp2_with fail
    refine (known48 _ HS.out HLI.out).mono ?_
    rintro e w9 ⟨rfl, hb9⟩
    go_wp2_with fail
    go_ret
    exact ⟨rfl, HB.out.trans (hb9.mono HB.out.size)⟩
   have hlbb : ¬ (13 : Int) < (nu.length : Int) := by omega
   by_cases hlec : 13 < de.length
   ·have hlbc : (13 : Int) < (de.length : Int) := by omega
    clear hfit
    go_wp2_with fail
    refine (known48 _ HS.out HLI.out).mono ?_
    rintro e w9 ⟨rfl, hb9⟩
    go_wp2_with fail
    go_ret
    exact ⟨rfl, HB.out.trans (hb9.mono HB.out.size)⟩
   have hlbc : ¬ (13 : Int) < (de.length : Int) := by omega
   by_cases hled : 8 < note.length
   ·have hlbd : (8 : Int) < (note.length : Int) := by omega
    clear hfit
    go_wp2_with fail
    refine (known48 _ HS.out HLI.out).mono ?_
    rintro e w9 ⟨rfl, hb9⟩
    go_wp2_with fail
    go_ret
    exact ⟨rfl, HB.out.trans (hb9.mono HB.out.size)⟩
   have hlbd : ¬ (8 : Int) < (note.length : Int) := by omega
   have HMK := Lib.hid (fun W h1 h2 => make48_nil n0 (.slice A0 l0.length c0) l0 W h1 hn h2 hfit)
   obtain ⟨s, hs⟩ : ∃ s, s = makeSc n0 l0 := ⟨_, rfl⟩
   obtain ⟨dss, hdss⟩ : ∃ dss, dss = dursOf l0 := ⟨_, rfl⟩
   have HSE : Box (scErr s = 0) := ⟨by rw [hs]; exact makeSc_err hfit⟩
   have HSM : Box (ScSm s) := ⟨by rw [hs]; exact makeSc_sm hfit⟩
   have HSH : Box (ShortV s.voices dss) := ⟨by rw [hs, hdss]; exact makeSc_times hfit⟩
   have HSL : Box (s.voices.length = l0.length ∧ l0.length ≤ 3) := ⟨by rw [hs]; exact ⟨(makeSc_len hfit), (fits_mem hfit).1⟩⟩
   have HSS : Box (s = makeSc n0 l0 ∧ dss = dursOf l0 ∧ fitsPl l0 = true) := ⟨⟨hs, hdss, hfit⟩⟩
   rw [← hs] at HMK
   clear hs hdss hfit
   go_wp2_with fail
   refine (HMK.out _ HS.out HV0.out).mono ?_
   rintro e w3 ⟨⟨pv, AV, cV, rfl, hsv, hnil⟩, hb3⟩
   obtain ⟨W3, hW3⟩ : ∃ W3, W3 = w3.alloc (.cells #[pv, .slice AV s.voices.length cV] 29) := ⟨_, rfl⟩
   have hba : Below w3.heap.size w3 W3 := by rw [hW3]; exact (Below.refl _ _).alloc (Nat.le_refl _) _
   obtain ⟨SB, hSB⟩ : ∃ SB, SB = w3.heap.size := ⟨_, rfl⟩
   have HCS : Hid (Cells W3 SB 29 [pv, .slice AV s.voices.length cV]) := Lib.hid (by rw [hW3, hSB]; exact Cells.new w3 29 #[pv, .slice AV s.voices.length cV])
   have hb33 := hb3.trans (hba.mono hb3.size)
   replace HBX1 := Lib.hid (HBX1.out.below hb33 HBX1.out.lt)
   have HSV := Lib.hid (hsv.lift hba)
   replace HB := Lib.hid (HB.out.trans (hb33.mono HB.out.size))
   replace HS := Lib.hid (HS.out.below hb33 (Nat.le_refl _))
   replace HLI : Hid (LenIs W3) := Lib.hid (HLI.out.below hb33)
   obtain ⟨hpq, AV', cV', e', hcV1, hcV2, _⟩ := hsv
   injection e' with e1' _ e2'
   subst e1' e2'
   have HNIL := Box.mk hnil
   obtain ⟨AP, cp, rfl, _⟩ := hpq.shape
   have hSBw : w.heap.size ≤ SB := by have := HB.out.size; have := HCS.out.lt; rw [hSB]; have h3 := hb3.size; have h4 := HPB.out.lt; omega
   unfold maxLen at hcV2
   clear hpq hnil hba hb3 hb33 z0 z1 y0 y1 y2 y3 y4 HPB HV0 HMK
   obtain ⟨sc0, sc1⟩ := cel2 HCS.out
   go_upto_region 4 with (fail)
   rw [← hW3, ← hSB]
   clear hW3 hSB
   have HSU := Lib.hid HSV.out.u
   have hok := ScOk.of HSE.out
   have hv8 := hok.vcs
   have hp6 := right_primes hok.prm
   have HEVS : Box (∀ v ∈ s.voices, v.evs.length ≤ 1000000 ∧ ∀ x ∈ v.evs, x.notes.length ≤ 1000000) := ⟨fun v hv => ⟨by have := hok.evs v hv; omega, fun x hx => by have := (hok.ev v hv x hx).2.1; omega⟩⟩
   have HCG := Lib.hid (fun W (h : ScU W (.slice AP s.primes.length cp) (.slice AV s.voices.length cV) s) (hb : Below w.heap.size w W) => change48_any AV cV (.slice AP s.primes.length cp) s how nm nu de (.slice AN note.length cN) note W h HNIL.out hh (HNV.out.lift hb) hv8 ⟨by omega, by omega⟩)
   have HTS : Box (ScSm (chSc s how nm nu de note)) := ⟨chSc_sm HSM.out hv8 (by omega) (by omega) (by omega)⟩
   obtain ⟨t, ht⟩ : ∃ t, chSc s how nm nu de note = t := ⟨_, rfl⟩
   rw [ht] at HCG HTS
   clear ht hok hp6
   obtain ⟨y0, y1, y2, y3, y4⟩ := celC HBX1.out
   go_wp2_with fail
   refine (HCG.out _ HSU.out HB.out).mono ?_
   rintro e w4 ⟨⟨pt, vt, rfl, htu⟩, hb4⟩
   obtain ⟨W4, hW4⟩ : ∃ W4, W4 = w4.alloc (.cells #[pt, vt] 29) := ⟨_, rfl⟩
   obtain ⟨TB, hTB⟩ : ∃ TB, TB = w4.heap.size := ⟨_, rfl⟩
   have hba : Below w4.heap.size w4 W4 := by rw [hW4]; exact (Below.refl _ _).alloc (Nat.le_refl _) _
   have HCT : Hid (Cells W4 TB 29 [pt, vt]) := Lib.hid (by rw [hW4, hTB]; exact Cells.new w4 29 #[pt, vt])
   have hb44 := hb4.trans (hba.mono hb4.size)
   have HTU := Lib.hid (htu.lift hba)
   obtain ⟨hpq, AT, cT, rfl, _, _, _⟩ := id htu
   obtain ⟨QP, cq, rfl, _⟩ := hpq.shape
   replace HCS := Lib.hid (HCS.out.below hb44 HCS.out.lt)
   replace HSU := Lib.hid (HSU.out.lift hb44)
   replace HB := Lib.hid (HB.out.trans (hb44.mono HB.out.size))
   replace HS := Lib.hid (HS.out.below hb44 (Nat.le_refl _))
   clear hb4 hba hb44 htu hpq HCG HBX1 y0 y1 y2 y3 y4 sc0 sc1
   have HK1 := Lib.hid (fun W h1 h2 => check48U (.slice QP t.primes.length cq) (.slice AT t.voices.length cT) t W h1 h2 HTS.out)
   have HK2 := Lib.hid (fun W h1 h2 => scCheckU (.slice QP t.primes.length cq) (.slice AT t.voices.length cT) t W h1 h2 HTS.out)
   have HQ1 := Lib.hid (fun W h1 h2 => scEqualU (.slice AP s.primes.length cp) (.slice AV s.voices.length cV) (.slice QP t.primes.length cq) (.slice AT t.voices.length cT) s t W h1 h2 (by omega) HEVS.out)
   have HQ2 := Lib.hid (fun W h1 h2 => equal48U (.slice AP s.primes.length cp) (.slice AV s.voices.length cV) (.slice QP t.primes.length cq) (.slice AT t.voices.length cT) s t W h1 h2 HEVS.out)
   have HQ3 := Lib.hid (fun W h1 => scEqualU (.slice QP t.primes.length cq) (.slice AT t.voices.length cT) (.slice QP t.primes.length cq) (.slice AT t.voices.length cT) t t W h1 h1 HTS.out.vcs fun v hv => ⟨HTS.out.evs v hv, fun x hx => (HTS.out.nums v hv x hx).2.2⟩)
   rw [dq_self] at HQ3
   have HP1 := Lib.hid (fun W h1 h2 he => scPrintU_err (.slice QP t.primes.length cq) (.slice AT t.voices.length cT) t W h1 h2 HTS.out he)
   have HP2 := Lib.hid (fun W h1 h2 he => scStartsU_err (.slice QP t.primes.length cq) (.slice AT t.voices.length cT) t 0 W h1 h2 HTS.out he)
   have HP3 := Lib.hid (fun W h1 h2 he => scLengthU_err (.slice QP t.primes.length cq) (.slice AT t.voices.length cT) t W h1 h2 HTS.out he)
   have HP4 := Lib.hid (fun W h1 h2 he => scAtU_err (.slice QP t.primes.length cq) (.slice AT t.voices.length cT) t [] [] W h1 h2 HTS.out he)
   have HP5 := Lib.hid (fun W h1 h2 he => scSlicesU_err (.slice QP t.primes.length cq) (.slice AT t.voices.length cT) t W h1 h2 HTS.out he)
   have HP6 := Lib.hid (fun W h1 h2 he => scNotesU_err (.slice QP t.primes.length cq) (.slice AT t.voices.length cT) t W h1 h2 HTS.out he)
   have HP7 := Lib.hid (fun W h1 h2 he => scTransU_err (.slice QP t.primes.length cq) (.slice AT t.voices.length cT) (.slice Option.none 0 0) [] t W h1 h2 ⟨Option.none, 0, rfl, Nat.le_refl _, Nat.zero_le _, Row.nil _ _ _ _⟩ HTS.out he)
   have HQ4 := Lib.hid (fun W => equal48U (.slice Option.none 0 0) (.slice Option.none 0 0) (.slice Option.none 0 0) (.slice Option.none 0 0) ⟨[], []⟩ ⟨[], []⟩ W (ScU.nil W) (ScU.nil W) (fun v hv => by cases hv))
   rw [dq_self] at HQ4
   obtain ⟨er, her⟩ : ∃ er, scErr t = er := ⟨_, rfl⟩
   have HER := Box.mk her
   rw [her] at HK1 HK2 HP1 HP2 HP3 HP4 HP5 HP6 HP7
   clear her
   generalize dq s t = d1 at *
   go_upto_region 5 with (fail)
   rw [← hW4, ← hTB]
   clear hW4 hTB
   obtain ⟨t0, t1⟩ := cel2 HCT.out
   go_wp2_with fail
   refine (HK1.out _ HS.out HTU.out).mono ?_
   rintro e w5 ⟨rfl, hb5⟩
   replace HCS := Lib.hid (HCS.out.below hb5 HCS.out.lt)
   replace HCT := Lib.hid (HCT.out.below hb5 HCT.out.lt)
   replace HSU := Lib.hid (HSU.out.lift hb5)
   replace HTU := Lib.hid (HTU.out.lift hb5)
   replace HB := Lib.hid (HB.out.trans (hb5.mono HB.out.size))
   replace HS := Lib.hid (HS.out.below hb5 (Nat.le_refl _))
   clear hb5 t0 t1 HK1
   obtain ⟨sc0, sc1⟩ := cel2 HCS.out
   obtain ⟨t0, t1⟩ := cel2 HCT.out
   have hB : Below w5.heap.size w5 w5.drew := below_to_drew (Below.refl _ _)
   go_upto_region 6 with (fail)
   have hne1 : (er != er) = false := by simp
   have hne2 : (d1 != d1) = false := by simp
   go_cut [81] (fun c wx => c = .bool false ∧ Below w5.heap.size w5 wx)
   case first =>
    go_region_held3 (fun w' => w'.cell? ⟨SB, 0, Option.none⟩ = some (.slice AP s.primes.length cp) ∧ w'.cell? ⟨SB, 1, Option.none⟩ = some (.slice AV s.voices.length cV) ∧ w'.cell? ⟨TB, 0, Option.none⟩ = some (.slice QP t.primes.length cq) ∧ w'.cell? ⟨TB, 1, Option.none⟩ = some (.slice AT t.voices.length cT))
     (first | exact ⟨keep_cell sc0 hB, keep_cell sc1 hB, keep_cell t0 hB, keep_cell t1 hB⟩ | go_keep)
     ((first
       | (go_at_call 18; (with_reducible refine (HK2.out _ (HS.out.below hB (Nat.le_refl _)) (HTU.out.lift hB)).mono ?_); rintro e wA ⟨rfl, hbk⟩; replace hB := hB.trans (hbk.mono hB.size); clear hbk)
       | (go_at_call 19; (with_reducible refine (HQ1.out _ (HSU.out.lift hB) (HTU.out.lift hB)).mono ?_); rintro e wA ⟨rfl, hbk⟩; replace hB := hB.trans (hbk.mono hB.size); clear hbk)
       | (go_at_call 9; (with_reducible refine (HQ2.out _ (HSU.out.lift hB) (HTU.out.lift hB)).mono ?_); rintro e wA ⟨rfl, hbk⟩; replace hB := hB.trans (hbk.mono hB.size); clear hbk)
       | (go_at_call 19; (with_reducible refine (HQ3.out _ (HTU.out.lift hB)).mono ?_); rintro e wA ⟨rfl, hbk⟩; replace hB := hB.trans (hbk.mono hB.size); clear hbk)))
    all_goals
     go_wp2_with fail
     go_meet
     exact ⟨rfl, hB⟩
   case rest =>
    rename World => wx
    obtain ⟨rfl, hbx⟩ := hcut
    clear hB hne1 hne2 sc0 sc1 t0 t1 HK2 HQ1 HQ2 HQ3 HCS HSU
    replace HCT := Lib.hid (HCT.out.below hbx HCT.out.lt)
    replace HTU := Lib.hid (HTU.out.lift hbx)
    replace HB := Lib.hid (HB.out.trans (hbx.mono HB.out.size))
    replace HS := Lib.hid (HS.out.below hbx (Nat.le_refl _))
    clear hbx
    by_cases h0 : er = 0
    ·have hb0 : (er == 0) = true := by simp [h0]
     subst h0
     go_wp2_with fail
     go_ret
     exact ⟨rfl, HB.out⟩
    have hb0 : (er == 0) = false := by simp [h0]
    have HE0 := Box.mk h0
    obtain ⟨t0, t1⟩ := cel2 HCT.out
    go_wp2_with fail
    refine (HP1.out _ HS.out HTU.out HE0.out).mono ?_
    rintro e w6 ⟨rfl, hb⟩
    replace HCT := Lib.hid (HCT.out.below hb HCT.out.lt)
    replace HTU := Lib.hid (HTU.out.lift hb)
    replace HB := Lib.hid (HB.out.trans (hb.mono HB.out.size))
    replace HS := Lib.hid (HS.out.below hb (Nat.le_refl _))
    clear hb t0 t1 HP1
    obtain ⟨t0, t1⟩ := cel2 HCT.out
    go_wp2_with fail
    refine (HP2.out _ HS.out HTU.out HE0.out).mono ?_
    rintro e w7 ⟨rfl, hb⟩
    replace HCT := Lib.hid (HCT.out.below hb HCT.out.lt)
    replace HTU := Lib.hid (HTU.out.lift hb)
    replace HB := Lib.hid (HB.out.trans (hb.mono HB.out.size))
    replace HS := Lib.hid (HS.out.below hb (Nat.le_refl _))
    clear hb t0 t1 HP2
    obtain ⟨t0, t1⟩ := cel2 HCT.out
    go_wp2_with fail
    refine (HP3.out _ HS.out HTU.out HE0.out).mono ?_
    rintro e w8 ⟨rfl, hb⟩
    obtain ⟨W8, hW⟩ : ∃ W8, W8 = w8.alloc (.cells #[.string ⟨#[]⟩, .string ⟨#[]⟩] 51) := ⟨_, rfl⟩
    obtain ⟨XB, hXB⟩ : ∃ XB, XB = w8.heap.size := ⟨_, rfl⟩
    have hba : Below w8.heap.size w8 W8 := by rw [hW]; exact (Below.refl _ _).alloc (Nat.le_refl _) _
    have HCX : Hid (Cells W8 XB 51 [.string ⟨#[]⟩, .string ⟨#[]⟩]) := Lib.hid (by rw [hW, hXB]; exact Cells.new w8 51 #[.string ⟨#[]⟩, .string ⟨#[]⟩])
    have hbb := hb.trans (hba.mono hb.size)
    replace HCT := Lib.hid (HCT.out.below hbb HCT.out.lt)
    replace HTU := Lib.hid (HTU.out.lift hbb)
    replace HB := Lib.hid (HB.out.trans (hbb.mono HB.out.size))
    replace HS := Lib.hid (HS.out.below hbb (Nat.le_refl _))
    clear hb hba hbb t0 t1 HP3
    go_upto_region 13 with (fail)
    rw [← hW, ← hXB]
    clear hW hXB
    obtain ⟨t0, t1⟩ := cel2 HCT.out
    go_wp2_with fail
    refine (HP4.out _ HS.out HTU.out HE0.out).mono ?_
    rintro e w10 ⟨rfl, hb⟩
    replace HCT := Lib.hid (HCT.out.below hb HCT.out.lt)
    replace HTU := Lib.hid (HTU.out.lift hb)
    replace HB := Lib.hid (HB.out.trans (hb.mono HB.out.size))
    replace HS := Lib.hid (HS.out.below hb (Nat.le_refl _))
    replace HCX := Lib.hid (HCX.out.below hb HCX.out.lt)
    clear hb t0 t1 HP4
    obtain ⟨t0, t1⟩ := cel2 HCT.out
    obtain ⟨x0, x1⟩ := cel2 HCX.out
    go_wp2_with fail
    refine (HP5.out _ HS.out HTU.out HE0.out).mono ?_
    rintro e w11 ⟨rfl, hb⟩
    replace HCT := Lib.hid (HCT.out.below hb HCT.out.lt)
    replace HTU := Lib.hid (HTU.out.lift hb)
    replace HB := Lib.hid (HB.out.trans (hb.mono HB.out.size))
    replace HS := Lib.hid (HS.out.below hb (Nat.le_refl _))
    replace HCX := Lib.hid (HCX.out.below hb HCX.out.lt)
    clear hb t0 t1 x0 x1 HP5
    obtain ⟨t0, t1⟩ := cel2 HCT.out
    obtain ⟨x0, x1⟩ := cel2 HCX.out
    go_wp2_with fail
    refine (HP6.out _ HS.out HTU.out HE0.out).mono ?_
    rintro e w12 ⟨rfl, hb⟩
    replace HCT := Lib.hid (HCT.out.below hb HCT.out.lt)
    replace HTU := Lib.hid (HTU.out.lift hb)
    replace HB := Lib.hid (HB.out.trans (hb.mono HB.out.size))
    replace HS := Lib.hid (HS.out.below hb (Nat.le_refl _))
    replace HCX := Lib.hid (HCX.out.below hb HCX.out.lt)
    clear hb t0 t1 x0 x1 HP6
    obtain ⟨t0, t1⟩ := cel2 HCT.out
    obtain ⟨x0, x1⟩ := cel2 HCX.out
    go_wp2_with fail
    refine (HP7.out _ HS.out HTU.out HE0.out).mono ?_
    rintro e w13 ⟨rfl, hb⟩
    obtain ⟨W13, hW⟩ : ∃ W13, W13 = w13.alloc (.cells #[.slice Option.none 0 0, .slice Option.none 0 0] 29) := ⟨_, rfl⟩
    obtain ⟨UB, hUB⟩ : ∃ UB, UB = w13.heap.size := ⟨_, rfl⟩
    have hba : Below w13.heap.size w13 W13 := by rw [hW]; exact (Below.refl _ _).alloc (Nat.le_refl _) _
    have HCU : Hid (Cells W13 UB 29 [.slice Option.none 0 0, .slice Option.none 0 0]) := Lib.hid (by rw [hW, hUB]; exact Cells.new w13 29 #[.slice Option.none 0 0, .slice Option.none 0 0])
    have hbb := hb.trans (hba.mono hb.size)
    replace HCX := Lib.hid (HCX.out.below hbb HCX.out.lt)
    replace HB := Lib.hid (HB.out.trans (hbb.mono HB.out.size))
    clear hb hba hbb t0 t1 x0 x1 HP7 HTU HCT HS
    go_upto_region 17 with (fail)
    rw [← hW, ← hUB]
    clear hW hUB
    obtain ⟨x0, x1⟩ := cel2 HCX.out
    obtain ⟨u0, u1⟩ := cel2 HCU.out
    have heq := rat_eq00
    go_wp2_with fail
    refine (HQ4.out _).mono ?_
    rintro e wz ⟨rfl, hb⟩
    go_wp2_with fail
    go_ret
    exact ⟨rfl, HB.out.trans (hb.mono HB.out.size)⟩
end Go.Proofs.YtaaeekahhhookaaGreatDoor
