/- ScoreTimes: the walk. (Printed by gen48.py.) -/
import Derived.Test.YtphlodmdcmcjnaaGreatDoorGXNTi
import Derived.Test.YtphlodmdcmcjnaaGreatDoorGXDMTi
import Derived.Test.YtphlodmdcmcjnaaGreatDoorMk48Ti
import Derived.Test.YtphlodmdcmcjnaaGreatDoorGXFTi
namespace Go.Proofs.YtphlodmdcmcjnaaGreatDoor
open Go.RowKit Go.Lib

set_option maxRecDepth 100000 in
set_option maxHeartbeats 8000000 in
theorem scTim_walk (n0 : Nat) (v0 : Value) (l0 : List (List Bt)) (k1 : Int) (w : World) (hS : Std w) (hL : ∃ m, w.cell? ⟨0, 0, Option.none⟩ = some (.int .i64 m)) (hn : n0 ≤ 255) (hv : PlA w v0 l0) (hk1 : -9223372036854775808 ≤ k1) (hk2 : k1 ≤ 9223372036854775807) :
    Calls Tryz.prog 7 #[.agg #[.int .u8 n0, v0], .int .i64 k1] w fun e w' => e = .returned (.bool true) ∧ Below w.heap.size w w' := by
  have HS := Lib.hid hS
  have HLI : Hid (LenIs w) := Lib.hid hL
  have HV0 := Lib.hid hv
  obtain ⟨A0, c0, rfl, hc01, hc02, _⟩ := hv
  unfold maxLen at hc02
  obtain ⟨W0, hW0⟩ : ∃ W0, W0 = (w.alloc (.cells #[.int .u8 n0, .slice A0 l0.length c0] 24)) := ⟨_, rfl⟩
  have hb0 : Below w.heap.size w W0 := by rw [hW0]; exact ((Below.refl w.heap.size w).alloc (Nat.le_refl _) _)
  have HPB : Hid (Cells W0 w.heap.size 24 [.int .u8 n0, .slice A0 l0.length c0]) := Lib.hid (by rw [hW0]; exact Cells.new w 24 #[.int .u8 n0, .slice A0 l0.length c0])
  have HB := Lib.hid hb0
  replace HS := Lib.hid (HS.out.below hb0 (Nat.le_refl _))
  replace HLI : Hid (LenIs W0) := Lib.hid (HLI.out.below hb0)
  replace HV0 := Lib.hid (HV0.out.lift hb0)
  clear hS hL hb0
  go_enter Tryz.func7, Tryz.ntmps7
  go_upto_region 1 with (fail)
  rw [← hW0]
  clear hW0
  obtain ⟨z0, z1⟩ := cel2 HPB.out
  go_wp2_with fail
  refine (known48 _ HS.out HLI.out).mono ?_
  rintro e w1 ⟨rfl, hb1⟩
  replace HPB := Lib.hid (HPB.out.below hb1 HPB.out.lt)
  replace HB := Lib.hid (HB.out.trans (hb1.mono HB.out.size))
  replace HS := Lib.hid (HS.out.below hb1 (Nat.le_refl _))
  replace HLI : Hid (LenIs w1) := Lib.hid (HLI.out.below hb1)
  replace HV0 := Lib.hid (HV0.out.lift hb1)
  clear z0 z1 hb1
  obtain ⟨z0, z1⟩ := cel2 HPB.out
  go_wp2_with fail
  refine (fits48_any n0 _ l0 _ HV0.out).mono ?_
  rintro e w2 ⟨rfl, hb2⟩
  replace HPB := Lib.hid (HPB.out.below hb2 HPB.out.lt)
  replace HB := Lib.hid (HB.out.trans (hb2.mono HB.out.size))
  replace HS := Lib.hid (HS.out.below hb2 (Nat.le_refl _))
  replace HLI : Hid (LenIs w2) := Lib.hid (HLI.out.below hb2)
  replace HV0 := Lib.hid (HV0.out.lift hb2)
  clear z0 z1 hb2
  cases hfit : fitsPl l0 with
  | false =>
    clear hfit
    go_wp2_with fail
    refine (known48 _ HS.out HLI.out).mono ?_
    rintro e w9 ⟨rfl, hb9⟩
    go_wp2_with fail
    go_ret
    exact ⟨rfl, HB.out.trans (hb9.mono HB.out.size)⟩
  | true =>
    have HMK := Lib.hid (fun W h1 h2 => make48_any n0 (.slice A0 l0.length c0) l0 W h1 hn h2 hfit)
    obtain ⟨s, hs⟩ : ∃ s, s = makeSc n0 l0 := ⟨_, rfl⟩
    obtain ⟨dss, hdss⟩ : ∃ dss, dss = dursOf l0 := ⟨_, rfl⟩
    have HSE : Box (scErr s = 0) := ⟨by rw [hs]; exact makeSc_err hfit⟩
    have HSM : Box (ScSm s) := ⟨by rw [hs]; exact makeSc_sm hfit⟩
    have HSH : Box (ShortV s.voices dss) := ⟨by rw [hs, hdss]; exact makeSc_times hfit⟩
    have HSL : Box (s.voices.length = l0.length ∧ l0.length ≤ 3) := ⟨by rw [hs]; exact ⟨(makeSc_len hfit), (fits_mem hfit).1⟩⟩
    have HSS : Box (s = makeSc n0 l0 ∧ dss = dursOf l0 ∧ fitsPl l0 = true) := ⟨⟨hs, hdss, hfit⟩⟩
    rw [← hs] at HMK
    clear hs hdss hfit
    obtain ⟨z0, z1⟩ := cel2 HPB.out
    go_wp2_with fail
    refine (HMK.out _ HS.out HV0.out).mono ?_
    rintro e w3 ⟨⟨pv, vv, rfl, hsv⟩, hb3⟩
    obtain ⟨W3, hW3⟩ : ∃ W3, W3 = w3.alloc (.cells #[pv, vv] 31) := ⟨_, rfl⟩
    have hba : Below w3.heap.size w3 W3 := by rw [hW3]; exact (Below.refl _ _).alloc (Nat.le_refl _) _
    obtain ⟨SB, hSB⟩ : ∃ SB, SB = w3.heap.size := ⟨_, rfl⟩
    have HCS : Hid (Cells W3 SB 31 [pv, vv]) := Lib.hid (by rw [hW3, hSB]; exact Cells.new w3 31 #[pv, vv])
    have hb33 := hb3.trans (hba.mono hb3.size)
    have HSV := Lib.hid (hsv.lift hba)
    replace HB := Lib.hid (HB.out.trans (hb33.mono HB.out.size))
    replace HS := Lib.hid (HS.out.below hb33 (Nat.le_refl _))
    replace HLI : Hid (LenIs W3) := Lib.hid (HLI.out.below hb33)
    obtain ⟨hpq, AV, cV, rfl, hcV1, hcV2, _⟩ := hsv
    obtain ⟨AP, cp, rfl, _⟩ := hpq.shape
    have hSBw : w.heap.size ≤ SB := by have := HB.out.size; have := HCS.out.lt; rw [hSB]; have h3 := hb3.size; have h4 := HPB.out.lt; omega
    unfold maxLen at hcV2
    clear hpq hba hb3 hb33 z0 z1 HPB HV0 HMK
    obtain ⟨sc0, sc1⟩ := cel2 HCS.out
    go_upto_region 4 with (fail)
    rw [← hW3, ← hSB]
    clear hW3 hSB
    have HSTR : Hid (Calls Tryz.prog 26 #[.agg #[.slice AP s.primes.length cp, .slice AV s.voices.length cV], .int .i64 k1] W3 fun e w' => (∃ (A : Option Addr) (m c : Nat) (er : Int), e = .returned (.tuple #[.slice A m c, .int .i64 er]) ∧ ((m = 0 ∧ er = 3 ∧ (k1 < 0 ∨ (s.voices.length : Int) ≤ k1)) ∨ ∃ (k : Nat) (ds : List Nat), k1 = k ∧ k < s.voices.length ∧ dss[k]? = some ds ∧ m = (strt ds).length ∧ er = 0 ∧ TmT w' w'.heap.size A (strt ds))) ∧ Below W3.heap.size W3 w') := Lib.hid (by
      by_cases hr : k1 < 0 ∨ (s.voices.length : Int) ≤ k1
      · refine (scStarts_range _ _ s k1 W3 HS.out HSV.out HSM.out HSE.out hr).mono ?_
        rintro e w' ⟨rfl, hb⟩
        exact ⟨⟨_, 0, 0, 3, rfl, .inl ⟨rfl, rfl, hr⟩⟩, hb⟩
      · obtain ⟨k, rfl⟩ : ∃ k : Nat, k1 = k := ⟨k1.toNat, by omega⟩
        have hk : k < s.voices.length := by omega
        obtain ⟨ds, hds, _⟩ := HSH.out.tv.at_ hk
        refine (scStarts_ok _ _ s dss k ds W3 HS.out HSV.out HSM.out HSE.out HSH.out hk hds).mono ?_
        rintro e w' ⟨⟨v, rfl, ht⟩, hb⟩
        obtain ⟨A, c, rfl, _, _, h⟩ := ht.shape
        exact ⟨⟨A, _, c, 0, rfl, .inr ⟨k, ds, rfl, hk, hds, rfl, rfl, h⟩⟩, hb⟩)
    go_wp2_with fail
    refine HSTR.out.mono ?_
    rintro e w4 ⟨⟨AT, m, cT, er, rfl, hcase⟩, hb4⟩
    clear HSTR sc0 sc1
    replace HCS := Lib.hid (HCS.out.below hb4 HCS.out.lt)
    replace HSV := Lib.hid (HSV.out.lift hb4)
    replace HB := Lib.hid (HB.out.trans (hb4.mono HB.out.size))
    replace HS := Lib.hid (HS.out.below hb4 (Nat.le_refl _))
    replace HLI : Hid (LenIs w4) := Lib.hid (HLI.out.below hb4)
    have HCA := Lib.hid (fun (W : World) (hb : Below w4.heap.size w4 W) => show (m = 0 ∧ er = 3 ∧ (k1 < 0 ∨ (s.voices.length : Int) ≤ k1)) ∨ ∃ (k : Nat) (ds : List Nat), k1 = k ∧ k < s.voices.length ∧ dss[k]? = some ds ∧ m = (strt ds).length ∧ er = 0 ∧ TmT W W.heap.size AT (strt ds) from hcase.elim .inl fun ⟨k, ds, h1, h2, h3, h4, h5, h6⟩ => .inr ⟨k, ds, h1, h2, h3, h4, h5, TmT.lift h6 hb⟩)
    clear hcase hb4
    obtain ⟨sc0, sc1⟩ := cel2 HCS.out
    go_wp2_with fail
    refine (scLength_ok _ _ s dss w4 HS.out HSV.out HSM.out HSE.out HSH.out).mono ?_
    rintro e w5 ⟨rfl, hb5⟩
    obtain ⟨xn, hxn⟩ : ∃ xn, xn = t12n (endOf dss) := ⟨_, rfl⟩
    obtain ⟨xd, hxd⟩ : ∃ xd, xd = t12d (endOf dss) := ⟨_, rfl⟩
    rw [← hxn, ← hxd]
    have HXX : Box (xn = t12n (endOf dss) ∧ xd = t12d (endOf dss)) := ⟨⟨hxn, hxd⟩⟩
    clear hxn hxd
    obtain ⟨W5, hW5⟩ : ∃ W5, W5 = w5.alloc (.cells #[.string ⟨xn.toArray⟩, .string ⟨xd.toArray⟩] 55) := ⟨_, rfl⟩
    have hba : Below w5.heap.size w5 W5 := by rw [hW5]; exact (Below.refl _ _).alloc (Nat.le_refl _) _
    obtain ⟨XB, hXB⟩ : ∃ XB, XB = w5.heap.size := ⟨_, rfl⟩
    have HXB : Hid (Cells W5 XB 55 [.string ⟨xn.toArray⟩, .string ⟨xd.toArray⟩]) := Lib.hid (by rw [hW5, hXB]; exact Cells.new w5 55 #[.string ⟨xn.toArray⟩, .string ⟨xd.toArray⟩])
    have hb55 := hb5.trans (hba.mono hb5.size)
    replace HCS := Lib.hid (HCS.out.below hb55 HCS.out.lt)
    replace HSV := Lib.hid (HSV.out.lift hb55)
    replace HB := Lib.hid (HB.out.trans (hb55.mono HB.out.size))
    replace HS := Lib.hid (HS.out.below hb55 (Nat.le_refl _))
    replace HLI : Hid (LenIs W5) := Lib.hid (HLI.out.below hb55)
    replace HCA := Lib.hid (fun (W : World) (hb : Below W5.heap.size W5 W) => HCA.out W (hb55.trans (hb.mono hb55.size)))
    clear hb5 hba hb55 sc0 sc1
    go_upto_region 6 with (fail)
    rw [← hW5, ← hXB]
    clear hW5 hXB
    obtain ⟨W6, hW6⟩ : ∃ W6, W6 = W5.alloc (.cells #[.string ⟨#[48]⟩, .string ⟨#[49]⟩] 55) := ⟨_, rfl⟩
    have hba : Below W5.heap.size W5 W6 := by rw [hW6]; exact (Below.refl _ _).alloc (Nat.le_refl _) _
    obtain ⟨MB, hMB⟩ : ∃ MB, MB = W5.heap.size := ⟨_, rfl⟩
    have HME : Hid (Cells W6 MB 55 [.string ⟨(t12n (endOf (dss.take 0))).toArray⟩, .string ⟨(t12d (endOf (dss.take 0))).toArray⟩]) := Lib.hid (by
      have e0 : t12n 0 = [48] := congrArg Prod.fst t12_zero
      have e1 : t12d 0 = [49] := congrArg Prod.snd t12_zero
      show Cells _ _ _ [.string ⟨(t12n 0).toArray⟩, .string ⟨(t12d 0).toArray⟩]
      rw [e0, e1, hW6, hMB]
      exact Cells.new W5 55 #[.string ⟨#[48]⟩, .string ⟨#[49]⟩])
    have HBM : Hid (Below MB W5 W6) := Lib.hid (by rw [hMB]; exact hba)
    have hMBX : XB < MB := by rw [hMB]; exact HXB.out.lt
    have hMBw : w.heap.size ≤ MB := by rw [hMB]; exact HB.out.size
    have HSIZ : Box (MB = W5.heap.size) := ⟨hMB⟩
    clear hba
    go_upto_region 8 with (fail)
    rw [← hW6, ← hMB]
    clear hW6 hMB
    go_loopw [11] (fun i wr => ∃ k : Nat, k ≤ s.voices.length ∧ i = .int .i64 k ∧ Cells wr MB 55 [.string ⟨(t12n (endOf (dss.take k))).toArray⟩, .string ⟨(t12d (endOf (dss.take k))).toArray⟩] ∧ Below MB W5 wr) (fun i _ => s.voices.length - (intOf i).toNat)
    case atStart => exact ⟨0, Nat.zero_le _, rfl, HME.out, HBM.out⟩
    case round =>
      clear HME HBM
      obtain ⟨k, hk, rfl, hme, hbm⟩ := hrel
      have hbw : Below W5.heap.size W5 wr := hbm.mono (by rw [← HSIZ.out]; exact Nat.le_refl _)
      have HCSr := Lib.hid (HCS.out.below hbw HCS.out.lt)
      have HSVr := Lib.hid (HSV.out.lift hbw)
      have HSr := Lib.hid (HS.out.below hbw (Nat.le_refl _))
      have HXBr := Lib.hid (HXB.out.below hbw HXB.out.lt)
      have HBr := Lib.hid (HB.out.trans (hbw.mono HB.out.size))
      have HBMr := Lib.hid hbm
      have HMEr := Lib.hid hme
      obtain ⟨sc0, sc1⟩ := cel2 HCSr.out
      by_cases hlt : k < s.voices.length
      · obtain ⟨_, A9, c9, e9, _, _, hVs⟩ := HSVr.out
        obtain ⟨b1, o1, A1, C1, e8, hb1, _, q0, q1, _, _, hev⟩ := hVs.at_ hlt
        have e7 := (Value.slice.inj e9).1
        subst e7
        subst e8
        obtain ⟨ds, hdk, hto⟩ := HSH.out.tv.at_ hlt
        have hel := HSH.out.evs _ (List.getElem_mem hlt)
        have hsm := HSH.out.sum ds (List.mem_of_getElem? hdk)
        have HNX : Box (endOf (dss.take (k + 1)) = max (endOf (dss.take k)) ds.sum) := ⟨endOf_next hdk⟩
        have hem : endOf (dss.take k) ≤ 1000000 := endOf_le _ 0 (Nat.zero_le _) (fun x hx => HSH.out.sum x (List.mem_of_mem_take hx))
        have HTL : Box (ds.length = (s.voices[k]'hlt).evs.length) := ⟨hto.len.symm⟩
        have hli : (k : Int) < (s.voices.length : Int) := by omega
        generalize s.voices[k]'hlt = v at *
        obtain ⟨nm, es⟩ := v
        dsimp only at *
        generalize endOf (dss.take k) = mm at *
        have HST := Lib.hid (starts48_any nm A1 C1 es ds _ HSr.out hev hto hsm (by omega))
        have HSLx : Box ((strt ds)[ds.length]? = some ds.sum) := ⟨by have := strt_last (ds := ds) (k := ds.length) (Nat.le_refl _); rwa [List.take_length] at this⟩
        have HSN : Box ((strt ds).length = ds.length + 1) := ⟨strt_len ds⟩
        have hdl : ds.length ≤ 1000 := by have := HTL.out; omega
        clear hev hto hdk hb1 hVs e9 hme hbm hbw HSVr
        generalize strt ds = sd at *
        go_wp2_with fail
        refine HST.out.mono ?_
        rintro e w8 ⟨⟨v3, rfl, ht3⟩, hb8⟩
        obtain ⟨A3, c3, rfl, _, _, h3t⟩ := ht3.shape
        obtain ⟨b9, o9, rfl, hb9, x0, x1⟩ := TmT.at_ h3t HSLx.out
        have hmr : MB ≤ wr.heap.size := Nat.le_of_lt HMEr.out.lt
        have HBM3 := Lib.hid (HBMr.out.trans (hb8.mono hmr))
        have HME3 := Lib.hid (HMEr.out.below hb8 HMEr.out.lt)
        obtain ⟨y0, y1⟩ := cel2 HME3.out
        have HMX := Lib.hid (fun W => tMax_any mm ds.sum W hem hsm)
        rw [HSN.out]
        have hw1 : IntKind.i64.wrap (((ds.length + 1 : Nat) : Int) - 1) = (ds.length : Int) := by rw [show ((ds.length + 1 : Nat) : Int) - 1 = (ds.length : Int) by omega]; exact IntWalk.i64_in _ (by omega)
        have hw0 : IntKind.i64.wrap (ds.length : Int) = (ds.length : Int) := IntWalk.i64_in _ (by omega)
        have hi1 : (0 : Int) ≤ (ds.length : Int) := by omega
        have hi2 : (ds.length : Int) < (ds.length : Int) + 1 := by omega
        have hB : Below w8.heap.size w8 w8.drew := below_to_drew (Below.refl _ _)
        have h8 := hb8.size
        clear ht3 h3t hb8 HMEr HBMr HST hb9 sc0 sc1 q0 q1
        generalize ds.sum = sm at *
        generalize ds.length = dl at *
        go_wp2_with fail
        go_region_law (first
          | (go_simp; go_at_call 28; (with_reducible refine (HMX.out _).mono ?_); rintro e wA ⟨rfl, hbk⟩; replace hB := hB.trans (hbk.mono hB.size); clear hbk; have hcA := HME3.out.below hB HME3.out.lt; obtain ⟨a0, a1⟩ := cel2 hcA; have f0 := hcA.free 0; have f1 := hcA.free 1)
          | fail)
        all_goals
          have HBN := Lib.hid (HBM3.out.trans (hB.mono (by omega)))
          have HCA2 := Lib.hid hcA
          clear hB hcA a0 a1 f0 f1
          go_wp2_with fail
          go_roundw
          case rel => exact ⟨k + 1, by omega, by go_num, by rw [HNX.out]; exact (HCA2.out.set 0 _).set 1 _, (HBN.out.setCell (p := ⟨MB, 0, Option.none⟩) (Nat.le_refl _) _).setCell (p := ⟨MB, 1, Option.none⟩) (Nat.le_refl _) _⟩
          case measure => simp [intOf]; omega
      · obtain rfl : k = s.voices.length := by omega
        have hde : dss.take s.voices.length = dss := List.take_of_length_le (by rw [HSH.out.tv.len]; exact Nat.le_refl _)
        rw [hde, ← HXX.out.1, ← HXX.out.2] at hme
        obtain ⟨y0, y1⟩ := cel2 hme
        obtain ⟨x0, x1⟩ := cel2 HXBr.out
        have hne : ∀ W, (binOp .neq 55 (.agg #[.string ⟨xn.toArray⟩, .string ⟨xd.toArray⟩]) (.agg #[.string ⟨xn.toArray⟩, .string ⟨xd.toArray⟩])).run Tryz.prog W = .ok (.bool false) W := fun W => by rw [rat_neq]; simp
        have hcase := HCA.out wr hbw
        clear hde hme hbm HMEr HBMr
        rcases hcase with ⟨rfl, rfl, hr⟩ | ⟨kk, ds, rfl, hkv, hdk, rfl, rfl, htm⟩
        · clear HCA HXX hk
          rcases hr with hr | hr
          · go_wp2_with fail
            go_ret
            exact ⟨rfl, HBr.out⟩
          · by_cases h0 : k1 < 0
            · omega
            · go_wp2_with fail
              go_ret
              exact ⟨rfl, HBr.out⟩
        · have hkn : ¬ ((kk : Int) < 0) := by omega
          have hkl : ¬ ((s.voices.length : Int) ≤ (kk : Int)) := by omega
          have hkl2 : (kk : Int) < (s.voices.length : Int) := by omega
          obtain ⟨_, A9, c9, e9, _, _, hVs⟩ := HSVr.out
          obtain ⟨b1, o1, A1, C1, e8, hb1, _, q0, q1, _, _, hev⟩ := hVs.at_ hkv
          have e7 := (Value.slice.inj e9).1
          subst e7
          subst e8
          obtain ⟨ds2, hdk2, hto⟩ := HSH.out.tv.at_ hkv
          rw [hdk] at hdk2
          injection hdk2 with hdk2
          subst hdk2
          have hel := HSH.out.evs _ (List.getElem_mem hkv)
          have hsm := HSH.out.sum ds (List.mem_of_getElem? hdk)
          generalize s.voices[kk]'hkv = v at *
          obtain ⟨nm, es⟩ := v
          dsimp only at *
          have HST := Lib.hid (starts48_any nm A1 C1 es ds _ HSr.out hev hto hsm (by omega))
          have hlen : (strt ds).length ≤ 1001 := by rw [strt_len, ← hto.len]; omega
          have HTM := Lib.hid htm
          clear hev hto hdk hb1 hVs e9 HSVr HCA HXX hk htm
          generalize strt ds = sd at *
          go_wp2_with fail
          refine HST.out.mono ?_
          rintro e w8 ⟨⟨v3, rfl, ht3⟩, hb8⟩
          obtain ⟨A3, c3, rfl, _, _, h3t⟩ := ht3.shape
          have HT3 := Lib.hid h3t
          replace HTM := Lib.hid (TmT.lift HTM.out hb8)
          replace HBr := Lib.hid (HBr.out.trans (hb8.mono HBr.out.size))
          clear ht3 h3t hb8 HST sc0 sc1 q0 q1 y0 y1 x0 x1 hkn hkl hkl2
          go_wp2_with fail
          obtain ⟨W8, hW8⟩ : ∃ W8, W8 = w8 := ⟨_, rfl⟩
          rw [← hW8] at HTM HT3 HBr ⊢
          clear hW8
          go_loopw [14] (fun i wx => ∃ k : Nat, k ≤ sd.length ∧ i = .int .i64 k ∧ Below W8.heap.size W8 wx) (fun i _ => sd.length - (intOf i).toNat)
          case atStart => exact ⟨0, Nat.zero_le _, rfl, Below.refl _ _⟩
          case round =>
            obtain ⟨j, hj, rfl, hbx⟩ := hrel
            by_cases hjl : j < sd.length
            · obtain ⟨b4, o4, rfl, _, p0, p1⟩ := TmT.at_ (TmT.lift HTM.out hbx) (List.getElem?_eq_getElem hjl)
              obtain ⟨b5, o5, rfl, _, r0, r1⟩ := TmT.at_ (TmT.lift HT3.out hbx) (List.getElem?_eq_getElem hjl)
              have hji : (j : Int) < (sd.length : Int) := by omega
              have hj0 : (0 : Int) ≤ (j : Int) := by omega
              generalize sd[j]'hjl = t at *
              have hne2 : ∀ W, (binOp .neq 55 (.agg #[.string ⟨(t12n t).toArray⟩, .string ⟨(t12d t).toArray⟩]) (.agg #[.string ⟨(t12n t).toArray⟩, .string ⟨(t12d t).toArray⟩])).run Tryz.prog W = .ok (.bool false) W := fun W => by rw [rat_neq]; simp
              generalize t12n t = tn at *
              generalize t12d t = td at *
              go_wp2_with fail
              go_region
              go_wp2_with fail
              go_roundw
              case rel => exact ⟨j + 1, by omega, by go_num, below_to_drew hbx⟩
              case measure => simp [intOf]; omega
            · obtain rfl : j = sd.length := by omega
              go_wp2_with fail
              go_ret
              exact ⟨rfl, HBr.out.trans (hbx.mono HBr.out.size)⟩

end Go.Proofs.YtphlodmdcmcjnaaGreatDoor
