import Derived.Test.YtaaeekahhhookaaGreatDoorScUCk
import Derived.Test.YtaaeekahhhookaaGreatDoorGXAMCk
import Derived.Test.YtaaeekahhhookaaGreatDoorCk48Ck
import Derived.Deep.RegionHeld3
namespace Go.Proofs.YtaaeekahhhookaaGreatDoor
open Go.RowKit Go.Lib
set_option maxRecDepth 100000 in
set_option maxHeartbeats 2000000 in
theorem indexFuncU (a : List UInt8) (A : Option Addr) (c g : Nat) (l : List Vc) (w : World) (h : VcsU w A l) (hl : l.length ≤ 1000000) (hg : w.cell? ⟨g, 0, Option.none⟩ = some (.string ⟨a.toArray⟩)) :
  Calls Tryz.prog 93 #[.slice A l.length c, .func (.func 46) #[] #[.pointer (some ⟨g, 0, Option.none⟩)]] w fun e w' => e = .returned (.int .i64 (idxV a 0 l)) ∧ Below w.heap.size w w' := by
 have H1 := Lib.hid h
 have hglt := cell_lt hg
 have HG := Lib.hid hg
 clear h hg
 obtain ⟨out, HO⟩ : ∃ out, Box (idxV a 0 (l.drop 0) = out ∧ idxV a 0 l = out) := ⟨_, ⟨rfl, rfl⟩⟩
 rw [HO.out.2]
 go_enter Tryz.func93, Tryz.ntmps93
 go_wp2_with fail
 go_loopw [8] (fun i wr => ∃ k : Nat, k ≤ l.length ∧ i = .int .i64 k ∧ Box (idxV a k (l.drop k) = out) ∧ Below w.heap.size w wr) (fun i _ => l.length - (intOf i).toNat)
 case atStart => exact ⟨0, Nat.zero_le _, rfl, ⟨HO.out.1⟩, Below.refl _ _⟩
 case round =>
  obtain ⟨k, hk, rfl, HK, hbw⟩ := hrel
  by_cases hlt : k < l.length
  ·obtain ⟨b1, o1, A1, C1, rfl, hb1, _, p0, p1, _, _, _⟩ := (H1.out.lift hbw).at_ hlt
   have HS : Box (out = if (l[k]'hlt).name == a then (k : Int) else idxV a (k + 1) (l.drop (k + 1))) := ⟨by rw [← HK.out, List.drop_eq_getElem_cons hlt, idxV]⟩
   generalize l[k]'hlt = t1 at *
   have HE := Lib.hid (check1_any t1.name a (.slice A1 t1.evs.length C1) g wr ⟨_, _, _, rfl⟩ ((hbw.cell (p := ⟨g, 0, Option.none⟩) hglt).trans HG.out))
   generalize (t1.name == a) = tb at *
   cases tb with
   | true =>
     have HF : Box (out = (k : Int)) := ⟨by rw [HS.out]; rfl⟩
     clear HS HK HO
     go_wp2_with fail
     refine HE.out.mono ?_
     rintro e w1 ⟨rfl, hb1⟩
     have hbn := hbw.trans (hb1.mono hbw.size)
     clear hb1
     go_wp2_with fail
     go_ret
     exact ⟨ret_int HF.out.symm, hbn⟩
   | false =>
     have HF : Box (idxV a (k + 1) (l.drop (k + 1)) = out) := ⟨by rw [HS.out]; rfl⟩
     clear HS HK HO
     go_wp2_with fail
     refine HE.out.mono ?_
     rintro e w1 ⟨rfl, hb1⟩
     have hbn := hbw.trans (hb1.mono hbw.size)
     clear hb1
     go_wp2_with fail
     go_roundw
     case rel => exact ⟨k + 1, by omega, by go_num, HF, hbn⟩
     case measure => simp [intOf]; omega
  ·obtain rfl : k = l.length := by omega
   have HF : Box (out = -1) := ⟨by rw [← HK.out, List.drop_length]; rfl⟩
   go_wp2_with fail
   go_ret
   exact ⟨ret_int HF.out.symm, hbw⟩
set_option maxRecDepth 100000 in
set_option maxHeartbeats 1000000 in
theorem containsFuncU (a : List UInt8) (A : Option Addr) (c g : Nat) (l : List Vc) (w : World) (h : VcsU w A l) (hl : l.length ≤ 1000000) (hg : w.cell? ⟨g, 0, Option.none⟩ = some (.string ⟨a.toArray⟩)) :
  Calls Tryz.prog 45 #[.slice A l.length c, .func (.func 46) #[] #[.pointer (some ⟨g, 0, Option.none⟩)]] w fun e w' => e = .returned (.bool (l.any (fun v => v.name == a))) ∧ Below w.heap.size w w' := by
 have HI := Lib.hid (indexFuncU a A c g l w h hl hg)
 have HA : Box (decide (0 ≤ idxV a 0 l) = l.any (fun v => v.name == a)) := ⟨idxV_any a l 0⟩
 generalize idxV a 0 l = ix at *
 generalize l.any (fun v => v.name == a) = out at *
 clear h hg hl
 go_enter Tryz.func45, Tryz.ntmps45
 go_wp2_with fail
 refine HI.out.mono ?_
 rintro e w1 ⟨rfl, hb1⟩
 go_wp2_with fail
 go_ret
 exact ⟨ret1 (congrArg Value.bool HA.out), hb1⟩
set_option maxRecDepth 100000 in
set_option maxHeartbeats 8000000 in
theorem scCheckU (pv vv : Value) (s : Sc) (w : World) (hS : Std w) (h : ScU w pv vv s) (hm : ScSm s) :
  Calls Tryz.prog 18 #[.agg #[pv, vv]] w fun e w' => e = .returned (.int .i64 (scErr s)) ∧ Below w.heap.size w w' := by
 obtain ⟨hp, A, c, rfl, hcl, hcm, hv⟩ := h
 have HS := Lib.hid hS
 have HP := Lib.hid hp
 have HV := Lib.hid hv
 have HM : Box (ScSm s) := ⟨hm⟩
 have HSE : Box (scErr s = if primeErr s.primes ≠ 0 then primeErr s.primes else if 8 < s.voices.length then 4 else vcsErr s.primes [] s.voices) := ⟨rfl⟩
 obtain ⟨p, vs⟩ := s
 dsimp only at *
 obtain ⟨AP, cp, rfl, _⟩ := hp.shape
 have hnl := hm.vcs
 dsimp only at hnl
 have hba : Below w.heap.size w (w.alloc (.cells #[.slice AP p.length cp, .slice A vs.length c] 29)) := (Below.refl _ _).alloc (Nat.le_refl _) _
 have HPC := Lib.hid (primeCheck_any _ p _ _ (HP.out.lift hba).row)
 have HBA := Lib.hid hba
 have HC0 := Lib.hid (Cells.new w 29 #[.slice AP p.length cp, .slice A vs.length c])
 generalize scErr ⟨p, vs⟩ = out at *
 unfold maxLen at hcm
 clear hS hp hv hm hba
 by_cases hpe : primeErr p = 0
 ·rw [hpe] at HPC
  by_cases h8 : 8 < vs.length
  ·have HE : Box (out = 4) := ⟨by rw [HSE.out, if_neg (by simpa using hpe), if_pos h8]⟩
   clear hpe HSE
   go_enter Tryz.func18, Tryz.ntmps18
   go_wp2_with fail
   refine HPC.out.mono ?_
   rintro e w1 ⟨rfl, rfl⟩
   go_wp2_with fail
   go_ret
   exact ⟨ret_int HE.out.symm, HBA.out⟩
  ·have HE : Box (out = vcsErr p (vs.take 0) (vs.drop 0)) := ⟨by rw [HSE.out, if_neg (by simpa using hpe), if_neg h8]; rfl⟩
   clear hpe HSE
   go_enter Tryz.func18, Tryz.ntmps18
   go_wp2_with fail
   refine HPC.out.mono ?_
   rintro e w1 ⟨rfl, rfl⟩
   go_wp2_with fail
   go_loopw [22] (fun i wr => ∃ k : Nat, k ≤ vs.length ∧ i = .int .i64 k ∧ Box (out = vcsErr p (vs.take k) (vs.drop k)) ∧ Cells wr w.heap.size 29 [.slice AP p.length cp, .slice A vs.length c] ∧ Below w.heap.size w wr) (fun i _ => vs.length - (intOf i).toNat)
   case atStart => exact ⟨0, Nat.zero_le _, rfl, HE, HC0.out, HBA.out⟩
   case round =>
    clear HE HPC HC0 HBA
    obtain ⟨k, hk, rfl, HK, hc0, hbw⟩ := hrel
    by_cases hlt : k < vs.length
    ·obtain ⟨b1, o1, A1, C1, rfl, hb1, _, q0, q1, hCl, hCm, hev⟩ := (HV.out.lift hbw).at_ hlt
     have HST : Box (out = if vcErr p (vs.take k) (vs[k]'hlt) ≠ 0 then vcErr p (vs.take k) (vs[k]'hlt) else vcsErr p (vs.take (k + 1)) (vs.drop (k + 1))) := ⟨HK.out.trans (vcsErr_drop hlt)⟩
     have hnm := HM.out.names _ (List.getElem_mem hlt)
     have hne := HM.out.evs _ (List.getElem_mem hlt)
     have HNU : Box (∀ x ∈ (vs[k]'hlt).evs, x.num.length ≤ 100000 ∧ x.den.length ≤ 100000 ∧ x.notes.length ≤ 1000000) := ⟨HM.out.nums _ (List.getElem_mem hlt)⟩
     generalize vs[k]'hlt = v at *
     obtain ⟨nm, es⟩ := v
     dsimp only at *
     have HVC : Box (vcErr p (vs.take k) ⟨nm, es⟩ = if nameB nm then (if (vs.take k).any (fun w => w.name == nm) then 9 else if 500 < es.length then 4 else evsErr p es) else 8) := ⟨rfl⟩
     generalize vcErr p (vs.take k) ⟨nm, es⟩ = ve at *
     have hba : Below wr.heap.size wr (wr.alloc (.cells #[.string ⟨nm.toArray⟩, .slice A1 es.length C1] 48)) := (Below.refl _ _).alloc (Nat.le_refl _) _
     have HN := Lib.hid (Cells.new wr 48 #[.string ⟨nm.toArray⟩, .slice A1 es.length C1])
     have HC1 := Lib.hid (hc0.below hba hc0.lt)
     have HEV := Lib.hid (hev.lift hba)
     have HBW := Lib.hid (hbw.trans (hba.mono hbw.size))
     obtain ⟨z0, z1⟩ := cel2 HC1.out
     obtain ⟨y0, y1⟩ := cel2 HN.out
     unfold maxLen at hCm
     have hNA := Lib.hid (fun W => named_any nm W hnm)
     clear hc0 hev hba HK
     cases hnb : nameB nm with
     | false =>
       rw [hnb] at hNA HVC
       have HE : Box (out = 8) := ⟨by rw [HST.out, HVC.out]; rfl⟩
       clear HST HVC hnb
       go_wp2_with fail
       refine (hNA.out _).mono ?_
       rintro e w2 ⟨rfl, rfl⟩
       go_wp2_with fail
       go_ret
       exact ⟨ret_int HE.out.symm, HBW.out⟩
     | true =>
       rw [hnb] at hNA HVC
       have HVT : Hid (VcsU (wr.alloc (.cells #[.string ⟨nm.toArray⟩, .slice A1 es.length C1] 48)) (some ⟨b1, o1, Option.none⟩) (vs.take k)) := Lib.hid ((HV.out.lift HBW.out).take k)
       have HCF := Lib.hid (containsFuncU nm (some ⟨b1, o1, Option.none⟩) c wr.heap.size (vs.take k) _ HVT.out (by rw [List.length_take]; omega) y0)
       have htl : (vs.take k).length = k := by rw [List.length_take]; omega
       rw [htl] at HCF
       clear htl hnb HVT
       cases hdu : (vs.take k).any (fun w => w.name == nm) with
       | true =>
         rw [hdu] at HCF HVC
         have HE : Box (out = 9) := ⟨by rw [HST.out, HVC.out]; rfl⟩
         clear HST HVC hdu
         go_wp2_with fail
         refine (hNA.out _).mono ?_
         rintro e w2 ⟨rfl, rfl⟩
         go_wp2_with fail
         refine HCF.out.mono ?_
         rintro e w3 ⟨rfl, hb3⟩
         have HB3 := Lib.hid (HBW.out.trans (hb3.mono HBW.out.size))
         clear hb3
         go_wp2_with fail
         go_ret
         exact ⟨ret_int HE.out.symm, HB3.out⟩
       | false =>
         rw [hdu] at HCF HVC
         clear hdu
         go_wp2_with fail
         refine (hNA.out _).mono ?_
         rintro e w2 ⟨rfl, rfl⟩
         go_wp2_with fail
         refine HCF.out.mono ?_
         rintro e w3 ⟨rfl, hb3⟩
         have HB3 := Lib.hid (HBW.out.trans (hb3.mono HBW.out.size))
         have HC3 := Lib.hid (HC1.out.below hb3 HC1.out.lt)
         have HN3 := Lib.hid (HN.out.below hb3 HN.out.lt)
         have HEV3 := Lib.hid (HEV.out.lift hb3)
         clear hb3 z0 z1 y0 y1 HC1 HN HEV HBW HCF hNA q0 q1 hbw
         obtain ⟨y0, y1⟩ := cel2 HN3.out
         by_cases h5 : 500 < es.length
         ·have HE : Box (out = 4) := ⟨by rw [HST.out, HVC.out]; simp [h5]⟩
          clear HST HVC
          go_wp2_with fail
          go_ret
          exact ⟨ret_int HE.out.symm, HB3.out⟩
         ·have HVE : Box (ve = evsErr p (es.drop 0)) := ⟨by rw [HVC.out]; simp [h5]⟩
          clear HVC
          generalize hgb : wr.heap.size = g5 at *
          clear hgb
          go_wp2_with fail
          go_loopw [47] (fun i wx => ∃ j : Nat, j ≤ es.length ∧ i = .int .i64 j ∧ Box (ve = evsErr p (es.drop j)) ∧ Cells wx w.heap.size 29 [.slice AP p.length cp, .slice (some ⟨b1, o1, Option.none⟩) vs.length c] ∧ Below w3.heap.size w3 wx) (fun i _ => es.length - (intOf i).toNat)
          case atStart => exact ⟨0, Nat.zero_le _, rfl, HVE, HC3.out, Below.refl _ _⟩
          case round =>
           obtain ⟨j, hj, rfl, HJ, hcx, hbx⟩ := hrel
           by_cases hjl : j < es.length
           ·obtain ⟨b2, o2, A2, C2, rfl, hb2, _, r0, r1, r2, hDl, hDm, hno⟩ := (HEV3.out.lift hbx).at_ hjl
            have HJS : Box (ve = if evErr p (es[j]'hjl) ≠ 0 then evErr p (es[j]'hjl) else evsErr p (es.drop (j + 1))) := ⟨HJ.out.trans (evsErr_drop hjl)⟩
            obtain ⟨hn1, hn2, hn3⟩ := HNU.out _ (List.getElem_mem hjl)
            have hcs := evErr_cases p (es[j]'hjl)
            generalize es[j]'hjl = x at *
            obtain ⟨nu, de, no⟩ := x
            dsimp only at *
            generalize evErr p ⟨nu, de, no⟩ = ee at *
            have hbe : Below wr.heap.size wr (wr.alloc (.cells #[.string ⟨nu.toArray⟩, .string ⟨de.toArray⟩, .slice A2 no.length C2] 54)) := (Below.refl _ _).alloc (Nat.le_refl _) _
            have HX := Lib.hid (Cells.new wr 54 #[.string ⟨nu.toArray⟩, .string ⟨de.toArray⟩, .slice A2 no.length C2])
            have HCX := Lib.hid (hcx.below hbe hcx.lt)
            have HNO := Lib.hid (hno.lift hbe)
            have HBX := Lib.hid (HB3.out.trans ((hbx.trans (hbe.mono hbx.size)).mono HB3.out.size))
            have HBX3 := Lib.hid (hbx.trans (hbe.mono hbx.size))
            have HSX := Lib.hid (HS.out.below HBX.out (Nat.le_refl _))
            obtain ⟨x0, x1, x2⟩ := cel3 HX.out
            unfold maxLen at hDm
            clear hcx hno hbe hbx HJ
            rcases hcs with ⟨hf, rfl⟩ | ⟨n, d, rfl, rfl, hl1, hl2, hd0, hg1, hcs⟩
            ·have HE : Box (out = 2) := ⟨by rw [HST.out, HJS.out]; rfl⟩
             have HF := Lib.hid (fracCheck_no nu de _ HSX.out hn1 hn2 hf)
             clear HST HJS hf
             go_wp2_with fail
             refine HF.out.mono ?_
             rintro e w4 ⟨rfl, hb4⟩
             have HB4 := Lib.hid (HBX.out.trans (hb4.mono HBX.out.size))
             clear hb4
             go_wp2_with fail
             go_ret
             exact ⟨ret_int HE.out.symm, HB4.out⟩
            ·have HF := Lib.hid (fracCheck_long n d _ HSX.out hl1 hl2 hd0 hg1)
             have HSG := Lib.hid (fun W => fracSign_any n (itoa d) W hn1)
             have hsg : (n ≤ 0 ∧ sgn n ≤ 0) ∨ (0 < n ∧ sgn n = 1) := by unfold sgn; split; omega; split <;> omega
             generalize itoa n = ln at *
             generalize itoa d = ld at *
             clear hl1 hl2 hd0 hg1
             rcases hcs with ⟨hn0, rfl⟩ | ⟨hn0, hcs⟩
             ·have HE : Box (out = 3) := ⟨by rw [HST.out, HJS.out]; rfl⟩
              have hs0 : sgn n ≤ 0 := by omega
              generalize sgn n = sg at *
              clear HST HJS hsg hn0
              go_wp2_with fail
              refine HF.out.mono ?_
              rintro e w4 ⟨rfl, hb4⟩
              have HB4 := Lib.hid (HBX.out.trans (hb4.mono HBX.out.size))
              obtain ⟨x0, x1, x2⟩ := cel3 (HX.out.below hb4 HX.out.lt)
              clear hb4
              go_wp2_with fail
              refine (HSG.out _).mono ?_
              rintro e w5 ⟨rfl, hb5⟩
              have HB5 := Lib.hid (HB4.out.trans (hb5.mono HB4.out.size))
              clear hb5
              go_wp2_with fail
              go_ret
              exact ⟨ret_int HE.out.symm, HB5.out⟩
             ·have hs1 : sgn n = 1 := by omega
              rw [hs1] at HSG
              clear hsg hs1
              go_wp2_with fail
              refine HF.out.mono ?_
              rintro e w4 ⟨rfl, hb4⟩
              have HB4 := Lib.hid (HBX.out.trans (hb4.mono HBX.out.size))
              have HB43 := Lib.hid (HBX3.out.trans (hb4.mono HBX3.out.size))
              have HX4 := Lib.hid (HX.out.below hb4 HX.out.lt)
              have HCX4 := Lib.hid (HCX.out.below hb4 HCX.out.lt)
              have HNO4 := Lib.hid (HNO.out.lift hb4)
              obtain ⟨x0, x1, x2⟩ := cel3 HX4.out
              clear hb4
              go_wp2_with fail
              refine (HSG.out _).mono ?_
              rintro e w5 ⟨rfl, hb5⟩
              have HB5 := Lib.hid (HB4.out.trans (hb5.mono HB4.out.size))
              have HB53 := Lib.hid (HB43.out.trans (hb5.mono HB43.out.size))
              have HX5 := Lib.hid (HX4.out.below hb5 HX4.out.lt)
              have HCX5 := Lib.hid (HCX4.out.below hb5 HCX4.out.lt)
              have HNO5 := Lib.hid (HNO4.out.lift hb5)
              obtain ⟨x0, x1, x2⟩ := cel3 HX5.out
              obtain ⟨z0, z1⟩ := cel2 HCX5.out
              clear hb5
              rcases hcs with ⟨h12, rfl⟩ | ⟨h12, rfl⟩
              ·have HE : Box (out = 4) := ⟨by rw [HST.out, HJS.out]; rfl⟩
               clear HST HJS
               go_wp2_with fail
               go_ret
               exact ⟨ret_int HE.out.symm, HB5.out⟩
              ·have HCA := Lib.hid (checkAll_any _ p A2 C2 _ no w5 (HP.out.lift HB5.out).row (HNO5.out.rows (Nat.le_refl _)) (by omega))
               have hn12 : ¬ 12 < no.length := by omega
               by_cases hce : chkAll p no = 0
               ·rw [hce] at HCA
                have HNX : Box (ve = evsErr p (es.drop (j + 1))) := ⟨by rw [HJS.out, hce]; rfl⟩
                clear HJS hce HST
                go_wp2_with fail
                refine HCA.out.mono ?_
                rintro e w6 ⟨rfl, rfl⟩
                go_wp2_with fail
                go_roundw
                case rel => exact ⟨j + 1, by omega, by go_num, HNX, HCX5.out, HB53.out⟩
                case measure => simp [intOf]; omega
               ·have HE : Box (out = chkAll p no) := ⟨by rw [HST.out, HJS.out, if_pos hce, if_pos hce]⟩
                have hcb : (chkAll p no != 0) = true := by rw [bne_iff_ne]; exact hce
                generalize chkAll p no = q at *
                clear HST HJS hce
                go_wp2_with fail
                refine HCA.out.mono ?_
                rintro e w6 ⟨rfl, rfl⟩
                go_wp2_with fail
                go_ret
                exact ⟨ret_int HE.out.symm, HB5.out⟩
           ·obtain rfl : j = es.length := by omega
            have HNX : Box (out = vcsErr p (vs.take (k + 1)) (vs.drop (k + 1))) := ⟨by
             have : ve = 0 := by rw [HJ.out, List.drop_length]; rfl
             rw [HST.out, this]; rfl⟩
            clear HST HJ
            have HBN := Lib.hid (HB3.out.trans (hbx.mono HB3.out.size))
            go_wp2_with fail
            go_roundw
            case rel => exact ⟨k + 1, by omega, by go_num, HNX, hcx, HBN.out⟩
            case measure => simp [intOf]; omega
    ·obtain rfl : k = vs.length := by omega
     have HE : Box (out = 0) := ⟨by rw [HK.out, List.drop_length]; rfl⟩
     go_wp2_with fail
     go_ret
     exact ⟨ret_int HE.out.symm, hbw⟩
 ·have HE : Box (out = primeErr p) := ⟨by rw [HSE.out, if_pos hpe]⟩
  have hpb : (primeErr p != 0) = true := by rw [bne_iff_ne]; exact hpe
  generalize primeErr p = q at *
  clear hpe HSE
  go_enter Tryz.func18, Tryz.ntmps18
  go_wp2_with fail
  refine HPC.out.mono ?_
  rintro e w1 ⟨rfl, rfl⟩
  go_wp2_with fail
  go_ret
  exact ⟨ret_int HE.out.symm, HBA.out⟩
set_option maxRecDepth 100000 in
set_option maxHeartbeats 4000000 in
theorem checkEvent48U (pv : Value) (p : List Int) (x : Ev) (A2 : Option Addr) (C2 : Nat) (w : World) (hS : Std w) (hp : IsRow w w.heap.size pv p) (hno : NotesU w A2 x.notes) (hn1 : x.num.length ≤ 100000) (hn2 : x.den.length ≤ 100000) (hn3 : x.notes.length ≤ 1000000) :
  Calls Tryz.prog 43 #[pv, .agg #[.string ⟨x.num.toArray⟩, .string ⟨x.den.toArray⟩, .slice A2 x.notes.length C2]] w fun e w' => e = .returned (.int .i64 (evErr p x)) ∧ Below w.heap.size w w' := by
 have hcs := evErr_cases p x
 obtain ⟨nu, de, no⟩ := x
 dsimp only at *
 generalize evErr p ⟨nu, de, no⟩ = ee at *
 obtain ⟨W0, hW0⟩ : ∃ W0, W0 = w.alloc (.cells #[.string ⟨nu.toArray⟩, .string ⟨de.toArray⟩, .slice A2 no.length C2] 54) := ⟨_, rfl⟩
 have hb0 : Below w.heap.size w W0 := by rw [hW0]; exact (Below.refl _ _).alloc (Nat.le_refl _) _
 have HX : Hid (Cells W0 w.heap.size 54 [.string ⟨nu.toArray⟩, .string ⟨de.toArray⟩, .slice A2 no.length C2]) := Lib.hid (by rw [hW0]; exact Cells.new w 54 #[.string ⟨nu.toArray⟩, .string ⟨de.toArray⟩, .slice A2 no.length C2])
 have HB0 := Lib.hid hb0
 have HS := Lib.hid (hS.below hb0 (Nat.le_refl _))
 have HP := Lib.hid hp
 have HNO := Lib.hid hno
 obtain ⟨AP, cp, rfl⟩ := hp.shape
 clear hS hp hno hb0
 rcases hcs with ⟨hf, rfl⟩ | ⟨n, d, rfl, rfl, hl1, hl2, hd0, hg1, hcs⟩
 ·have HF := Lib.hid (fracCheck_no nu de _ HS.out hn1 hn2 hf)
  clear hf
  go_enter Tryz.func43, Tryz.ntmps43
  go_upto_region 1 with (fail)
  rw [← hW0]
  obtain ⟨x0, x1, x2⟩ := cel3 HX.out
  clear hW0
  go_wp2_with fail
  refine HF.out.mono ?_
  rintro e w4 ⟨rfl, hb4⟩
  go_wp2_with fail
  go_ret
  exact ⟨rfl, HB0.out.trans (hb4.mono HB0.out.size)⟩
 ·have HF := Lib.hid (fracCheck_long n d _ HS.out hl1 hl2 hd0 hg1)
  have HSG := Lib.hid (fun W => fracSign_any n (itoa d) W hn1)
  have hsg : (n ≤ 0 ∧ sgn n ≤ 0) ∨ (0 < n ∧ sgn n = 1) := by unfold sgn; split; omega; split <;> omega
  generalize itoa n = ln at *
  generalize itoa d = ld at *
  clear hl1 hl2 hd0 hg1
  rcases hcs with ⟨hn0, rfl⟩ | ⟨hn0, hcs⟩
  ·have hs0 : sgn n ≤ 0 := by omega
   generalize sgn n = sg at *
   clear hsg hn0
   go_enter Tryz.func43, Tryz.ntmps43
   go_upto_region 1 with (fail)
   rw [← hW0]
   clear hW0
   obtain ⟨x0, x1, x2⟩ := cel3 HX.out
   go_wp2_with fail
   refine HF.out.mono ?_
   rintro e w4 ⟨rfl, hb4⟩
   have HB4 := Lib.hid (HB0.out.trans (hb4.mono HB0.out.size))
   have hx4 := HX.out.below hb4 HX.out.lt
   clear x0 x1 x2
   obtain ⟨x0, x1, x2⟩ := cel3 hx4
   clear hb4 hx4
   go_wp2_with fail
   refine (HSG.out _).mono ?_
   rintro e w5 ⟨rfl, hb5⟩
   go_wp2_with fail
   go_ret
   exact ⟨rfl, HB4.out.trans (hb5.mono HB4.out.size)⟩
  ·have hs1 : sgn n = 1 := by omega
   rw [hs1] at HSG
   clear hsg hs1
   go_enter Tryz.func43, Tryz.ntmps43
   go_upto_region 1 with (fail)
   rw [← hW0]
   clear hW0
   obtain ⟨x0, x1, x2⟩ := cel3 HX.out
   go_wp2_with fail
   refine HF.out.mono ?_
   rintro e w4 ⟨rfl, hb4⟩
   have HB4 := Lib.hid (HB0.out.trans (hb4.mono HB0.out.size))
   have HX4 := Lib.hid (HX.out.below hb4 HX.out.lt)
   clear x0 x1 x2 hb4
   obtain ⟨x0, x1, x2⟩ := cel3 HX4.out
   go_wp2_with fail
   refine (HSG.out _).mono ?_
   rintro e w5 ⟨rfl, hb5⟩
   have HB5 := Lib.hid (HB4.out.trans (hb5.mono HB4.out.size))
   have HX5 := Lib.hid (HX4.out.below hb5 HX4.out.lt)
   clear x0 x1 x2 hb5
   obtain ⟨x0, x1, x2⟩ := cel3 HX5.out
   rcases hcs with ⟨h12, rfl⟩ | ⟨h12, rfl⟩
   ·have h12i : (12 : Int) < (no.length : Int) := by omega
    go_wp2_with fail
    go_ret
    exact ⟨rfl, HB5.out⟩
   ·have h12i : ¬ (12 : Int) < (no.length : Int) := by omega
    have HCA := Lib.hid (checkAll_any _ p A2 C2 _ no w5 (HP.out.lift HB5.out) ((HNO.out.lift HB5.out).rows (Nat.le_refl _)) (by omega))
    go_wp2_with fail
    refine HCA.out.mono ?_
    rintro e w6 ⟨rfl, rfl⟩
    go_wp2_with fail
    go_ret
    exact ⟨ret_int rfl, HB5.out⟩
set_option maxRecDepth 100000 in
set_option maxHeartbeats 8000000 in
theorem check48U (pv vv : Value) (s : Sc) (w : World) (hS : Std w) (h : ScU w pv vv s) (hm : ScSm s) :
  Calls Tryz.prog 17 #[.agg #[pv, vv]] w fun e w' => e = .returned (.int .i64 (scErr s)) ∧ Below w.heap.size w w' := by
 obtain ⟨hp, A, c, rfl, hcl, hcm, hv⟩ := h
 have HS := Lib.hid hS
 have HP := Lib.hid hp
 have HV := Lib.hid hv
 have HM : Box (ScSm s) := ⟨hm⟩
 have HSE : Box (scErr s = if primeErr s.primes ≠ 0 then primeErr s.primes else if 8 < s.voices.length then 4 else vcsErr s.primes [] s.voices) := ⟨rfl⟩
 obtain ⟨p, vs⟩ := s
 dsimp only at *
 obtain ⟨AP, cp, rfl, _⟩ := hp.shape
 have hnl := hm.vcs
 dsimp only at hnl
 obtain ⟨W0, hW0⟩ : ∃ W0, W0 = w.alloc (.cells #[.slice AP p.length cp, .slice A vs.length c] 29) := ⟨_, rfl⟩
 have hb0 : Below w.heap.size w W0 := by rw [hW0]; exact (Below.refl _ _).alloc (Nat.le_refl _) _
 have HPC := Lib.hid (primeCheck_any _ p _ W0 (HP.out.lift hb0).row)
 have HB0 := Lib.hid hb0
 have HC0 : Hid (Cells W0 w.heap.size 29 [.slice AP p.length cp, .slice A vs.length c]) := Lib.hid (by rw [hW0]; exact Cells.new w 29 #[.slice AP p.length cp, .slice A vs.length c])
 generalize scErr ⟨p, vs⟩ = out at *
 unfold maxLen at hcm
 clear hS hp hv hm hb0
 go_enter Tryz.func17, Tryz.ntmps17
 go_upto_region 1 with (fail)
 rw [← hW0]
 clear hW0
 obtain ⟨z0, z1⟩ := cel2 HC0.out
 go_wp2_with fail
 refine HPC.out.mono ?_
 rintro e w1 ⟨rfl, rfl⟩
 by_cases hpe : primeErr p = 0
 ·rw [hpe]
  by_cases h8 : 8 < vs.length
  ·have HE : Box (out = 4) := ⟨by rw [HSE.out, if_neg (by simpa using hpe), if_pos h8]⟩
   have h8i : (8 : Int) < (vs.length : Int) := by omega
   clear hpe HSE
   go_wp2_with fail
   go_ret
   exact ⟨ret_int HE.out.symm, HB0.out⟩
  ·have HE : Box (out = vcsErr p (vs.take 0) (vs.drop 0)) := ⟨by rw [HSE.out, if_neg (by simpa using hpe), if_neg h8]; rfl⟩
   have h8i : ¬ (8 : Int) < (vs.length : Int) := by omega
   clear hpe HSE
   go_upto_region 7 with (fail)
   clear z0 z1
   go_loopw [4] (fun i wr => ∃ k : Nat, k ≤ vs.length ∧ i = .int .i64 k ∧ Box (out = vcsErr p (vs.take k) (vs.drop k)) ∧ Cells wr w.heap.size 29 [.slice AP p.length cp, .slice A vs.length c] ∧ Below w.heap.size w wr) (fun i _ => vs.length - (intOf i).toNat)
   case atStart => exact ⟨0, Nat.zero_le _, rfl, HE, HC0.out, HB0.out⟩
   case round =>
    clear HE HPC HC0 HB0
    obtain ⟨k, hk, rfl, HK, hc0, hbw⟩ := hrel
    have HC1 := Lib.hid hc0
    have HBW := Lib.hid hbw
    obtain ⟨z0, z1⟩ := cel2 hc0
    by_cases hlt : k < vs.length
    ·obtain ⟨b1, o1, A1, C1, rfl, _, _, q0, q1, hCl, hCm, hev⟩ := HV.out.at_ hlt
     have hq0 := HV.out
     replace q0 := keep_cell q0 hbw
     replace q1 := keep_cell q1 hbw
     have HST : Box (out = if vcErr p (vs.take k) (vs[k]'hlt) ≠ 0 then vcErr p (vs.take k) (vs[k]'hlt) else vcsErr p (vs.take (k + 1)) (vs.drop (k + 1))) := ⟨HK.out.trans (vcsErr_drop hlt)⟩
     have hnm := HM.out.names _ (List.getElem_mem hlt)
     have hne := HM.out.evs _ (List.getElem_mem hlt)
     have HNU : Box (∀ x ∈ (vs[k]'hlt).evs, x.num.length ≤ 100000 ∧ x.den.length ≤ 100000 ∧ x.notes.length ≤ 1000000) := ⟨HM.out.nums _ (List.getElem_mem hlt)⟩
     have hki : (k : Int) < (vs.length : Int) := by omega
     have hk0 : (0 : Int) ≤ (k : Int) := by omega
     generalize vs[k]'hlt = v at *
     obtain ⟨nm, es⟩ := v
     dsimp only at *
     have HVC : Box (vcErr p (vs.take k) ⟨nm, es⟩ = if nameB nm then (if (vs.take k).any (fun w => w.name == nm) then 9 else if 500 < es.length then 4 else evsErr p es) else 8) := ⟨rfl⟩
     generalize vcErr p (vs.take k) ⟨nm, es⟩ = ve at *
     have HEV := Lib.hid hev
     unfold maxLen at hCm
     have hNA := Lib.hid (fun W => word48_any nm W hnm)
     obtain ⟨VB, hVB⟩ : ∃ VB, VB = wr.heap.size := ⟨_, rfl⟩
     obtain ⟨W2, hW2⟩ : ∃ W2, W2 = wr.alloc (.cells #[.string ⟨nm.toArray⟩, .slice A1 es.length C1] 48) := ⟨_, rfl⟩
     have hb2 : Below wr.heap.size wr W2 := by rw [hW2]; exact (Below.refl _ _).alloc (Nat.le_refl _) _
     have HN : Hid (Cells W2 VB 48 [.string ⟨nm.toArray⟩, .slice A1 es.length C1]) := Lib.hid (by rw [hW2, hVB]; exact Cells.new wr 48 #[.string ⟨nm.toArray⟩, .slice A1 es.length C1])
     replace HC1 := Lib.hid (HC1.out.below hb2 HC1.out.lt)
     replace HBW := Lib.hid (HBW.out.trans (hb2.mono HBW.out.size))
     clear hev HK hc0 hbw hb2 hq0
     go_upto_region 10 with (fail)
     rw [← hW2, ← hVB]
     clear hW2 hVB z0 z1 q0 q1
     obtain ⟨z0, z1⟩ := cel2 HC1.out
     obtain ⟨y0, y1⟩ := cel2 HN.out
     go_wp2_with fail
     refine (hNA.out _).mono ?_
     rintro e w2 ⟨rfl, rfl⟩
     cases hnb : nameB nm with
     | false =>
       rw [hnb] at HVC
       have HE : Box (out = 8) := ⟨by rw [HST.out, HVC.out]; rfl⟩
       clear HST HVC hnb
       go_wp2_with fail
       go_ret
       exact ⟨ret_int HE.out.symm, HBW.out⟩
     | true =>
       rw [hnb] at HVC
       clear hnb hNA
       have HD0 : Box ((vs.take 0).any (fun w => w.name == nm) = false) := ⟨rfl⟩
       go_upto_region 13 with (fail)
       clear z0 z1 y0 y1
       go_loopw [6] (fun i wx => ∃ q : Nat, q ≤ k ∧ i = .int .i64 q ∧ Box ((vs.take q).any (fun w => w.name == nm) = false) ∧ Cells wx VB 48 [.string ⟨nm.toArray⟩, .slice A1 es.length C1] ∧ Cells wx w.heap.size 29 [.slice AP p.length cp, .slice (some ⟨b1, o1, Option.none⟩) vs.length c] ∧ Below w.heap.size w wx) (fun i _ => k - (intOf i).toNat)
       case atStart => exact ⟨0, Nat.zero_le _, rfl, HD0, HN.out, HC1.out, HBW.out⟩
       case round =>
        clear HN HC1 HBW HD0
        rename World => wx
        obtain ⟨q, hq, rfl, HD, hn, hc, hbx⟩ := hrel
        have HN := Lib.hid hn
        have HC1 := Lib.hid hc
        have HBX := Lib.hid hbx
        obtain ⟨y0, y1⟩ := cel2 hn
        obtain ⟨z0, z1⟩ := cel2 hc
        by_cases hqk : q < k
        ·obtain ⟨b3, o3, A3, C3, e3, _, _, r0, r1, _, _, _⟩ := HV.out.at_ (show q < vs.length by omega)
         injection e3 with e3
         injection e3 with e3 e4 _
         subst e3 e4
         replace r0 := keep_cell r0 hbx
         have hqv : q < vs.length := by omega
         have HTN : Box ((vs.take (q + 1)).any (fun w => w.name == nm) = ((vs.take q).any (fun w => w.name == nm) || ((vs[q]'hqv).name == nm))) := ⟨by rw [List.take_succ_eq_append_getElem hqv, List.any_append]; simp⟩
         have HTK : Box (((vs[q]'hqv).name == nm) = true → (vs.take k).any (fun w => w.name == nm) = true) := ⟨fun h => List.any_eq_true.2 ⟨vs[q]'hqv, by
          rw [List.mem_take_iff_getElem]
          exact ⟨q, by omega, rfl⟩, h⟩⟩
         have hqi : (q : Int) < (k : Int) := by omega
         have hqi2 : (q : Int) < (vs.length : Int) := by omega
         have hq0 : (0 : Int) ≤ (q : Int) := by omega
         have hk9 : k ≤ 1000000 := by omega
         clear hn hc hbx r1
         generalize (vs[q]'hqv).name = u at *
         have hB : Below wx.heap.size wx wx.drew := below_to_drew (Below.refl _ _)
         cases hz : (u == nm) with
         | true =>
           have HE : Box (out = 9) := ⟨by rw [HST.out, HVC.out, HTK.out hz]; rfl⟩
           clear HST HVC HTK HTN HD
           go_wp2_with fail
           go_region_held3 (fun w' => w'.cell? ⟨w.heap.size, 1, Option.none⟩ = some (.slice (some ⟨b1, o1, Option.none⟩) vs.length c) ∧ w'.cell? ⟨b1, o1 + q * 2, Option.none⟩ = some (.string ⟨u.toArray⟩) ∧ w'.cell? ⟨VB, 0, Option.none⟩ = some (.string ⟨nm.toArray⟩))
            (first | exact ⟨keep_cell z1 hB, keep_cell r0 hB, keep_cell y0 hB⟩ | go_keep)
            ((first | fail))
           go_wp2_with fail
           go_ret
           exact ⟨ret_int HE.out.symm, HBX.out.trans (hB.mono HBX.out.size)⟩
         | false =>
           have HDN : Box ((vs.take (q + 1)).any (fun w => w.name == nm) = false) := ⟨by rw [HTN.out, HD.out, hz]; rfl⟩
           clear HTK HTN HD
           go_wp2_with fail
           go_region_held3 (fun w' => w'.cell? ⟨w.heap.size, 1, Option.none⟩ = some (.slice (some ⟨b1, o1, Option.none⟩) vs.length c) ∧ w'.cell? ⟨b1, o1 + q * 2, Option.none⟩ = some (.string ⟨u.toArray⟩) ∧ w'.cell? ⟨VB, 0, Option.none⟩ = some (.string ⟨nm.toArray⟩))
            (first | exact ⟨keep_cell z1 hB, keep_cell r0 hB, keep_cell y0 hB⟩ | go_keep)
            ((first | fail))
           have HNn := Lib.hid (HN.out.below hB HN.out.lt)
           have HCn := Lib.hid (HC1.out.below hB HC1.out.lt)
           have HBn := Lib.hid (HBX.out.trans (hB.mono HBX.out.size))
           clear hB z0 z1 y0 y1 r0 hz
           go_wp2_with fail
           go_roundw
           case rel => exact ⟨q + 1, by omega, by go_num, HDN, HNn.out, HCn.out, HBn.out⟩
           case measure => simp [intOf]; omega
        ·obtain rfl : q = k := by omega
         rw [HD.out] at HVC
         clear HD hn hc hbx
         by_cases h5 : 500 < es.length
         ·have HE : Box (out = 4) := ⟨by rw [HST.out, HVC.out]; simp [h5]⟩
          have h5i : (500 : Int) < (es.length : Int) := by omega
          clear HST HVC
          go_wp2_with fail
          go_ret
          exact ⟨ret_int HE.out.symm, HBX.out⟩
         ·have HVE : Box (ve = evsErr p (es.drop 0)) := ⟨by rw [HVC.out]; simp [h5]⟩
          have h5i : ¬ (500 : Int) < (es.length : Int) := by omega
          clear HVC
          go_upto_region 20 with (fail)
          clear z0 z1 y0 y1
          go_loopw [7] (fun i wy => ∃ j : Nat, j ≤ es.length ∧ i = .int .i64 j ∧ Box (ve = evsErr p (es.drop j)) ∧ Cells wy VB 48 [.string ⟨nm.toArray⟩, .slice A1 es.length C1] ∧ Cells wy w.heap.size 29 [.slice AP p.length cp, .slice (some ⟨b1, o1, Option.none⟩) vs.length c] ∧ Below w.heap.size w wy) (fun i _ => es.length - (intOf i).toNat)
          case atStart => exact ⟨0, Nat.zero_le _, rfl, HVE, HN.out, HC1.out, HBX.out⟩
          case round =>
           clear HVE HN HC1 HBX
           rename World => wy
           obtain ⟨j, hj, rfl, HJ, hn, hc, hby⟩ := hrel
           have HN := Lib.hid hn
           have HC1 := Lib.hid hc
           have HBY := Lib.hid hby
           obtain ⟨y0, y1⟩ := cel2 hn
           obtain ⟨z0, z1⟩ := cel2 hc
           by_cases hjl : j < es.length
           ·obtain ⟨b2, o2, A2, C2, rfl, _, _, r0, r1, r2, hDl, hDm, hno⟩ := HEV.out.at_ hjl
            replace r0 := keep_cell r0 hby
            replace r1 := keep_cell r1 hby
            replace r2 := keep_cell r2 hby
            have HJS : Box (ve = if evErr p (es[j]'hjl) ≠ 0 then evErr p (es[j]'hjl) else evsErr p (es.drop (j + 1))) := ⟨HJ.out.trans (evsErr_drop hjl)⟩
            obtain ⟨hn1, hn2, hn3⟩ := HNU.out _ (List.getElem_mem hjl)
            have HCE := Lib.hid (fun (W : World) (hb : Below wy.heap.size wy W) => checkEvent48U (.slice AP p.length cp) p (es[j]'hjl) A2 C2 W (HS.out.below (hby.trans (hb.mono hby.size)) (Nat.le_refl _)) ((HP.out.lift (hby.trans (hb.mono hby.size))).row) (hno.lift (hby.trans (hb.mono hby.size))) hn1 hn2 hn3)
            have hji : (j : Int) < (es.length : Int) := by omega
            have hj0 : (0 : Int) ≤ (j : Int) := by omega
            clear hn hc hby hno HJ
            unfold maxLen at hDm
            generalize es[j]'hjl = x at *
            obtain ⟨nu, de, no⟩ := x
            dsimp only at *
            generalize evErr p ⟨nu, de, no⟩ = ee at *
            have hB : Below wy.heap.size wy wy.drew := below_to_drew (Below.refl _ _)
            go_wp2_with fail
            go_region_held3 (fun w' => w'.cell? ⟨w.heap.size, 0, Option.none⟩ = some (.slice AP p.length cp) ∧ w'.cell? ⟨VB, 1, Option.none⟩ = some (.slice (some ⟨b2, o2, Option.none⟩) es.length C1) ∧ w'.cell? ⟨b2, o2 + j * 3, Option.none⟩ = some (.string ⟨nu.toArray⟩) ∧ w'.cell? ⟨b2, o2 + j * 3 + 1, Option.none⟩ = some (.string ⟨de.toArray⟩) ∧ w'.cell? ⟨b2, o2 + j * 3 + 2, Option.none⟩ = some (.slice A2 no.length C2))
             (first | exact ⟨keep_cell z0 hB, keep_cell y1 hB, keep_cell r0 hB, keep_cell r1 hB, keep_cell r2 hB⟩ | go_keep)
             ((first
               | (go_at_call 43; (with_reducible refine (HCE.out _ hB).mono ?_); rintro e wA ⟨rfl, hbk⟩; replace hB := hB.trans (hbk.mono hB.size); clear hbk)))
            all_goals
             have HNn := Lib.hid (HN.out.below hB HN.out.lt)
             have HCn := Lib.hid (HC1.out.below hB HC1.out.lt)
             have HBn := Lib.hid (HBY.out.trans (hB.mono HBY.out.size))
             clear hB z0 z1 y0 y1 r0 r1 r2 HCE
             by_cases hee : ee = 0
             ·have HNX : Box (ve = evsErr p (es.drop (j + 1))) := ⟨by rw [HJS.out, if_neg (by simpa using hee)]⟩
              subst hee
              clear HJS
              go_wp2_with fail
              go_roundw
              case rel => exact ⟨j + 1, by omega, by go_num, HNX, HNn.out, HCn.out, HBn.out⟩
              case measure => simp [intOf]; omega
             ·have HE : Box (out = ee) := ⟨by
               have h9 : ve = ee := by rw [HJS.out, if_pos hee]
               rw [HST.out, h9, if_pos hee]⟩
              have heb : (ee != 0) = true := by rw [bne_iff_ne]; exact hee
              clear HJS HST
              go_wp2_with fail
              go_ret
              exact ⟨ret_int HE.out.symm, HBn.out⟩
           ·obtain rfl : j = es.length := by omega
            have HNX : Box (out = vcsErr p (vs.take (q + 1)) (vs.drop (q + 1))) := ⟨by
             have h9 : ve = 0 := by rw [HJ.out, List.drop_length]; rfl
             rw [HST.out, h9]; rfl⟩
            clear HST HJ hn hc hby
            go_wp2_with fail
            go_roundw
            case rel => exact ⟨q + 1, by omega, by go_num, HNX, HC1.out, HBY.out⟩
            case measure => simp [intOf]; omega
    ·obtain rfl : k = vs.length := by omega
     have HE : Box (out = 0) := ⟨by rw [HK.out, List.drop_length]; rfl⟩
     go_wp2_with fail
     go_ret
     exact ⟨ret_int HE.out.symm, HBW.out⟩
 ·have HE : Box (out = primeErr p) := ⟨by rw [HSE.out, if_pos hpe]⟩
  have hpb : (primeErr p != 0) = true := by rw [bne_iff_ne]; exact hpe
  generalize primeErr p = q at *
  clear hpe HSE
  go_wp2_with fail
  go_ret
  exact ⟨ret_int HE.out.symm, HB0.out⟩
end Go.Proofs.YtaaeekahhhookaaGreatDoor
