/- ChordInverts: the walk. -/
import Derived.Test.YtaiglcbgllnciaaGreatDoorGCG
import Derived.Test.YtaiglcbgllnciaaGreatDoorGCL
import Derived.Deep.RegionHeld3
import Derived.Deep.AppendLies
import Derived.Test.YtaiglcbgllnciaaGreatDoorGCK
import Derived.Test.YtaiglcbgllnciaaGreatDoorArgWG
import Derived.Laws.Rows
namespace Go.Proofs.YtaiglcbgllnciaaGreatDoor
open Go.RowKit Go.Lib

set_option maxRecDepth 100000 in
set_option maxHeartbeats 4000000 in
theorem inverts_walk (v : Value) (n m : Nat) (r : List Int) (w : World) (hS : Std w) (hm : ∃ m, w.cell? ⟨0, 0, Option.none⟩ = some (.int .i64 m)) (ha : WorldArg v n m r) :
    Calls Tryz.prog 3 #[v] w fun e w' => e = .returned (.bool true) ∧ Below w.heap.size w w' := by
  obtain ⟨mx, hm⟩ := hm
  obtain ⟨cs, rfl, hcs, hn, hm2, hr1, hr2⟩ := ha
  have hsz : cs.size = 20 := by rw [← Array.length_toList, hcs]; simp [hr1]
  have HSZ := Lib.hid hsz
  have HS := Lib.hid hS
  have HK := Lib.hid (fun (W : World) (hb : Below w.heap.size w W) => known_any39 W mx (hS.below hb (Nat.le_refl _)) (keep_cell hm hb))
  have HMK := Lib.hid (fun (W : World) (hW : Std W) => make39_any n m r _ W hcs hr1 hn hm2 hr2 hW)
  have HC := Lib.hid (Cells.new w 26 cs)
  have HB0 := Lib.hid ((Below.refl w.heap.size w).alloc (Nat.le_refl _) (.cells cs 26))
  clear hS hm hcs hn hm2 hr1 hr2 hsz
  go_enter Tryz.func3, Tryz.ntmps3
  go_wp2_with fail
  refine (HK.out _ HB0.out).mono ?_
  rintro e w1 ⟨rfl, hb1⟩
  have HB1 := Lib.hid (HB0.out.trans (hb1.mono HB0.out.size))
  have HC1 := Lib.hid (HC.out.below hb1 HC.out.lt)
  have HG1 : Hid (w1.heap[w.heap.size]? = some (.cells cs 26 (0, 0))) := Lib.hid (by have h := HC1.out; unfold Cells at h; rw [Array.toArray_toList] at h; exact h)
  clear hb1
  go_wp2_with (refine wpList_load_row rfl 26 _ rfl w.heap.size rfl 26 cs (0, 0) _ HG1.out Tryz.underlying26 rfl (by rw [HSZ.out]; kernel_rfl) ?_)
  refine (HMK.out w1 (HS.out.below HB1.out (Nat.le_refl _))).mono ?_
  rintro e w2 ⟨⟨pv, cv, rfl, hp, hl⟩, hb2⟩
  have hg := wChord_good n m r
  have HG : Box (GoodC (chPrimes n) (wChord n m r)) := ⟨hg⟩
  have HD : Box (∀ x ∈ wChord n m r, chkAll (chPrimes n) [difI ((wChord n m r)[(wChord n m r).length - 1]?.getD []) x] = 0) := ⟨wChord_dual n m r⟩
  have HN6 : Box ((wChord n m r).length ≤ 6) := ⟨(wChord_slt n m r).2.2⟩
  have hpos := hg.smc.ok.pos
  have HI0 : Hid ((invL (chPrimes n) (wChord n m r))[0]? = some (closeL (chPrimes n) (wChord n m r))) := Lib.hid (inv_first n m r)
  generalize chPrimes n = p at *
  generalize wChord n m r = l at *
  have HP2 := Lib.hid hp
  obtain ⟨AL, cl, rfl⟩ := hl.shape
  obtain ⟨AP, cp, rfl⟩ := hp.shape
  have HL2 : Box (RowsAt w2 w2.heap.size AL l) := ⟨hl.rows.2⟩
  have HB2 := Lib.hid (HB1.out.trans (hb2.mono HB1.out.size))
  have HS2 := Lib.hid (HS.out.below HB2.out (Nat.le_refl _))
  have HDU := Lib.hid (chDual_ok _ p AL cl l w2 HS2.out HP2.out HL2.out HG.out.smc.ok HD.out)
  clear hb2 hl hp hg HMK HK HC HB0 HC1
  go_wp2_with fail
  refine HDU.out.mono ?_
  rintro e w3 ⟨⟨vd, rfl, hd⟩, hb3⟩
  obtain ⟨Ad, cd, rfl⟩ := hd.shape
  have HD3 : Box (RowsAt w3 w3.heap.size Ad (dualL l)) := ⟨hd.rows.2⟩
  have HB23 := Lib.hid hb3
  have HCL := Lib.hid (chClose_ok _ p AL cl l w3 (HS2.out.below hb3 (Nat.le_refl _)) (HP2.out.lift hb3) (HL2.out.lift hb3) HG.out.smc)
  clear hd hb3 HDU HD
  go_wp2_with fail
  refine HCL.out.mono ?_
  rintro e w4 ⟨⟨vk, rfl, hk⟩, hb4⟩
  obtain ⟨Ak, ck, rfl⟩ := hk.shape
  have HK4 : Box (RowsAt w4 w4.heap.size Ak (closeL p l)) := ⟨hk.rows.2⟩
  have HB24 := Lib.hid (HB23.out.trans (hb4.mono HB23.out.size))
  have HD4 : Box (RowsAt w4 w4.heap.size Ad (dualL l)) := ⟨HD3.out.lift hb4⟩
  have HIN := Lib.hid (chInv_ok _ p AL cl l w4 (HS2.out.below HB24.out (Nat.le_refl _)) (HP2.out.lift HB24.out) (HL2.out.lift HB24.out) HG.out.smc HG.out.cd HG.out.c0 (by have := HG.out.c12; omega) HG.out.cc)
  clear hk hb4 HCL HD3 HB23
  go_wp2_with fail
  refine HIN.out.mono ?_
  rintro e w5 ⟨⟨vi, rfl, hi⟩, hb5⟩
  obtain ⟨Ai, ci, rfl⟩ := hi.shape
  have HI5 : Box (LLAt w5 w5.heap.size Ai (invL p l)) := ⟨hi.lla.2⟩
  have HB25 := Lib.hid (HB24.out.trans (hb5.mono HB24.out.size))
  have HD5 : Box (RowsAt w5 w5.heap.size Ad (dualL l)) := ⟨HD4.out.lift hb5⟩
  have HK5 : Box (RowsAt w5 w5.heap.size Ak (closeL p l)) := ⟨HK4.out.lift hb5⟩
  have HCA := Lib.hid (chCanon_ok _ p AL cl l w5 (HS2.out.below HB25.out (Nat.le_refl _)) (HP2.out.lift HB25.out) (HL2.out.lift HB25.out) HG.out.smc HG.out.cd HG.out.c0 (by have := HG.out.c12; omega) HG.out.cc (fun x hx => by have := HG.out.il x hx; omega))
  clear hi hb5 HIN HD4 HB24 HK4
  go_wp2_with fail
  refine HCA.out.mono ?_
  rintro e w6 ⟨⟨Bm, dm, rfl, hmm⟩, hb6⟩
  have HM6 : Box (RowsAt w6 w6.heap.size Bm (canonL p l)) := ⟨hmm⟩
  have HB26 := Lib.hid (HB25.out.trans (hb6.mono HB25.out.size))
  have HD6 : Box (RowsAt w6 w6.heap.size Ad (dualL l)) := ⟨HD5.out.lift hb6⟩
  have HK6 : Box (RowsAt w6 w6.heap.size Ak (closeL p l)) := ⟨HK5.out.lift hb6⟩
  have HI6 : Box (LLAt w6 w6.heap.size Ai (invL p l)) := ⟨HI5.out.lift hb6⟩
  have HLW := Lib.hid (lwInv_ok _ p AL cl l w6 (HS2.out.below HB26.out (Nat.le_refl _)) (HP2.out.lift HB26.out) (HL2.out.lift HB26.out) HG.out.smc HG.out.cd HG.out.c0 (by have := HG.out.c12; omega) HG.out.lb HG.out.cl HG.out.cb)
  clear hmm hb6 HCA HD5 HB25 HK5 HI5
  go_wp2_with fail
  refine HLW.out.mono ?_
  rintro e w7 ⟨⟨vo, rfl, ho⟩, hb7⟩
  obtain ⟨Ao, co, rfl⟩ := ho.shape
  have HO7 : Box (LLAt w7 w7.heap.size Ao (invL p l)) := ⟨ho.lla.2⟩
  have HB27 := Lib.hid (HB26.out.trans (hb7.mono HB26.out.size))
  have HD7 : Box (RowsAt w7 w7.heap.size Ad (dualL l)) := ⟨HD6.out.lift hb7⟩
  have HK7 : Box (RowsAt w7 w7.heap.size Ak (closeL p l)) := ⟨HK6.out.lift hb7⟩
  have HI7 : Box (LLAt w7 w7.heap.size Ai (invL p l)) := ⟨HI6.out.lift hb7⟩
  have HM7 : Box (RowsAt w7 w7.heap.size Bm (canonL p l)) := ⟨HM6.out.lift hb7⟩
  clear ho hb7 HLW HD6 HB26 HK6 HI6 HM6
  have hl6 := HN6.out
  have hw1 : IntKind.i64.wrap ((l.length : Int) - 1) = ((l.length - 1 : Nat) : Int) := by rw [show (l.length : Int) - 1 = ((l.length - 1 : Nat) : Int) by omega]; exact IntWalk.i64_in _ (by omega)
  obtain ⟨b, o, sv, rfl, hab, hcs2, hrs2⟩ := rows_pl HL2.out (List.getElem?_eq_getElem (show l.length - 1 < l.length by omega))
  obtain ⟨i0, hi0, hz0, hz1, hz2⟩ := info_parts Tryz.info_row
  have HDL : Hid (dualTo l l[l.length - 1] l.length = dualL l) := Lib.hid (by unfold dualL; rw [List.getElem?_eq_getElem (by omega)]; rfl)
  have HNE : Box (∀ (s : List Int) k, k < l.length → ∀ x, l[l.length - 1 - k]? = some x → dualTo l s (k + 1) = dualTo l s k ++ [difI s x]) := ⟨fun s k hk x hx => by
    rw [dualTo_next hk]
    obtain ⟨_, h2⟩ := List.getElem?_eq_some_iff.1 hx
    rw [h2]⟩
  have HSL := Lib.hid ((right_of (HG.out.smc.ok.chk _ (List.getElem_mem (show l.length - 1 < l.length by omega)))).len)
  have HPL := Lib.hid ((right_of (HG.out.smc.ok.chk _ (List.getElem_mem hpos))).six)
  have HSB : Box (∀ t : Nat, ((l[l.length - 1]'(by omega))[t]?.getD 0).natAbs ≤ 1000000) := ⟨HG.out.lb _ (List.getElem_mem _)⟩
  have HXB := Lib.hid HG.out.lb
  have HXC := Lib.hid HG.out.smc.ok.chk
  have HCS2 := Lib.hid hcs2
  have HRS2 := Lib.hid hrs2
  obtain ⟨AS, cs2, rfl⟩ := hrs2.shape
  have hm1 : ((l.length - 1 : Nat) : Int) < (l.length : Int) := by omega
  have hm2 : (0 : Int) ≤ ((l.length - 1 : Nat) : Int) := by omega
  have hwm : IntKind.i64.wrap ((l.length - 1 : Nat) : Int) = ((l.length - 1 : Nat) : Int) := IntWalk.i64_in _ (by omega)
  have hmi : ((l.length - 1 : Nat) : Int) = (l.length : Int) - 1 := by omega
  have HMI := Lib.hid hmi
  clear hcs2 hrs2 hmi
  generalize l[l.length - 1] = sx at *
  go_wp2_with fail
  go_loopw [15, 16] (fun q i wr => ∃ (k : Nat), k ≤ l.length ∧ i = .int .i64 ((l.length : Int) - 1 - (k : Int)) ∧ LRow wr w7.heap.size q (dualTo l sx k) ∧ Below w7.heap.size w7 wr) (fun _ i _ => (intOf i + 1).toNat)
  case atStart => exact ⟨0, Nat.zero_le _, by rw [HMI.out]; simp, LRow.nil _ _, Below.refl _ _⟩
  case round =>
    obtain ⟨k, hk, rfl, hlr, hbw⟩ := hrel
    by_cases hlt : k < l.length
    · obtain ⟨j, hj⟩ : ∃ j, j + k + 1 = l.length := ⟨l.length - 1 - k, by omega⟩
      have hji : (l.length : Int) - 1 - (k : Int) = (j : Int) := by omega
      have HJI := Lib.hid hji
      rw [hji]
      have hjl : j < l.length := by omega
      have HBW := Lib.hid (HB27.out.trans (hbw.mono HB27.out.size))
      obtain ⟨b', o', xv, e', hab2, hcx, hrx⟩ := rows_pl HL2.out (List.getElem?_eq_getElem hjl)
      cases e'
      have hcx' := (HBW.out.cell (p := ⟨b, o + j, Option.none⟩) hab).trans hcx
      have hcs' := (HBW.out.cell (p := ⟨b, o + (l.length - 1), Option.none⟩) hab).trans HCS2.out
      have HNX : Hid (dualTo l sx (k + 1) = dualTo l sx k ++ [difI sx l[j]]) := Lib.hid (HNE.out sx k hlt _ (by rw [show l.length - 1 - k = j by omega, List.getElem?_eq_getElem hjl]))
      have HXL := Lib.hid ((right_of (HXC.out _ (List.getElem_mem hjl))).len)
      have HXBJ : Box (∀ t : Nat, ((l[j]'hjl)[t]?.getD 0).natAbs ≤ 1000000) := ⟨HXB.out _ (List.getElem_mem hjl)⟩
      have HLE : Hid ((dualTo l sx k).length = k) := Lib.hid (dualTo_len hk)
      generalize l[j]'hjl = x at *
      have HSU := Lib.hid (fun (W : World) (h : Below wr.heap.size wr W) => sub_any39 _ xv sx x W ((HRS2.out.lift HBW.out).lift h) ((hrx.lift HBW.out).lift h) (by rw [HXL.out, HSL.out]) (by rw [HSL.out]; have := HPL.out; omega) (fun t => ⟨HSB.out t, HXBJ.out t⟩))
      obtain ⟨AX, cx, rfl⟩ := hrx.shape
      obtain ⟨vs, hown, hvs⟩ := hlr
      rw [HLE.out] at hown
      have HO := Lib.hid hown
      have HVS := Lib.hid hvs
      have hwk : w7.heap.size ≤ wr.heap.size := hbw.size
      have HB := Lib.hid hbw
      have hi1 : (j : Int) < (l.length : Int) := by omega
      have hi2 : (0 : Int) ≤ (j : Int) := by omega
      have hab7 : b < w7.heap.size := Nat.lt_of_lt_of_le hab HB27.out.size
      have hw3 : IntKind.i64.wrap ((j : Int) - 1) = (j : Int) - 1 := IntWalk.i64_in _ (by omega)
      clear hown hvs hbw hcx hrx hji
      have hB : Below wr.heap.size wr wr.drew := below_drew (Below.refl _ _)
      go_wp2_with fail
      go_region_held3 (fun w' => w'.cell? ⟨b, o + (l.length - 1), Option.none⟩ = some (.slice AS sx.length cs2) ∧ w'.cell? ⟨b, o + j, Option.none⟩ = some (.slice AX x.length cx))
        (first | exact ⟨keep_cell hcs' hB, keep_cell hcx' hB⟩ | exact ⟨(hgrow.cell_far _ (by simp; omega) (fun e => by have := (HO7.out.lt _ e.symm).1; simp at this; omega)).trans (keep_cell hcs' (hB.alloc hB.size _)), (hgrow.cell_far _ (by simp; omega) (fun e => by have := (HO7.out.lt _ e.symm).1; simp at this; omega)).trans (keep_cell hcx' (hB.alloc hB.size _))⟩ | go_keep)
        ((first
          | (go_at_call 14; (with_reducible refine (HSU.out _ hB).mono ?_); rintro e w8 ⟨⟨rv, rfl, hrv⟩, hbk⟩; replace hB := hB.trans (hbk.mono hB.size); clear hbk; obtain ⟨AV, cv, e9⟩ := hrv.shape; subst e9; have HO7 := Lib.hid (own_below HO.out hB); have HV7 := Lib.hid hrv; clear hrv; have hwk7 : w7.heap.size ≤ w8.heap.size := Nat.le_trans hwk hB.size)
          | (refine step_append_lies _ (by rfl) _ _ _ (by rfl) w7.heap.size 41 i0 _ 1 24 Tryz.underlying30 hi0 hz0 hz1 hz2 rfl (by omega) u15 k vs (by rfl) (HO7.out.alloc _) ⟨w8.heap.size, 0, Option.none⟩ 1 1 [.slice AV (difI sx x).length cv] (by rfl) (by rfl) (World.news_of_block (cs := #[.slice AV (difI sx x).length cv]) (t := 41) (fr := (0, 0)) (heap_alloc_new w8 _)) (by simp [Value.oneCell']) (by omega) (by unfold maxLen; omega) (by omega) (by simp; omega) (w8.heap.size + 1) (by simp) ?_; intro gg cap w3 hown3 hgrow hat hlt3)))
      have HBN := Lib.hid ((((HB.out.trans (hB.mono HB.out.size)).alloc hwk7 (.cells #[.slice AV (difI sx x).length cv] 41)).grown hgrow (by simp; omega) (fun k hk => (HO7.out.lt k hk).1)))
      have hO7 := HO7.out
      rw [← HLE.out] at hO7 hown3
      have HLN9 := Lib.hid (LRow.snoc (hO7.alloc _) (fun t y ht => by obtain ⟨u, h1, h2⟩ := HVS.out t y ht; exact ⟨u, h1, (h2.below hB).alloc _⟩) (HV7.out.alloc _) hown3 hgrow)
      rw [← HNX.out] at HLN9
      rw [HLE.out] at HLN9
      clear hown3 hO7
      go_wp2_with fail
      go_roundw
      case rel => exact ⟨k + 1, by omega, by rw [show (l.length : Int) - 1 - ((k + 1 : Nat) : Int) = (j : Int) - 1 by have := HJI.out; omega], HLN9.out, HBN.out⟩
      case measure => simp [intOf]
    · obtain rfl : k = l.length := by omega
      rw [HDL.out] at hlr
      obtain ⟨Ab, cb, rfl⟩ := hlr.shape
      have HBK : Box (RowsAt wr wr.heap.size Ab (dualL l)) := ⟨hlr.rows.2⟩
      have hend : (l.length : Int) - 1 - (l.length : Int) = -1 := by omega
      rw [hend]
      have HN1 := Lib.hid (same_any39 Ad Ab cd cb (dualL l) (dualL l) wr (HD7.out.lift hbw) HBK.out (by unfold dualL; rw [dualTo_len (Nat.le_refl _)]; omega))
      rw [show rowsEq (dualL l) (dualL l) = true from decide_eq_true rfl] at HN1
      have HBW := Lib.hid hbw
      clear hlr hend
      go_wp2_with fail
      refine HN1.out.mono ?_
      rintro e w8 ⟨rfl, hb8⟩
      have HB8 := Lib.hid (HBW.out.trans (hb8.mono HBW.out.size))
      have HIL : Hid ((invL p l).length = (closeL p l).length) := Lib.hid (by unfold invL; rw [List.length_map])
      have hinl : 0 < (invL p l).length := by rw [HIL.out]; exact HG.out.c0
      have hin12 : (invL p l).length ≤ 12 := by rw [HIL.out]; exact HG.out.c12
      have HIX : Box (∀ x ∈ invL p l, x.length ≤ 1000000) := ⟨fun x hx => by have := HG.out.il x hx; omega⟩
      obtain ⟨bo, oo, A0, c0, rfl, hbo, hco, hro⟩ := (HO7.out.lift HB8.out).pl hinl
      rw [Nat.add_zero] at hco
      have hf : (invL p l)[0] = closeL p l := by
        have := HI0.out
        rw [List.getElem?_eq_getElem hinl] at this
        exact Option.some.inj this
      rw [hf] at hco hro
      have HK8 : Box (RowsAt w8 w8.heap.size Ak (closeL p l)) := ⟨HK7.out.lift HB8.out⟩
      have HN2 := Lib.hid (same_any39 Ak A0 ck c0 (closeL p l) (closeL p l) w8 HK8.out hro (by have := HG.out.c12; omega))
      rw [show rowsEq (closeL p l) (closeL p l) = true from decide_eq_true rfl] at HN2
      clear hb8 hf hro
      go_wp2_with fail
      refine HN2.out.mono ?_
      rintro e w9 ⟨rfl, hb9⟩
      have HB9 := Lib.hid (HB8.out.trans (hb9.mono HB8.out.size))
      have HN3 := Lib.hid (eqFunc_ll Ai (some ⟨bo, oo, Option.none⟩) ci co (invL p l) (invL p l) w9 (HI7.out.lift HB9.out) (HO7.out.lift HB9.out) (by omega) HIX.out)
      rw [show llEq (invL p l) (invL p l) = true from decide_eq_true rfl] at HN3
      clear hb9 hco
      go_wp2_with fail
      refine HN3.out.mono ?_
      rintro e w10 ⟨rfl, hb10⟩
      have HB10 := Lib.hid (HB9.out.trans (hb10.mono HB9.out.size))
      have HN4 := Lib.hid (least_ok (some ⟨bo, oo, Option.none⟩) co (invL p l) w10 (HO7.out.lift HB10.out) hinl (by omega) HIX.out)
      clear hb10
      go_wp2_with fail
      refine HN4.out.mono ?_
      rintro e w11 ⟨⟨B4, d4, rfl, hr4⟩, hb11⟩
      have hcn : minL (invL p l) = canonL p l := rfl
      rw [hcn] at hr4 ⊢
      have HB11 := Lib.hid (HB10.out.trans (hb11.mono HB10.out.size))
      have hcm : (canonL p l).length ≤ 1000000 := by
        have hmem : minTo (invL p l) ((invL p l).length - 1) ∈ invL p l := minTo_mem _ _ (by omega)
        exact HIX.out _ hmem
      have HN5 := Lib.hid (same_any39 Bm B4 dm d4 (canonL p l) (canonL p l) w11 (HM7.out.lift HB11.out) hr4 hcm)
      rw [show rowsEq (canonL p l) (canonL p l) = true from decide_eq_true rfl] at HN5
      clear hb11 hr4 hcn hcm
      go_wp2_with fail
      refine HN5.out.mono ?_
      rintro e w12 ⟨rfl, hb12⟩
      go_wp2_with fail
      go_ret
      exact ⟨rfl, HB2.out.trans ((HB27.out.trans ((HB11.out.trans (hb12.mono HB11.out.size)).mono HB27.out.size)).mono HB2.out.size)⟩

end Go.Proofs.YtaiglcbgllnciaaGreatDoor
