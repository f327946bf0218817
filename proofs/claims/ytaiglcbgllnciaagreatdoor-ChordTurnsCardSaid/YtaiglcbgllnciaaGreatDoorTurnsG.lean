/- ChordTurns: the walk. -/
import Derived.Test.YtaiglcbgllnciaaGreatDoorGCG
import Derived.Test.YtaiglcbgllnciaaGreatDoorGCM
import Derived.Deep.RegionHeld3
import Derived.Deep.AppendLies
import Derived.Test.YtaiglcbgllnciaaGreatDoorGCF
import Derived.Test.YtaiglcbgllnciaaGreatDoorRevIG
import Derived.Test.YtaiglcbgllnciaaGreatDoorArgWG
import Derived.Laws.Rows
namespace Go.Proofs.YtaiglcbgllnciaaGreatDoor
open Go.RowKit Go.Lib

theorem canon_mov {n : Nat} {p b : List Int} {l : List (List Int)} (hl : ∀ x ∈ l, x.length = n) (h0 : 0 < l.length) : canonL p (l.map (movR b)) = canonL p l := by
  unfold canonL
  rw [mov_inv hl h0]

/-- Where by lies. -/
def ByAt (w : World) (g : Nat) (b : List Int) : Prop := ∀ k, k < 3 → w.cell? ⟨g, k, Option.none⟩ = some (.int .i8 (b[k]?.getD 0))
theorem ByAt.below {w w' : World} {g : Nat} {b : List Int} (h : ByAt w g b) (hg : g < w.heap.size) (hb : Below w.heap.size w w') : ByAt w' g b := fun k hk => (hb.cell (p := ⟨g, k, Option.none⟩) hg).trans (h k hk)

set_option maxRecDepth 100000 in
set_option maxHeartbeats 8000000 in
theorem turns_walk (v : Value) (n m : Nat) (r : List Int) (v1 : Value) (by1 : List Int) (w : World) (hS : Std w) (hm : ∃ m, w.cell? ⟨0, 0, Option.none⟩ = some (.int .i64 m)) (ha : WorldArg v n m r) (hb : ThreeArg v1 by1) :
    Calls Tryz.prog 4 #[v, v1] w fun e w' => e = .returned (.bool true) ∧ Below w.heap.size w w' := by
  obtain ⟨mx, hm⟩ := hm
  obtain ⟨cs, rfl, hcs, hn, hm2, hr1, hr2⟩ := ha
  obtain ⟨bs, rfl, hbs, hb1, hb2⟩ := hb
  have hsz : cs.size = 20 := by rw [← Array.length_toList, hcs]; simp [hr1]
  have HSZ := Lib.hid hsz
  have HS := Lib.hid hS
  have HK := Lib.hid (fun (W : World) (hb : Below w.heap.size w W) => known_any39 W mx (hS.below hb (Nat.le_refl _)) (keep_cell hm hb))
  have HMK := Lib.hid (fun (W : World) (hW : Std W) => make39_any n m r _ W hcs hr1 hn hm2 hr2 hW)
  obtain ⟨W2, hW2⟩ : ∃ W2, W2 = (w.alloc (.cells cs 26)).alloc (.cells bs 23) := ⟨_, rfl⟩
  have HC := Lib.hid (show Cells W2 w.heap.size 26 cs.toList by rw [hW2]; exact (Cells.new w 26 cs).alloc _)
  have HBY := Lib.hid (show ByAt W2 (w.heap.size + 1) by1 by
    have h := Cells.new (w.alloc (.cells cs 26)) 23 bs
    rw [World.size_alloc] at h
    intro k hk
    rw [hW2, h.cell, hbs, List.getElem?_map, List.getElem?_eq_getElem (by omega)]
    rfl)
  have HB0 := Lib.hid (show Below w.heap.size w W2 by rw [hW2]; exact ((Below.refl w.heap.size w).alloc (Nat.le_refl _) _).alloc (by simp) _)
  have HSZ2 := Lib.hid (show W2.heap.size = w.heap.size + 2 by rw [hW2]; simp)
  have HB2 : Box (∀ j : Nat, -128 ≤ by1[j]?.getD 0 ∧ by1[j]?.getD 0 ≤ 127) := ⟨hb2⟩
  clear hS hm hcs hn hm2 hr1 hr2 hsz hbs hb1 hb2
  go_enter Tryz.func4, Tryz.ntmps4
  go_wp2_with fail
  rw [← hW2]
  clear hW2
  refine (HK.out _ HB0.out).mono ?_
  rintro e w1 ⟨rfl, hb1⟩
  have HB1 := Lib.hid (HB0.out.trans (hb1.mono HB0.out.size))
  have HC1 := Lib.hid (HC.out.below hb1 HC.out.lt)
  have HG1 : Hid (w1.heap[w.heap.size]? = some (.cells cs 26 (0, 0))) := Lib.hid (by have h := HC1.out; unfold Cells at h; rw [Array.toArray_toList] at h; exact h)
  have HBY1 := Lib.hid (HBY.out.below (by rw [HSZ2.out]; omega) hb1)
  have HLT1 := Lib.hid (show w.heap.size + 1 < w1.heap.size by have := hb1.size; have := HSZ2.out; omega)
  clear hb1 HBY HC
  go_wp2_with (refine wpList_load_row rfl 26 _ rfl w.heap.size rfl 26 cs (0, 0) _ HG1.out Tryz.underlying26 rfl (by rw [HSZ.out]; kernel_rfl) ?_)
  refine (HMK.out w1 (HS.out.below HB1.out (Nat.le_refl _))).mono ?_
  rintro e w2 ⟨⟨pv, cv, rfl, hp, hl⟩, hb2⟩
  have hg := wChord_good n m r
  have hbase := wRows_base n m r
  have h0 := hg.smc.ok.pos
  have HG : Box (GoodC (chPrimes n) (wChord n m r)) := ⟨hg⟩
  have HD : Box (∀ x ∈ wChord n m r, chkAll (chPrimes n) [difI ((wChord n m r)[(wChord n m r).length - 1]?.getD []) x] = 0) := ⟨wChord_dual n m r⟩
  have hdk := dual_ok hbase hg
  have HDK : Box (ChOk (chPrimes n) (dualL (wChord n m r))) := ⟨hdk.1⟩
  have HDD : Box (∀ x ∈ dualL (wChord n m r), chkAll (chPrimes n) [difI ((dualL (wChord n m r))[(dualL (wChord n m r)).length - 1]?.getD []) x] = 0) := ⟨hdk.2.1⟩
  have HDN : Box (NumOk (chPrimes n) false (dualL (wChord n m r))) := ⟨hdk.2.2⟩
  have HUN : Box (NumOk (chPrimes n) true (wChord n m r)) := ⟨num_base hbase⟩
  have HDR : Hid (dualL (dualL (wChord n m r)) = rootL (wChord n m r) ((wChord n m r)[0]?.getD [])) := Lib.hid (dual_dual hbase.len h0)
  have HNR : Hid (numbersL (chPrimes n) false (dualL (wChord n m r)) = (numbersL (chPrimes n) true (wChord n m r)).reverse) := Lib.hid (dual_numbers hbase.len)
  have hmg := mov_good (b := by1) hbase hg
  have HMG : Box (GoodC (chPrimes n) ((wChord n m r).map (movR by1))) := ⟨hmg⟩
  have HMR : Hid (rootL ((wChord n m r).map (movR by1)) (((wChord n m r).map (movR by1))[0]?.getD []) = rootL (wChord n m r) ((wChord n m r)[0]?.getD [])) := Lib.hid (by
    rw [mov_first h0]
    exact mov_root hbase.len (by rw [List.getElem?_eq_getElem h0]; exact hbase.len _ (List.getElem_mem h0)))
  have HMC : Hid (canonL (chPrimes n) ((wChord n m r).map (movR by1)) = canonL (chPrimes n) (wChord n m r)) := Lib.hid (canon_mov hbase.len h0)
  have HNO : Hid (¬ ∃ x ∈ wChord n m r, chkAll (chPrimes n) [difI x ((wChord n m r)[0]?.getD [])] ≠ 0) := Lib.hid fun ⟨x, hx, h⟩ => h (smR_chk hg.smc.ok.pe (hg.smc.sm x hx _ (by rw [List.getElem?_eq_getElem h0]; exact List.getElem_mem h0)))
  have HNO2 : Hid (¬ ∃ x ∈ (wChord n m r).map (movR by1), chkAll (chPrimes n) [difI x (((wChord n m r).map (movR by1))[0]?.getD [])] ≠ 0) := Lib.hid fun ⟨x, hx, h⟩ => h (smR_chk hmg.smc.ok.pe (hmg.smc.sm x hx _ (by rw [List.getElem?_eq_getElem (by rw [List.length_map]; exact h0)]; exact List.getElem_mem _)))
  have HXL : Box (∀ x ∈ wChord n m r, x.length ≤ 3 ∧ ∀ t : Nat, (x[t]?.getD 0).natAbs ≤ 6) := ⟨fun x hx => ⟨by rw [hbase.len x hx]; exact (chPrimes_len n).2, hbase.sm x hx⟩⟩
  have HN6 : Box ((wChord n m r).length ≤ 6) := ⟨(wChord_slt n m r).2.2⟩
  have HNL : Hid ((numbersL (chPrimes n) true (wChord n m r)).length = (wChord n m r).length) := Lib.hid (by unfold numbersL; exact List.length_map _)
  have HRL : Hid ((rootL (wChord n m r) ((wChord n m r)[0]?.getD [])).length ≤ 1000000) := Lib.hid (by rw [rootL_len]; have := hg.smc.ok.le; omega)
  have HDL : Hid ((dualL (wChord n m r)).length = (wChord n m r).length) := Lib.hid (dual_len _)
  have HCL := Lib.hid (canon_len hg)
  clear hdk hmg hg hbase h0
  generalize chPrimes n = p at *
  generalize wChord n m r = l at *
  have HP2 := Lib.hid hp
  obtain ⟨AL, cl, rfl⟩ := hl.shape
  obtain ⟨AP, cp, rfl⟩ := hp.shape
  have HL2 : Box (RowsAt w2 w2.heap.size AL l) := ⟨hl.rows.2⟩
  have HBY2 := Lib.hid (HBY1.out.below HLT1.out hb2)
  have HLT2 := Lib.hid (Nat.lt_of_lt_of_le HLT1.out hb2.size)
  have HB2w := Lib.hid (HB1.out.trans (hb2.mono HB1.out.size))
  have HS2 := Lib.hid (HS.out.below HB2w.out (Nat.le_refl _))
  have HRO := Lib.hid (chRoot_ok _ p AL cl l w2 HS2.out HP2.out HL2.out HG.out.smc.ok)
  clear hb2 hl hp HMK HK HB0 HC1 HG1 HBY1 HLT1 HSZ HSZ2 HS
  go_wp2_with fail
  refine HRO.out.mono ?_
  rintro e w3 ⟨hpo, hb3⟩
  rcases hpo with ⟨_, vr, rfl, hr⟩ | ⟨hx, _⟩
  case inr => exact absurd hx HNO.out
  obtain ⟨Ar, cr, rfl⟩ := hr.shape
  have HR3 : Box (RowsAt w3 w3.heap.size Ar (rootL l (l[0]?.getD []))) := ⟨hr.rows.2⟩
  have HB23 := Lib.hid hb3
  have HDU := Lib.hid (chDual_ok _ p AL cl l w3 (HS2.out.below hb3 (Nat.le_refl _)) (HP2.out.lift hb3) (HL2.out.lift hb3) HG.out.smc.ok HD.out)
  clear hr hb3 HRO HD HNO
  go_wp2_with fail
  refine HDU.out.mono ?_
  rintro e w4 ⟨⟨vd, rfl, hd⟩, hb4⟩
  obtain ⟨Ad, cd, rfl⟩ := hd.shape
  have HD4 : Box (RowsAt w4 w4.heap.size Ad (dualL l)) := ⟨hd.rows.2⟩
  have HB24 := Lib.hid (HB23.out.trans (hb4.mono HB23.out.size))
  have HR4 : Box (RowsAt w4 w4.heap.size Ar (rootL l (l[0]?.getD []))) := ⟨HR3.out.lift hb4⟩
  have HD2 := Lib.hid (chDual_ok _ p Ad cd (dualL l) w4 (HS2.out.below HB24.out (Nat.le_refl _)) (HP2.out.lift HB24.out) HD4.out HDK.out HDD.out)
  rw [HDR.out] at HD2
  clear hd hb4 HDU HR3 HB23 HDD HDR
  go_wp2_with fail
  refine HD2.out.mono ?_
  rintro e w5 ⟨⟨vb, rfl, hbk⟩, hb5⟩
  obtain ⟨Ab, cb, rfl⟩ := hbk.shape
  have HK5 : Box (RowsAt w5 w5.heap.size Ab (rootL l (l[0]?.getD []))) := ⟨hbk.rows.2⟩
  have HB25 := Lib.hid (HB24.out.trans (hb5.mono HB24.out.size))
  have HR5 : Box (RowsAt w5 w5.heap.size Ar (rootL l (l[0]?.getD []))) := ⟨HR4.out.lift hb5⟩
  have HOT := Lib.hid (chOtonal_ok _ p Ad cd (dualL l) w5 (HS2.out.below HB25.out (Nat.le_refl _)) (HP2.out.lift HB25.out) (HD4.out.lift hb5) HDK.out HDN.out)
  rw [HNR.out] at HOT
  clear hbk hb5 HD2 HR4 HB24 HD4 HDK HDN HNR
  generalize dualL l = D at *
  generalize rootL l (l[0]?.getD []) = R at *
  go_wp2_with fail
  refine HOT.out.mono ?_
  rintro e w6 ⟨⟨va, rfl, hta⟩, hb6⟩
  obtain ⟨Aa, ca, rfl⟩ := hta.shape
  have HT6 := Lib.hid hta
  have HB26 := Lib.hid (HB25.out.trans (hb6.mono HB25.out.size))
  have HR6 : Box (RowsAt w6 w6.heap.size Ar R) := ⟨HR5.out.lift hb6⟩
  have HK6 : Box (RowsAt w6 w6.heap.size Ab R) := ⟨HK5.out.lift hb6⟩
  have HUT := Lib.hid (chUtonal_ok _ p AL cl l w6 (HS2.out.below HB26.out (Nat.le_refl _)) (HP2.out.lift HB26.out) (HL2.out.lift HB26.out) HG.out.smc.ok HUN.out)
  clear hta hb6 HOT HR5 HB25 HK5 HUN
  generalize numbersL p true l = ns at *
  go_wp2_with fail
  refine HUT.out.mono ?_
  rintro e w7 ⟨⟨vu, rfl, htu⟩, hb7⟩
  obtain ⟨Au, cu, rfl⟩ := htu.shape
  have HU7 := Lib.hid htu
  have HB67 := Lib.hid hb7
  have HR7 : Box (RowsAt w7 w7.heap.size Ar R) := ⟨HR6.out.lift hb7⟩
  have HK7 : Box (RowsAt w7 w7.heap.size Ab R) := ⟨HK6.out.lift hb7⟩
  have HN1 := Lib.hid (same_any39 Ab Ar cb cr R R w7 HK7.out HR7.out HRL.out)
  rw [show rowsEq R R = true from decide_eq_true rfl] at HN1
  clear htu hb7 HUT HK6 HK7 HR7
  go_wp2_with fail
  refine HN1.out.mono ?_
  rintro e w8 ⟨rfl, hb8⟩
  have HB68 := Lib.hid (HB67.out.trans (hb8.mono HB67.out.size))
  have HU8 := Lib.hid (HU7.out.below hb8)
  have hn0 : 0 < ns.length := by rw [HNL.out]; exact HG.out.smc.ok.pos
  have HRV := Lib.hid (revI_any w6.heap.size Au cu ns.length (ns.map decDigits) w8 (List.length_map _) HU8.out hn0)
  clear hb8 HN1 HU7
  go_wp2_with fail
  refine HRV.out.mono ?_
  rintro e w9 ⟨rfl, hrv, hb9⟩
  have HB69 := Lib.hid (HB68.out.trans hb9)
  rw [← List.map_reverse] at hrv
  obtain ⟨_, _, e9, _, _, ht6⟩ := Row.of_own (HT6.out.below HB69.out)
  cases e9
  have hlr : ns.reverse.length = ns.length := List.length_reverse
  have HEQ := Lib.hid (slEqI_any Aa Au ca cu (ns.reverse.map decDigits) (ns.reverse.map decDigits) w9 (by rw [List.length_map]; exact ht6) (by rw [List.length_map, hlr]; exact hrv) (by rw [List.length_map, hlr, HNL.out]; have := HN6.out; omega))
  rw [show decide (ns.reverse.map decDigits = ns.reverse.map decDigits) = true from decide_eq_true rfl] at HEQ
  clear hb9 hrv ht6 HRV HU8 HT6 HB67 HB68
  simp only [List.length_map, hlr] at HEQ
  go_wp2_with fail
  refine HEQ.out.mono ?_
  rintro e w10 ⟨rfl, hb10⟩
  have HB6A := Lib.hid (HB69.out.trans (hb10.mono HB69.out.size))
  have HB2A := Lib.hid (HB26.out.trans (HB6A.out.mono HB26.out.size))
  have HRA : Box (RowsAt w10 w10.heap.size Ar R) := ⟨HR6.out.lift HB6A.out⟩
  have HBYA := Lib.hid (HBY2.out.below HLT2.out HB2A.out)
  have HLTA := Lib.hid (Nat.lt_of_lt_of_le HLT2.out HB2A.out.size)
  have HMA := Lib.hid (movL_all by1 l)
  have HIW := Lib.hid (info_parts Tryz.info_row)
  obtain ⟨i0, hi0, hz0, hz1, hz2⟩ := info_parts Tryz.info_int
  clear hb10 HEQ HB69 HB6A HR6 HBY2 HLT2 hlr hn0
  go_wp2_with fail
  go_loopw [17, 97] (fun q i wr => ∃ (k : Nat), k ≤ l.length ∧ i = .int .i64 k ∧ LRow wr w10.heap.size q (movL by1 l k) ∧ Below w10.heap.size w10 wr) (fun _ i _ => l.length - (intOf i).toNat)
  case atStart => exact ⟨0, Nat.zero_le _, rfl, LRow.nil _ _, Below.refl _ _⟩
  case round =>
    obtain ⟨k, hk, rfl, hlr, hbw⟩ := hrel
    by_cases hlt : k < l.length
    · obtain ⟨b, o, xv, rfl, hab, hcx, hrx⟩ := rows_pl HL2.out (List.getElem?_eq_getElem hlt)
      have HB := Lib.hid (HB2A.out.trans (hbw.mono HB2A.out.size))
      have hcx' := (HB.out.cell (p := ⟨b, o + k, Option.none⟩) hab).trans hcx
      have HX3 := Lib.hid (HXL.out _ (List.getElem_mem hlt))
      have HNX := Lib.hid (movL_next (b := by1) hlt)
      have HLE : Hid ((movL by1 l k).length = k) := Lib.hid (movL_len hk)
      generalize l[k]'hlt = x at *
      obtain ⟨AX, cx, rfl, _, _, hxr⟩ := hrx.lift HB.out
      have HXR := Lib.hid hxr
      have hx3 := HX3.out.1
      have HLR := Lib.hid hlr
      have HBW := Lib.hid hbw
      clear hlr hbw hcx hrx hxr
      rename World => W1
      go_wp2_with fail
      go_loopw [20, 103] (fun y q wr => ∃ (t : Nat), t ≤ x.length ∧ q = .int .i64 t ∧ wr.ownsRow W1.heap.size 3 1 y t (is (movTo by1 x t)) ∧ Below W1.heap.size W1 wr) (fun _ q _ => x.length - (intOf q).toNat)
      case atStart => exact ⟨0, Nat.zero_le _, rfl, World.ownsRow_nil _ _ _ _, Below.refl _ _⟩
      case round =>
        obtain ⟨t, ht, rfl, hown, hbv⟩ := hrel
        by_cases hlt2 : t < x.length
        · have HO := Lib.hid hown
          obtain ⟨ad1, rfl, _, hc1⟩ := (HXR.out.below hbv (Nat.le_refl _)).i_at hlt2
          have hc2 := (HBYA.out.below HLTA.out (HBW.out.trans (hbv.mono HBW.out.size))) t (by omega)
          have hgl : w.heap.size + 1 < W1.heap.size := Nat.lt_of_lt_of_le HLTA.out HBW.out.size
          have hbx := HX3.out.2 t
          have hby := HB2.out t
          have E3 := Lib.hid (movTo_next by1 x t)
          generalize x[t]?.getD 0 = a at *
          generalize by1[t]?.getD 0 = z at *
          have ht20 := tmod20 z
          have hlx : (t : Int) < (x.length : Int) := by omega
          have hl3 : (t : Int) < 3 := by omega
          have hj0 : (0 : Int) ≤ (t : Int) := by omega
          have hw1 : IntKind.i64.wrap z = z := IntWalk.i64_in _ (by omega)
          have hw2 : IntKind.i64.wrap (z.tmod 20) = z.tmod 20 := IntWalk.i64_in _ (by omega)
          have hw3 : IntKind.i64.wrap (a + z.tmod 20) = a + z.tmod 20 := IntWalk.i64_in _ (by omega)
          clear hown ht20
          go_wp2
          have hb1 : ad1.block < wr.heap.size := cell_lt_add hc1
          have hb2 : w.heap.size + 1 < wr.heap.size := Nat.lt_of_lt_of_le hgl hbv.size
          go_region_held3 (fun w' => w'.cell? (ad1.add t) = some (.int .i64 a) ∧ w'.cell? ⟨w.heap.size + 1, t, Option.none⟩ = some (.int .i8 z))
            (first | go_keep | (go_split_ands; exact ⟨(hgrow.cell_far _ (by rw [add_block]; simp; omega) (by rw [add_block]; exact fun e => by have := (HO.out.lt _ e.symm).1; omega)).trans (by assumption), (hgrow.cell_far _ (by simp; omega) (fun e => by have := (HO.out.lt _ e.symm).1; simp at this; omega)).trans (by assumption)⟩))
            ((refine step_append_lies _ (by rfl) _ _ _ (by rfl) W1.heap.size 3 i0 _ 1 8 Tryz.underlying41 hi0 hz0 hz1 hz2 rfl (by omega) u20 t _ (by rfl) ((HO.out.alloc _).drew) ⟨wr.heap.size, 0, Option.none⟩ 1 1 [.int .i64 (a + z.tmod 20)] (by rfl) (by rfl) (World.news_of_block (cs := #[.int .i64 (a + z.tmod 20)]) (t := 3) (fr := (0, 0)) (heap_alloc_new wr _)) (by simp [Value.oneCell']) (by omega) (by unfold maxLen; omega) (by omega) (by have := hbv.size; simp; omega) (wr.heap.size + 1) (by simp) ?_; intro gg cap w3 hown3 hgrow hat hlt3))
          clear hw1 hw2 hw3
          go_wp2
          go_roundw
          case rel =>
            refine ⟨t + 1, by omega, by go_num, ?_, ?_⟩
            · rw [E3.out, is_append]; exact hown3
            · exact ((hbv.alloc hbv.size _).drew).grown hgrow (by have := hbv.size; simp; omega) (fun k hk => (HO.out.lt k hk).1)
          case measure => simp [intOf]; omega
        · obtain rfl : t = x.length := by omega
          have hown2 : wr.ownsRow W1.heap.size 3 1 u20 (movR by1 x).length (is (movR by1 x)) := by rw [movR_len]; exact hown
          have HOR := Lib.hid (ORow.of_own hown2)
          have HLR2 := Lib.hid (HLR.out.below hbv)
          have HBV2 := Lib.hid (HBW.out.trans (hbv.mono HBW.out.size))
          have hwk : w10.heap.size ≤ wr.heap.size := HBV2.out.size
          obtain ⟨j0, gj0, gz0, gz1, gz2⟩ := HIW.out
          obtain ⟨AD, cd2, e9⟩ := HOR.out.shape
          rw [movR_len] at e9
          subst e9
          obtain ⟨vs, hownl, hvs⟩ := HLR2.out
          rw [HLE.out] at hownl
          have HO := Lib.hid hownl
          have HVS := Lib.hid hvs
          have hl6 := HN6.out
          clear hown hown2 hbv hownl hvs
          go_wp2_with (at_builtin; refine wpList_append_own _ rfl _ _ _ rfl w10.heap.size 41 j0 (.slice Option.none 0 0) 1 24 Tryz.underlying30 gj0 gz0 gz1 gz2 rfl (by decide) _ _ _ rfl (HO.out.alloc _) ⟨wr.heap.size, 0, Option.none⟩ 1 1 [_] rfl rfl (cell_one_new _ _ _) (by intro u hu; simp at hu; subst hu; rfl) (by unfold maxLen; omega) (by omega) (by simp; omega) ?_; intro v9 w9 hown9 hg9 _)
          go_roundw
          case rel =>
            refine ⟨k + 1, by omega, by go_num, ?_, (HBV2.out.alloc hwk _).grown hg9 (by simp; omega) (fun k hk => (HO.out.lt k hk).1)⟩
            rw [HNX.out]
            have hO := HO.out
            have hor := HOR.out
            rw [← HLE.out] at hO hown9
            exact LRow.snoc (hO.alloc _) (fun j y hj => by obtain ⟨u, h1, h2⟩ := HVS.out j y hj; exact ⟨u, h1, h2.alloc _⟩) (hor.alloc _) hown9 hg9
          case measure => simp [intOf]; omega
    · obtain rfl : k = l.length := by omega
      rw [HMA.out] at hlr
      have HB := Lib.hid (HB2A.out.trans (hbw.mono HB2A.out.size))
      obtain ⟨Am, cm, hsh⟩ := hlr.shape
      rw [List.length_map] at hsh
      subst hsh
      have HM10 : Box (RowsAt wr wr.heap.size Am (l.map (movR by1))) := ⟨hlr.rows.2⟩
      have HRW : Box (RowsAt wr wr.heap.size Ar R) := ⟨HRA.out.lift hbw⟩
      have HSW := Lib.hid (HS2.out.below HB.out (Nat.le_refl _))
      have HPW := Lib.hid (HP2.out.lift HB.out)
      have HLW : Box (RowsAt wr wr.heap.size AL l) := ⟨HL2.out.lift HB.out⟩
      have hr1 := chRoot_ok _ p Am cm (l.map (movR by1)) wr HSW.out HPW.out HM10.out HMG.out.smc.ok
      rw [List.length_map] at hr1
      have HR1 := Lib.hid hr1
      have HBW0 := Lib.hid hbw
      clear hlr hbw hr1
      go_wp2_with fail
      refine HR1.out.mono ?_
      rintro e w11 ⟨hpo, hb11⟩
      rcases hpo with ⟨_, vr2, rfl, hr⟩ | ⟨hx, _⟩
      case inr => exact absurd hx HNO2.out
      rw [HMR.out] at hr
      obtain ⟨Aq, cq, rfl⟩ := hr.shape
      have HQ11 : Box (RowsAt w11 w11.heap.size Aq R) := ⟨hr.rows.2⟩
      have HB11 := Lib.hid hb11
      have hc1 := canon_goodA _ p Am cm (l.map (movR by1)) w11 (HSW.out.below hb11 (Nat.le_refl _)) (HPW.out.lift hb11) (HM10.out.lift hb11) HMG.out
      rw [List.length_map] at hc1
      have HC1 := Lib.hid hc1
      rw [HMC.out] at HC1
      clear hr hb11 HR1 HNO2 HMR hc1
      obtain ⟨K, HKE⟩ : ∃ K, Hid (canonL p l = K) := ⟨_, Lib.hid rfl⟩
      rw [HKE.out] at HC1 HCL
      go_wp2_with fail
      refine HC1.out.mono ?_
      rintro e w12 ⟨⟨Bm, dm, rfl, hm1⟩, hb12⟩
      have HM12 : Box (RowsAt w12 w12.heap.size Bm K) := ⟨hm1⟩
      have HB12 := Lib.hid (HB11.out.trans (hb12.mono HB11.out.size))
      have HQ12 : Box (RowsAt w12 w12.heap.size Aq R) := ⟨HQ11.out.lift hb12⟩
      have hc2 := canon_goodA _ p AL cl l w12 (HSW.out.below HB12.out (Nat.le_refl _)) (HPW.out.lift HB12.out) (HLW.out.lift HB12.out) HG.out
      rw [HKE.out] at hc2
      have HC2 := Lib.hid hc2
      clear hm1 hb12 HC1 hc2 HQ11 HB11
      go_wp2_with fail
      refine HC2.out.mono ?_
      rintro e w13 ⟨⟨Bn, dn, rfl, hn1⟩, hb13⟩
      have HN13 : Box (RowsAt w13 w13.heap.size Bn K) := ⟨hn1⟩
      have HB13 := Lib.hid (HB12.out.trans (hb13.mono HB12.out.size))
      have HM13 : Box (RowsAt w13 w13.heap.size Bm K) := ⟨HM12.out.lift hb13⟩
      have HS1 := Lib.hid (same_any39 Aq Ar cq cr R R w13 (HQ12.out.lift hb13) (HRW.out.lift HB13.out) HRL.out)
      rw [show rowsEq R R = true from decide_eq_true rfl] at HS1
      clear hn1 hb13 HC2 HQ12 HB12 HM12
      go_wp2_with fail
      refine HS1.out.mono ?_
      rintro e w14 ⟨rfl, hb14⟩
      have HB14 := Lib.hid (HB13.out.trans (hb14.mono HB13.out.size))
      have HS3 := Lib.hid (same_any39 Bm Bn dm dn K K w14 (HM13.out.lift hb14) (HN13.out.lift hb14) (by have := HCL.out; omega))
      rw [show rowsEq K K = true from decide_eq_true rfl] at HS3
      clear hb14 HS1 HM13 HN13 HB13
      go_wp2_with fail
      refine HS3.out.mono ?_
      rintro e w15 ⟨rfl, hb15⟩
      go_wp2_with fail
      go_ret
      exact ⟨rfl, HB2w.out.trans ((HB.out.trans ((HB14.out.trans (hb15.mono HB14.out.size)).mono HB.out.size)).mono HB2w.out.size)⟩

end Go.Proofs.YtaiglcbgllnciaaGreatDoor
