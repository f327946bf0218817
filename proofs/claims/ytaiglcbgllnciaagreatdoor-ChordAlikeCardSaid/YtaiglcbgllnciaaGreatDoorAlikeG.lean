/- ChordAlike: the walk. -/
import Derived.Test.YtaiglcbgllnciaaGreatDoorGCG
import Derived.Test.YtaiglcbgllnciaaGreatDoorGCM
import Derived.Test.YtaiglcbgllnciaaGreatDoorGCK
import Derived.Test.YtaiglcbgllnciaaGreatDoorGTA
import Derived.Test.YtaiglcbgllnciaaGreatDoorArgWG
import Derived.Test.YtaiglcbgllnciaaGreatDoorArgBG
import Derived.Laws.Rows
namespace Go.Proofs.YtaiglcbgllnciaaGreatDoor
open Go.RowKit Go.Lib

set_option maxRecDepth 100000 in
set_option maxHeartbeats 8000000 in
theorem alike_walk (v : Value) (n m : Nat) (r : List Int) (v1 : Value) (n1 m1 : Nat) (r1 : List Int) (v2 : Value) (i2 e2 : Nat) (w : World) (hS : Std w) (hm : ∃ m, w.cell? ⟨0, 0, Option.none⟩ = some (.int .i64 m)) (ha : WorldArg v n m r) (hb : WorldArg v1 n1 m1 r1) (hc : TwoArg v2 i2 e2) :
    Calls Tryz.prog 5 #[v, v1, v2] w fun e w' => e = .returned (.bool true) ∧ Below w.heap.size w w' := by
  obtain ⟨mx, hm⟩ := hm
  obtain ⟨cs, rfl, hcs, hn, hm2, hr1, hr2⟩ := ha
  obtain ⟨ct, rfl, hct, hn1, hm12, hr11, hr12⟩ := hb
  obtain ⟨cb, rfl, hcb, hi2, he2⟩ := hc
  have hsz : cs.size = 20 := by rw [← Array.length_toList, hcs]; simp [hr1]
  have HSZ := Lib.hid hsz
  obtain ⟨cu, hcu⟩ : ∃ cu : Array Value, cu = (ct.toList.set 0 (.int .u8 (n : Int))).toArray := ⟨_, rfl⟩
  have hcuw : WCells n m1 r1 cu := by rw [hcu, hct]; rfl
  have HSU : Hid (cu.size = 20) := Lib.hid (by rw [← Array.length_toList, hcuw]; simp [hr11])
  have HS := Lib.hid hS
  have HK := Lib.hid (fun (W : World) (hb : Below w.heap.size w W) => known_any39 W mx (hS.below hb (Nat.le_refl _)) (keep_cell hm hb))
  have HMK := Lib.hid (fun (W : World) (hW : Std W) => make39_any n m r _ W hcs hr1 hn hm2 hr2 hW)
  have HMU := Lib.hid (fun (W : World) (hW : Std W) => make39_any n m1 r1 _ W hcuw hr11 hn hm12 hr12 hW)
  obtain ⟨W3, hW3⟩ : ∃ W3, W3 = ((w.alloc (.cells cs 26)).alloc (.cells ct 26)).alloc (.cells cb 54) := ⟨_, rfl⟩
  have HC0 := Lib.hid (show Cells W3 w.heap.size 26 cs.toList by rw [hW3]; exact ((Cells.new w 26 cs).alloc _).alloc _)
  have HC1 := Lib.hid (show Cells W3 (w.heap.size + 1) 26 ct.toList by
    have h := Cells.new (w.alloc (.cells cs 26)) 26 ct
    rw [World.size_alloc] at h
    rw [hW3]; exact h.alloc _)
  have HC2 := Lib.hid (show Cells W3 (w.heap.size + 1 + 1) 54 [.int .u8 (i2 : Int), .int .u8 (e2 : Int)] by
    have h := Cells.new ((w.alloc (.cells cs 26)).alloc (.cells ct 26)) 54 cb
    rw [World.size_alloc, World.size_alloc, hcb] at h
    rw [hW3]; exact h)
  have HB0 := Lib.hid (show Below w.heap.size w W3 by rw [hW3]; exact (((Below.refl w.heap.size w).alloc (Nat.le_refl _) _).alloc (by simp) _).alloc (by simp; omega) _)
  have HSZ3 := Lib.hid (show W3.heap.size = w.heap.size + 3 by rw [hW3]; simp)
  have HI2 : Box (i2 ≤ 255 ∧ e2 ≤ 255) := ⟨hi2, he2⟩
  have hcu0 : (ct.toList.set 0 (.int .u8 (n : Int))) = cu.toList := by rw [hcu]
  have HCU := Lib.hid hcu0
  have HCS0 : Hid (cs.toList[0]? = some (.int .u8 (n : Int))) := Lib.hid (by rw [hcs]; rfl)
  have HCT0 : Hid (ct.toList[0]? = some (.int .u8 (n1 : Int))) := Lib.hid (by rw [hct]; rfl)
  clear hS hm hcs hn hm2 hr1 hr2 hsz hcu hcuw hct hn1 hm12 hr11 hr12 hcb hi2 he2 hcu0
  go_enter Tryz.func5, Tryz.ntmps5
  go_wp2_with fail
  rw [← hW3]
  clear hW3
  refine (HK.out _ HB0.out).mono ?_
  rintro e w1 ⟨rfl, hb1⟩
  have HB1 := Lib.hid (HB0.out.trans (hb1.mono HB0.out.size))
  have hlt0 : w.heap.size < W3.heap.size := by rw [HSZ3.out]; omega
  have hlt1 : w.heap.size + 1 < W3.heap.size := by rw [HSZ3.out]; omega
  have hlt2 : w.heap.size + 1 + 1 < W3.heap.size := by rw [HSZ3.out]; omega
  have hc0 := HC0.out.below hb1 hlt0
  have hc1 := HC1.out.below hb1 hlt1
  have hc2 := HC2.out.below hb1 hlt2
  have p0 := (hc0.cell 0).trans HCS0.out
  have q0 := (hc1.cell 0).trans HCT0.out
  have s0 := hc1.free 0
  obtain ⟨W4, hW4⟩ : ∃ W4, W4 = w1.setCell ⟨w.heap.size + 1, 0, Option.none⟩ (.int .u8 (n : Int)) := ⟨_, rfl⟩
  have HG0 : Hid (W4.heap[w.heap.size]? = some (.cells cs 26 (0, 0))) := Lib.hid (by
    have h := hc0.far (p := ⟨w.heap.size + 1, 0, Option.none⟩) (by show w.heap.size ≠ w.heap.size + 1; omega) (.int .u8 (n : Int))
    rw [← hW4] at h
    unfold Cells at h; rw [Array.toArray_toList] at h; exact h)
  have HG1 : Hid (W4.heap[w.heap.size + 1]? = some (.cells cu 26 (0, 0))) := Lib.hid (by
    have h := hc1.set 0 (.int .u8 (n : Int))
    rw [← hW4, HCU.out] at h
    unfold Cells at h; rw [Array.toArray_toList] at h; exact h)
  have HD2 : Hid (Cells W4 (w.heap.size + 1 + 1) 54 [.int .u8 (i2 : Int), .int .u8 (e2 : Int)]) := Lib.hid (by
    have h := hc2.far (p := ⟨w.heap.size + 1, 0, Option.none⟩) (by show w.heap.size + 1 + 1 ≠ w.heap.size + 1; omega) (.int .u8 (n : Int))
    rw [← hW4] at h; exact h)
  have HB4 : Hid (Below w.heap.size w W4) := Lib.hid (by rw [hW4]; exact HB1.out.setCell (by show w.heap.size ≤ w.heap.size + 1; omega) _)
  have HW4 := Lib.hid hW4
  clear hb1 hc0 hc1 hc2 hlt0 hlt1 hlt2 hW4
  go_wp2_with (rw [← HW4.out]; refine wpList_load_row rfl 26 _ rfl w.heap.size rfl 26 cs (0, 0) _ HG0.out Tryz.underlying26 rfl (by rw [HSZ.out]; kernel_rfl) ?_)
  clear HW4 p0 q0 s0
  refine (HMK.out W4 (HS.out.below HB4.out (Nat.le_refl _))).mono ?_
  rintro e w5 ⟨⟨pv, cv, rfl, hp, hl⟩, hb5⟩
  have HB5 := Lib.hid (HB4.out.trans (hb5.mono HB4.out.size))
  have hlt0 : w.heap.size + 1 < W4.heap.size := (Array.getElem?_eq_some_iff.1 HG1.out).1
  have HG5 : Hid (w5.heap[w.heap.size + 1]? = some (.cells cu 26 (0, 0))) := Lib.hid ((hb5.block _ hlt0).trans HG1.out)
  have HD5 := Lib.hid (HD2.out.below hb5 HD2.out.lt)
  have HP5 := Lib.hid hp
  obtain ⟨AL, cl, rfl⟩ := hl.shape
  obtain ⟨AP, cp, rfl⟩ := hp.shape
  have HL5 : Box (RowsAt w5 w5.heap.size AL (wChord n m r)) := ⟨hl.rows.2⟩
  clear hb5 hl hp hlt0 HMK HK HG0 HG1 HD2 HC0 HC1 HC2
  go_wp2_with (refine wpList_load_row rfl 26 _ rfl (w.heap.size + 1) rfl 26 cu (0, 0) _ HG5.out Tryz.underlying26 rfl (by rw [HSU.out]; kernel_rfl) ?_)
  refine (HMU.out w5 (HS.out.below HB5.out (Nat.le_refl _))).mono ?_
  rintro e w2 ⟨⟨pv2, dv, rfl, _, hl2⟩, hb2⟩
  have hg := wChord_good n m r
  have hg2 := wChord_good n m1 r1
  have hbase := wRows_base n m r
  have hplen := chPrimes_len n
  have h0 := hg.smc.ok.pos
  have HG : Box (GoodC (chPrimes n) (wChord n m r)) := ⟨hg⟩
  have HH : Box (GoodC (chPrimes n) (wChord n m1 r1)) := ⟨hg2⟩
  have HIV : Box (∀ x ∈ invL (chPrimes n) (wChord n m r), GoodC (chPrimes n) x ∧ canonL (chPrimes n) x = canonL (chPrimes n) (wChord n m r)) := ⟨fun x hx => inv_good hbase hg hx⟩
  have HON : Box (∀ (i : Nat) (z : Int), z.natAbs ≤ 2 → GoodC (chPrimes n) (onceL (chPrimes n) (oneL (wChord n m r) i z)) ∧ canonL (chPrimes n) (onceL (chPrimes n) (oneL (wChord n m r) i z)) = canonL (chPrimes n) (wChord n m r) ∧ ofErr (chPrimes n) (oneL (wChord n m r) i z) = 0) := ⟨fun i z hz => one_good hbase hg i hz⟩
  have HXL : Box (∀ x ∈ wChord n m r, x.length = (chPrimes n).length ∧ ∀ t : Nat, (x[t]?.getD 0).natAbs ≤ 6) := ⟨fun x hx => ⟨hbase.len x hx, hbase.sm x hx⟩⟩
  have HPL : Box (2 ≤ (chPrimes n).length ∧ (chPrimes n).length ≤ 3) := ⟨hplen⟩
  have HN6 : Box ((wChord n m r).length ≤ 6) := ⟨(wChord_slt n m r).2.2⟩
  clear hg hg2 hbase hplen h0
  have HB2 := Lib.hid (HB5.out.trans (hb2.mono HB5.out.size))
  have HS2 := Lib.hid (HS.out.below HB2.out (Nat.le_refl _))
  have HP2 := Lib.hid (HP5.out.lift hb2)
  have HL2 : Box (RowsAt w2 w2.heap.size AL (wChord n m r)) := ⟨HL5.out.lift hb2⟩
  have HD2 := Lib.hid (HD5.out.below hb2 HD5.out.lt)
  obtain ⟨AM, cm, rfl⟩ := hl2.shape
  have HM2 : Box (RowsAt w2 w2.heap.size AM (wChord n m1 r1)) := ⟨hl2.rows.2⟩
  clear hb2 hl2 HMU HG5 HD5 HP5 HL5 HB5 HB4 HB1 HB0 HSZ HSU HSZ3 HCU HCS0 HCT0 HS
  generalize chPrimes n = p at *
  generalize wChord n m r = l at *
  generalize wChord n m1 r1 = l2 at *
  have HAK := Lib.hid (chAlike_ok _ p AL AM cl cm l l2 w2 HS2.out HP2.out HL2.out HM2.out HG.out HH.out)
  go_wp2_with fail
  refine HAK.out.mono ?_
  rintro e w3 ⟨rfl, hb3⟩
  have HB23 := Lib.hid hb3
  have HIA := Lib.hid (lwInv_ok _ p AL cl l w3 (HS2.out.below hb3 (Nat.le_refl _)) (HP2.out.lift hb3) (HL2.out.lift hb3) HG.out.smc HG.out.cd HG.out.c0 (by have := HG.out.c12; omega) HG.out.lb HG.out.cl HG.out.cb)
  clear hb3 HAK
  go_wp2_with fail
  refine HIA.out.mono ?_
  rintro e w4 ⟨⟨va, rfl, hia⟩, hb4⟩
  obtain ⟨Aa, ca, rfl⟩ := hia.shape
  have HA4 : Box (LLAt w4 w4.heap.size Aa (invL p l)) := ⟨hia.lla.2⟩
  have HB24 := Lib.hid (HB23.out.trans (hb4.mono HB23.out.size))
  have HIB := Lib.hid (lwInv_ok _ p AM cm l2 w4 (HS2.out.below HB24.out (Nat.le_refl _)) (HP2.out.lift HB24.out) (HM2.out.lift HB24.out) HH.out.smc HH.out.cd HH.out.c0 (by have := HH.out.c12; omega) HH.out.lb HH.out.cl HH.out.cb)
  clear hb4 hia HIA HB23
  go_wp2_with fail
  refine HIB.out.mono ?_
  rintro e w5 ⟨⟨vb, rfl, hib⟩, hb5⟩
  obtain ⟨Ab, cb2, rfl⟩ := hib.shape
  have HA5 : Box (LLAt w5 w5.heap.size Aa (invL p l)) := ⟨HA4.out.lift hb5⟩
  have HE5 : Box (LLAt w5 w5.heap.size Ab (invL p l2)) := ⟨hib.lla.2⟩
  have HB25 := Lib.hid (HB24.out.trans (hb5.mono HB24.out.size))
  have HIL : Box (0 < (invL p l).length ∧ (invL p l).length ≤ 12) := ⟨by unfold invL; rw [List.length_map]; exact ⟨HG.out.c0, HG.out.c12⟩⟩
  have HJL : Box (0 < (invL p l2).length ∧ (invL p l2).length ≤ 12) := ⟨by unfold invL; rw [List.length_map]; exact ⟨HH.out.c0, HH.out.c12⟩⟩
  have HIX : Box (∀ x ∈ invL p l, x.length ≤ 12) := ⟨HG.out.il⟩
  have HJX : Box (∀ x ∈ invL p l2, x.length ≤ 12) := ⟨HH.out.il⟩
  have HLE := Lib.hid (least_ok Aa ca (invL p l) w5 HA5.out HIL.out.1 (by have := HIL.out.2; omega) (fun x hx => by have := HIX.out x hx; omega))
  rw [show minL (invL p l) = canonL p l from rfl] at HLE
  clear hb5 hib HIB HB24 HA4
  go_wp2_with fail
  refine HLE.out.mono ?_
  rintro e w6 ⟨⟨B6, d6, rfl, hr6⟩, hb6⟩
  have HB26 := Lib.hid (HB25.out.trans (hb6.mono HB25.out.size))
  have HR6 : Box (RowsAt w6 w6.heap.size B6 (canonL p l)) := ⟨hr6⟩
  have HA6 : Box (LLAt w6 w6.heap.size Aa (invL p l)) := ⟨HA5.out.lift hb6⟩
  have HLF := Lib.hid (least_ok Ab cb2 (invL p l2) w6 (HE5.out.lift hb6) HJL.out.1 (by have := HJL.out.2; omega) (fun x hx => by have := HJX.out x hx; omega))
  rw [show minL (invL p l2) = canonL p l2 from rfl] at HLF
  clear hb6 hr6 HLE HB25 HA5 HE5
  go_wp2_with fail
  refine HLF.out.mono ?_
  rintro e w7 ⟨⟨B7, d7, rfl, hr7⟩, hb7⟩
  have HB27 := Lib.hid (HB26.out.trans (hb7.mono HB26.out.size))
  have HA7 : Box (LLAt w7 w7.heap.size Aa (invL p l)) := ⟨HA6.out.lift hb7⟩
  have hcn := canon_len HG.out
  have HSM := Lib.hid (same_any39 B6 B7 d6 d7 (canonL p l) (canonL p l2) w7 (HR6.out.lift hb7) hr7 (by omega))
  clear hb7 hr7 HLF HB26 HA6 HR6 hcn
  obtain ⟨bo, hbo⟩ : ∃ bo, rowsEq (canonL p l) (canonL p l2) = bo := ⟨_, rfl⟩
  rw [hbo] at HSM ⊢
  clear hbo
  go_wp2_with fail
  refine HSM.out.mono ?_
  rintro e w8 ⟨rfl, hb8⟩
  have HB28 := Lib.hid (HB27.out.trans (hb8.mono HB27.out.size))
  have HA8 : Box (LLAt w8 w8.heap.size Aa (invL p l)) := ⟨HA7.out.lift hb8⟩
  clear hb8 HSM HB27 HA7
  have HG0 : Box (0 < l.length) := ⟨HG.out.smc.ok.pos⟩
  have HL3 : Box (∀ x ∈ l, x.length = p.length) := ⟨fun x hx => (HXL.out x hx).1⟩
  have HLB : Box (∀ x ∈ l, ∀ j : Nat, (x[j]?.getD 0).natAbs ≤ 1000000) := ⟨HG.out.lb⟩
  cases bo
  all_goals
    go_wp2_with fail
    go_loopw [81] (fun i wr => ∃ k : Nat, k ≤ (invL p l).length ∧ i = .int .i64 k ∧ Below w8.heap.size w8 wr) (fun i _ => (invL p l).length - (intOf i).toNat)
    case atStart => exact ⟨0, Nat.zero_le _, rfl, Below.refl _ _⟩
    case round =>
      obtain ⟨k, hk, rfl, hbw⟩ := hrel
      have HB := Lib.hid (HB28.out.trans (hbw.mono HB28.out.size))
      have HS9 := Lib.hid (HS2.out.below HB.out (Nat.le_refl _))
      have HP9 := Lib.hid (HP2.out.lift HB.out)
      have HL9 : Box (RowsAt _ _ AL l) := ⟨HL2.out.lift HB.out⟩
      by_cases hlt : k < (invL p l).length
      · obtain ⟨b, o, A0, c0, rfl, hbo, hco, hro⟩ := (HA8.out.lift hbw).pl hlt
        have hx := HIV.out _ (List.getElem_mem hlt)
        have HAL := Lib.hid (chAlike_ok _ p AL A0 cl c0 l _ _ HS9.out HP9.out HL9.out hro HG.out hx.1)
        rw [hx.2, show rowsEq (canonL p l) (canonL p l) = true from decide_eq_true rfl] at HAL
        have hil := HIL.out.2
        have HBW := Lib.hid hbw
        clear hx hro hbw
        generalize (invL p l)[k].length = m at *
        go_wp2_with fail
        refine HAL.out.mono ?_
        rintro e w9 ⟨rfl, hb9⟩
        have HB9 := Lib.hid (HBW.out.trans (hb9.mono HBW.out.size))
        clear hb9
        go_wp2_with fail
        go_roundw
        case rel => exact ⟨k + 1, by omega, by go_num, HB9.out⟩
        case measure => simp [intOf]; omega
      · obtain rfl : k = (invL p l).length := by omega
        have HRO := Lib.hid (rooted_first39 AL cl l _ HL9.out HG0.out (by have := HN6.out; omega) p.length (by have := HPL.out; omega) HL3.out HLB.out)
        have HBW := Lib.hid hbw
        clear hbw
        go_wp2_with fail
        refine HRO.out.mono ?_
        rintro e w9 ⟨⟨v, rfl, hrd⟩, hb9⟩
        have HB9 := Lib.hid (HB.out.trans (hb9.mono HB.out.size))
        have HD9 := Lib.hid (HD2.out.below HB9.out HD2.out.lt)
        obtain ⟨A9, c9, rfl⟩ := hrd.lrow.shape
        obtain ⟨j, hj⟩ : ∃ j, j = i2 % l.length := ⟨_, rfl⟩
        have hjl : j < l.length := by rw [hj]; exact Nat.mod_lt _ HG0.out
        have hrl : (rootL l (l[0]?.getD [])).length = l.length := rootL_len _ _
        obtain ⟨gA, g, cap, rfl, hgA, hcA, hc0, hfz, hbg, hg, hne, hst⟩ := hrd.store (i := j) (List.getElem?_eq_getElem (by rw [hrl]; exact hjl)) (by
          unfold rootL
          rw [List.getElem_map, difI_len, HL3.out _ (List.getElem_mem _)]
          have := HPL.out
          omega)
        have hfe : (oneL l j (((e2 % 5 : Nat) : Int) - 2)) = (rootL l (l[0]?.getD [])).set j ((rootL l (l[0]?.getD []))[j].set 0 ((rootL l (l[0]?.getD []))[j][0]?.getD 0 + (((e2 % 5 : Nat) : Int) - 2))) := by
          have e : (rootL l (l[0]?.getD []))[j]? = some ((rootL l (l[0]?.getD []))[j]'(by rw [hrl]; exact hjl)) := List.getElem?_eq_getElem _
          unfold oneL addE
          simp only [e, Option.getD_some]
        have hst2 := hst ((rootL l (l[0]?.getD []))[j][0]?.getD 0 + (((e2 % 5 : Nat) : Int) - 2))
        rw [← hfe] at hst2
        have hxp : 0 < (rootL l (l[0]?.getD []))[j].length ∧ (rootL l (l[0]?.getD []))[j].length ≤ 3 := by
          unfold rootL
          rw [List.getElem_map, difI_len, HL3.out _ (List.getElem_mem _)]
          have := HPL.out
          omega
        have hxb : ((rootL l (l[0]?.getD []))[j][0]?.getD 0).natAbs ≤ 12 := by
          have h0 := HXL.out _ (List.getElem_mem hjl)
          have h1 : (l[0]?.getD []) ∈ l := by rw [List.getElem?_eq_getElem HG0.out]; exact List.getElem_mem _
          have h2 := (HXL.out _ h1).2 0
          have h3 := h0.2 0
          unfold rootL
          rw [List.getElem_map, dif_at (by have := HPL.out; omega)]
          omega
        have hf5 : e2 % 5 < 5 := Nat.mod_lt _ (by omega)
        have hm1 : (i2 : Int).tmod (l.length : Int) = (j : Int) := by rw [hj]; rfl
        have hm2 : (e2 : Int).tmod 5 = ((e2 % 5 : Nat) : Int) := rfl
        have hm3 : (i2 : Int) % (l.length : Int) = (j : Int) := by rw [hj]; rfl
        have hm4 : (e2 : Int) % 5 = ((e2 % 5 : Nat) : Int) := rfl
        have HO := Lib.hid (HON.out j (((e2 % 5 : Nat) : Int) - 2) (by omega))
        have z0 := HD9.out.cell 0
        have z1 := HD9.out.cell 1
        simp only [List.getElem?_cons_succ, List.getElem?_cons_zero] at z0 z1
        have hl0 := HG0.out
        have hl6 := HN6.out
        have HST := Lib.hid hst2
        have HI := HI2.out
        rw [hrl]
        clear hst hst2 hfe hrd
        generalize (rootL l (l[0]?.getD []))[j][0]?.getD 0 = a at *
        generalize (rootL l (l[0]?.getD []))[j].length = xl at *
        generalize e2 % 5 = f at *
        clear hj
        have hw1 : IntKind.i64.wrap (j : Int) = (j : Int) := IntWalk.i64_in _ (by omega)
        have hw2 : IntKind.i64.wrap (f : Int) = (f : Int) := IntWalk.i64_in _ (by omega)
        have hw3 : IntKind.i64.wrap ((f : Int) - 2) = (f : Int) - 2 := IntWalk.i64_in _ (by omega)
        have hw4 : IntKind.i64.wrap (a + ((f : Int) - 2)) = a + ((f : Int) - 2) := IntWalk.i64_in _ (by omega)
        have hw5 : IntKind.i64.wrap (i2 : Int) = (i2 : Int) := IntWalk.i64_in _ (by omega)
        have hj1 : (j : Int) < (l.length : Int) := by omega
        have hj2 : (0 : Int) ≤ (j : Int) := by omega
        go_wp2_with fail
        go_region
        obtain ⟨WS, hWS⟩ : ∃ WS, WS = w9.setCell ⟨g, 0, Option.none⟩ (.int .i64 (a + ((f : Int) - 2))) := ⟨_, rfl⟩
        have HBS : Hid (Below w2.heap.size w2 WS) := Lib.hid (by
          rw [hWS]
          exact HB9.out.setCell (Nat.le_trans HB.out.size hbg) _)
        have hst3 := HST.out
        rw [← hWS] at hst3 ⊢
        have HBD : Hid (Below w2.heap.size w2 WS.drew) := Lib.hid ⟨HBS.out.os, HBS.out.tape, HBS.out.output, HBS.out.size, HBS.out.block⟩
        have hdr : Below WS.heap.size WS WS.drew := ⟨(Below.refl WS.heap.size WS).os, (Below.refl WS.heap.size WS).tape, (Below.refl WS.heap.size WS).output, (Below.refl WS.heap.size WS).size, (Below.refl WS.heap.size WS).block⟩
        have hof := chOf_any _ p (some ⟨gA, 0, Option.none⟩) c9 (oneL l j ((f : Int) - 2)) WS.drew (HS2.out.below HBD.out (Nat.le_refl _)) (HP2.out.lift HBD.out) (hst3.lift hdr) (by rw [oneL_len]; omega)
        rw [oneL_len, HO.out.2.2] at hof
        have HOF := Lib.hid hof
        clear hof hst3 HST hc0 hcA hfz hne hxb hxp hm1 hm2 hm3 hm4 hw1 hw2 hw3 hw4 hw5 hj1 hj2 hWS hdr z0 z1 hl0 hl6 HI hb9 hgA hg hbg hrl
        go_wp2_with fail
        refine HOF.out.mono ?_
        rintro e w10 ⟨hpo, hb10⟩
        rcases hpo with ⟨_, vo, rfl, hlo⟩ | ⟨hx, _⟩
        case inr => exact absurd rfl hx
        obtain ⟨Ao, co, rfl⟩ := hlo.shape
        have HLO : Box (RowsAt w10 w10.heap.size Ao (onceL p (oneL l j ((f : Int) - 2)))) := ⟨hlo.rows.2⟩
        have HB10 := Lib.hid (HBD.out.trans (hb10.mono HBD.out.size))
        have HAL := Lib.hid (chAlike_ok _ p AL Ao cl co l _ w10 (HS2.out.below HB10.out (Nat.le_refl _)) (HP2.out.lift HB10.out) (HL2.out.lift HB10.out) HLO.out HG.out HO.out.1)
        rw [HO.out.2.1, show rowsEq (canonL p l) (canonL p l) = true from decide_eq_true rfl] at HAL
        clear hlo hb10 HOF
        generalize (onceL p (oneL l j ((f : Int) - 2))).length = nn at *
        go_wp2_with fail
        refine HAL.out.mono ?_
        rintro e w11 ⟨rfl, hb11⟩
        have HB11 := Lib.hid (HB10.out.trans (hb11.mono HB10.out.size))
        go_wp2_with fail
        go_ret
        exact ⟨rfl, HB2.out.trans (HB11.out.mono HB2.out.size)⟩

end Go.Proofs.YtaiglcbgllnciaaGreatDoor
