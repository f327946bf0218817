/- ChordNumbers: the walk. -/
import Derived.Test.YtaiglcbgllnciaaGreatDoorGCGNu
import Derived.Test.YtaiglcbgllnciaaGreatDoorGCNNu
import Derived.Test.YtaiglcbgllnciaaGreatDoorGCMNu
import Derived.Test.YtaiglcbgllnciaaGreatDoorGCFNu
import Derived.Test.YtaiglcbgllnciaaGreatDoorGCENu
import Derived.Test.YtaiglcbgllnciaaGreatDoorGENu
import Derived.Test.YtaiglcbgllnciaaGreatDoorArgWNu
import Derived.Laws.Rows
import Derived.Maps.AppendAt
namespace Go.Proofs.YtaiglcbgllnciaaGreatDoor
open Go.RowKit Go.Lib

set_option maxRecDepth 100000 in
set_option maxHeartbeats 8000000 in
theorem numbers_walk (v : Value) (n m : Nat) (r : List Int) (w : World) (hS : Std w) (hm : ∃ m, w.cell? ⟨0, 0, Option.none⟩ = some (.int .i64 m)) (ha : WorldArg v n m r) :
    Calls Tryz.prog 6 #[v] w fun e w' => e = .returned (.bool true) ∧ Below w.heap.size w w' := by
  obtain ⟨mx, hm⟩ := hm
  obtain ⟨cs, rfl, hcs, hn, hm2, hr1, hr2⟩ := ha
  have hsz : cs.size = 20 := by rw [← Array.length_toList, hcs]; simp [hr1]
  have HSZ := Lib.hid hsz
  have HS := Lib.hid hS
  have HM := Lib.hid (fun (W : World) (hb : Below w.heap.size w W) => keep_cell hm hb)
  have HK := Lib.hid (fun (W : World) (hb : Below w.heap.size w W) => known_any39 W mx (hS.below hb (Nat.le_refl _)) (keep_cell hm hb))
  have HMK := Lib.hid (fun (W : World) (hW : Std W) => make39_any n m r _ W hcs hr1 hn hm2 hr2 hW)
  have HC := Lib.hid (Cells.new w 26 cs)
  have HB0 := Lib.hid ((Below.refl w.heap.size w).alloc (Nat.le_refl _) (.cells cs 26))
  clear hS hm hcs hn hm2 hr1 hr2 hsz
  go_enter Tryz.func6, Tryz.ntmps6
  go_wp2_with fail
  refine (HK.out _ HB0.out).mono ?_
  rintro e w1 ⟨rfl, hb1⟩
  have HB1 := Lib.hid (HB0.out.trans (hb1.mono HB0.out.size))
  have HC1 := Lib.hid (HC.out.below hb1 HC.out.lt)
  have HG1 : Hid (w1.heap[w.heap.size]? = some (.cells cs 26 (0, 0))) := Lib.hid (by have h := HC1.out; unfold Cells at h; rw [Array.toArray_toList] at h; exact h)
  clear hb1
  go_wp2_with (refine wpList_load_row rfl 26 _ rfl w.heap.size rfl 26 cs (0, 0) _ HG1.out Tryz.underlying26 rfl (by rw [HSZ.out]; kernel_rfl) ?_)
  refine (HMK.out w1 (HS.out.below HB1.out (Nat.le_refl _))).mono ?_
  rintro e w2 ⟨⟨pv, cv, rfl, hp, hl⟩, hb2⟩
  have hg := wChord_good n m r
  have hbase := wRows_base n m r
  have h0 := hg.smc.ok.pos
  have hplen := chPrimes_len n
  have hpr := primed hg.smc.ok.pe
  have h6 := (wChord_slt n m r).2.2
  have HG : Box (GoodC (chPrimes n) (wChord n m r)) := ⟨hg⟩
  have HN6 : Box ((wChord n m r).length ≤ 6) := ⟨h6⟩
  have HPL : Box ((chPrimes n).length ≤ 3) := ⟨hplen.2⟩
  have HBA : Box (BaseC (chPrimes n) (wChord n m r)) := ⟨hbase⟩
  have HOK1 : Box (NumOk (chPrimes n) false (wChord n m r)) := ⟨num_base hbase⟩
  have HOK2 : Box (NumOk (chPrimes n) true (wChord n m r)) := ⟨num_base hbase⟩
  have HTL : Hid ((chTxt (chPrimes n) (wChord n m r)).length ≤ 10000) := Lib.hid (text_le hpr hplen.2 hbase h6 h0)
  have HPI1 : Box (PropIn ((wChord n m r).map (upN false (chPrimes n))) ((wChord n m r).map (dnN false (chPrimes n)))) := ⟨prop_in false hpr hplen.2 hbase h6⟩
  have HPI2 : Box (PropIn ((wChord n m r).map (upN true (chPrimes n))) ((wChord n m r).map (dnN true (chPrimes n)))) := ⟨prop_in true hpr hplen.2 hbase h6⟩
  have HPN1 : Hid (propL ((wChord n m r).map (upN false (chPrimes n))) ((wChord n m r).map (dnN false (chPrimes n))) = numbersL (chPrimes n) false (wChord n m r)) := Lib.hid (prop_numbers hpr hbase.len h0)
  have HPN2 : Hid (propL ((wChord n m r).map (upN true (chPrimes n))) ((wChord n m r).map (dnN true (chPrimes n))) = numbersL (chPrimes n) true (wChord n m r)) := Lib.hid (prop_numbers hpr hbase.len h0)
  have HTP := Lib.hid (text_parse hg.smc.ok.pe hbase.len (wChord_slt n m r).1 h0 (by omega))
  have HL1 : Hid ((numbersL (chPrimes n) false (wChord n m r)).length = (wChord n m r).length) := Lib.hid (by unfold numbersL; exact List.length_map _)
  have HL2' : Hid ((numbersL (chPrimes n) true (wChord n m r)).length = (wChord n m r).length) := Lib.hid (by unfold numbersL; exact List.length_map _)
  have HCK : Box (∀ x ∈ wChord n m r, chkAll (chPrimes n) [x] = 0) := ⟨hg.smc.ok.chk⟩
  clear hg hbase h0 hplen hpr h6
  generalize chPrimes n = p at *
  generalize wChord n m r = l at *
  have HP2 := Lib.hid hp
  obtain ⟨AL, cl, rfl⟩ := hl.shape
  obtain ⟨AP, cp, rfl⟩ := hp.shape
  have HL2 : Box (RowsAt w2 w2.heap.size AL l) := ⟨hl.rows.2⟩
  have HB2 := Lib.hid (HB1.out.trans (hb2.mono HB1.out.size))
  have HS2 := Lib.hid (HS.out.below HB2.out (Nat.le_refl _))
  have HOT := Lib.hid (chOtonal_ok _ p AL cl l w2 HS2.out HP2.out HL2.out HG.out.smc.ok HOK1.out)
  clear hb2 hl hp HMK HK HC HB0 HC1
  generalize hns : numbersL p false l = ns at *
  generalize hnd : numbersL p true l = nd at *
  go_wp2_with fail
  refine HOT.out.mono ?_
  rintro e w3 ⟨⟨va, rfl, hta⟩, hb3⟩
  obtain ⟨Aa, ca, rfl⟩ := hta.shape
  have HTA3 := Lib.hid hta
  have HB23 := Lib.hid hb3
  have hut := chUtonal_ok _ p AL cl l w3 (HS2.out.below hb3 (Nat.le_refl _)) (HP2.out.lift hb3) (HL2.out.lift hb3) HG.out.smc.ok HOK2.out
  rw [hnd] at hut
  have HUT := Lib.hid hut
  clear hta hb3 HOT hut
  go_wp2_with fail
  refine HUT.out.mono ?_
  rintro e w4 ⟨⟨vb, rfl, htb⟩, hb4⟩
  obtain ⟨Ab, cb, rfl⟩ := htb.shape
  have HTB4 := Lib.hid htb
  have HTA4 := Lib.hid (HTA3.out.below hb4)
  have HB24 := Lib.hid (HB23.out.trans (hb4.mono HB23.out.size))
  have HTX := Lib.hid (chText_ok _ p AL cl l w4 (HS2.out.below HB24.out (Nat.le_refl _)) (HP2.out.lift HB24.out) (HL2.out.lift HB24.out) HG.out.smc.ok HOK1.out (by have := HTL.out; omega))
  clear htb hb4 HUT HTA3 HB23
  have HJT : Hid (Lib.join (ns.map decDigits) [58] = chTxt p l) := Lib.hid (by unfold chTxt; rw [hns])
  rw [HJT.out] at HTP
  generalize chTxt p l = T at *
  go_wp2_with fail
  refine HTX.out.mono ?_
  rintro e w5 ⟨rfl, hb5⟩
  have HTA5 := Lib.hid (HTA4.out.below hb5)
  have HTB5 := Lib.hid (HTB4.out.below hb5)
  have HB25 := Lib.hid (HB24.out.trans (hb5.mono HB24.out.size))
  clear hb5 HTX HTA4 HTB4 HB24 hns hnd
  obtain ⟨i0, hi0, hz0, hz1, hz2⟩ := info_parts Tryz.info_rational
  go_wp2_with fail
  go_loopw [11, 12, 51] (fun up dn i wr => ∃ k : Nat, k ≤ l.length ∧ i = .int .i64 k ∧ ROwn wr w5.heap.size up (ratL p false l k) ∧ ROwn wr w5.heap.size dn (ratL p true l k) ∧ Apart up dn ∧ Below w5.heap.size w5 wr) (fun _ _ i _ => l.length - (intOf i).toNat)
  case atStart => exact ⟨0, Nat.zero_le _, rfl, ROwn.nil _ _, ROwn.nil _ _, fun g h => by simp [Value.ownBlock] at h, Below.refl _ _⟩
  case round =>
    obtain ⟨k, hk, rfl, hup, hdn, hap, hbw⟩ := hrel
    by_cases hlt : k < l.length
    · have HB := Lib.hid (HB25.out.trans (hbw.mono HB25.out.size))
      obtain ⟨b, o, xv, rfl, hab, hcx, hrx⟩ := rows_pl HL2.out (List.getElem?_eq_getElem hlt)
      have hcx' := (HB.out.cell (p := ⟨b, o + k, Option.none⟩) hab).trans hcx
      have hck := HCK.out _ (List.getElem_mem hlt)
      have HN1 := Lib.hid (ratL_next (p := p) (inv := false) hlt)
      have HN2 := Lib.hid (ratL_next (p := p) (inv := true) hlt)
      have HE1 : Hid ((ratL p false l k).length = k) := Lib.hid (ratL_len hk)
      have HE2 : Hid ((ratL p true l k).length = k) := Lib.hid (ratL_len hk)
      rw [show upN false p l[k] = num p l[k] from rfl, show dnN false p l[k] = den p l[k] from rfl] at HN1
      rw [show upN true p l[k] = den p l[k] from rfl, show dnN true p l[k] = num p l[k] from rfl] at HN2
      have hd1 : (decDigits (num p l[k])).length ≤ 400 := by
        have := sm4_dec (HPI1.out.num (k := k) (by rw [List.length_map]; exact hlt)).1
        rw [map_getD hlt] at this
        exact this
      have hd2 : (decDigits (den p l[k])).length ≤ 400 := by
        have := sm4_dec (HPI1.out.den (k := k) (by rw [List.length_map]; exact hlt)).1
        rw [map_getD hlt] at this
        exact this
      have hfr := fraction_any (.slice AP p.length cp) xv p l[k] _ (HS2.out.below HB.out (Nat.le_refl _)) (HP2.out.lift HB.out) (hrx.lift HB.out) hck
      unfold fracOut at hfr
      rw [if_pos ⟨hd1, hd2⟩] at hfr
      have HFR := Lib.hid hfr
      obtain ⟨AX, cx, rfl⟩ := hrx.shape
      have HUP := Lib.hid hup
      have HDN := Lib.hid hdn
      have HAP : Box (Apart u11 u12) := ⟨hap⟩
      have HBW := Lib.hid hbw
      clear hfr hup hdn hap hbw hcx hrx hck hd1 hd2
      generalize decDigits (num p l[k]) = N at *
      generalize decDigits (den p l[k]) = D at *
      generalize l[k].length = nx at *
      rename World => W6
      go_wp2_with fail
      refine HFR.out.mono ?_
      rintro e W7 ⟨rfl, hb7⟩
      have HB7 := Lib.hid (HBW.out.trans (hb7.mono HBW.out.size))
      have hu7 := own_below HUP.out hb7
      have hd7 := own_below HDN.out hb7
      rw [HE1.out] at hu7
      rw [HE2.out] at hd7
      have hlu : ∀ g, u11.ownBlock = some g → g < W7.heap.size := fun g hg => (hu7.lt g hg).2
      have hld : ∀ g, u12.ownBlock = some g → g < W7.heap.size := fun g hg => (hd7.lt g hg).2
      have HU7 := Lib.hid hu7
      have HD7 := Lib.hid hd7
      have hl6 := HN6.out
      have hs7 : w5.heap.size ≤ W7.heap.size := HB7.out.size
      clear hb7 hu7 hd7 HUP HDN HBW HFR
      go_upto_region 14 with (fail)
      obtain ⟨W8, hW8⟩ : ∃ W8, W8 = W7.alloc (.cells #[.string ⟨N.toArray⟩, .string ⟨D.toArray⟩] 63) := ⟨_, rfl⟩
      have hX8 : Cells W8 W7.heap.size 63 [.string ⟨N.toArray⟩, .string ⟨D.toArray⟩] := by rw [hW8]; exact Cells.new _ _ _
      have hb8 : Below W7.heap.size W7 W8 := by rw [hW8]; exact (Below.refl _ _).alloc (Nat.le_refl _) _
      have hsz8 : W8.heap.size = W7.heap.size + 1 := by rw [hW8, World.size_alloc]
      rw [← hW8]
      have HU8 := Lib.hid (own_below HU7.out hb8)
      have HD8 := Lib.hid (own_below HD7.out hb8)
      have HB8 := Lib.hid (HB7.out.trans (hb8.mono HB7.out.size))
      have HX8 := Lib.hid hX8
      have x0 := hX8.cell 0
      have x1 := hX8.cell 1
      simp only [List.getElem?_cons_succ, List.getElem?_cons_zero] at x0 x1
      have HS8 := Lib.hid hsz8
      have hs8 : w5.heap.size ≤ W8.heap.size := HB8.out.size
      have HLU := Lib.hid hlu
      have HLD := Lib.hid hld
      clear hW8 hX8 hb8 hsz8 hlu hld HU7 HD7 HB7
      go_upto_region 15 with (at_builtin; refine wpList_append_own_at _ rfl _ _ _ rfl w5.heap.size 63 i0 (.agg #[.string ⟨#[]⟩, .string ⟨#[]⟩]) 2 32 Tryz.underlying61 hi0 hz0 hz1 hz2 rfl (by decide) _ _ _ rfl (HU8.out.alloc _) ⟨W8.heap.size, 0, Option.none⟩ 1 1 [.string ⟨N.toArray⟩, .string ⟨D.toArray⟩] rfl rfl (cell_two_new _ _ _ _) (by intro u hu; simp at hu; rcases hu with rfl | rfl <;> rfl) (by unfold maxLen; omega) (by omega) (by simp; omega) ?_; intro v9 w9 hown9 hg9 _ hat9)
      have hbA : Below w5.heap.size w5 w9 := (HB8.out.alloc hs8 (.cells #[.string ⟨N.toArray⟩, .string ⟨D.toArray⟩] 63)).grown hg9 (by simp; omega) (fun k hk => (HU8.out.lt k hk).1)
      have hX9 : Cells w9 W7.heap.size 63 [.string ⟨N.toArray⟩, .string ⟨D.toArray⟩] := (hg9.block _ (by simp; have := HX8.out.lt; omega) (fun e => by have := HLU.out _ e.symm; omega)).trans (HX8.out.alloc _)
      have hd9 := own_apartN (HD8.out.alloc (.cells #[.string ⟨N.toArray⟩, .string ⟨D.toArray⟩] 63)) hg9 (fun g hg e => HAP.out g e.symm hg)
      have hl9 : ∀ g, v9.ownBlock = some g → g < w9.heap.size ∧ (u11.ownBlock = some g ∨ W7.heap.size < g) := fun g hg => by
        refine ⟨(hown9.lt g hg).2, ?_⟩
        rcases hat9 with h | h
        · exact .inl (h ▸ hg)
        · rw [h, World.size_alloc] at hg
          have := Option.some.inj hg
          have := HS8.out
          exact .inr (by omega)
      have hsw9 : W7.heap.size < w9.heap.size := hX9.lt
      have HOW9 := Lib.hid hown9
      have HD9 := Lib.hid hd9
      have HBA := Lib.hid hbA
      have HL9 := Lib.hid hl9
      have y0 := hX9.cell 0
      have y1 := hX9.cell 1
      simp only [List.getElem?_cons_succ, List.getElem?_cons_zero] at y0 y1
      have hs9 : w5.heap.size ≤ w9.heap.size := hbA.size
      clear hown9 hd9 hbA hl9 hX9 hat9 hg9 x0 x1 HU8 HD8 HB8 HX8
      go_upto_region 16 with (at_builtin; refine wpList_append_own_at _ rfl _ _ _ rfl w5.heap.size 63 i0 (.agg #[.string ⟨#[]⟩, .string ⟨#[]⟩]) 2 32 Tryz.underlying61 hi0 hz0 hz1 hz2 rfl (by decide) _ _ _ rfl (HD9.out.alloc _) ⟨w9.heap.size, 0, Option.none⟩ 1 1 [.string ⟨D.toArray⟩, .string ⟨N.toArray⟩] rfl rfl (cell_two_new _ _ _ _) (by intro u hu; simp at hu; rcases hu with rfl | rfl <;> rfl) (by unfold maxLen; omega) (by omega) (by simp; omega) ?_; intro vA wA hownA hgA _ hatA)
      have hbB : Below w5.heap.size w5 wA := (HBA.out.alloc hs9 (.cells #[.string ⟨D.toArray⟩, .string ⟨N.toArray⟩] 63)).grown hgA (by simp; omega) (fun k hk => (HD9.out.lt k hk).1)
      have hupA := own_apartN (HOW9.out.alloc (.cells #[.string ⟨D.toArray⟩, .string ⟨N.toArray⟩] 63)) hgA (fun g hg e => by
        rcases (HL9.out g hg).2 with h | h
        · exact HAP.out g h e.symm
        · have := HLD.out g e.symm; omega)
      have hapA : Apart v9 vA := fun g hg e => by
        obtain ⟨h1, h2⟩ := HL9.out g hg
        rcases hatA with h | h
        · rcases h2 with h2 | h2
          · exact HAP.out g h2 (h ▸ e)
          · have := HLD.out g (h ▸ e); omega
        · rw [h, World.size_alloc] at e
          have := Option.some.inj e
          omega
      have HUA : Hid (ROwn wA w5.heap.size v9 (ratL p false l (k + 1))) := Lib.hid (by
        unfold ROwn
        rw [HN1.out, rat_snoc, List.length_append, HE1.out]
        exact hupA)
      have HDA : Hid (ROwn wA w5.heap.size vA (ratL p true l (k + 1))) := Lib.hid (by
        unfold ROwn
        rw [HN2.out, rat_snoc, List.length_append, HE2.out]
        exact hownA)
      have HBB := Lib.hid hbB
      have HAA : Box (Apart v9 vA) := ⟨hapA⟩
      clear hbB hupA hapA hownA hgA hatA y0 y1 HOW9 HD9 HL9 HBA HLU HLD HAP HN1 HN2 HE1 HE2
      go_wp2_with fail
      go_roundw
      case rel => exact ⟨k + 1, by omega, by go_num, HUA.out, HDA.out, HAA.out, HBB.out⟩
      case measure => simp [intOf]; omega
    · obtain rfl : k = l.length := by omega
      rename World => W6
      rw [ratL_all] at hup hdn
      obtain ⟨AU, cU, eU, hpu⟩ := hup.shape
      obtain ⟨AD, cD, eD, hpd⟩ := hdn.shape
      rw [ratsOf_len, List.length_map] at eU eD
      subst eU
      subst eD
      have HB6 := Lib.hid (HB25.out.trans (hbw.mono HB25.out.size))
      have HPD := Lib.hid hpd
      have hpr := prop39_any AU cU _ _ W6 (HS2.out.below HB6.out (Nat.le_refl _)) hpu HPI1.out
      rw [HPN1.out, List.length_map] at hpr
      have HPR := Lib.hid hpr
      have HBW := Lib.hid hbw
      have HL0 : Hid (0 < l.length) := Lib.hid HG.out.smc.ok.pos
      have HN0 : Hid (0 < ns.length ∧ ns.length ≤ 6) := Lib.hid (by rw [HL1.out]; exact ⟨HL0.out, HN6.out⟩)
      have HD0 : Hid (nd.length = l.length) := Lib.hid HL2'.out
      clear hup hdn hpu hpd hpr hbw hap
      go_wp2_with fail
      refine HPR.out.mono ?_
      rintro e W7 ⟨⟨vo, rfl, hto⟩, hb7⟩
      obtain ⟨g, co, rfl⟩ : ∃ g c, vo = .slice (some ⟨g, 0, Option.none⟩) ns.length c := by
        rcases hto.2 with ⟨_, h⟩ | ⟨g, cap, cur, hv, _⟩
        · have := HN0.out; omega
        · exact ⟨g, cap, hv⟩
      have HTO := Lib.hid hto
      have hgl : g < W7.heap.size := (hto.lt g rfl).2
      have HB7 := Lib.hid (HB6.out.trans (hb7.mono HB6.out.size))
      have HB57 := Lib.hid (HBW.out.trans (hb7.mono HBW.out.size))
      have HPD7 := Lib.hid (HPD.out.lift hb7)
      clear hto hb7 HPR HBW HPD HB6
      obtain ⟨j0, hj0, gz0, gz1, gz2⟩ := info_parts Tryz.info_string
      go_wp2_with fail
      go_loopw [18, 19, 80] (fun out sh i wr => ∃ k : Nat, k ≤ ns.length ∧ i = .int .i64 k ∧ wr.ownsRow W7.heap.size 9 1 out k (strs ((ns.take k).map decDigits)) ∧ sh = .bool (shortN (ns.take k)) ∧ Below W7.heap.size W7 wr) (fun _ _ i _ => ns.length - (intOf i).toNat)
      case atStart => exact ⟨0, Nat.zero_le _, rfl, World.ownsRow_nil _ _ _ _, rfl, Below.refl _ _⟩
      case round =>
        obtain ⟨k, hk, rfl, hown, rfl, hbw⟩ := hrel
        by_cases hlt : k < ns.length
        · have hca := (hbw.cell (p := ⟨g, k, Option.none⟩) hgl).trans (TxtsAt.cell HTO.out hlt)
          have HNX : Hid (strs ((ns.take (k + 1)).map decDigits) = strs ((ns.take k).map decDigits) ++ [.string ⟨(decDigits ns[k]).toArray⟩]) := Lib.hid (by rw [← List.take_append_getElem hlt, List.map_append, List.map_cons, List.map_nil, strs_snoc2])
          have HSN := Lib.hid (shortN_next hlt)
          generalize decDigits ns[k] = d at *
          have HOW := Lib.hid hown
          have HB := Lib.hid hbw
          have hwk : W7.heap.size ≤ _ := hbw.size
          have hn6 := HN0.out.2
          generalize shortN (ns.take k) = sb at *
          clear hown hbw
          cases sb
          all_goals
            go_wp2_with (at_builtin; refine wpList_append_own _ rfl _ _ _ rfl W7.heap.size 9 j0 (.string ⟨#[]⟩) 1 16 Tryz.underlying67 hj0 gz0 gz1 gz2 rfl (by decide) _ _ _ rfl (HOW.out.alloc _) ⟨_, 0, Option.none⟩ 1 1 [_] rfl rfl (cell_one_new _ _ _) (by intro u hu; simp at hu; subst hu; rfl) (by unfold maxLen; omega) (by omega) (by simp; omega) ?_; intro v9 w9 hown9 hg9 _)
            go_roundw
            case rel =>
              refine ⟨k + 1, by omega, by go_num, by rw [HNX.out]; exact hown9, ?_, (HB.out.alloc hwk _).grown hg9 (by simp; omega) (fun k hk => (HOW.out.lt k hk).1)⟩
              rw [HSN.out]
              first
                | rfl
                | (rw [Bool.true_and]; exact congrArg Value.bool (decide_eq_decide.2 (by omega)))
            case measure => simp [intOf]; omega
        · obtain rfl : k = ns.length := by omega
          rw [List.take_length] at hown ⊢
          rename World => W8
          have HB8 := Lib.hid (HB7.out.trans (hbw.mono HB7.out.size))
          have HB58 := Lib.hid (HB57.out.trans (hbw.mono HB57.out.size))
          obtain ⟨_, _, e1, _, _, hra⟩ := Row.of_own (HTA5.out.below HB58.out)
          cases e1
          obtain ⟨_, _, e2, _, _, hro⟩ := Row.of_own (HTO.out.below hbw)
          cases e2
          have heq := slEqI_any Aa (some ⟨g, 0, Option.none⟩) ca co (ns.map decDigits) (ns.map decDigits) W8 (by rw [List.length_map]; exact hra) (by rw [List.length_map]; exact hro) (by rw [List.length_map]; have := HN0.out.2; omega)
          rw [show decide (ns.map decDigits = ns.map decDigits) = true from decide_eq_true rfl] at heq
          simp only [List.length_map] at heq
          have HEQ := Lib.hid heq
          have HOW := Lib.hid hown
          have HPD8 := Lib.hid (HPD7.out.lift hbw)
          obtain ⟨sb, hsb⟩ : ∃ sb, shortN ns = sb := ⟨_, rfl⟩
          rw [hsb] at HTP ⊢
          clear hsb heq hra hro hown hbw HTO HPD7 HB57 HTA5
          go_wp2_with fail
          refine HEQ.out.mono ?_
          rintro e W9 ⟨rfl, hb9⟩
          have HB9 := Lib.hid (HB8.out.trans (hb9.mono HB8.out.size))
          have HB59 := Lib.hid (HB58.out.trans (hb9.mono HB58.out.size))
          have HOW9 := Lib.hid (own_below HOW.out hb9)
          have hpr2 := prop39_any AD cD _ _ W9 (HS2.out.below HB9.out (Nat.le_refl _)) (HPD8.out.lift hb9) HPI2.out
          rw [HPN2.out, List.length_map] at hpr2
          have HPR := Lib.hid hpr2
          clear hb9 hpr2 HEQ HOW HPD8 HB8 HB58
          go_wp2_with fail
          refine HPR.out.mono ?_
          rintro e W10 ⟨⟨vd, rfl, htd⟩, hb10⟩
          obtain ⟨Aq, cq, rfl⟩ := htd.shape
          have HB10 := Lib.hid (HB9.out.trans (hb10.mono HB9.out.size))
          have HB5A := Lib.hid (HB59.out.trans (hb10.mono HB59.out.size))
          have HOW10 := Lib.hid (own_below HOW9.out hb10)
          obtain ⟨_, _, e1, _, _, hra⟩ := Row.of_own (HTB5.out.below HB5A.out)
          cases e1
          obtain ⟨_, _, e2, _, _, hro⟩ := Row.of_own htd
          cases e2
          have heq := slEqI_any Ab Aq cb cq (nd.map decDigits) (nd.map decDigits) W10 (by rw [List.length_map]; exact hra) (by rw [List.length_map]; exact hro) (by rw [List.length_map, HD0.out]; have := HN6.out; omega)
          rw [show decide (nd.map decDigits = nd.map decDigits) = true from decide_eq_true rfl] at heq
          simp only [List.length_map] at heq
          have HEQ := Lib.hid heq
          clear heq hra hro htd hb10 HPR HOW9 HB9 HB59
          go_wp2_with fail
          refine HEQ.out.mono ?_
          rintro e W11 ⟨rfl, hb11⟩
          have HB11 := Lib.hid (HB10.out.trans (hb11.mono HB10.out.size))
          have hjn := join_own W7.heap.size u18 (ns.map decDigits) [58] W11 (by rw [List.length_map]; exact own_below HOW10.out hb11) (by rw [HJT.out]; have := HTL.out; omega) (by rw [List.length_map]; have := HN0.out.2; omega)
          rw [HJT.out] at hjn
          have HJN := Lib.hid hjn
          clear hb11 hjn HEQ HOW10 HB10 HB5A
          go_wp2_with fail
          refine HJN.out.mono ?_
          rintro e W12 ⟨rfl, hb12⟩
          have HB12 := Lib.hid (HB11.out.trans (hb12.mono HB11.out.size))
          have HPS := Lib.hid (chParse_any _ p T mx W12 (HS2.out.below HB12.out (Nat.le_refl _)) (HP2.out.lift HB12.out) (HM.out W12 (HB2.out.trans (HB12.out.mono HB2.out.size))) (by have := HTL.out; omega))
          clear hb12 HJN HB11
          go_wp2_with fail
          refine HPS.out.mono ?_
          rintro e W13 ⟨hpo, hb13⟩
          have HB13 := Lib.hid (HB12.out.trans (hb13.mono HB12.out.size))
          have htp := HTP.out
          clear hb13 HPS HB12 HTP
          cases sb
          · obtain ⟨h1, h2⟩ := htp
            rw [if_neg (by decide)] at h1 h2
            rw [h1, h2] at hpo
            clear h1 h2
            rcases hpo with ⟨h, _⟩ | ⟨_, rfl⟩
            · cases h
            go_wp2_with fail
            go_ret
            exact ⟨rfl, HB2.out.trans (HB13.out.mono HB2.out.size)⟩
          · obtain ⟨h1, h2⟩ := htp
            rw [if_pos rfl] at h1 h2
            rw [h1, h2] at hpo
            clear h1 h2
            rcases hpo with ⟨_, vk, rfl, hlr⟩ | ⟨h, _⟩
            case inr => exact absurd rfl h
            obtain ⟨Ak, ck, rfl⟩ := hlr.shape
            have HK13 : Box (RowsAt W13 W13.heap.size Ak (rootL l (l[0]?.getD []))) := ⟨hlr.rows.2⟩
            have HRO := Lib.hid (rooted_first39 AL cl l W13 (HL2.out.lift HB13.out) HL0.out (by have := HN6.out; omega) p.length (by have := HPL.out; omega) HBA.out.len HG.out.lb)
            clear hlr
            have HRL : Hid ((rootL l (l[0]?.getD [])).length ≤ 1000000) := Lib.hid (by rw [rootL_len]; have := HN6.out; omega)
            generalize rootL l (l[0]?.getD []) = R at *
            go_wp2_with fail
            refine HRO.out.mono ?_
            rintro e W14 ⟨⟨vr, rfl, hrd⟩, hb14⟩
            have hlr := hrd.lrow
            obtain ⟨Ar, cr, rfl⟩ := hlr.shape
            have HB14 := Lib.hid (HB13.out.trans (hb14.mono HB13.out.size))
            have hsm := same_any39 Ak Ar ck cr R R W14 (HK13.out.lift hb14) hlr.rows.2 HRL.out
            rw [show rowsEq R R = true from decide_eq_true rfl] at hsm
            have HSM := Lib.hid hsm
            clear hsm hlr hrd hb14 HRO
            go_wp2_with fail
            refine HSM.out.mono ?_
            rintro e W15 ⟨rfl, hb15⟩
            go_wp2_with fail
            go_ret
            exact ⟨rfl, HB2.out.trans ((HB14.out.trans (hb15.mono HB14.out.size)).mono HB2.out.size)⟩

end Go.Proofs.YtaiglcbgllnciaaGreatDoor
