/- ChordDyads: the walk. -/
import Derived.Test.YteenfcmnmenigaaGreatDoorGCG
import Derived.Test.YteenfcmnmenigaaGreatDoorDd0G
import Derived.Test.YteenfcmnmenigaaGreatDoorGCI
import Derived.Test.YteenfcmnmenigaaGreatDoorArgRowsCG
import Derived.Deep.RegionHeld3
import Derived.Deep.AppendLies
namespace Go.Proofs.YteenfcmnmenigaaGreatDoor
open Go.RowKit Go.Lib

set_option maxRecDepth 100000 in
set_option maxHeartbeats 1500000 in
theorem dyads_walk (pv : Value) (p : List Int) (lv : Value) (l : List (List Int)) (w : World) (hS : Std w) (hm : ∃ m, w.cell? ⟨2, 0, Option.none⟩ = some (.int .i64 m)) (hp : IsRow w w.heap.size pv p) (hl : RowsArgC w lv l) :
    Calls Tryz.prog 4 #[pv, lv] w fun e w' => e = .returned (.bool true) ∧ Below w.heap.size w w' := by
  obtain ⟨i0, hi0, hz0, hz1, hz2⟩ := info_parts Tryz.info_row
  obtain ⟨m, hm⟩ := hm
  obtain ⟨AL, cl, rfl, hlc, hlm, hl⟩ := hl
  have HS := Lib.hid hS
  have HP := Lib.hid hp
  have HL : Box (RowsAt w w.heap.size AL l) := ⟨hl⟩
  have HK := Lib.hid (fun (W : World) (hb : Below w.heap.size w W) => known_any39 W m (hS.below hb (Nat.le_refl _)) (keep_cell hm hb))
  unfold maxLen at hlm
  have hll : l.length ≤ 9223372036854775807 := by omega
  have HLM : Box (cl ≤ 9223372036854775807 ∧ l.length ≤ cl) := ⟨by omega, hlc⟩
  obtain ⟨AP, cp, rfl⟩ := hp.shape
  clear hm hl hS hlm hlc hp
  by_cases h6 : 6 < l.length
  · have d6 : decide ((6 : Int) < (l.length : Int)) = true := by rw [decide_eq_true_iff]; omega
    go_enter Tryz.func4, Tryz.ntmps4
    go_wp2_with fail
    refine (HK.out w (Below.refl _ _)).mono ?_
    rintro e w1 ⟨rfl, hb1⟩
    go_wp2_with fail
    refine (HK.out w1 hb1).mono ?_
    rintro e w2 ⟨rfl, hb2⟩
    go_wp2_with fail
    go_ret
    exact ⟨rfl, hb1.trans (hb2.mono hb1.size)⟩
  have d6 : decide ((6 : Int) < (l.length : Int)) = false := by rw [decide_eq_false_iff_not]; omega
  have H6 : Box (l.length ≤ 6) := ⟨by omega⟩
  have HLC := Lib.hid (fun (W : World) (hb : Below w.heap.size w W) => lwCheck_any _ p AL cl l W (HS.out.below hb (Nat.le_refl _)) (HP.out.lift hb) (HL.out.lift hb) (by omega))
  clear h6
  by_cases h0 : chErr p l = 0
  case neg =>
    have hE : (chErr p l != 0) = true := by simpa using h0
    clear h0
    generalize chErr p l = V at *
    go_enter Tryz.func4, Tryz.ntmps4
    go_wp2_with fail
    refine (HK.out w (Below.refl _ _)).mono ?_
    rintro e w1 ⟨rfl, hb1⟩
    go_wp2_with fail
    refine (HLC.out w1 hb1).mono ?_
    rintro e w2 ⟨rfl, hb2⟩
    have hbx := hb1.trans (hb2.mono hb1.size)
    clear hb1 hb2
    go_wp2_with fail
    refine (HK.out w2 hbx).mono ?_
    rintro e w3 ⟨rfl, hb3⟩
    go_wp2_with fail
    go_ret
    exact ⟨rfl, hbx.trans (hb3.mono hbx.size)⟩
  have hk := chOk_of h0
  have HKC : Box (ChOk p l) := ⟨hk⟩
  have hpos := hk.pos
  have HLN : Box (∀ x ∈ l, x.length = p.length) := ⟨fun x hx => (right_of (hk.chk x hx)).len⟩
  have HPN : Box (p.length ≤ 6) := ⟨(right_of (hk.chk _ (List.getElem_mem hpos))).six⟩
  have HBD : Box (∀ x ∈ l, ∀ j : Nat, (x[j]?.getD 0).natAbs ≤ 1000000) := ⟨fun x hx j => by
    by_cases hj : j < x.length
    · have := (right_of (hk.chk x hx)).ex j hj; omega
    · rw [List.getElem?_eq_none (by omega)]; decide⟩
  rw [h0] at HLC
  clear h0
  have HRT := Lib.hid (fun (W : World) (hb : Below w.heap.size w W) => chRoot_ok _ p AL cl l W (HS.out.below hb (Nat.le_refl _)) (HP.out.lift hb) (HL.out.lift hb) HKC.out)
  have HDY := Lib.hid (fun (W : World) (hb : Below w.heap.size w W) => chDyads_ok _ p AL cl l W (HS.out.below hb (Nat.le_refl _)) (HP.out.lift hb) (HL.out.lift hb) HKC.out HLM.out.2 HLM.out.1)
  have HSP := Lib.hid (fun (W : World) (hb : Below w.heap.size w W) => chSpan_ok _ p AL cl l W (HS.out.below hb (Nat.le_refl _)) (HP.out.lift hb) (HL.out.lift hb) HKC.out)
  have HRO := Lib.hid (fun (W : World) (hb : Below w.heap.size w W) => rooted_any39 AL cl l 0 W (HL.out.lift hb) hpos (by have := H6.out; omega) p.length (by have := HPN.out; omega) HLN.out HBD.out)
  have hg0 : l[0]?.getD [] = l[0] := by rw [List.getElem?_eq_getElem hpos]; rfl
  have HG0 := Lib.hid hg0
  clear hk hg0
  go_enter Tryz.func4, Tryz.ntmps4
  go_wp2_with fail
  refine (HK.out w (Below.refl _ _)).mono ?_
  rintro e w1 ⟨rfl, hb1⟩
  go_wp2_with fail
  refine (HLC.out w1 hb1).mono ?_
  rintro e w2 ⟨rfl, hb2⟩
  have hbx := hb1.trans (hb2.mono hb1.size)
  clear hb1 hb2 HLC HK
  go_wp2_with fail
  refine (HRT.out w2 hbx).mono ?_
  rintro e w3 ⟨hpo, hb3⟩
  obtain ⟨Aa, na, ca, za, rfl⟩ := hpo.shape
  have hlg := hpo.lg HKC.out.pe HLN.out
  rw [HG0.out] at hlg
  have HA := Lib.hid hlg
  replace hbx := hbx.trans (hb3.mono hbx.size)
  clear hpo hlg hb3 HRT
  go_wp2_with fail
  refine (HDY.out w3 hbx).mono ?_
  rintro e w4 ⟨hpo, hb4⟩
  obtain ⟨Ab, nb, cb, zb, rfl⟩ := hpo.shape
  have HB := Lib.hid (hpo.lg HKC.out.pe HLN.out)
  have HA4 : Hid (LgPost (rootL l l[0]) Aa na za w4) := Lib.hid (by
    rcases HA.out with ⟨q1, q2, q3, q4⟩ | q
    · exact .inl ⟨q1, q2, q3, q4.lift hb4⟩
    · exact .inr q)
  replace hbx := hbx.trans (hb4.mono hbx.size)
  clear hpo hb4 HDY HA
  go_wp2_with fail
  refine (HSP.out w4 hbx).mono ?_
  rintro e w5 ⟨hpo, hb5⟩
  obtain ⟨As, ns, cs, zs, rfl⟩ := hpo.shape
  have hls : (l[l.length - 1]?.getD []).length = p.length := by
    rw [List.getElem?_eq_getElem (by omega)]; exact HLN.out _ (List.getElem_mem _)
  have HC := Lib.hid (hpo.sp HKC.out.pe hls)
  have HA5 : Hid (LgPost (rootL l l[0]) Aa na za w5) := Lib.hid (by
    rcases HA4.out with ⟨q1, q2, q3, q4⟩ | q
    · exact .inl ⟨q1, q2, q3, q4.lift hb5⟩
    · exact .inr q)
  have HB5 : Hid (LgPost (dyadsL l) Ab nb zb w5) := Lib.hid (by
    rcases HB.out with ⟨q1, q2, q3, q4⟩ | q
    · exact .inl ⟨q1, q2, q3, q4.lift hb5⟩
    · exact .inr q)
  replace hbx := hbx.trans (hb5.mono hbx.size)
  clear hpo hb5 HSP HA4 HB hls
  go_wp2_with fail
  refine (HRO.out w5 hbx).mono ?_
  rintro e w6 ⟨⟨vr, rfl, hlr⟩, hb6⟩
  obtain ⟨gr, cr, rfl, hcr⟩ : ∃ g c, vr = .slice (some ⟨g, 0, Option.none⟩) (rootL l l[0]).length c ∧ (rootL l l[0]).length ≤ c := by
    obtain ⟨vs, h1, _⟩ := hlr
    rcases h1.2 with ⟨_, h⟩ | ⟨g, cap, cur, hv, _, _, h4, _⟩
    · have := rootL_len l l[0]; omega
    · exact ⟨g, cap, hv, h4⟩
  have HCR := Lib.hid hcr
  clear hcr
  have HR6 : Box (RowsAt w6 w6.heap.size (some ⟨gr, 0, Option.none⟩) (rootL l l[0])) := ⟨hlr.rows.2⟩
  have HB56 := Lib.hid hb6
  have HBX := Lib.hid (hbx.trans (hb6.mono hbx.size))
  clear hb6 hlr HRO hbx
  go_wp2_with fail
  go_loopw [12, 52] (fun o i wr => ∃ (k : Nat), k ≤ l.length ∧ i = .int .i64 k ∧ LRow wr w6.heap.size o (dyTo l k) ∧ Below w6.heap.size w6 wr) (fun _ i _ => l.length - (intOf i).toNat)
  case atStart => exact ⟨0, Nat.zero_le _, rfl, LRow.nil _ _, Below.refl _ _⟩
  case round =>
    obtain ⟨i, hi, rfl, hlr, hbw⟩ := hrel
    by_cases hlt : i < l.length
    · have HLR := Lib.hid hlr
      have HBW := Lib.hid hbw
      have hwi : IntKind.i64.wrap ((i : Int) + 1) = (i : Int) + 1 := IntWalk.i64_in _ (by omega)
      clear hlr hbw
      rename World => W1
      go_wp2_with fail
      go_loopw [12, 14] (fun o q wr => ∃ (j : Nat), i + 1 + j ≤ l.length ∧ q = .int .i64 ((i + 1 + j : Nat) : Int) ∧ LRow wr w6.heap.size o (dnTo l i j) ∧ Below w6.heap.size w6 wr) (fun _ q _ => l.length - (intOf q).toNat)
      case atStart => exact ⟨0, by omega, by go_num, by rw [dnTo_zero]; exact HLR.out, HBW.out⟩
      case round =>
        clear HLR HBW
        obtain ⟨j, hj, rfl, hlr, hbw⟩ := hrel
        by_cases hlt2 : i + 1 + j < l.length
        · have HB6 := Lib.hid (HBX.out.trans (hbw.mono HBX.out.size))
          obtain ⟨b, o, xv, rfl, hab, hcx, hrx⟩ := rows_pl HL.out (List.getElem?_eq_getElem hlt2)
          obtain ⟨b', o', rv, e', hab2, hcr, hrr⟩ := rows_pl HL.out (List.getElem?_eq_getElem hlt)
          cases e'
          have hcx' := (HB6.out.cell (p := ⟨b, o + (i + 1 + j), Option.none⟩) hab).trans hcx
          have hcr' := (HB6.out.cell (p := ⟨b, o + i, Option.none⟩) hab).trans hcr
          have HNX : Hid (dnTo l i (j + 1) = dnTo l i j ++ [difI l[i + 1 + j] l[i]]) := Lib.hid (dnTo_next (List.getElem?_eq_getElem hlt2) (List.getElem?_eq_getElem hlt))
          have HXL := Lib.hid (HLN.out _ (List.getElem_mem hlt2))
          have HRL := Lib.hid (HLN.out _ (List.getElem_mem hlt))
          have HXB : Box (∀ t : Nat, ((l[i + 1 + j]'hlt2)[t]?.getD 0).natAbs ≤ 1000000) := ⟨HBD.out _ (List.getElem_mem hlt2)⟩
          have HRB : Box (∀ t : Nat, ((l[i]'hlt)[t]?.getD 0).natAbs ≤ 1000000) := ⟨HBD.out _ (List.getElem_mem hlt)⟩
          have HLE : Box ((dnTo l i j).length ≤ 200) := ⟨dnTo_len2 l (by have := H6.out; omega) i j (by have := H6.out; omega)⟩
          generalize l[i + 1 + j]'hlt2 = x at *
          generalize l[i]'hlt = r at *
          have HSU := Lib.hid (fun (W : World) (h : Below wr.heap.size wr W) => sub_any39 xv rv x r W ((hrx.lift HB6.out).lift h) ((hrr.lift HB6.out).lift h) (by rw [HXL.out, HRL.out]) (by rw [HXL.out]; have := HPN.out; omega) (fun t => ⟨HXB.out t, HRB.out t⟩))
          obtain ⟨AX, cx, rfl⟩ := hrx.shape
          obtain ⟨AR, cr2, rfl⟩ := hrr.shape
          obtain ⟨vs, hown, hvs⟩ := hlr
          have HO := Lib.hid hown
          have HVS := Lib.hid hvs
          have hwk : w6.heap.size ≤ wr.heap.size := hbw.size
          have hle := HLE.out
          have HB := Lib.hid hbw
          have hi1 : (i : Int) < (l.length : Int) := by omega
          have hi2 : (0 : Int) ≤ (i : Int) := by omega
          have hk1 : (i : Int) + 1 + (j : Int) < (l.length : Int) := by omega
          have hk2 : (0 : Int) ≤ (i : Int) + 1 + (j : Int) := by omega
          have hk3 : ((i : Int) + 1 + (j : Int)).toNat = i + 1 + j := by omega
          clear hown hvs hbw hcx hcr hrx hrr
          have hab7 : b < w6.heap.size := Nat.lt_of_lt_of_le hab HBX.out.size
          have hB : Below wr.heap.size wr wr.drew := below_drew (Below.refl _ _)
          go_wp2_with fail
          go_region_held3 (fun w' => w'.cell? ⟨b, o + (i + 1 + j), Option.none⟩ = some (.slice AX x.length cx) ∧ w'.cell? ⟨b, o + i, Option.none⟩ = some (.slice AR r.length cr2))
            (first | exact ⟨keep_cell hcx' hB, keep_cell hcr' hB⟩ | exact ⟨(hgrow.cell_far _ (by simp; omega) (fun e => by have := (HO7.out.lt _ e.symm).1; simp at this; omega)).trans (keep_cell hcx' (hB.alloc hB.size _)), (hgrow.cell_far _ (by simp; omega) (fun e => by have := (HO7.out.lt _ e.symm).1; simp at this; omega)).trans (keep_cell hcr' (hB.alloc hB.size _))⟩ | go_keep)
            ((first
              | (go_at_call 19; (with_reducible refine (HSU.out _ hB).mono ?_); rintro e w7 ⟨⟨rv, rfl, hrv⟩, hbk⟩; replace hB := hB.trans (hbk.mono hB.size); clear hbk; obtain ⟨AV, cv, e9⟩ := hrv.shape; subst e9; have HO7 := Lib.hid (own_below HO.out hB); have HV7 := Lib.hid hrv; clear hrv; have hwk7 : w6.heap.size ≤ w7.heap.size := Nat.le_trans hwk hB.size)
              | (refine step_append_lies _ (by rfl) _ _ _ (by rfl) w6.heap.size 31 i0 _ 1 24 Tryz.underlying24 hi0 hz0 hz1 hz2 rfl (by omega) u12 (dnTo l i j).length vs (by rfl) (HO7.out.alloc _) ⟨w7.heap.size, 0, Option.none⟩ 1 1 [.slice AV (difI x r).length cv] (by rfl) (by rfl) (World.news_of_block (cs := #[.slice AV (difI x r).length cv]) (t := 31) (fr := (0, 0)) (heap_alloc_new w7 _)) (by simp [Value.oneCell']) (by omega) (by unfold maxLen; omega) (by omega) (by simp; omega) (w7.heap.size + 1) (by simp) ?_; intro gg cap w3 hown3 hgrow hat hlt3)))
          have HBN := Lib.hid ((((HB.out.trans (hB.mono HB.out.size)).alloc hwk7 (.cells #[.slice AV (difI x r).length cv] 31)).grown hgrow (by simp; omega) (fun k hk => (HO7.out.lt k hk).1)))
          have HLN9 := Lib.hid (LRow.snoc (HO7.out.alloc _) (fun t y ht => by obtain ⟨u, h1, h2⟩ := HVS.out t y ht; exact ⟨u, h1, (h2.below hB).alloc _⟩) (HV7.out.alloc _) hown3 hgrow)
          rw [← HNX.out] at HLN9
          go_wp2_with fail
          go_roundw
          case rel => exact ⟨j + 1, by omega, by go_num, HLN9.out, HBN.out⟩
          case measure => simp [intOf]; omega
        · have hend : j = l.length - (i + 1) := by omega
          rw [dnTo_all l i hend] at hlr
          have HLR := Lib.hid hlr
          have HB := Lib.hid hbw
          have hfin : i + 1 + j = l.length := by omega
          have hcl : ((i : Int) + 1 + (j : Int)) = (l.length : Int) := by omega
          clear hlr hbw hend
          go_wp2_with fail
          go_roundw
          case rel => exact ⟨i + 1, by omega, by go_num, HLR.out, HB.out⟩
          case measure => simp [intOf]; omega
    · obtain rfl : i = l.length := by omega
      have hda : dyTo l l.length = dyadsL l := rfl
      rw [hda] at hlr
      obtain ⟨Ad, cd, rfl⟩ := hlr.shape
      have HD9 : Box (RowsAt wr wr.heap.size Ad (dyadsL l)) := ⟨hlr.rows.2⟩
      have HR9 : Box (RowsAt wr wr.heap.size (some ⟨gr, 0, Option.none⟩) (rootL l l[0])) := ⟨HR6.out.lift hbw⟩
      have hb59 := HB56.out.trans (hbw.mono HB56.out.size)
      have HPA : Hid (LgPost (rootL l l[0]) Aa na za wr) := Lib.hid (by
        rcases HA5.out with ⟨q1, q2, q3, q4⟩ | q
        · exact .inl ⟨q1, q2, q3, q4.lift hb59⟩
        · exact .inr q)
      have HPB : Hid (LgPost (dyadsL l) Ab nb zb wr) := Lib.hid (by
        rcases HB5.out with ⟨q1, q2, q3, q4⟩ | q
        · exact .inl ⟨q1, q2, q3, q4.lift hb59⟩
        · exact .inr q)
      have HPC : Hid (SpPost (difI (l[l.length - 1]?.getD []) (l[0]?.getD [])) As ns cs zs wr) := Lib.hid (by
        rcases HC.out with ⟨q1, q2, q3, q4⟩ | q
        · exact .inl ⟨q1, q2, q3, q4.lift hb59⟩
        · exact .inr q)
      have HBZ := Lib.hid (HBX.out.trans (hbw.mono HBX.out.size))
      have hrn : (rootL l l[0]).length = l.length := rootL_len _ _
      have hlx : l.length - 1 < (rootL l l[0]).length := by rw [hrn]; omega
      have hdx : (rootL l l[0])[l.length - 1]? = some (difI (l[l.length - 1]?.getD []) (l[0]?.getD [])) := by
        unfold rootL
        rw [List.getElem?_map, List.getElem?_eq_getElem (show l.length - 1 < l.length by omega), HG0.out]
        rfl
      have hdrop : (rootL l l[0]).drop (l.length - 1) = [difI (l[l.length - 1]?.getD []) (l[0]?.getD [])] := by
        rw [List.drop_eq_getElem_cons hlx, List.drop_of_length_le (by omega)]
        have := (List.getElem?_eq_some_iff.1 hdx).2
        rw [this]
      obtain ⟨bq, oq, sv, e8, hgr, hspc, hspr⟩ := rows_pl HR9.out hdx
      obtain ⟨rfl, rfl⟩ : bq = gr ∧ oq = 0 := by injection e8 with e8; injection e8 with e8 e9; exact ⟨e8.symm, e9.symm⟩
      rw [Nat.zero_add] at hspc
      have HSPD : Box (RowsAt wr wr.heap.size (some ⟨bq, l.length - 1, Option.none⟩) [difI (l[l.length - 1]?.getD []) (l[0]?.getD [])]) := ⟨by
        have := RowsAt.drop HR9.out (l.length - 1)
        rw [Nat.zero_add, hdrop] at this
        exact this⟩
      have HN1 : Box ((rootL l l[0]).length ≤ 9223372036854775807 ∧ (rootL l l[0]).length ≤ 1000000 ∧ (dyadsL l).length ≤ 1000000) := ⟨by have := H6.out; omega, by have := H6.out; omega, by have := ddTo_lenD l (by have := H6.out; omega); omega⟩
      have HLA := Lib.hid (fun (W : World) (h : Below wr.heap.size wr W) => long_any39 (some ⟨bq, 0, Option.none⟩) cr (rootL l l[0]) W (HR9.out.lift h) HN1.out.1)
      have HSA := Lib.hid (fun (W : World) (h : Below wr.heap.size wr W) (h2 : RowsAt W W.heap.size Aa (rootL l l[0])) => same_any39 Aa (some ⟨bq, 0, Option.none⟩) ca cr (rootL l l[0]) (rootL l l[0]) W h2 (HR9.out.lift h) HN1.out.2.1)
      have HLB := Lib.hid (fun (W : World) (h : Below wr.heap.size wr W) => long_any39 Ad cd (dyadsL l) W (HD9.out.lift h) (by have := HN1.out.2.2; omega))
      have HSB := Lib.hid (fun (W : World) (h : Below wr.heap.size wr W) (h2 : RowsAt W W.heap.size Ab (dyadsL l)) => same_any39 Ab Ad cb cd (dyadsL l) (dyadsL l) W h2 (HD9.out.lift h) HN1.out.2.2)
      have HLC2 := Lib.hid (fun (W : World) (h : Below wr.heap.size wr W) => long_any39 (some ⟨bq, l.length - 1, Option.none⟩) (cr - (l.length - 1)) [difI (l[l.length - 1]?.getD []) (l[0]?.getD [])] W (HSPD.out.lift h) (by simp))
      have HSC := Lib.hid (fun (W : World) (h : Below wr.heap.size wr W) (h2 : IsRow W W.heap.size (.slice As ns cs) (difI (l[l.length - 1]?.getD []) (l[0]?.getD []))) => slEq_any (.slice As ns cs) sv _ _ W h2 (hspr.lift h))
      rw [show rowsEq (rootL l l[0]) (rootL l l[0]) = true from decide_eq_true rfl] at HSA
      rw [show rowsEq (dyadsL l) (dyadsL l) = true from decide_eq_true rfl] at HSB
      rw [show sameB (difI (l[l.length - 1]?.getD []) (l[0]?.getD [])) (difI (l[l.length - 1]?.getD []) (l[0]?.getD [])) = true from decide_eq_true rfl] at HSC
      obtain ⟨A7, c7, rfl⟩ := hspr.shape
      rw [show ([difI (l[l.length - 1]?.getD []) (l[0]?.getD [])] : List (List Int)).length = 1 from rfl] at HLC2
      have hcr := HCR.out
      rw [hrn] at hcr
      have hc1 : ¬ cr = l.length - 1 := by omega
      have hw1 : IntKind.i64.wrap ((l.length : Int) - 1) = ((l.length - 1 : Nat) : Int) := by rw [show (l.length : Int) - 1 = ((l.length - 1 : Nat) : Int) by omega]; exact IntWalk.i64_in _ (by have := H6.out; omega)
      have hw0 : IntKind.i64.wrap ((l.length - 1 : Nat) : Int) = ((l.length - 1 : Nat) : Int) := IntWalk.i64_in _ (by have := H6.out; omega)
      have hs1 : l.length - (l.length - 1) = 1 := by omega
      rw [hrn] at HLA HSA
      have hbz : Below wr.heap.size wr wr := Below.refl _ _
      clear hbw hb59 hda hlr hdx hdrop hspr hlx HA5 HB5 HC
      rename World => W9
      rw [hrn]
      generalize difI (l[l.length - 1]?.getD []) (l[0]?.getD []) = dx at *
      generalize rootL l l[0] = rt at *
      generalize dyadsL l = dd at *
      rcases HPA.out with ⟨q1, rfl, rfl, q4⟩ | ⟨q1, rfl, rfl⟩
      · have HQ := Lib.hid (fun (W : World) (h : Below W9.heap.size W9 W) => HSA.out W h (q4.lift h))
        have HL1 := Lib.hid (fun (W : World) (h : Below W9.heap.size W9 W) => HLA.out W h)
        rw [q1] at HL1
        clear q1 q4
        go_wp2_with fail
        refine (HL1.out _ hbz).mono ?_
        rintro e wz ⟨rfl, hb1⟩
        replace hbz := hbz.trans (hb1.mono hbz.size)
        clear hb1
        go_wp2_with fail
        refine (HL1.out _ hbz).mono ?_
        rintro e wz ⟨rfl, hb1⟩
        replace hbz := hbz.trans (hb1.mono hbz.size)
        clear hb1
        go_wp2_with fail
        refine (HQ.out _ hbz).mono ?_
        rintro e wz ⟨rfl, hb1⟩
        replace hbz := hbz.trans (hb1.mono hbz.size)
        clear hb1
        clear HQ HL1
        rcases HPB.out with ⟨q1, rfl, rfl, q4⟩ | ⟨q1, rfl, rfl⟩
        · have HQ := Lib.hid (fun (W : World) (h : Below W9.heap.size W9 W) => HSB.out W h (q4.lift h))
          have HL1 := Lib.hid (fun (W : World) (h : Below W9.heap.size W9 W) => HLB.out W h)
          rw [q1] at HL1
          clear q1 q4
          go_wp2_with fail
          refine (HL1.out _ hbz).mono ?_
          rintro e wz ⟨rfl, hb1⟩
          replace hbz := hbz.trans (hb1.mono hbz.size)
          clear hb1
          go_wp2_with fail
          refine (HL1.out _ hbz).mono ?_
          rintro e wz ⟨rfl, hb1⟩
          replace hbz := hbz.trans (hb1.mono hbz.size)
          clear hb1
          go_wp2_with fail
          refine (HQ.out _ hbz).mono ?_
          rintro e wz ⟨rfl, hb1⟩
          replace hbz := hbz.trans (hb1.mono hbz.size)
          clear hb1
          clear HQ HL1
          rcases HPC.out with ⟨q1, rfl, rfl, q4⟩ | ⟨q1, rfl, rfl⟩
          · have HQ := Lib.hid (fun (W : World) (h : Below W9.heap.size W9 W) => HSC.out W h (q4.lift h))
            have HL1 := Lib.hid (fun (W : World) (h : Below W9.heap.size W9 W) => HLC2.out W h)
            rw [q1] at HL1
            clear q1 q4
            go_wp2_with fail
            refine (HL1.out _ hbz).mono ?_
            rintro e wz ⟨rfl, hb1⟩
            replace hbz := hbz.trans (hb1.mono hbz.size)
            clear hb1
            go_wp2_with fail
            refine (HL1.out _ hbz).mono ?_
            rintro e wz ⟨rfl, hb1⟩
            replace hbz := hbz.trans (hb1.mono hbz.size)
            clear hb1
            have hsc := (hbz.cell (p := ⟨bq, l.length - 1, Option.none⟩) hgr).trans hspc
            go_wp2_with fail
            refine (HQ.out _ hbz).mono ?_
            rintro e wz ⟨rfl, hb1⟩
            go_wp2_with fail
            go_ret
            exact ⟨rfl, HBZ.out.trans ((hbz.trans (hb1.mono hbz.size)).mono HBZ.out.size)⟩
          · have HL1 := Lib.hid (fun (W : World) (h : Below W9.heap.size W9 W) => HLC2.out W h)
            rw [q1] at HL1
            clear q1
            go_wp2_with fail
            refine (HL1.out _ hbz).mono ?_
            rintro e wz ⟨rfl, hb1⟩
            go_wp2_with fail
            go_ret
            exact ⟨rfl, HBZ.out.trans ((hbz.trans (hb1.mono hbz.size)).mono HBZ.out.size)⟩
        · have HL1 := Lib.hid (fun (W : World) (h : Below W9.heap.size W9 W) => HLB.out W h)
          rw [q1] at HL1
          clear q1
          go_wp2_with fail
          refine (HL1.out _ hbz).mono ?_
          rintro e wz ⟨rfl, hb1⟩
          replace hbz := hbz.trans (hb1.mono hbz.size)
          clear hb1
          go_wp2_with fail
          refine (HL1.out _ hbz).mono ?_
          rintro e wz ⟨rfl, hb1⟩
          replace hbz := hbz.trans (hb1.mono hbz.size)
          clear hb1
          clear HL1
          rcases HPC.out with ⟨q1, rfl, rfl, q4⟩ | ⟨q1, rfl, rfl⟩
          · have HQ := Lib.hid (fun (W : World) (h : Below W9.heap.size W9 W) => HSC.out W h (q4.lift h))
            have HL1 := Lib.hid (fun (W : World) (h : Below W9.heap.size W9 W) => HLC2.out W h)
            rw [q1] at HL1
            clear q1 q4
            go_wp2_with fail
            refine (HL1.out _ hbz).mono ?_
            rintro e wz ⟨rfl, hb1⟩
            replace hbz := hbz.trans (hb1.mono hbz.size)
            clear hb1
            go_wp2_with fail
            refine (HL1.out _ hbz).mono ?_
            rintro e wz ⟨rfl, hb1⟩
            replace hbz := hbz.trans (hb1.mono hbz.size)
            clear hb1
            have hsc := (hbz.cell (p := ⟨bq, l.length - 1, Option.none⟩) hgr).trans hspc
            go_wp2_with fail
            refine (HQ.out _ hbz).mono ?_
            rintro e wz ⟨rfl, hb1⟩
            go_wp2_with fail
            go_ret
            exact ⟨rfl, HBZ.out.trans ((hbz.trans (hb1.mono hbz.size)).mono HBZ.out.size)⟩
          · have HL1 := Lib.hid (fun (W : World) (h : Below W9.heap.size W9 W) => HLC2.out W h)
            rw [q1] at HL1
            clear q1
            go_wp2_with fail
            refine (HL1.out _ hbz).mono ?_
            rintro e wz ⟨rfl, hb1⟩
            go_wp2_with fail
            go_ret
            exact ⟨rfl, HBZ.out.trans ((hbz.trans (hb1.mono hbz.size)).mono HBZ.out.size)⟩
      · have HL1 := Lib.hid (fun (W : World) (h : Below W9.heap.size W9 W) => HLA.out W h)
        rw [q1] at HL1
        clear q1
        go_wp2_with fail
        refine (HL1.out _ hbz).mono ?_
        rintro e wz ⟨rfl, hb1⟩
        replace hbz := hbz.trans (hb1.mono hbz.size)
        clear hb1
        go_wp2_with fail
        refine (HL1.out _ hbz).mono ?_
        rintro e wz ⟨rfl, hb1⟩
        replace hbz := hbz.trans (hb1.mono hbz.size)
        clear hb1
        clear HL1
        rcases HPB.out with ⟨q1, rfl, rfl, q4⟩ | ⟨q1, rfl, rfl⟩
        · have HQ := Lib.hid (fun (W : World) (h : Below W9.heap.size W9 W) => HSB.out W h (q4.lift h))
          have HL1 := Lib.hid (fun (W : World) (h : Below W9.heap.size W9 W) => HLB.out W h)
          rw [q1] at HL1
          clear q1 q4
          go_wp2_with fail
          refine (HL1.out _ hbz).mono ?_
          rintro e wz ⟨rfl, hb1⟩
          replace hbz := hbz.trans (hb1.mono hbz.size)
          clear hb1
          go_wp2_with fail
          refine (HL1.out _ hbz).mono ?_
          rintro e wz ⟨rfl, hb1⟩
          replace hbz := hbz.trans (hb1.mono hbz.size)
          clear hb1
          go_wp2_with fail
          refine (HQ.out _ hbz).mono ?_
          rintro e wz ⟨rfl, hb1⟩
          replace hbz := hbz.trans (hb1.mono hbz.size)
          clear hb1
          clear HQ HL1
          rcases HPC.out with ⟨q1, rfl, rfl, q4⟩ | ⟨q1, rfl, rfl⟩
          · have HQ := Lib.hid (fun (W : World) (h : Below W9.heap.size W9 W) => HSC.out W h (q4.lift h))
            have HL1 := Lib.hid (fun (W : World) (h : Below W9.heap.size W9 W) => HLC2.out W h)
            rw [q1] at HL1
            clear q1 q4
            go_wp2_with fail
            refine (HL1.out _ hbz).mono ?_
            rintro e wz ⟨rfl, hb1⟩
            replace hbz := hbz.trans (hb1.mono hbz.size)
            clear hb1
            go_wp2_with fail
            refine (HL1.out _ hbz).mono ?_
            rintro e wz ⟨rfl, hb1⟩
            replace hbz := hbz.trans (hb1.mono hbz.size)
            clear hb1
            have hsc := (hbz.cell (p := ⟨bq, l.length - 1, Option.none⟩) hgr).trans hspc
            go_wp2_with fail
            refine (HQ.out _ hbz).mono ?_
            rintro e wz ⟨rfl, hb1⟩
            go_wp2_with fail
            go_ret
            exact ⟨rfl, HBZ.out.trans ((hbz.trans (hb1.mono hbz.size)).mono HBZ.out.size)⟩
          · have HL1 := Lib.hid (fun (W : World) (h : Below W9.heap.size W9 W) => HLC2.out W h)
            rw [q1] at HL1
            clear q1
            go_wp2_with fail
            refine (HL1.out _ hbz).mono ?_
            rintro e wz ⟨rfl, hb1⟩
            go_wp2_with fail
            go_ret
            exact ⟨rfl, HBZ.out.trans ((hbz.trans (hb1.mono hbz.size)).mono HBZ.out.size)⟩
        · have HL1 := Lib.hid (fun (W : World) (h : Below W9.heap.size W9 W) => HLB.out W h)
          rw [q1] at HL1
          clear q1
          go_wp2_with fail
          refine (HL1.out _ hbz).mono ?_
          rintro e wz ⟨rfl, hb1⟩
          replace hbz := hbz.trans (hb1.mono hbz.size)
          clear hb1
          go_wp2_with fail
          refine (HL1.out _ hbz).mono ?_
          rintro e wz ⟨rfl, hb1⟩
          replace hbz := hbz.trans (hb1.mono hbz.size)
          clear hb1
          clear HL1
          rcases HPC.out with ⟨q1, rfl, rfl, q4⟩ | ⟨q1, rfl, rfl⟩
          · have HQ := Lib.hid (fun (W : World) (h : Below W9.heap.size W9 W) => HSC.out W h (q4.lift h))
            have HL1 := Lib.hid (fun (W : World) (h : Below W9.heap.size W9 W) => HLC2.out W h)
            rw [q1] at HL1
            clear q1 q4
            go_wp2_with fail
            refine (HL1.out _ hbz).mono ?_
            rintro e wz ⟨rfl, hb1⟩
            replace hbz := hbz.trans (hb1.mono hbz.size)
            clear hb1
            go_wp2_with fail
            refine (HL1.out _ hbz).mono ?_
            rintro e wz ⟨rfl, hb1⟩
            replace hbz := hbz.trans (hb1.mono hbz.size)
            clear hb1
            have hsc := (hbz.cell (p := ⟨bq, l.length - 1, Option.none⟩) hgr).trans hspc
            go_wp2_with fail
            refine (HQ.out _ hbz).mono ?_
            rintro e wz ⟨rfl, hb1⟩
            go_wp2_with fail
            go_ret
            exact ⟨rfl, HBZ.out.trans ((hbz.trans (hb1.mono hbz.size)).mono HBZ.out.size)⟩
          · have HL1 := Lib.hid (fun (W : World) (h : Below W9.heap.size W9 W) => HLC2.out W h)
            rw [q1] at HL1
            clear q1
            go_wp2_with fail
            refine (HL1.out _ hbz).mono ?_
            rintro e wz ⟨rfl, hb1⟩
            go_wp2_with fail
            go_ret
            exact ⟨rfl, HBZ.out.trans ((hbz.trans (hb1.mono hbz.size)).mono HBZ.out.size)⟩

end Go.Proofs.YteenfcmnmenigaaGreatDoor
