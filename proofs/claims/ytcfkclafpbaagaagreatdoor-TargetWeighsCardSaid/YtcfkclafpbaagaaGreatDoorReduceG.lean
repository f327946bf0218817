/- TargetReduces: the walk. -/
import Derived.Test.YtcfkclafpbaagaaGreatDoorGTO
import Derived.Test.YtcfkclafpbaagaaGreatDoorGTN
import Derived.Test.YtcfkclafpbaagaaGreatDoorGTK
import Derived.Test.YtcfkclafpbaagaaGreatDoorGTJ
import Derived.Maps.AppendAt
namespace Go.Proofs.YtcfkclafpbaagaaGreatDoor
open Go.RowKit Go.Lib Go.Shelf

theorem rowsSame_refl : ∀ l : List (List Int), rowsSame l l = true
  | [] => rfl
  | x :: l => by unfold rowsSame; rw [rowsSame_refl l]; unfold sameB; simp

theorem chk_row {p : List Int} {l : List (List Int)} (h : ∀ y ∈ l, SmR p y) (hp : primeErr p = 0) : ∀ y ∈ l, chkAll p [y] = 0 := fun y hy => smR_chk hp (h y hy)

set_option maxRecDepth 100000 in
set_option maxHeartbeats 8000000 in
theorem reduce_walk (n : Nat) (v1 : Value) (l1 : List (List Int)) (w : World) (hS : Std w) (hn : n ≤ 255) (hF : FoursArg w v1 l1) :
    Calls Tryz.prog 3 #[.int .u8 n, v1] w fun e w' => e = .returned (.bool true) ∧ Below w.heap.size w w' := by
  obtain ⟨i0, hi0, hz0, hz1, hz2⟩ := info_parts Tryz.info_row
  have HK := Lib.hid (fun W hW => known_any29 W hW)
  have hF0 := hF
  obtain ⟨A, c, rfl, hlm, _⟩ := hF
  have HS := Lib.hid hS
  unfold maxLen at hlm
  have hll : l1.length ≤ 9223372036854775807 := by omega
  clear hlm hS
  by_cases h8 : 8 < l1.length
  · have d8 : decide ((8 : Int) < (l1.length : Int)) = true := by rw [decide_eq_true_iff]; omega
    clear hF0
    go_enter Tryz.func3, Tryz.ntmps3
    go_wp2_with fail
    refine (HK.out w HS.out).mono ?_
    rintro e w1 ⟨rfl, hb1⟩
    go_wp2_with fail
    refine (HK.out w1 (HS.out.below hb1 (Nat.le_refl _))).mono ?_
    rintro e w2 ⟨rfl, hb2⟩
    go_wp2_with fail
    go_ret
    exact ⟨rfl, hb1.trans (hb2.mono hb1.size)⟩
  · have d8 : decide ((8 : Int) < (l1.length : Int)) = false := by rw [decide_eq_false_iff_not]; omega
    have hl8 : l1.length ≤ 8 := by omega
    have HF := Lib.hid hF0
    obtain ⟨p, hpE⟩ : ∃ p, p = primesOf n := ⟨_, rfl⟩
    obtain ⟨a, LG, hT0⟩ := tabOk n
    rw [← hpE] at hT0
    have HPA : Hid (∀ W, Calls Tryz.prog 12 #[.int .u8 n] W fun e w' => (∃ B c, e = .returned (.slice B p.length c) ∧ IsRow w' w'.heap.size (.slice B p.length c) p) ∧ Below W.heap.size W w') := Lib.hid (fun W => by rw [hpE]; exact primes_any n W hn)
    have HN := Lib.hid hn
    clear hF0 h8 hn hpE
    have HT : Box (TabOk p a LG) := ⟨hT0⟩
    have hple := hT0.le
    obtain ⟨L, hL⟩ : ∃ L, L = ivls p l1 := ⟨_, rfl⟩
    have hLL : L.length = l1.length := by rw [hL, ivls_len]
    have HLL := Lib.hid hLL
    have HLG : Hid (∀ k (h : k < l1.length) (h2 : k < L.length), L[k] = ivlTo l1[k] p.length) := Lib.hid (fun k h h2 => by subst hL; exact ivls_get h)
    have HLS : Box (∀ x ∈ L, SmR p x) := ⟨by rw [hL]; exact ivls_sm⟩
    clear hT0 hL hLL
    go_enter Tryz.func3, Tryz.ntmps3
    go_wp2_with fail
    refine (HK.out w HS.out).mono ?_
    rintro e w1 ⟨rfl, hb1⟩
    go_wp2_with fail
    refine (HPA.out w1).mono ?_
    rintro e w2 ⟨⟨AP, cp, rfl, hp2⟩, hb2⟩
    have hb2' := hb1.trans (hb2.mono hb1.size)
    have HP := Lib.hid hp2
    have HS2 := Lib.hid (HS.out.below hb2' (Nat.le_refl _))
    have HBW := Lib.hid hb2'
    have HF2 : Hid (∀ W, Below w2.heap.size w2 W → FoursArg W (.slice A l1.length c) l1) := Lib.hid (fun W hb => by
      obtain ⟨A', c', e, h1, h2⟩ := HF.out
      refine ⟨A', c', e, h1, fun k x hx => ?_⟩
      obtain ⟨h3, ad, e2, h4, h5⟩ := h2 k x hx
      have hbb := HBW.out.trans (hb.mono HBW.out.size)
      exact ⟨h3, ad, e2, Nat.lt_of_lt_of_le h4 hbb.size, fun j hj => by rw [hbb.cell (by rw [add_block]; exact h4)]; exact h5 j hj⟩)
    clear HK HPA HS HF hb1 hb2 hb2' hp2
    go_wp2_with fail
    go_loopw [6, 7, 8, 9, 10] (fun vx va vb vc i wr => ∃ k : Nat, k ≤ l1.length ∧ i = .int .i64 k ∧ Hid (LRow wr w2.heap.size vx (L.take k)) ∧ Hid (LO wr w2.heap.size vx va (onceL p (selsW p (rOf p) (cOf p) L k))) ∧ Hid (LO wr w2.heap.size vx vb (onceL p (selsL p (rOf p) (cOf p) L k))) ∧ Hid (LO wr w2.heap.size vx vc (onceL p (selsP p (rOf p) (cOf p) L k))) ∧ Below w2.heap.size w2 wr) (fun _ _ _ _ i _ => l1.length - (intOf i).toNat)
    case atStart => exact ⟨0, Nat.zero_le _, rfl, Lib.hid (LRow.nil _ _), Lib.hid (LO.empty _ _ _), Lib.hid (LO.empty _ _ _), Lib.hid (LO.empty _ _ _), Below.refl _ _⟩
    case round =>
      obtain ⟨k, hk, rfl, HX, HA, HB, HC, hbw⟩ := hrel
      by_cases hlt : k < l1.length
      · obtain ⟨b, o, f0, f1, f2, f3, rfl, hbs, hfe, h4, t0, t1, t2, t3⟩ := four_at (HF2.out wr hbw) hlt
        have hkL : k < L.length := by rw [HLL.out]; exact hlt
        have hLk := HLG.out k hlt hkL
        rw [hfe] at hLk
        have HSM : Box (SmR p (ivlTo [f0, f1, f2, f3] p.length)) := ⟨ivl_smR _⟩
        have HTK := Lib.hid (show L.take (k + 1) = L.take k ++ [ivlTo [f0, f1, f2, f3] p.length] by rw [← hLk]; exact (List.take_append_getElem hkL).symm)
        have HWY := Lib.hid (fun h => selsW_yes (p := p) hkL h)
        have HWN := Lib.hid (fun h => selsW_no (p := p) hkL h)
        have HLY := Lib.hid (fun h => selsL_yes (p := p) hkL h)
        have HLN := Lib.hid (fun h => selsL_no (p := p) hkL h)
        have HPY := Lib.hid (fun h => selsP_yes (p := p) hkL h)
        have HPN := Lib.hid (fun h => selsP_no (p := p) hkL h)
        rw [hLk] at HWY HWN HLY HLN HPY HPN
        have HIV := Lib.hid (interval_own AP cp p.length f0 f1 f2 f3 wr hple h4)
        have HBD := Lib.hid hbw
        have hw2r := hbw.size
        clear hfe h4 hLk hbw
        generalize ivlTo [f0, f1, f2, f3] p.length = x at *
        go_wp2_with fail
        refine HIV.out.mono ?_
        rintro e w3 ⟨⟨A3, c3, rfl, ho3⟩, hb3⟩
        replace HX := Lib.hid (HX.out.below hb3)
        replace HA := Lib.hid (HA.out.below hb3)
        replace HB := Lib.hid (HB.out.below hb3)
        replace HC := Lib.hid (HC.out.below hb3)
        replace HBD := Lib.hid (HBD.out.trans (hb3.mono HBD.out.size))
        obtain ⟨vs, hown, hvs⟩ := HX.out
        have hlk : (L.take k).length = k := by rw [List.length_take]; omega
        rw [hlk] at hown
        have hvl : vs.length = k := by have := hown.1; omega
        have HLK := Lib.hid hlk
        have HO := Lib.hid hown
        have HVS := Lib.hid hvs
        have HR3 := Lib.hid ho3
        have hk3 : (k : Int) < (k : Int) + 1 := by omega
        have hk0 : (0 : Int) ≤ (k : Int) := by omega
        have hk8 : k ≤ 8 := by omega
        have hw3 : w2.heap.size ≤ w3.heap.size := HBD.out.size
        clear hown hvs ho3 hb3 HX hlk HIV t0 t1 t2 t3
        go_wp2_with (at_builtin; refine wpList_append_own_at _ rfl _ _ _ rfl w2.heap.size 28 i0 (.slice Option.none 0 0) 1 24 Tryz.underlying27 hi0 hz0 hz1 hz2 rfl (by decide) _ _ _ rfl (HO.out.alloc _) ⟨w3.heap.size, 0, Option.none⟩ 1 1 [_] rfl rfl (cell_one_new _ _ _) (by intro u hu; simp at hu; subst hu; rfl) (by unfold maxLen; omega) (by omega) (by simp; omega) ?_; intro v3 w4 hown3 hg3 _ hat3; obtain ⟨g3, c4, rfl⟩ := ownsRow_succ hown3; have hck := own_cellsL hown3 k (.slice A3 x.length c3) (by rw [List.getElem?_append_right (by omega), hvl, Nat.sub_self]; rfl); rw [Lib.add_plain, Nat.zero_add] at hck)
        have hal := HO.out.alloc (.cells #[.slice A3 x.length c3] 28)
        have hba : Below w3.heap.size w3 (w3.alloc (.cells #[.slice A3 x.length c3] 28)) := (Below.refl _ _).alloc (Nat.le_refl _) _
        replace HA := Lib.hid ((HA.out.below hba).grow hal hg3 hat3)
        replace HB := Lib.hid ((HB.out.below hba).grow hal hg3 hat3)
        replace HC := Lib.hid ((HC.out.below hba).grow hal hg3 hat3)
        have HX : Hid (LRow w4 w2.heap.size (.slice (some ⟨g3, 0, Option.none⟩) (k + 1) c4) (L.take (k + 1))) := Lib.hid (by
          rw [HTK.out]
          exact LRow.snoc (by rw [HLK.out]; exact hal) (fun j z hz => by obtain ⟨u, h5, h6⟩ := HVS.out j z hz; exact ⟨u, h5, h6.alloc _⟩) (HR3.out.alloc _) (by rw [HLK.out]; exact hown3) hg3)
        have HRX : Hid (ORow w4 (.slice A3 x.length c3) x) := Lib.hid ((HR3.out.alloc _).grown hal (by decide) hg3)
        have HBW4 : Hid (Below w2.heap.size w2 w4) := Lib.hid ((HBD.out.alloc hw3 _).grown hg3 (by simp; omega) (fun j hj => (hal.lt j hj).1))
        have hgx : g3 < w4.heap.size := (hown3.lt g3 rfl).2
        replace HBD := HBW4
        have HRD := Lib.hid (reduced_any29 _ _ p x (p.length - 1) (qOf p x) w4 (HS2.out.below HBD.out (Nat.le_refl _)) (HP.out.lift HBD.out) HRX.out.row (redOk_sm HT.out HSM.out))
        have hxp : x.length = p.length := HSM.out.len
        have HXP := Lib.hid hxp
        clear HO HVS HR3 HBW4 hal hba hown3 hg3 hat3 hw3 hk3 HLK HTK hxp HRX hck
        change Hid (Calls Tryz.prog 14 _ w4 fun e w' => (∃ v, e = .returned (.tuple #[v, .bool (!zeroB (rOf p x))]) ∧ ORow w' v (rOf p x)) ∧ Below w4.heap.size w4 w') at HRD
        refine HRD.out.mono ?_
        rintro e w5 ⟨⟨v5, rfl, ho5⟩, hb5⟩
        have hgx5 : g3 < w5.heap.size := Nat.lt_of_lt_of_le hgx hb5.size
        replace HX := Lib.hid (HX.out.below hb5)
        replace HA := Lib.hid (HA.out.below hb5)
        replace HB := Lib.hid (HB.out.below hb5)
        replace HC := Lib.hid (HC.out.below hb5)
        replace HBD := Lib.hid (HBD.out.trans (hb5.mono HBD.out.size))
        have HR5 := Lib.hid ho5
        obtain ⟨A5, c5, rfl⟩ := ho5.shape
        clear ho5 hb5 HRD hgx
        cases hz : zeroB (rOf p x)
        · have HSR := Lib.hid (smR_r HT.out HSM.out)
          have HSC := Lib.hid (smR_c HT.out HSM.out)
          have hcr := cOf_rOf HT.out HXP.out
          have HCR := Lib.hid hcr
          have HKR := Lib.hid (smR_chk HT.out.pe HSR.out)
          have HKC := Lib.hid (smR_chk HT.out.pe HSC.out)
          have HWS := Lib.hid (fun k => chk_row (selsW_sm HT.out HLS.out k) HT.out.pe)
          have HLS2 := Lib.hid (fun k => chk_row (selsL_sm HT.out HLS.out k) HT.out.pe)
          have HPS := Lib.hid (fun k => chk_row (selsP_sm HT.out HLS.out k) HT.out.pe)
          replace HWY := Lib.hid (HWY.out hz)
          replace HLY := Lib.hid (HLY.out hz)
          replace HPY := Lib.hid (HPY.out hz)
          have HIN := Lib.hid (ivInverse _ _ p (rOf p x) (p.length - 1) (qOf p (timesTo (rOf p x) (-1) (rOf p x).length)) w5 (HS2.out.below HBD.out (Nat.le_refl _)) (HP.out.lift HBD.out) HR5.out.row HKR.out (redOk_sm HT.out (smR_neg HSR.out)))
          change Hid (Calls Tryz.prog 15 _ w5 fun e w' => (∃ v, e = .returned (.tuple #[v, .int .i64 0]) ∧ ORow w' v (cOf p (rOf p x))) ∧ Below w5.heap.size w5 w') at HIN
          rw [hcr] at HIN
          have hlw : (selsW p (rOf p) (cOf p) L k).length ≤ 1000 := by have := selsW_len p (rOf p) (cOf p) L k; omega
          have hll2 : (selsL p (rOf p) (cOf p) L k).length ≤ 1000 := by have := selsL_len p (rOf p) (cOf p) L k; omega
          have hlp : (selsP p (rOf p) (cOf p) L k).length ≤ 900 := by have := selsP_len p (rOf p) (cOf p) L k; omega
          have HLW := Lib.hid hlw
          have HLL2 := Lib.hid hll2
          have HLP := Lib.hid hlp
          clear hz hcr HWN HLN HPN hlw hll2 hlp
          replace HWS := Lib.hid (HWS.out k)
          replace HLS2 := Lib.hid (HLS2.out k)
          replace HPS := Lib.hid (HPS.out k)
          generalize selsW p (rOf p) (cOf p) L k = MW at *
          generalize selsL p (rOf p) (cOf p) L k = ML at *
          generalize selsP p (rOf p) (cOf p) L k = MP at *
          generalize rOf p x = r at *
          generalize cOf p x = cc at *
          go_wp2_with fail
          refine HIN.out.mono ?_
          rintro e w6 ⟨⟨v6, rfl, ho6⟩, hb6⟩
          have hgx6 : g3 < w6.heap.size := Nat.lt_of_lt_of_le hgx5 hb6.size
          replace HX := Lib.hid (HX.out.below hb6)
          replace HA := Lib.hid (HA.out.below hb6)
          replace HB := Lib.hid (HB.out.below hb6)
          replace HC := Lib.hid (HC.out.below hb6)
          replace HR5 := Lib.hid (HR5.out.below hb6)
          replace HBD := Lib.hid (HBD.out.trans (hb6.mono HBD.out.size))
          have HR6 := Lib.hid ho6
          obtain ⟨A6, c6, rfl⟩ := ho6.shape
          clear ho6 hb6 HIN hgx5
          have HN1 := Lib.hid (insert_lo _ _ _ _ p MW r w2.heap.size w6 (HS2.out.below HBD.out (Nat.le_refl _)) (HP.out.lift HBD.out) HT.out.pe HA.out HR5.out HWS.out HKR.out HLW.out HBD.out.size (fun g e => by cases e; exact hgx6))
          go_wp2_with fail
          refine HN1.out.mono ?_
          rintro e w7 ⟨⟨va', rfl, hA⟩, hb7⟩
          have hgx7 : g3 < w7.heap.size := Nat.lt_of_lt_of_le hgx6 hb7.size
          have HA7 := Lib.hid hA
          clear hA HA HN1 hgx6
          replace HX := Lib.hid (HX.out.below hb7)
          replace HB := Lib.hid (HB.out.below hb7)
          replace HC := Lib.hid (HC.out.below hb7)
          replace HR5 := Lib.hid (HR5.out.below hb7)
          replace HR6 := Lib.hid (HR6.out.below hb7)
          replace HBD := Lib.hid (HBD.out.trans (hb7.mono HBD.out.size))
          have HN2 := Lib.hid (insert_lo _ _ _ _ p MP r w2.heap.size w7 (HS2.out.below HBD.out (Nat.le_refl _)) (HP.out.lift HBD.out) HT.out.pe HC.out HR5.out HPS.out HKR.out (by have := HLP.out; omega) HBD.out.size (fun g e => by cases e; exact hgx7))
          clear hb7
          go_wp2_with fail
          refine HN2.out.mono ?_
          rintro e w8 ⟨⟨vc', rfl, hC⟩, hb8⟩
          have hgx8 : g3 < w8.heap.size := Nat.lt_of_lt_of_le hgx7 hb8.size
          have HC8 := Lib.hid hC
          clear hC HC HN2 hgx7
          replace HX := Lib.hid (HX.out.below hb8)
          replace HB := Lib.hid (HB.out.below hb8)
          replace HA7 := Lib.hid (HA7.out.below hb8)
          replace HR5 := Lib.hid (HR5.out.below hb8)
          replace HR6 := Lib.hid (HR6.out.below hb8)
          replace HBD := Lib.hid (HBD.out.trans (hb8.mono HBD.out.size))
          have HN3 := Lib.hid (insert_lo _ _ _ _ p (MP ++ [r]) cc w2.heap.size w8 (HS2.out.below HBD.out (Nat.le_refl _)) (HP.out.lift HBD.out) HT.out.pe HC8.out HR6.out (fun y hy => by rcases List.mem_append.1 hy with h | h; exact HPS.out y h; rw [List.mem_singleton.1 h]; exact HKR.out) HKC.out (by rw [List.length_append]; simp; have := HLP.out; omega) HBD.out.size (fun g e => by cases e; exact hgx8))
          clear hb8
          go_wp2_with fail
          refine HN3.out.mono ?_
          rintro e w9 ⟨⟨vc2, rfl, hC⟩, hb9⟩
          have hgx9 : g3 < w9.heap.size := Nat.lt_of_lt_of_le hgx8 hb9.size
          have HC9 := Lib.hid hC
          clear hC HC8 HN3 hgx8
          replace HX := Lib.hid (HX.out.below hb9)
          replace HB := Lib.hid (HB.out.below hb9)
          replace HA7 := Lib.hid (HA7.out.below hb9)
          replace HR5 := Lib.hid (HR5.out.below hb9)
          replace HR6 := Lib.hid (HR6.out.below hb9)
          replace HBD := Lib.hid (HBD.out.trans (hb9.mono HBD.out.size))
          clear hb9
          have HCM := Lib.hid (compare_mon _ _ _ p r cc w9 (HP.out.lift HBD.out) HR5.out.row HR6.out.row (chk_join HKR.out HKC.out) (HS2.out.below HBD.out (Nat.le_refl _)))
          go_wp2_with fail
          refine HCM.out.mono ?_
          rintro e w10 ⟨rfl, hb10⟩
          have hgx10 : g3 < w10.heap.size := Nat.lt_of_lt_of_le hgx9 hb10.size
          clear HCM hgx9
          replace HX := Lib.hid (HX.out.below hb10)
          replace HB := Lib.hid (HB.out.below hb10)
          replace HA7 := Lib.hid (HA7.out.below hb10)
          replace HC9 := Lib.hid (HC9.out.below hb10)
          replace HR5 := Lib.hid (HR5.out.below hb10)
          replace HR6 := Lib.hid (HR6.out.below hb10)
          replace HBD := Lib.hid (HBD.out.trans (hb10.mono HBD.out.size))
          clear hb10
          have HLR : Hid (ltR p cc r = decide (num p cc * den p r < num p r * den p cc)) := Lib.hid rfl
          by_cases hlt2 : num p cc * den p r < num p r * den p cc
          · have hcv : cmpN (num p r * den p cc) (num p cc * den p r) = 1 := by unfold cmpN; rw [if_neg (by omega), if_neg (by omega)]
            rw [hcv]
            have HLR2 : Hid (ltR p cc r = true) := Lib.hid (by rw [HLR.out, decide_eq_true_eq]; exact hlt2)
            have HN4 := Lib.hid (insert_lo _ _ _ _ p ML cc w2.heap.size w10 (HS2.out.below HBD.out (Nat.le_refl _)) (HP.out.lift HBD.out) HT.out.pe HB.out HR6.out HLS2.out HKC.out HLL2.out HBD.out.size (fun g e => by cases e; exact hgx10))
            clear hlt2 hcv HLR
            go_wp2_with fail
            refine HN4.out.mono ?_
            rintro e w11 ⟨⟨vb', rfl, hB⟩, hb11⟩
            go_wp2_with fail
            go_roundw
            case rel =>
              refine ⟨k + 1, by omega, by go_num, Lib.hid (HX.out.below hb11), Lib.hid ?_, Lib.hid ?_, Lib.hid ?_, HBD.out.trans (hb11.mono HBD.out.size)⟩
              · rw [HWY.out]; exact HA7.out.below hb11
              · rw [HLY.out, if_pos HLR2.out]; exact hB
              · rw [HPY.out]; exact HC9.out.below hb11
            case measure => simp [intOf]; omega
          · have hcv : (0 : Int) < cmpN (num p r * den p cc) (num p cc * den p r) ↔ False := by
              unfold cmpN
              split
              · simp
              · split
                · simp
                · omega
            have hcd : decide ((0 : Int) < cmpN (num p r * den p cc) (num p cc * den p r)) = false := by rw [decide_eq_false_iff_not, hcv]; exact fun h => h
            have HLR2 : Hid (¬ ltR p cc r = true) := Lib.hid (by rw [HLR.out, decide_eq_true_eq]; exact hlt2)
            have HN4 := Lib.hid (insert_lo _ _ _ _ p ML r w2.heap.size w10 (HS2.out.below HBD.out (Nat.le_refl _)) (HP.out.lift HBD.out) HT.out.pe HB.out HR5.out HLS2.out HKR.out HLL2.out HBD.out.size (fun g e => by cases e; exact hgx10))
            clear hlt2 hcv HLR
            generalize cmpN (num p r * den p cc) (num p cc * den p r) = zc at *
            go_wp2_with fail
            refine HN4.out.mono ?_
            rintro e w11 ⟨⟨vb', rfl, hB⟩, hb11⟩
            go_wp2_with fail
            go_roundw
            case rel =>
              refine ⟨k + 1, by omega, by go_num, Lib.hid (HX.out.below hb11), Lib.hid ?_, Lib.hid ?_, Lib.hid ?_, HBD.out.trans (hb11.mono HBD.out.size)⟩
              · rw [HWY.out]; exact HA7.out.below hb11
              · rw [HLY.out, if_neg HLR2.out]; exact hB
              · rw [HPY.out]; exact HC9.out.below hb11
            case measure => simp [intOf]; omega
        · replace HWN := Lib.hid (HWN.out hz)
          replace HLN := Lib.hid (HLN.out hz)
          replace HPN := Lib.hid (HPN.out hz)
          clear hz HWY HLY HPY
          go_wp2_with fail
          go_roundw
          case rel =>
            refine ⟨k + 1, by omega, by go_num, HX, Lib.hid ?_, Lib.hid ?_, Lib.hid ?_, HBD.out⟩
            · rw [HWN.out]; exact HA.out
            · rw [HLN.out]; exact HB.out
            · rw [HPN.out]; exact HC.out
          case measure => simp [intOf]; omega
      · obtain rfl : k = l1.length := by omega
        have htk : L.take l1.length = L := List.take_of_length_le (by rw [HLL.out]; exact Nat.le_refl _)
        have HLE : Hid (L.length = l1.length) := HLL
        have hx0 := HX.out
        rw [htk] at hx0
        rw [← HLL.out] at HA HB HC
        obtain ⟨AX, cx, rfl⟩ := hx0.shape
        have hrx := hx0.rows.2
        obtain ⟨AA, ca, rfl, hra⟩ := HA.out.rows
        obtain ⟨AB, cb, rfl, hrb⟩ := HB.out.rows
        obtain ⟨AC, cc, rfl, hrc⟩ := HC.out.rows
        have hL8 : L.length ≤ 8 := by rw [HLL.out]; exact hl8
        have HRDS := Lib.hid (rdsOk_sm HT.out HLS.out)
        have HCH := Lib.hid (chk_all HT.out.pe (chk_row HLS.out HT.out.pe))
        have H1 := Lib.hid (tgreduce_ok once_any _ p (p.length - 1) AX cx L (rOf p) (cOf p) wr (HS2.out.below hbw (Nat.le_refl _)) (HP.out.lift hbw) hrx HRDS.out (by omega) HCH.out)
        have H2 := Lib.hid (fun W (hb : Below w2.heap.size w2 W) hl => tglesser_ok once_any (.slice AP p.length cp) p (p.length - 1) AX cx L (rOf p) (cOf p) W (HS2.out.below hb (Nat.le_refl _)) (HP.out.lift hb) hl HRDS.out (by omega) HCH.out)
        have H3 := Lib.hid (fun W (hb : Below w2.heap.size w2 W) hl => tgclosed_ok once_any (.slice AP p.length cp) p (p.length - 1) AX cx L (rOf p) (cOf p) W (HS2.out.below hb (Nat.le_refl _)) (HP.out.lift hb) hl HRDS.out (by omega) HCH.out)
        have l1a : (onceL p (selsW p (rOf p) (cOf p) L L.length)).length ≤ 1000000 := by have := once_len p (selsW p (rOf p) (cOf p) L L.length); have := selsW_len p (rOf p) (cOf p) L L.length; omega
        have l2a : (onceL p (selsL p (rOf p) (cOf p) L L.length)).length ≤ 1000000 := by have := once_len p (selsL p (rOf p) (cOf p) L L.length); have := selsL_len p (rOf p) (cOf p) L L.length; omega
        have l3a : (onceL p (selsP p (rOf p) (cOf p) L L.length)).length ≤ 1000000 := by have := once_len p (selsP p (rOf p) (cOf p) L L.length); have := selsP_len p (rOf p) (cOf p) L L.length; omega
        have HRX := Lib.hid hrx
        have HRA := Lib.hid hra
        have HRB := Lib.hid hrb
        have HRC := Lib.hid hrc
        have HBD := Lib.hid hbw
        have L1 := Lib.hid l1a
        have L2 := Lib.hid l2a
        have L3 := Lib.hid l3a
        clear hx0 htk hrx hra hrb hrc hbw HX HA HB HC HRDS HCH l1a l2a l3a hL8 HLL HF2
        generalize onceL p (selsW p (rOf p) (cOf p) L L.length) = M1 at *
        generalize onceL p (selsL p (rOf p) (cOf p) L L.length) = M2 at *
        generalize onceL p (selsP p (rOf p) (cOf p) L L.length) = M3 at *
        have hkl : ((l1.length : Nat) : Int) = (L.length : Int) := by rw [HLE.out]
        go_wp2_with fail
        refine H1.out.mono ?_
        rintro e w3 ⟨⟨A3, c3, rfl, hr3⟩, hb3⟩
        have hb3' := HBD.out.trans (hb3.mono HBD.out.size)
        have HB3 := Lib.hid hb3'
        have HR3 := Lib.hid hr3
        replace H2 := Lib.hid (H2.out w3 hb3' (HRX.out.lift hb3))
        replace HRX := Lib.hid (HRX.out.lift hb3)
        replace HRA := Lib.hid (HRA.out.lift hb3)
        replace HRB := Lib.hid (HRB.out.lift hb3)
        replace HRC := Lib.hid (HRC.out.lift hb3)
        clear hb3 hb3' hr3 HBD H1
        go_wp2_with fail
        refine H2.out.mono ?_
        rintro e w4 ⟨⟨A4, c4, rfl, hr4⟩, hb4⟩
        have hb4' := HB3.out.trans (hb4.mono HB3.out.size)
        have HB4 := Lib.hid hb4'
        have HR4 := Lib.hid hr4
        replace H3 := Lib.hid (H3.out w4 hb4' (HRX.out.lift hb4))
        replace HR3 := Lib.hid (HR3.out.lift hb4)
        replace HRA := Lib.hid (HRA.out.lift hb4)
        replace HRB := Lib.hid (HRB.out.lift hb4)
        replace HRC := Lib.hid (HRC.out.lift hb4)
        clear hb4 hb4' hr4 HB3 H2 HRX
        go_wp2_with fail
        refine H3.out.mono ?_
        rintro e w5 ⟨⟨A5, c5, rfl, hr5⟩, hb5⟩
        have hb5' := HB4.out.trans (hb5.mono HB4.out.size)
        have HB5 := Lib.hid hb5'
        have S1 := Lib.hid (same_any29 A3 AA c3 ca M1 M1 w5 (HR3.out.lift hb5) (HRA.out.lift hb5) L1.out)
        have S2 := Lib.hid (fun W (hb : Below w5.heap.size w5 W) => same_any29 A4 AB c4 cb M2 M2 W ((HR4.out.lift hb5).lift hb) ((HRB.out.lift hb5).lift hb) L2.out)
        have S3 := Lib.hid (fun W (hb : Below w5.heap.size w5 W) => same_any29 A5 AC c5 cc M3 M3 W (hr5.lift hb) ((HRC.out.lift hb5).lift hb) L3.out)
        rw [rowsSame_refl] at S1
        simp only [rowsSame_refl] at S2 S3
        clear hb5 hb5' hr5 HB4 H3 HR3 HR4 HRA HRB HRC
        go_wp2_with fail
        refine S1.out.mono ?_
        rintro e w6 ⟨rfl, hb6⟩
        go_wp2_with fail
        refine (S2.out w6 hb6).mono ?_
        rintro e w7 ⟨rfl, hb7⟩
        have hb67 := hb6.trans (hb7.mono hb6.size)
        go_wp2_with fail
        refine (S3.out w7 hb67).mono ?_
        rintro e w8 ⟨rfl, hb8⟩
        have hb68 := hb67.trans (hb8.mono hb67.size)
        have hbz := HBW.out.trans ((HB5.out.trans (hb68.mono HB5.out.size)).mono HBW.out.size)
        go_wp2_with fail
        go_ret
        exact ⟨rfl, hbz⟩

end Go.Proofs.YtcfkclafpbaagaaGreatDoor
