/- TargetOdd: the walk. -/
import Derived.Test.YtcfkclafpbaagaaGreatDoorOdGG
import Derived.Test.YtcfkclafpbaagaaGreatDoorOd2G
import Derived.Test.YtcfkclafpbaagaaGreatDoorGTP
import Derived.Test.YtcfkclafpbaagaaGreatDoorGTK
namespace Go.Proofs.YtcfkclafpbaagaaGreatDoor
open Go.RowKit Go.Lib Go.Shelf

theorem nums_odd (p : List Int) : ∀ m, nums29 p true m = oddZ (smTo p m)
  | 0 => rfl
  | m + 1 => by
    unfold nums29 smTo num29B
    rw [nums_odd p m]
    by_cases hs : smB p (m + 1) 1 = true
    · by_cases ho : (m + 1) % 2 = 1
      · have h2 : ((m + 1 : Nat) : Int) % 2 = 1 := by omega
        rw [if_pos (by simp [hs, ho]), if_pos hs]
        unfold oddZ
        rw [List.filter_append, List.filter_cons_of_pos (by simp only [decide_eq_true_eq]; exact h2), List.filter_nil]
      · have h2 : ¬ ((m + 1 : Nat) : Int) % 2 = 1 := by omega
        rw [if_neg (by simp [ho]), if_pos hs]
        unfold oddZ
        rw [List.filter_append, List.filter_cons_of_neg (by simpa using h2)]
        simp
    · rw [if_neg (by simp [hs]), if_neg hs]
theorem oddR_le4 (p : List Int) {m : Nat} (h : (oddZ (smTo p m)).length ≤ 20) : (oddR p m).length ≤ 400 := by
  have h1 := kR_le p (difR p (oddZ (smTo p m)))
  have h2 := once_len p (prsR (numsR p (oddZ (smTo p m))))
  have h3 := prsTo_len (numsR p (oddZ (smTo p m))) (numsR p (oddZ (smTo p m))).length 0 (Nat.le_refl _) (Nat.zero_le _)
  rw [prsTo_all] at h3
  have h4 : (numsR p (oddZ (smTo p m))).length = (oddZ (smTo p m)).length := by unfold numsR; rw [List.length_map]
  have h5 : (numsR p (oddZ (smTo p m))).length * (numsR p (oddZ (smTo p m))).length ≤ 20 * 20 := Nat.mul_le_mul (by omega) (by omega)
  have h6 : (difR p (oddZ (smTo p m))).length = (onceL p (prsR (numsR p (oddZ (smTo p m))))).length := rfl
  have h7 : (oddR p m).length = (kR p (difR p (oddZ (smTo p m)))).length := rfl
  omega

set_option maxRecDepth 100000 in
set_option maxHeartbeats 8000000 in
theorem odds_walk (pv : Value) (p : List Int) (z : Int) (w : World) (hS : Std w) (hp : IsRow w w.heap.size pv p) (hz1 : -9223372036854775808 ≤ z) (hz2 : z ≤ 9223372036854775807) :
    Calls Tryz.prog 6 #[pv, .int .i64 z] w fun e w' => e = .returned (.bool true) ∧ Below w.heap.size w w' := by
  have HK := Lib.hid (fun W hW => known_any29 W hW)
  have HS := Lib.hid hS
  have HP := Lib.hid hp
  have hp0 := hp
  obtain ⟨AP, cp, rfl, _, hm, _⟩ := hp
  unfold maxLen at hm
  have hpl : p.length ≤ 9223372036854775807 := by omega
  clear hS hm
  by_cases h8 : 8 < p.length
  · have d8 : decide ((8 : Int) < (p.length : Int)) = true := by rw [decide_eq_true_iff]; omega
    clear h8 hp0
    go_enter Tryz.func6, Tryz.ntmps6
    go_wp2_with fail
    refine (HK.out w HS.out).mono ?_
    rintro e w1 ⟨rfl, hb1⟩
    go_wp2_with fail
    refine (HK.out w1 (HS.out.below hb1 (Nat.le_refl _))).mono ?_
    rintro e w2 ⟨rfl, hb2⟩
    go_wp2_with fail
    go_ret
    exact ⟨rfl, hb1.trans (hb2.mono hb1.size)⟩
  · have d8 : decide ((8 : Int) < (p.length : Int)) = false := by rw [decide_eq_false_iff_not]; omega
    clear h8
    by_cases hne : limErr p z = 0
    · have hpe : primeErr p = 0 := by
        unfold limErr at hne
        by_cases h : primeErr p = 0
        · exact h
        · rw [if_pos h] at hne; exact absurd hne h
      have hzr : 1 ≤ z ∧ z ≤ 99 := by
        have hne2 := hne
        unfold limErr at hne2
        rw [if_neg (by simp [hpe])] at hne2
        split at hne2
        · cases hne2
        · omega
      have hpos := (right_primes hpe).2.1
      have hpi : (0 : Int) < (p.length : Int) := by omega
      obtain ⟨m, rfl⟩ : ∃ m : Nat, z = (m : Int) := ⟨z.toNat, by omega⟩
      have hm1 : 1 ≤ m := by omega
      have hm9 : m ≤ 99 := by omega
      have dz1 : decide ((m : Int) < 1) = false := by rw [decide_eq_false_iff_not]; omega
      have dz2 : decide ((99 : Int) < (m : Int)) = false := by rw [decide_eq_false_iff_not]; omega
      obtain ⟨A', c', e', _, _, hpr⟩ := hp0
      injection e' with e1 _ e3
      subst e1 e3
      obtain ⟨ad, rfl, hadb, hc0⟩ := hpr.i_at (k := 0) hpos
      rw [show ad.add 0 = ad by unfold Addr.add; simp] at hc0
      have HPE := Lib.hid hpe
      have HM9 := Lib.hid hm9
      have HLE := Lib.hid hne
      have HPOS := Lib.hid hpos
      clear hne hzr hz1 hz2 hpr hpos
      by_cases h2 : p[0]?.getD 0 = 2
      · rw [h2] at hc0
        by_cases h20 : 20 < (oddZ (smTo p m)).length
        · have HO := Lib.hid (fun W (hS : Std W) hp => tgodd_many (.slice (some ad) p.length cp) p m W hS hp hpe h2 hm1 hm9 (fun lv W2 k1 k2 k3 => (diamond_many (.slice (some ad) p.length cp) lv p (oddZ (smTo p m)) W2 k2 hpe k3 h20).mono (fun e w' h => ⟨h.1, h.2 ▸ Below.refl _ _⟩)))
          have H20 := Lib.hid h20
          clear hpe hm1 hm9 h20 h2
          go_enter Tryz.func6, Tryz.ntmps6
          go_wp2_with fail
          refine (HK.out w HS.out).mono ?_
          rintro e w1 ⟨rfl, hb1⟩
          go_wp2_with fail
          refine (HO.out w1 (HS.out.below hb1 (Nat.le_refl _)) (HP.out.lift hb1)).mono ?_
          rintro e w2 ⟨rfl, hb2⟩
          have hb2' := hb1.trans (hb2.mono hb1.size)
          have hc2 := (hb2'.cell (p := ad) hadb).trans hc0
          have HB2 := Lib.hid hb2'
          have HPC := Lib.hid (primeCheck_any _ p w2.heap.size w2 (HP.out.lift hb2'))
          rw [HPE.out] at HPC
          have HNU := Lib.hid (numbers_any29 _ p m true w2 (HS.out.below hb2' (Nat.le_refl _)) (HP.out.lift hb2') HPE.out HM9.out)
          rw [nums_odd] at HNU
          clear hb1 hb2 hb2' hc0 HK HO
          go_wp2_with fail
          refine HPC.out.mono ?_
          rintro e w4 ⟨rfl, rfl⟩
          go_wp2_with fail
          refine HNU.out.mono ?_
          rintro e w5 ⟨⟨v5, rfl, ho5⟩, hb5⟩
          obtain ⟨A5, c5, rfl⟩ := (IsRow.of_own ho5).shape
          have HB25 := Lib.hid hb5
          have HB5 := Lib.hid (HB2.out.trans (hb5.mono HB2.out.size))
          clear hb5 hc2 HPC HNU
          have d20 : decide ((20 : Int) < ((oddZ (smTo p m)).length : Int)) = true := by rw [decide_eq_true_iff]; have := H20.out; omega
          clear ho5
          go_wp2_with fail
          go_ret
          exact ⟨rfl, HB5.out⟩
        · have hl20 : (oddZ (smTo p m)).length ≤ 20 := by omega
          have HO := Lib.hid (fun W (hS : Std W) hp => tOddG hpe h2 hm1 hm9 hl20 (.slice (some ad) p.length cp) W hS hp)
          have HD := Lib.hid (fun lv W (hS : Std W) hp hl => tLawDiaG hpe h2 hm9 hl20 (.slice (some ad) p.length cp) lv W hS hp hl)
          have hi4 := oddR_le4 p hl20
          have HL1 : Box ((oddR p m).length ≤ 1000000) := ⟨by omega⟩
          have d20 : decide ((20 : Int) < ((oddZ (smTo p m)).length : Int)) = false := by rw [decide_eq_false_iff_not]; omega
          clear hpe hm1 hm9 h20 h2 hi4
          generalize oddR p m = R at *
          go_enter Tryz.func6, Tryz.ntmps6
          go_wp2_with fail
          refine (HK.out w HS.out).mono ?_
          rintro e w1 ⟨rfl, hb1⟩
          go_wp2_with fail
          refine (HO.out w1 (HS.out.below hb1 (Nat.le_refl _)) (HP.out.lift hb1)).mono ?_
          rintro e w2 ⟨⟨A2, c2, rfl, hr2⟩, hb2⟩
          have HR2 := Lib.hid hr2
          clear hr2
          have hb2' := hb1.trans (hb2.mono hb1.size)
          have hc2 := (hb2'.cell (p := ad) hadb).trans hc0
          have HB2 := Lib.hid hb2'
          have HPC := Lib.hid (primeCheck_any _ p w2.heap.size w2 (HP.out.lift hb2'))
          rw [HPE.out] at HPC
          have HNU := Lib.hid (numbers_any29 _ p m true w2 (HS.out.below hb2' (Nat.le_refl _)) (HP.out.lift hb2') HPE.out HM9.out)
          rw [nums_odd] at HNU
          clear hb1 hb2 hb2' hc0 HK HO
          go_wp2_with fail
          refine HPC.out.mono ?_
          rintro e w4 ⟨rfl, rfl⟩
          go_wp2_with fail
          refine HNU.out.mono ?_
          rintro e w5 ⟨⟨v5, rfl, ho5⟩, hb5⟩
          obtain ⟨A5, c5, rfl⟩ := (IsRow.of_own ho5).shape
          have HB25 := Lib.hid hb5
          have HB5 := Lib.hid (HB2.out.trans (hb5.mono HB2.out.size))
          clear hb5 hc2 HPC HNU
          have HLV := Lib.hid (IsRow.of_own ho5)
          replace HR2 := Lib.hid ((HR2.out.lift HB25.out))
          clear ho5
          by_cases h12 : 12 < (oddZ (smTo p m)).length
          · have d12 : decide ((12 : Int) < ((oddZ (smTo p m)).length : Int)) = true := by rw [decide_eq_true_iff]; omega
            clear h12
            go_wp2_with fail
            go_ret
            exact ⟨rfl, HB5.out⟩
          · have d12 : decide ((12 : Int) < ((oddZ (smTo p m)).length : Int)) = false := by rw [decide_eq_false_iff_not]; omega
            clear h12
            have HD1 := Lib.hid (HD.out _ w5 (HS.out.below HB5.out (Nat.le_refl _)) (HP.out.lift HB5.out) HLV.out)
            clear HD
            go_wp2_with fail
            refine HD1.out.mono ?_
            rintro e w6 ⟨⟨v6, rfl, h6⟩, hb6⟩
            obtain ⟨A6, c6, rfl, _, _, _, hr6⟩ := h6
            have HSM := Lib.hid (same_any29 A2 A6 c2 c6 R R w6 (HR2.out.lift hb6) hr6 HL1.out)
            rw [rowsSame_refl] at HSM
            have HB6 := Lib.hid (HB5.out.trans (hb6.mono HB5.out.size))
            clear hb6 hr6
            go_wp2_with fail
            refine HSM.out.mono ?_
            rintro e w7 ⟨rfl, hb7⟩
            go_wp2_with fail
            go_ret
            exact ⟨rfl, HB6.out.trans (hb7.mono HB6.out.size)⟩
      · have HO := Lib.hid (fun W hp => tgodd_two (.slice (some ad) p.length cp) p (m : Int) W hp HLE.out HPOS.out h2)
        have hne2 : ((p[0]?.getD 0 : Int) != 2) = true := by simpa using h2
        clear hpe hm1 hm9 h2
        generalize p[0]?.getD 0 = q0 at *
        go_enter Tryz.func6, Tryz.ntmps6
        go_wp2_with fail
        refine (HK.out w HS.out).mono ?_
        rintro e w1 ⟨rfl, hb1⟩
        go_wp2_with fail
        refine (HO.out w1 (HP.out.lift hb1)).mono ?_
        rintro e w2 ⟨rfl, hb2⟩
        have hb2' := hb1.trans (hb2.mono hb1.size)
        have hc2 := (hb2'.cell (p := ad) hadb).trans hc0
        have HPC := Lib.hid (primeCheck_any _ p w2.heap.size w2 (HP.out.lift hb2'))
        rw [HPE.out] at HPC
        have HB2 := Lib.hid hb2'
        clear hb1 hb2 hb2' hc0
        go_wp2_with fail
        refine HPC.out.mono ?_
        rintro e w4 ⟨rfl, rfl⟩
        go_wp2_with fail
        go_ret
        exact ⟨rfl, HB2.out⟩
    · have HNE : Hid ((limErr p z != 0) = true) := Lib.hid (by simpa using hne)
      have HI := Lib.hid (fun W hp => tgodd_err (.slice AP p.length cp) p z W hp HNE.out)
      have HPC := Lib.hid (fun W hp => primeCheck_any (.slice AP p.length cp) p W.heap.size W hp)
      clear hp0
      by_cases h0 : primeErr p = 0
      · have hv : limErr p z = 3 := by
          unfold limErr at hne ⊢
          rw [if_neg (by simp [h0])] at hne ⊢
          split
          · rfl
          · rename_i h; rw [if_neg h] at hne; exact absurd rfl hne
        rw [hv] at HI HNE
        simp only [h0] at HPC
        by_cases h1 : z < 1
        · have d1 : decide (z < 1) = true := by rw [decide_eq_true_iff]; exact h1
          clear hne hv h0 h1
          go_enter Tryz.func6, Tryz.ntmps6
          go_wp2_with fail
          refine (HK.out w HS.out).mono ?_
          rintro e w1 ⟨rfl, hb1⟩
          go_wp2_with fail

          refine (HI.out w1 (HP.out.lift hb1)).mono ?_
          rintro e w2 ⟨rfl, hb2⟩
          have HB2 := Lib.hid (hb1.trans (hb2.mono hb1.size))
          replace HPC := Lib.hid (HPC.out w2 (HP.out.lift HB2.out))
          clear hb1 hb2 HK HI
          go_wp2_with fail
          refine HPC.out.mono ?_
          rintro e w4 ⟨rfl, rfl⟩
          go_wp2_with fail
          go_ret
          exact ⟨rfl, HB2.out⟩
        · have d1 : decide (z < 1) = false := by rw [decide_eq_false_iff_not]; exact h1
          have d2 : decide (99 < z) = true := by
            rw [decide_eq_true_iff]
            unfold limErr at hne
            rw [if_neg (by simp [h0])] at hne
            by_cases h : 99 < z
            · exact h
            · rw [if_neg (by omega)] at hne; exact absurd rfl hne
          clear hne hv h0 h1
          go_enter Tryz.func6, Tryz.ntmps6
          go_wp2_with fail
          refine (HK.out w HS.out).mono ?_
          rintro e w1 ⟨rfl, hb1⟩
          go_wp2_with fail

          refine (HI.out w1 (HP.out.lift hb1)).mono ?_
          rintro e w2 ⟨rfl, hb2⟩
          have HB2 := Lib.hid (hb1.trans (hb2.mono hb1.size))
          replace HPC := Lib.hid (HPC.out w2 (HP.out.lift HB2.out))
          clear hb1 hb2 HK HI
          go_wp2_with fail
          refine HPC.out.mono ?_
          rintro e w4 ⟨rfl, rfl⟩
          go_wp2_with fail
          go_ret
          exact ⟨rfl, HB2.out⟩
      · have hv : limErr p z = primeErr p := by unfold limErr; rw [if_pos h0]
        have hq : (primeErr p == 0) = false := by simpa using h0
        have hq2 : (primeErr p != 0) = true := by simpa using h0
        rw [hv] at HI HNE
        clear hne hv h0
        generalize primeErr p = q at *
        go_enter Tryz.func6, Tryz.ntmps6
        go_wp2_with fail
        refine (HK.out w HS.out).mono ?_
        rintro e w1 ⟨rfl, hb1⟩
        go_wp2_with fail

        refine (HI.out w1 (HP.out.lift hb1)).mono ?_
        rintro e w2 ⟨rfl, hb2⟩
        have HB2 := Lib.hid (hb1.trans (hb2.mono hb1.size))
        replace HPC := Lib.hid (HPC.out w2 (HP.out.lift HB2.out))
        clear hb1 hb2 HK HI
        go_wp2_with fail
        refine HPC.out.mono ?_
        rintro e w4 ⟨rfl, rfl⟩
        go_wp2_with fail
        go_ret
        exact ⟨rfl, HB2.out⟩

end Go.Proofs.YtcfkclafpbaagaaGreatDoor
