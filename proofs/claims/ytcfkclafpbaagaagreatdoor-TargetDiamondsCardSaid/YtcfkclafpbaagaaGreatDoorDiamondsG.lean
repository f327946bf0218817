/- TargetDiamonds: the walk. -/
import Derived.Test.YtcfkclafpbaagaaGreatDoorGTP
import Derived.Test.YtcfkclafpbaagaaGreatDoorClosedG
import Derived.Test.YtcfkclafpbaagaaGreatDoorGTK
namespace Go.Proofs.YtcfkclafpbaagaaGreatDoor
open Go.RowKit Go.Lib Go.Shelf

section
variable {p : List Int} {a : Nat} {LG : List Nat}
theorem num_ok99 {l : List Int} (h : NumsOk p l) : N99 l := fun z hz => ⟨(h z hz).1, (h z hz).2.1⟩
/-- The program's diamond is the law's. -/
theorem dia_eq (hT : TabOk p a LG) {l : List Int} (h : NumsOk p l) : onceL p (dia (rOf p) (prsR (numsR p l))) = kR p (difR p l) := by
  have h9 := num_ok99 h
  have hsm : ∀ x ∈ prsR (numsR p l), x.length = p.length := fun x hx => by
    obtain ⟨a, ha, b, hb, rfl⟩ := prsR_mem.1 hx
    obtain ⟨u, hu, rfl⟩ := List.mem_map.1 ha
    obtain ⟨v, hv, rfl⟩ := List.mem_map.1 hb
    exact (num_sub hT.pe (h9 u hu) (h9 v hv)).1
  obtain ⟨s1, m1⟩ := onceL_slt (primed hT.pe) (l := dia (rOf p) (prsR (numsR p l))) (fun y hy => by
    obtain ⟨x, hx, _, rfl⟩ := dia_mem.1 hy
    exact r_len (hsm x hx))
  obtain ⟨s2, m2⟩ := kR_ok hT (fun x hx => (difR_sm hT.pe h9 x hx).len)
  refine slt_ext s1 s2 fun y => ?_
  rw [m1, m2, dia_mem]
  have hx : ∀ x, x ∈ prsR (numsR p l) ↔ x ∈ difR p l := fun x => ((onceL_slt (primed hT.pe) hsm).2 x).symm
  constructor
  · rintro ⟨x, h1, h2⟩; exact ⟨x, (hx x).1 h1, h2⟩
  · rintro ⟨x, h1, h2⟩; exact ⟨x, (hx x).2 h1, h2⟩
theorem tDia (hT : TabOk p a LG) {l : List Int} (h : NumsOk p l) (hlen : l.length ≤ 20) (pv lv : Value) (W : World) (hS : Std W) (hp : IsRow W W.heap.size pv p) (hl : IsRow W W.heap.size lv l) :
    Calls Tryz.prog 28 #[pv, lv] W fun e w' => ListPost (kR p (difR p l)) e w' ∧ Below W.heap.size W w' :=
  diamond_ok pv lv p l (p.length - 1) (rOf p) (cOf p) W hS hp hT.pe hl hlen h (prsOk_gen hT.pe (num_ok99 h) hlen) (rdsOk_sm hT (difR_sm hT.pe (num_ok99 h)))
theorem tLawDia (hT : TabOk p a LG) {l : List Int} (h : NumsOk p l) (hlen : l.length ≤ 20) (pv lv : Value) (W : World) (hS : Std W) (hp : IsRow W W.heap.size pv p) (hl : IsRow W W.heap.size lv l) :
    Calls Tryz.prog 27 #[pv, lv] W fun e w' => (∃ v, e = .returned v ∧ LstV w' v (kR p (difR p l))) ∧ Below W.heap.size W w' := by
  have h9 := num_ok99 h
  have hh := diamond_any29 pv lv p l (p.length - 1) (rOf p) W hS hp hT.pe hl h (fun u hu v hv => ⟨_, redOk_sm hT (smR_of (num_sub hT.pe (h9 u hu) (h9 v hv)).1 fun z hz => Nat.le_trans ((num_sub hT.pe (h9 u hu) (h9 v hv)).2 z hz) (by decide)), rfl⟩) hlen
  rw [dia_eq hT h] at hh
  exact hh
theorem difR_le (p : List Int) {l : List Int} (hn : l.length ≤ 20) : (difR p l).length ≤ 400 := by
  have h2 := once_len p (prsR (numsR p l))
  have h3 := prsTo_len (numsR p l) (numsR p l).length 0 (Nat.le_refl _) (Nat.zero_le _)
  rw [prsTo_all] at h3
  have h4 : (numsR p l).length = l.length := by unfold numsR; rw [List.length_map]
  have h5 : (numsR p l).length * (numsR p l).length ≤ 20 * 20 := Nat.mul_le_mul (by omega) (by omega)
  unfold difR
  omega
end

set_option maxRecDepth 100000 in
set_option maxHeartbeats 8000000 in
theorem diamonds_walk (n : Nat) (lv : Value) (l : List Int) (w : World) (hS : Std w) (hn : n ≤ 255) (hl : IsRow w w.heap.size lv l) :
    Calls Tryz.prog 7 #[.int .u8 n, lv] w fun e w' => e = .returned (.bool true) ∧ Below w.heap.size w w' := by
  have HK := Lib.hid (fun W hW => known_any29 W hW)
  have HS := Lib.hid hS
  have HLV := Lib.hid hl
  have hl0 := hl
  obtain ⟨AL, cl, rfl, _, hm, _⟩ := hl0
  unfold maxLen at hm
  have hlm : l.length ≤ 9223372036854775807 := by omega
  clear hS hl hm
  by_cases hk : 8 < l.length ∧ (l.length < 19 ∨ 22 < l.length)
  · have d8 : decide ((8 : Int) < (l.length : Int)) = true := by rw [decide_eq_true_iff]; omega
    obtain ⟨_, hk2⟩ := hk
    by_cases hk3 : l.length < 19
    · have d1 : decide ((l.length : Int) < 19) = true := by rw [decide_eq_true_iff]; omega
      clear hk2 hk3
      go_enter Tryz.func7, Tryz.ntmps7
      go_wp2_with fail
      refine (HK.out w HS.out).mono ?_
      rintro e w1 ⟨rfl, hb1⟩
      go_wp2_with fail
      refine (HK.out w1 (HS.out.below hb1 (Nat.le_refl _))).mono ?_
      rintro e w2 ⟨rfl, hb2⟩
      go_wp2_with fail
      go_ret
      exact ⟨rfl, hb1.trans (hb2.mono hb1.size)⟩
    · have d1 : decide ((l.length : Int) < 19) = false := by rw [decide_eq_false_iff_not]; omega
      have d2 : decide ((22 : Int) < (l.length : Int)) = true := by rw [decide_eq_true_iff]; omega
      clear hk2 hk3
      go_enter Tryz.func7, Tryz.ntmps7
      go_wp2_with fail
      refine (HK.out w HS.out).mono ?_
      rintro e w1 ⟨rfl, hb1⟩
      go_wp2_with fail
      refine (HK.out w1 (HS.out.below hb1 (Nat.le_refl _))).mono ?_
      rintro e w2 ⟨rfl, hb2⟩
      go_wp2_with fail
      go_ret
      exact ⟨rfl, hb1.trans (hb2.mono hb1.size)⟩
  · obtain ⟨p, hpE⟩ : ∃ p, p = primesOf n := ⟨_, rfl⟩
    obtain ⟨a, LG, hT0⟩ := tabOk n
    rw [← hpE] at hT0
    have HPA : Hid (∀ W, Calls Tryz.prog 12 #[.int .u8 n] W fun e w' => (∃ B c, e = .returned (.slice B p.length c) ∧ IsRow w' w'.heap.size (.slice B p.length c) p) ∧ Below W.heap.size W w') := Lib.hid (fun W => by rw [hpE]; exact primes_any n W hn)
    have HT : Box (TabOk p a LG) := ⟨hT0⟩
    clear hT0 hpE hn
    by_cases h8 : 8 < l.length
    · have d8 : decide ((8 : Int) < (l.length : Int)) = true := by rw [decide_eq_true_iff]; omega
      have d1 : decide ((l.length : Int) < 19) = false := by rw [decide_eq_false_iff_not]; omega
      have d2 : decide ((22 : Int) < (l.length : Int)) = false := by rw [decide_eq_false_iff_not]; omega
      by_cases h20 : 20 < l.length
      · have d20 : decide ((20 : Int) < (l.length : Int)) = true := by rw [decide_eq_true_iff]; omega
        have H20 := Lib.hid h20
        clear hk h8 h20
        go_enter Tryz.func7, Tryz.ntmps7
        go_wp2_with fail
        refine (HK.out w HS.out).mono ?_
        rintro e w1 ⟨rfl, hb1⟩
        go_wp2_with fail
        refine (HPA.out w1).mono ?_
        rintro e w2 ⟨⟨AP, cp, rfl, hp2⟩, hb2⟩
        have hb2' := hb1.trans (hb2.mono hb1.size)
        have HP := Lib.hid hp2
        have HS2 := Lib.hid (HS.out.below hb2' (Nat.le_refl _))
        have HB2 := Lib.hid hb2'
        have HLV2 := Lib.hid (HLV.out.lift hb2')
        clear HK HPA HS HLV hb1 hb2 hb2' hp2
        have HDM := Lib.hid (diamond_many _ _ p l w2 HP.out HT.out.pe HLV2.out H20.out)
        go_wp2_with fail
        refine HDM.out.mono ?_
        rintro e w3 ⟨rfl, rfl⟩
        go_wp2_with fail
        go_ret
        exact ⟨rfl, HB2.out⟩
      · have d20 : decide ((20 : Int) < (l.length : Int)) = false := by rw [decide_eq_false_iff_not]; omega
        have H20 : Box (l.length ≤ 20) := ⟨by omega⟩
        clear hk h8 h20
        go_enter Tryz.func7, Tryz.ntmps7
        go_wp2_with fail
        refine (HK.out w HS.out).mono ?_
        rintro e w1 ⟨rfl, hb1⟩
        go_wp2_with fail
        refine (HPA.out w1).mono ?_
        rintro e w2 ⟨⟨AP, cp, rfl, hp2⟩, hb2⟩
        have hb2' := hb1.trans (hb2.mono hb1.size)
        have HP := Lib.hid hp2
        have HS2 := Lib.hid (HS.out.below hb2' (Nat.le_refl _))
        have HB2 := Lib.hid hb2'
        have HLV2 := Lib.hid (HLV.out.lift hb2')
        clear HK HPA HS HLV hb1 hb2 hb2' hp2

        by_cases hgood : dErr p l = 0
        · have HNO : Box (NumsOk p l) := ⟨dErr_ok hgood⟩
          have HE0 := Lib.hid hgood
          have HDO := Lib.hid (tDia HT.out HNO.out H20.out _ _ w2 HS2.out HP.out HLV2.out)
          have hle := kR_le p (difR p l)
          have hl4 := difR_le p H20.out
          have HLN : Box ((kR p (difR p l)).length ≤ 1000000) := ⟨by omega⟩
          have HLD := Lib.hid (fun W (hb : Below w2.heap.size w2 W) => tLawDia HT.out HNO.out H20.out (.slice AP p.length cp) (.slice AL l.length cl) W (HS2.out.below hb (Nat.le_refl _)) (HP.out.lift hb) (HLV2.out.lift hb))
          clear hgood hle hl4
          generalize kR p (difR p l) = R at *
          go_wp2_with fail
          refine HDO.out.mono ?_
          rintro e w3 ⟨⟨A3, c3, rfl, hr3⟩, hb3⟩
          have HB3 := Lib.hid hb3
          have HR3 := Lib.hid hr3
          clear hb3 hr3 HDO
          go_wp2_with fail
          go_loopw [8] (fun i wr => ∃ k : Nat, k ≤ l.length ∧ i = .int .i64 k ∧ Box (dErr p l = dErr p (l.drop k)) ∧ Below w3.heap.size w3 wr) (fun i _ => l.length - (intOf i).toNat)
          case atStart => exact ⟨0, Nat.zero_le _, rfl, ⟨rfl⟩, Below.refl _ _⟩
          case round =>
            obtain ⟨k, hk, rfl, HE, hbw⟩ := hrel
            by_cases hlt : k < l.length
            · obtain ⟨A', c', e', _, _, hr⟩ := HLV2.out
              injection e' with e1 _ e3
              subst e1 e3
              obtain ⟨ad, rfl, hab, hca⟩ := hr.i_at hlt
              have hge : l[k]?.getD 0 = l[k] := by rw [List.getElem?_eq_getElem hlt]; rfl
              rw [hge] at hca
              have hca2 := ((HB3.out.trans (hbw.mono HB3.out.size)).cell (p := ad.add k) (by rw [add_block]; exact hab)).trans hca
              have hst := dErr_step (p := p) hlt
              clear hr hge hca
              generalize l[k]'hlt = z at *
              have HST := Lib.hid hst
              have HB := Lib.hid hbw
              have HBA := Lib.hid (HB3.out.trans (hbw.mono HB3.out.size))
              have hk1 : (0 : Int) ≤ (k : Int) := by omega
              have hk2 : (k : Int) < (l.length : Int) := by omega
              clear hst hbw
              by_cases h1 : z < 1
              · have hE : dErr p l = 3 := by rw [HE.out, HST.out, if_pos (.inl h1)]
                exact absurd hE (by rw [HE0.out]; decide)
              · by_cases h2 : 99 < z
                · have hE : dErr p l = 3 := by rw [HE.out, HST.out, if_pos (.inr h2)]
                  exact absurd hE (by rw [HE0.out]; decide)
                · obtain ⟨m, rfl⟩ : ∃ m : Nat, z = (m : Int) := ⟨z.toNat, by omega⟩
                  have hE := HE.out
                  rw [HST.out, if_neg (by omega), Int.toNat_natCast] at hE
                  have HEE := Lib.hid hE
                  have HQ := Lib.hid (fracOf_any (m : Int) 1 wr (HS2.out.below HBA.out (Nat.le_refl _)) (by omega) (by omega) (by omega))
                  rw [(low_one (m : Int)).1, (low_one (m : Int)).2, itoa_nat, itoa_one] at HQ
                  have HF := Lib.hid (fun W (hb : Below w2.heap.size w2 W) => primeSmooth_any (.slice AP p.length cp) p m W (HS2.out.below hb (Nat.le_refl _)) (HP.out.lift hb) HT.out.pe (by omega) (by omega))
                  have d1 : decide ((m : Int) < 1) = false := by rw [decide_eq_false_iff_not]; exact h1
                  have d2x : decide ((99 : Int) < (m : Int)) = false := by rw [decide_eq_false_iff_not]; exact h2
                  clear hE h1 h2 HST HE
                  generalize decDigits m = la at *
                  go_wp2_with fail
                  refine HQ.out.mono ?_
                  rintro e w4 ⟨rfl, hb4⟩
                  have hba : Below wr.heap.size wr (w4.alloc (.cells #[.string ⟨la.toArray⟩, .string ⟨#[49]⟩] 53)) := hb4.alloc hb4.size _
                  have hba2 := HBA.out.trans (hba.mono HBA.out.size)
                  have HF1 := Lib.hid (HF.out _ hba2)
                  have HB4 := Lib.hid (HB.out.trans (hba.mono HB.out.size))
                  clear hb4 hba hba2 HF HQ
                  go_wp2_with fail
                  refine HF1.out.mono ?_
                  rintro e w5 ⟨rfl, hb5⟩
                  have HB5 := Lib.hid (HB4.out.trans (hb5.mono HB4.out.size))
                  clear hb5 HF1
                  cases hs : smB p m 1
                  · have hE : dErr p l = 25 := by rw [HEE.out, if_neg (by rw [hs]; simp)]
                    clear hs
                    exact absurd hE (by rw [HE0.out]; decide)
                  · have HE2 : Box (dErr p l = dErr p (l.drop (k + 1))) := ⟨by rw [HEE.out, if_pos hs]⟩
                    clear hs
                    go_wp2_with fail
                    go_roundw
                    case rel => exact ⟨k + 1, by omega, by go_num, HE2, HB5.out⟩
                    case measure => simp [intOf]; omega
            · obtain rfl : k = l.length := by omega
              have hE0 := HE.out
              rw [List.drop_of_length_le (Nat.le_refl _)] at hE0
              have hbz := HB2.out.trans ((HB3.out.trans (hbw.mono HB3.out.size)).mono HB2.out.size)
              go_wp2_with fail
              go_ret
              exact ⟨rfl, hbz⟩
        · have hbad := hgood
          clear hgood
          have HDB := Lib.hid (diamond_bad _ _ p l w2 HS2.out HP.out HT.out.pe HLV2.out H20.out hbad)
          have HEN := Lib.hid hbad
          clear hbad
          go_wp2_with fail
          refine HDB.out.mono ?_
          rintro e w3 ⟨rfl, hb3⟩
          have HB3 := Lib.hid hb3
          clear hb3 HDB
          go_wp2_with fail
          go_loopw [8] (fun i wr => ∃ k : Nat, k ≤ l.length ∧ i = .int .i64 k ∧ Box (dErr p l = dErr p (l.drop k)) ∧ Below w3.heap.size w3 wr) (fun i _ => l.length - (intOf i).toNat)
          case atStart => exact ⟨0, Nat.zero_le _, rfl, ⟨rfl⟩, Below.refl _ _⟩
          case round =>
            obtain ⟨k, hk, rfl, HE, hbw⟩ := hrel
            by_cases hlt : k < l.length
            · obtain ⟨A', c', e', _, _, hr⟩ := HLV2.out
              injection e' with e1 _ e3
              subst e1 e3
              obtain ⟨ad, rfl, hab, hca⟩ := hr.i_at hlt
              have hge : l[k]?.getD 0 = l[k] := by rw [List.getElem?_eq_getElem hlt]; rfl
              rw [hge] at hca
              have hca2 := ((HB3.out.trans (hbw.mono HB3.out.size)).cell (p := ad.add k) (by rw [add_block]; exact hab)).trans hca
              have hst := dErr_step (p := p) hlt
              clear hr hge hca
              generalize l[k]'hlt = z at *
              have HST := Lib.hid hst
              have HB := Lib.hid hbw
              have HBA := Lib.hid (HB3.out.trans (hbw.mono HB3.out.size))
              have hk1 : (0 : Int) ≤ (k : Int) := by omega
              have hk2 : (k : Int) < (l.length : Int) := by omega
              clear hst hbw
              by_cases h1 : z < 1
              · have hE : dErr p l = 3 := by rw [HE.out, HST.out, if_pos (.inl h1)]
                have d1 : decide (z < 1) = true := by rw [decide_eq_true_iff]; exact h1
                have hbq : (dErr p l == 3) = true := by rw [hE]; rfl
                clear h1 hE HST HE
                go_wp2_with fail
                go_ret
                exact ⟨rfl, HB2.out.trans (HBA.out.mono HB2.out.size)⟩
              · by_cases h2 : 99 < z
                · have hE : dErr p l = 3 := by rw [HE.out, HST.out, if_pos (.inr h2)]
                  have d1 : decide (z < 1) = false := by rw [decide_eq_false_iff_not]; exact h1
                  have d2x : decide (99 < z) = true := by rw [decide_eq_true_iff]; exact h2
                  have hbq : (dErr p l == 3) = true := by rw [hE]; rfl
                  clear h1 h2 hE HST HE
                  go_wp2_with fail
                  go_ret
                  exact ⟨rfl, HB2.out.trans (HBA.out.mono HB2.out.size)⟩
                · obtain ⟨m, rfl⟩ : ∃ m : Nat, z = (m : Int) := ⟨z.toNat, by omega⟩
                  have hE := HE.out
                  rw [HST.out, if_neg (by omega), Int.toNat_natCast] at hE
                  have HEE := Lib.hid hE
                  have HQ := Lib.hid (fracOf_any (m : Int) 1 wr (HS2.out.below HBA.out (Nat.le_refl _)) (by omega) (by omega) (by omega))
                  rw [(low_one (m : Int)).1, (low_one (m : Int)).2, itoa_nat, itoa_one] at HQ
                  have HF := Lib.hid (fun W (hb : Below w2.heap.size w2 W) => primeSmooth_any (.slice AP p.length cp) p m W (HS2.out.below hb (Nat.le_refl _)) (HP.out.lift hb) HT.out.pe (by omega) (by omega))
                  have d1 : decide ((m : Int) < 1) = false := by rw [decide_eq_false_iff_not]; exact h1
                  have d2x : decide ((99 : Int) < (m : Int)) = false := by rw [decide_eq_false_iff_not]; exact h2
                  clear hE h1 h2 HST HE
                  generalize decDigits m = la at *
                  go_wp2_with fail
                  refine HQ.out.mono ?_
                  rintro e w4 ⟨rfl, hb4⟩
                  have hba : Below wr.heap.size wr (w4.alloc (.cells #[.string ⟨la.toArray⟩, .string ⟨#[49]⟩] 53)) := hb4.alloc hb4.size _
                  have hba2 := HBA.out.trans (hba.mono HBA.out.size)
                  have HF1 := Lib.hid (HF.out _ hba2)
                  have HB4 := Lib.hid (HB.out.trans (hba.mono HB.out.size))
                  clear hb4 hba hba2 HF HQ
                  go_wp2_with fail
                  refine HF1.out.mono ?_
                  rintro e w5 ⟨rfl, hb5⟩
                  have HB5 := Lib.hid (HB4.out.trans (hb5.mono HB4.out.size))
                  clear hb5 HF1
                  cases hs : smB p m 1
                  · have hE : dErr p l = 25 := by rw [HEE.out, if_neg (by rw [hs]; simp)]
                    clear hs
                    have hbq : (dErr p l == 25) = true := by rw [hE]; rfl
                    clear hE HEE
                    go_wp2_with fail
                    go_ret
                    exact ⟨rfl, HB2.out.trans ((HB3.out.trans (HB5.out.mono HB3.out.size)).mono HB2.out.size)⟩
                  · have HE2 : Box (dErr p l = dErr p (l.drop (k + 1))) := ⟨by rw [HEE.out, if_pos hs]⟩
                    clear hs
                    go_wp2_with fail
                    go_roundw
                    case rel => exact ⟨k + 1, by omega, by go_num, HE2, HB5.out⟩
                    case measure => simp [intOf]; omega
            · obtain rfl : k = l.length := by omega
              have hE0 := HE.out
              rw [List.drop_of_length_le (Nat.le_refl _)] at hE0
              exact absurd hE0 HEN.out
    · have d8 : decide ((8 : Int) < (l.length : Int)) = false := by rw [decide_eq_false_iff_not]; omega
      have d20 : decide ((20 : Int) < (l.length : Int)) = false := by rw [decide_eq_false_iff_not]; omega
      have H20 : Box (l.length ≤ 20) := ⟨by omega⟩
      clear hk h8
      go_enter Tryz.func7, Tryz.ntmps7
      go_wp2_with fail
      refine (HK.out w HS.out).mono ?_
      rintro e w1 ⟨rfl, hb1⟩
      go_wp2_with fail
      refine (HPA.out w1).mono ?_
      rintro e w2 ⟨⟨AP, cp, rfl, hp2⟩, hb2⟩
      have hb2' := hb1.trans (hb2.mono hb1.size)
      have HP := Lib.hid hp2
      have HS2 := Lib.hid (HS.out.below hb2' (Nat.le_refl _))
      have HB2 := Lib.hid hb2'
      have HLV2 := Lib.hid (HLV.out.lift hb2')
      clear HK HPA HS HLV hb1 hb2 hb2' hp2

      by_cases hgood : dErr p l = 0
      · have HNO : Box (NumsOk p l) := ⟨dErr_ok hgood⟩
        have HE0 := Lib.hid hgood
        have HDO := Lib.hid (tDia HT.out HNO.out H20.out _ _ w2 HS2.out HP.out HLV2.out)
        have hle := kR_le p (difR p l)
        have hl4 := difR_le p H20.out
        have HLN : Box ((kR p (difR p l)).length ≤ 1000000) := ⟨by omega⟩
        have HLD := Lib.hid (fun W (hb : Below w2.heap.size w2 W) => tLawDia HT.out HNO.out H20.out (.slice AP p.length cp) (.slice AL l.length cl) W (HS2.out.below hb (Nat.le_refl _)) (HP.out.lift hb) (HLV2.out.lift hb))
        clear hgood hle hl4
        generalize kR p (difR p l) = R at *
        go_wp2_with fail
        refine HDO.out.mono ?_
        rintro e w3 ⟨⟨A3, c3, rfl, hr3⟩, hb3⟩
        have HB3 := Lib.hid hb3
        have HR3 := Lib.hid hr3
        clear hb3 hr3 HDO
        go_wp2_with fail
        go_loopw [8] (fun i wr => ∃ k : Nat, k ≤ l.length ∧ i = .int .i64 k ∧ Box (dErr p l = dErr p (l.drop k)) ∧ Below w3.heap.size w3 wr) (fun i _ => l.length - (intOf i).toNat)
        case atStart => exact ⟨0, Nat.zero_le _, rfl, ⟨rfl⟩, Below.refl _ _⟩
        case round =>
          obtain ⟨k, hk, rfl, HE, hbw⟩ := hrel
          by_cases hlt : k < l.length
          · obtain ⟨A', c', e', _, _, hr⟩ := HLV2.out
            injection e' with e1 _ e3
            subst e1 e3
            obtain ⟨ad, rfl, hab, hca⟩ := hr.i_at hlt
            have hge : l[k]?.getD 0 = l[k] := by rw [List.getElem?_eq_getElem hlt]; rfl
            rw [hge] at hca
            have hca2 := ((HB3.out.trans (hbw.mono HB3.out.size)).cell (p := ad.add k) (by rw [add_block]; exact hab)).trans hca
            have hst := dErr_step (p := p) hlt
            clear hr hge hca
            generalize l[k]'hlt = z at *
            have HST := Lib.hid hst
            have HB := Lib.hid hbw
            have HBA := Lib.hid (HB3.out.trans (hbw.mono HB3.out.size))
            have hk1 : (0 : Int) ≤ (k : Int) := by omega
            have hk2 : (k : Int) < (l.length : Int) := by omega
            clear hst hbw
            by_cases h1 : z < 1
            · have hE : dErr p l = 3 := by rw [HE.out, HST.out, if_pos (.inl h1)]
              exact absurd hE (by rw [HE0.out]; decide)
            · by_cases h2 : 99 < z
              · have hE : dErr p l = 3 := by rw [HE.out, HST.out, if_pos (.inr h2)]
                exact absurd hE (by rw [HE0.out]; decide)
              · obtain ⟨m, rfl⟩ : ∃ m : Nat, z = (m : Int) := ⟨z.toNat, by omega⟩
                have hE := HE.out
                rw [HST.out, if_neg (by omega), Int.toNat_natCast] at hE
                have HEE := Lib.hid hE
                have HQ := Lib.hid (fracOf_any (m : Int) 1 wr (HS2.out.below HBA.out (Nat.le_refl _)) (by omega) (by omega) (by omega))
                rw [(low_one (m : Int)).1, (low_one (m : Int)).2, itoa_nat, itoa_one] at HQ
                have HF := Lib.hid (fun W (hb : Below w2.heap.size w2 W) => primeSmooth_any (.slice AP p.length cp) p m W (HS2.out.below hb (Nat.le_refl _)) (HP.out.lift hb) HT.out.pe (by omega) (by omega))
                have d1 : decide ((m : Int) < 1) = false := by rw [decide_eq_false_iff_not]; exact h1
                have d2x : decide ((99 : Int) < (m : Int)) = false := by rw [decide_eq_false_iff_not]; exact h2
                clear hE h1 h2 HST HE
                generalize decDigits m = la at *
                go_wp2_with fail
                refine HQ.out.mono ?_
                rintro e w4 ⟨rfl, hb4⟩
                have hba : Below wr.heap.size wr (w4.alloc (.cells #[.string ⟨la.toArray⟩, .string ⟨#[49]⟩] 53)) := hb4.alloc hb4.size _
                have hba2 := HBA.out.trans (hba.mono HBA.out.size)
                have HF1 := Lib.hid (HF.out _ hba2)
                have HB4 := Lib.hid (HB.out.trans (hba.mono HB.out.size))
                clear hb4 hba hba2 HF HQ
                go_wp2_with fail
                refine HF1.out.mono ?_
                rintro e w5 ⟨rfl, hb5⟩
                have HB5 := Lib.hid (HB4.out.trans (hb5.mono HB4.out.size))
                clear hb5 HF1
                cases hs : smB p m 1
                · have hE : dErr p l = 25 := by rw [HEE.out, if_neg (by rw [hs]; simp)]
                  clear hs
                  exact absurd hE (by rw [HE0.out]; decide)
                · have HE2 : Box (dErr p l = dErr p (l.drop (k + 1))) := ⟨by rw [HEE.out, if_pos hs]⟩
                  clear hs
                  go_wp2_with fail
                  go_roundw
                  case rel => exact ⟨k + 1, by omega, by go_num, HE2, HB5.out⟩
                  case measure => simp [intOf]; omega
          · obtain rfl : k = l.length := by omega
            have hE0 := HE.out
            rw [List.drop_of_length_le (Nat.le_refl _)] at hE0
            have hbz := HB3.out.trans (hbw.mono HB3.out.size)
            have HLD1 := Lib.hid (HLD.out wr hbz)
            have HR4 := Lib.hid (HR3.out.lift hbw)
            have HBZ := Lib.hid (HB2.out.trans (hbz.mono HB2.out.size))
            clear hbz hbw HLD HE hE0
            go_wp2_with fail
            refine HLD1.out.mono ?_
            rintro e w6 ⟨⟨v6, rfl, h6⟩, hb6⟩
            obtain ⟨A6, c6, rfl, _, _, _, hr6⟩ := h6
            have HSM := Lib.hid (same_any29 A3 A6 c3 c6 R R w6 (HR4.out.lift hb6) hr6 HLN.out)
            rw [rowsSame_refl] at HSM
            have HBY := Lib.hid (HBZ.out.trans (hb6.mono HBZ.out.size))
            clear hb6 hr6
            go_wp2_with fail
            refine HSM.out.mono ?_
            rintro e w7 ⟨rfl, hb7⟩
            go_wp2_with fail
            go_ret
            exact ⟨rfl, HBY.out.trans (hb7.mono HBY.out.size)⟩
      · have hbad := hgood
        clear hgood
        have HDB := Lib.hid (diamond_bad _ _ p l w2 HS2.out HP.out HT.out.pe HLV2.out H20.out hbad)
        have HEN := Lib.hid hbad
        clear hbad
        go_wp2_with fail
        refine HDB.out.mono ?_
        rintro e w3 ⟨rfl, hb3⟩
        have HB3 := Lib.hid hb3
        clear hb3 HDB
        go_wp2_with fail
        go_loopw [8] (fun i wr => ∃ k : Nat, k ≤ l.length ∧ i = .int .i64 k ∧ Box (dErr p l = dErr p (l.drop k)) ∧ Below w3.heap.size w3 wr) (fun i _ => l.length - (intOf i).toNat)
        case atStart => exact ⟨0, Nat.zero_le _, rfl, ⟨rfl⟩, Below.refl _ _⟩
        case round =>
          obtain ⟨k, hk, rfl, HE, hbw⟩ := hrel
          by_cases hlt : k < l.length
          · obtain ⟨A', c', e', _, _, hr⟩ := HLV2.out
            injection e' with e1 _ e3
            subst e1 e3
            obtain ⟨ad, rfl, hab, hca⟩ := hr.i_at hlt
            have hge : l[k]?.getD 0 = l[k] := by rw [List.getElem?_eq_getElem hlt]; rfl
            rw [hge] at hca
            have hca2 := ((HB3.out.trans (hbw.mono HB3.out.size)).cell (p := ad.add k) (by rw [add_block]; exact hab)).trans hca
            have hst := dErr_step (p := p) hlt
            clear hr hge hca
            generalize l[k]'hlt = z at *
            have HST := Lib.hid hst
            have HB := Lib.hid hbw
            have HBA := Lib.hid (HB3.out.trans (hbw.mono HB3.out.size))
            have hk1 : (0 : Int) ≤ (k : Int) := by omega
            have hk2 : (k : Int) < (l.length : Int) := by omega
            clear hst hbw
            by_cases h1 : z < 1
            · have hE : dErr p l = 3 := by rw [HE.out, HST.out, if_pos (.inl h1)]
              have d1 : decide (z < 1) = true := by rw [decide_eq_true_iff]; exact h1
              have hbq : (dErr p l == 3) = true := by rw [hE]; rfl
              clear h1 hE HST HE
              go_wp2_with fail
              go_ret
              exact ⟨rfl, HB2.out.trans (HBA.out.mono HB2.out.size)⟩
            · by_cases h2 : 99 < z
              · have hE : dErr p l = 3 := by rw [HE.out, HST.out, if_pos (.inr h2)]
                have d1 : decide (z < 1) = false := by rw [decide_eq_false_iff_not]; exact h1
                have d2x : decide (99 < z) = true := by rw [decide_eq_true_iff]; exact h2
                have hbq : (dErr p l == 3) = true := by rw [hE]; rfl
                clear h1 h2 hE HST HE
                go_wp2_with fail
                go_ret
                exact ⟨rfl, HB2.out.trans (HBA.out.mono HB2.out.size)⟩
              · obtain ⟨m, rfl⟩ : ∃ m : Nat, z = (m : Int) := ⟨z.toNat, by omega⟩
                have hE := HE.out
                rw [HST.out, if_neg (by omega), Int.toNat_natCast] at hE
                have HEE := Lib.hid hE
                have HQ := Lib.hid (fracOf_any (m : Int) 1 wr (HS2.out.below HBA.out (Nat.le_refl _)) (by omega) (by omega) (by omega))
                rw [(low_one (m : Int)).1, (low_one (m : Int)).2, itoa_nat, itoa_one] at HQ
                have HF := Lib.hid (fun W (hb : Below w2.heap.size w2 W) => primeSmooth_any (.slice AP p.length cp) p m W (HS2.out.below hb (Nat.le_refl _)) (HP.out.lift hb) HT.out.pe (by omega) (by omega))
                have d1 : decide ((m : Int) < 1) = false := by rw [decide_eq_false_iff_not]; exact h1
                have d2x : decide ((99 : Int) < (m : Int)) = false := by rw [decide_eq_false_iff_not]; exact h2
                clear hE h1 h2 HST HE
                generalize decDigits m = la at *
                go_wp2_with fail
                refine HQ.out.mono ?_
                rintro e w4 ⟨rfl, hb4⟩
                have hba : Below wr.heap.size wr (w4.alloc (.cells #[.string ⟨la.toArray⟩, .string ⟨#[49]⟩] 53)) := hb4.alloc hb4.size _
                have hba2 := HBA.out.trans (hba.mono HBA.out.size)
                have HF1 := Lib.hid (HF.out _ hba2)
                have HB4 := Lib.hid (HB.out.trans (hba.mono HB.out.size))
                clear hb4 hba hba2 HF HQ
                go_wp2_with fail
                refine HF1.out.mono ?_
                rintro e w5 ⟨rfl, hb5⟩
                have HB5 := Lib.hid (HB4.out.trans (hb5.mono HB4.out.size))
                clear hb5 HF1
                cases hs : smB p m 1
                · have hE : dErr p l = 25 := by rw [HEE.out, if_neg (by rw [hs]; simp)]
                  clear hs
                  have hbq : (dErr p l == 25) = true := by rw [hE]; rfl
                  clear hE HEE
                  go_wp2_with fail
                  go_ret
                  exact ⟨rfl, HB2.out.trans ((HB3.out.trans (HB5.out.mono HB3.out.size)).mono HB2.out.size)⟩
                · have HE2 : Box (dErr p l = dErr p (l.drop (k + 1))) := ⟨by rw [HEE.out, if_pos hs]⟩
                  clear hs
                  go_wp2_with fail
                  go_roundw
                  case rel => exact ⟨k + 1, by omega, by go_num, HE2, HB5.out⟩
                  case measure => simp [intOf]; omega
          · obtain rfl : k = l.length := by omega
            have hE0 := HE.out
            rw [List.drop_of_length_le (Nat.le_refl _)] at hE0
            exact absurd hE0 HEN.out

end Go.Proofs.YtcfkclafpbaagaaGreatDoor
