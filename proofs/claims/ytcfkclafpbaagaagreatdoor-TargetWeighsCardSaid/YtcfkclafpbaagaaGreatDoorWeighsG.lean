/- TargetWeighs: the walk. -/
import Derived.Test.YtcfkclafpbaagaaGreatDoorGTQ
import Derived.Test.YtcfkclafpbaagaaGreatDoorREqG
import Derived.Test.YtcfkclafpbaagaaGreatDoorReduceG
namespace Go.Proofs.YtcfkclafpbaagaaGreatDoor
open Go.RowKit Go.Lib Go.Shelf

theorem rat_neq (a b : List UInt8) (w : World) : (binOp .neq 53 (.agg #[.string ⟨a.toArray⟩, .string ⟨b.toArray⟩]) (.agg #[.string ⟨a.toArray⟩, .string ⟨b.toArray⟩])).run Tryz.prog w = .ok (.bool false) w := by
  have hS : Tryz.prog.underlying 53 = some (.struct (Tryz.prog.fieldsOf 53)) := by kernel_rfl
  have hp : Tryz.prog.stoodInHeld 53 = false := by kernel_rfl
  rw [run_neq_struct, show (10000 : Nat) = 9999 + 1 from rfl, run_equalIn_agg w 9999 53 _ _ hS hp]
  simp only [Program.fieldsOf, Tryz.underlying53]
  have u := Tryz.underlying51
  go_simp

set_option maxRecDepth 100000 in
set_option maxHeartbeats 16000000 in
theorem weighs_walk (n : Nat) (v1 : Value) (l1 : List (List Int)) (kd : Int) (w : World) (hS : Std w) (hn : n ≤ 255) (hF : FoursArg w v1 l1) (_hk1 : -9223372036854775808 ≤ kd) (_hk2 : kd ≤ 9223372036854775807) :
    Calls Tryz.prog 10 #[.int .u8 n, v1, .int .i64 kd] w fun e w' => e = .returned (.bool true) ∧ Below w.heap.size w w' := by
  obtain ⟨i0, hi0, hz0, hz1, hz2⟩ := info_parts Tryz.info_row
  have HK := Lib.hid (fun W hW => known_any29 W hW)
  have hF0 := hF
  obtain ⟨A, c, rfl, hlm, _⟩ := hF
  have HS := Lib.hid hS
  unfold maxLen at hlm
  have hll : l1.length ≤ 9223372036854775807 := by omega
  clear hlm hS
  by_cases hbad : 8 < l1.length ∧ (l1.length < 60 ∨ 62 < l1.length)
  · have d8 : decide ((8 : Int) < (l1.length : Int)) = true := by rw [decide_eq_true_iff]; omega
    obtain ⟨_, hb2⟩ := hbad
    clear hF0
    by_cases hb3 : l1.length < 60
    · have d1 : decide ((l1.length : Int) < 60) = true := by rw [decide_eq_true_iff]; omega
      clear hb2 hb3
      go_enter Tryz.func10, Tryz.ntmps10
      go_wp2_with fail
      refine (HK.out w HS.out).mono ?_
      rintro e w1 ⟨rfl, hb1⟩
      go_wp2_with fail
      refine (HK.out w1 (HS.out.below hb1 (Nat.le_refl _))).mono ?_
      rintro e w2 ⟨rfl, hb2⟩
      go_wp2_with fail
      go_ret
      exact ⟨rfl, hb1.trans (hb2.mono hb1.size)⟩
    · have d1 : decide ((l1.length : Int) < 60) = false := by rw [decide_eq_false_iff_not]; omega
      have d2 : decide ((62 : Int) < (l1.length : Int)) = true := by rw [decide_eq_true_iff]; omega
      clear hb2 hb3
      go_enter Tryz.func10, Tryz.ntmps10
      go_wp2_with fail
      refine (HK.out w HS.out).mono ?_
      rintro e w1 ⟨rfl, hb1⟩
      go_wp2_with fail
      refine (HK.out w1 (HS.out.below hb1 (Nat.le_refl _))).mono ?_
      rintro e w2 ⟨rfl, hb2⟩
      go_wp2_with fail
      go_ret
      exact ⟨rfl, hb1.trans (hb2.mono hb1.size)⟩
  · have hl62 : l1.length ≤ 62 := by omega
    have HF := Lib.hid hF0
    obtain ⟨p, hpE⟩ : ∃ p, p = primesOf n := ⟨_, rfl⟩
    obtain ⟨a, LG, hT0⟩ := tabOk n
    have HPS := Lib.hid (fun x => prod_small (n := n) (x := x))
    rw [← hpE] at hT0 HPS
    have HPA : Hid (∀ W, Calls Tryz.prog 12 #[.int .u8 n] W fun e w' => (∃ B c, e = .returned (.slice B p.length c) ∧ IsRow w' w'.heap.size (.slice B p.length c) p) ∧ Below W.heap.size W w') := Lib.hid (fun W => by rw [hpE]; exact primes_any n W hn)
    have HN := Lib.hid hn
    clear hF0 hn hpE
    have HT : Box (TabOk p a LG) := ⟨hT0⟩
    have hple := hT0.le
    obtain ⟨L, hL⟩ : ∃ L, L = ivls p l1 := ⟨_, rfl⟩
    have hLL : L.length = l1.length := by rw [hL, ivls_len]
    have HLL := Lib.hid hLL
    have HLG : Hid (∀ k (h : k < l1.length) (h2 : k < L.length), L[k] = ivlTo l1[k] p.length) := Lib.hid (fun k h h2 => by subst hL; exact ivls_get h)
    have HLS : Box (∀ x ∈ L, SmR p x) := ⟨by rw [hL]; exact ivls_sm⟩
    have HD : Box (∀ x ∈ L, (decDigits (num p x * den p x)).length ≤ 30) := ⟨by
      intro x hx
      rw [hL] at hx
      obtain ⟨f, _, rfl⟩ := List.mem_map.1 hx
      refine HPS.out _ (ivlTo_len _ _) fun i => ?_
      by_cases hi : i < p.length
      · rw [ivlTo_get f i _ hi]
        have := tmod_bound (f[i]?.getD 0)
        omega
      · rw [List.getElem?_eq_none (by rw [ivlTo_len]; omega)]; decide⟩
    clear hT0 hL hLL HPS
    by_cases h8 : 8 < l1.length
    · have d8 : decide ((8 : Int) < (l1.length : Int)) = true := by rw [decide_eq_true_iff]; omega
      have d1 : decide ((l1.length : Int) < 60) = false := by rw [decide_eq_false_iff_not]; omega
      have d2 : decide ((62 : Int) < (l1.length : Int)) = false := by rw [decide_eq_false_iff_not]; omega
      clear hbad h8
      go_enter Tryz.func10, Tryz.ntmps10
      go_wp2_with fail
      refine (HK.out w HS.out).mono ?_
      rintro e w1 ⟨rfl, hb1⟩
      go_wp2_with fail
      refine (HPA.out w1).mono ?_
      rintro e w2 ⟨⟨AP, cp, rfl, hp2⟩, hb2⟩
      have hb2' := hb1.trans (hb2.mono hb1.size)
      have HP := Lib.hid hp2
      have HS2 := Lib.hid (HS.out.below hb2' (Nat.le_refl _))
      have HBW := Lib.hid hb2'
      have HF2 : Hid (∀ W, Below w2.heap.size w2 W → FoursArg W (.slice A l1.length c) l1) := Lib.hid (fun W hb => by
        obtain ⟨A', c', e, h1, h2⟩ := HF.out
        refine ⟨A', c', e, h1, fun k x hx => ?_⟩
        obtain ⟨h3, ad, e2, h4, h5⟩ := h2 k x hx
        have hbb := HBW.out.trans (hb.mono HBW.out.size)
        exact ⟨h3, ad, e2, Nat.lt_of_lt_of_le h4 hbb.size, fun j hj => by rw [hbb.cell (by rw [add_block]; exact h4)]; exact h5 j hj⟩)
      clear HK HPA HS HF hb1 hb2 hb2' hp2
      go_wp2_with fail
      go_loopw [8, 9] (fun vx i wr => ∃ k : Nat, k ≤ l1.length ∧ i = .int .i64 k ∧ Hid (LRow wr w2.heap.size vx (L.take k)) ∧ Below w2.heap.size w2 wr) (fun _ i _ => l1.length - (intOf i).toNat)
      case atStart => exact ⟨0, Nat.zero_le _, rfl, Lib.hid (LRow.nil _ _), Below.refl _ _⟩
      case round =>
        obtain ⟨k, hk, rfl, HX, hbw⟩ := hrel
        by_cases hlt : k < l1.length
        · obtain ⟨b, o, f0, f1, f2, f3, rfl, hbs, hfe, h4, t0, t1, t2, t3⟩ := four_at (HF2.out wr hbw) hlt
          have hkL : k < L.length := by rw [HLL.out]; exact hlt
          have hLk := HLG.out k hlt hkL
          rw [hfe] at hLk
          have HTK := Lib.hid (show L.take (k + 1) = L.take k ++ [ivlTo [f0, f1, f2, f3] p.length] by rw [← hLk]; exact (List.take_append_getElem hkL).symm)
          have HIV := Lib.hid (interval_own AP cp p.length f0 f1 f2 f3 wr hple h4)
          have HBD := Lib.hid hbw
          have hw2r := hbw.size
          clear hfe h4 hLk hbw
          generalize ivlTo [f0, f1, f2, f3] p.length = x at *
          go_wp2_with fail
          refine HIV.out.mono ?_
          rintro e w3 ⟨⟨A3, c3, rfl, ho3⟩, hb3⟩
          replace HX := Lib.hid (HX.out.below hb3)
          replace HBD := Lib.hid (HBD.out.trans (hb3.mono HBD.out.size))
          obtain ⟨vs, hown, hvs⟩ := HX.out
          have hlk : (L.take k).length = k := by rw [List.length_take]; omega
          rw [hlk] at hown
          have HLK := Lib.hid hlk
          have HO := Lib.hid hown
          have HVS := Lib.hid hvs
          have HR3 := Lib.hid ho3
          have hk8 : k ≤ 62 := by omega
          have hw3 : w2.heap.size ≤ w3.heap.size := HBD.out.size
          clear hown hvs ho3 hb3 HX hlk HIV t0 t1 t2 t3
          go_wp2_with (at_builtin; refine wpList_append_own _ rfl _ _ _ rfl w2.heap.size 28 i0 (.slice Option.none 0 0) 1 24 Tryz.underlying27 hi0 hz0 hz1 hz2 rfl (by decide) _ _ _ rfl (HO.out.alloc _) ⟨w3.heap.size, 0, Option.none⟩ 1 1 [_] rfl rfl (cell_one_new _ _ _) (by intro u hu; simp at hu; subst hu; rfl) (by unfold maxLen; omega) (by omega) (by simp; omega) ?_; intro v3 w4 hown3 hg3 _)
          have hal := HO.out.alloc (.cells #[.slice A3 x.length c3] 28)
          go_roundw
          case rel =>
            refine ⟨k + 1, by omega, by go_num, Lib.hid ?_, (HBD.out.alloc hw3 _).grown hg3 (by simp; omega) (fun j hj => (hal.lt j hj).1)⟩
            rw [HTK.out]
            exact LRow.snoc (by rw [HLK.out]; exact hal) (fun j z hz => by obtain ⟨u, h5, h6⟩ := HVS.out j z hz; exact ⟨u, h5, h6.alloc _⟩) (HR3.out.alloc _) (by rw [HLK.out]; exact hown3) hg3
          case measure => simp [intOf]; omega
        · obtain rfl : k = l1.length := by omega
          have htk : L.take l1.length = L := List.take_of_length_le (by rw [HLL.out]; exact Nat.le_refl _)
          have hx0 := HX.out
          rw [htk] at hx0
          obtain ⟨AX, cx, rfl⟩ := hx0.shape
          have hrx := hx0.rows.2
          have hL62 : L.length ≤ 62 := by rw [HLL.out]; exact hl62
          have hpe := HT.out.pe
          have hchk := chk_row HLS.out hpe
          have hv : lstErr p L = 0 := by unfold lstErr; rw [if_neg (by simp [hpe]), if_neg (by omega)]; exact chk_all hpe hchk
          have HV := Lib.hid hv
          have HPE := Lib.hid hpe
          have HCK := Lib.hid hchk
          have HRX := Lib.hid hrx
          have HBD := Lib.hid hbw
          have HPR := Lib.hid (HP.out.lift hbw)
          have HSR := Lib.hid (HS2.out.below hbw (Nat.le_refl _))
          clear hx0 htk hrx hbw HX HF2 HLG hv hpe hchk hl62 HP HS2
          by_cases hq1 : kd = 1
          · subst hq1
            by_cases h60 : 60 < L.length
            · have d60 : decide ((60 : Int) < (L.length : Int)) = true := by rw [decide_eq_true_iff]; omega
              have HW := Lib.hid (weigh_many _ p AX cx L 1 wr HPR.out HRX.out (by omega) HV.out (.inl rfl) h60)
              clear h60
              go_wp2_with fail
              refine HW.out.mono ?_
              rintro e w3 ⟨rfl, rfl⟩
              clear HW
              go_wp2_with fail
              go_loopw [12, 13] (fun q i wr2 => q = .int .i64 4 ∧ i = .int .i64 (0 : Nat) ∧ wr2 = wr) (fun _ _ _ => 0)
              case atStart => exact ⟨rfl, rfl, rfl⟩
              case round =>
                obtain ⟨rfl, rfl, rfl⟩ := hrel
                by_cases hl0 : 0 < L.length
                · skip
                  go_wp2_with fail
                  all_goals
                    go_ret
                    exact ⟨rfl, HBW.out.trans (HBD.out.mono HBW.out.size)⟩
                · skip
                  go_wp2_with fail
                  all_goals
                    go_ret
                    exact ⟨rfl, HBW.out.trans (HBD.out.mono HBW.out.size)⟩
            · have H60 : Box (L.length ≤ 60) := ⟨by omega⟩
              have d60 : decide ((60 : Int) < (L.length : Int)) = false := by rw [decide_eq_false_iff_not]; omega
              clear h60
              have HW := Lib.hid (weigh_ok1 _ p AX cx L wr HSR.out HPR.out HPE.out HRX.out HCK.out H60.out HD.out)
              have HWO : Box (∀ x ∈ L, WtOk (wtD p 1 x)) := ⟨fun x hx => ⟨1, by omega, by unfold wtD; rw [if_neg (by decide), dec_small (by omega)]; rfl, by unfold wtD; rw [if_neg (by decide)]; simp⟩⟩
              go_wp2_with fail
              refine HW.out.mono ?_
              rintro e w3 ⟨⟨v3, rfl, B3, cc3, rfl, ht3⟩, hb3⟩
              replace HBD := Lib.hid (HBD.out.trans (hb3.mono HBD.out.size))
              replace HRX := Lib.hid (HRX.out.lift hb3)
              replace HPR := Lib.hid (HPR.out.lift hb3)
              replace HSR := Lib.hid (HSR.out.below hb3 (Nat.le_refl _))
              have HT3 := Lib.hid ht3
              clear HW hb3 ht3
              go_wp2_with fail
              go_loopw [12, 13] (fun q i wr => q = .int .i64 0 ∧ i = .int .i64 (0 : Nat) ∧ wr = w3) (fun _ _ _ => 0)
              case atStart => exact ⟨rfl, rfl, rfl⟩
              case round =>
                obtain ⟨rfl, rfl, rfl⟩ := hrel
                by_cases hl0 : 0 < L.length
                · skip
                  have HDM := Lib.hid (damage_ok _ p B3 cc3 L (wtD p 1) wr HSR.out HPR.out HPE.out HT3.out HCK.out H60.out HWO.out)
                  go_wp2_with fail
                  refine HDM.out.mono ?_
                  rintro e w4 ⟨rfl, hb4⟩
                  replace HBD := Lib.hid (HBD.out.trans (hb4.mono HBD.out.size))
                  replace HRX := Lib.hid (HRX.out.lift hb4)
                  replace HPR := Lib.hid (HPR.out.lift hb4)
                  replace HSR := Lib.hid (HSR.out.below hb4 (Nat.le_refl _))
                  replace HT3 := Lib.hid (HT3.out.lift hb4)
                  clear HDM hb4
                  go_wp2_with fail
                  clear hl0
                  go_loopw [16] (fun i wr => ∃ k : Nat, k ≤ L.length ∧ i = .int .i64 k ∧ Below w4.heap.size w4 wr) (fun i _ => L.length - (intOf i).toNat)
                  case atStart => exact ⟨0, Nat.zero_le _, rfl, Below.refl _ _⟩
                  case round =>
                    obtain ⟨k, hk, rfl, hbw⟩ := hrel
                    by_cases hltk : k < L.length
                    · obtain ⟨b, o, u, rfl, hab, h0, h1, h2, hru⟩ := HT3.out k L[k] (List.getElem?_eq_getElem hltk)
                      obtain ⟨b2, o2, u2, rfl, hab2, hx2, hru2⟩ := rows_plain HRX.out (List.getElem?_eq_getElem hltk)
                      have hcx := HCK.out _ (List.getElem_mem hltk)
                      have hdx := HD.out _ (List.getElem_mem hltk)
                      generalize L[k] = x at *
                      have HB := Lib.hid hbw
                      have hkn : k ≤ 62 := by omega
                      have hk1 : (0 : Int) ≤ (k : Int) := by omega
                      have hk2 : (k : Int) < (L.length : Int) := by omega
                      have HQ := Lib.hid (fun (W : World) (hb : Below w4.heap.size w4 W) => rowEqual_any u u2 x x W (hru.lift hb) (hru2.lift hb))
                      rw [show sameB x x = true by unfold sameB; simp] at HQ
                      obtain ⟨H, hH⟩ : ∃ H, H = wr.heap.size := ⟨_, rfl⟩
                      obtain ⟨W, hW⟩ : ∃ W, W = wr.alloc (.cells #[.string ⟨#[49]⟩, .string ⟨#[49]⟩] 53) := ⟨_, rfl⟩
                      have hba : Below wr.heap.size wr W := by rw [hW]; exact (Below.refl _ _).alloc (Nat.le_refl _) _
                      have q0 : W.cell? ⟨H, 0, Option.none⟩ = some (.string ⟨#[49]⟩) := by rw [hW, hH]; exact World.cell?_alloc_new _ _ _ 0
                      have q1 : W.cell? ⟨H, 1, Option.none⟩ = some (.string ⟨(wtD p 1 x).toArray⟩) := by rw [hW, hH]; exact World.cell?_alloc_new _ _ _ 1
                      have HB5 := Lib.hid (hbw.trans (hba.mono hbw.size))
                      go_wp2_with fail
                      rw [← hW, ← hH]
                      clear hba hW hH hbw HB
                      have hb5 := HB5.out
                      have t0 := (hb5.cell (p := ⟨b, o + k * 3, Option.none⟩) hab).trans h0
                      have t1 := (hb5.cell (p := ⟨b, o + k * 3 + 1, Option.none⟩) hab).trans h1
                      have t2 := (hb5.cell (p := ⟨b, o + k * 3 + 2, Option.none⟩) hab).trans h2
                      have tx := (hb5.cell (p := ⟨b2, o2 + k, Option.none⟩) hab2).trans hx2
                      have hrn := rat_neq [49] (wtD p 1 x)
                      obtain ⟨AU, cu, rfl⟩ := hru.shape
                      obtain ⟨AV, cv, rfl⟩ := hru2.shape
                      clear h0 h1 h2 hx2 hcx hdx hru hru2 hb5
                      generalize wtD p 1 x = dd at *
                      have hB : Below W.heap.size W W.drew := below_drew (Below.refl _ _)
                      have hBq : Below w4.heap.size w4 W.drew := below_drew HB5.out
                      go_wp2_with fail
                      go_region_held3 (fun w' => (w'.cell? ⟨b, o + k * 3, Option.none⟩ = some (.slice AU x.length cu) ∧ w'.cell? ⟨b, o + k * 3 + 1, Option.none⟩ = some (.string ⟨#[49]⟩) ∧ w'.cell? ⟨b, o + k * 3 + 2, Option.none⟩ = some (.string ⟨dd.toArray⟩)) ∧ w'.cell? ⟨b2, o2 + k, Option.none⟩ = some (.slice AV x.length cv) ∧ w'.cell? ⟨H, 0, Option.none⟩ = some (.string ⟨#[49]⟩) ∧ w'.cell? ⟨H, 1, Option.none⟩ = some (.string ⟨dd.toArray⟩))
                        (first | exact ⟨⟨keep_cell t0 hB, keep_cell t1 hB, keep_cell t2 hB⟩, keep_cell tx hB, keep_cell q0 hB, keep_cell q1 hB⟩ | go_keep)
                        ((first | (go_at_call 38; (with_reducible refine (HQ.out _ hBq).mono ?_); rintro e w7 ⟨rfl, hbk⟩; replace hB := hB.trans (hbk.mono hB.size); replace hBq := hBq.trans (hbk.mono hBq.size); clear hbk)))
                      all_goals
                        go_wp2_with fail
                        go_roundw
                        case rel => exact ⟨k + 1, by omega, by go_num, hBq⟩
                        case measure => simp [intOf]; omega
                    · obtain rfl : k = L.length := by omega
                      have HB := Lib.hid (HBD.out.trans (hbw.mono HBD.out.size))
                      clear hbw
                      go_wp2_with fail
                      go_ret
                      exact ⟨rfl, HBW.out.trans (HB.out.mono HBW.out.size)⟩
                · skip
                  have HDM := Lib.hid (damage_ok _ p B3 cc3 L (wtD p 1) wr HSR.out HPR.out HPE.out HT3.out HCK.out H60.out HWO.out)
                  go_wp2_with fail
                  refine HDM.out.mono ?_
                  rintro e w4 ⟨rfl, hb4⟩
                  replace HBD := Lib.hid (HBD.out.trans (hb4.mono HBD.out.size))
                  replace HRX := Lib.hid (HRX.out.lift hb4)
                  replace HPR := Lib.hid (HPR.out.lift hb4)
                  replace HSR := Lib.hid (HSR.out.below hb4 (Nat.le_refl _))
                  replace HT3 := Lib.hid (HT3.out.lift hb4)
                  clear HDM hb4
                  go_wp2_with fail
                  clear hl0
                  go_loopw [16] (fun i wr => ∃ k : Nat, k ≤ L.length ∧ i = .int .i64 k ∧ Below w4.heap.size w4 wr) (fun i _ => L.length - (intOf i).toNat)
                  case atStart => exact ⟨0, Nat.zero_le _, rfl, Below.refl _ _⟩
                  case round =>
                    obtain ⟨k, hk, rfl, hbw⟩ := hrel
                    by_cases hltk : k < L.length
                    · obtain ⟨b, o, u, rfl, hab, h0, h1, h2, hru⟩ := HT3.out k L[k] (List.getElem?_eq_getElem hltk)
                      obtain ⟨b2, o2, u2, rfl, hab2, hx2, hru2⟩ := rows_plain HRX.out (List.getElem?_eq_getElem hltk)
                      have hcx := HCK.out _ (List.getElem_mem hltk)
                      have hdx := HD.out _ (List.getElem_mem hltk)
                      generalize L[k] = x at *
                      have HB := Lib.hid hbw
                      have hkn : k ≤ 62 := by omega
                      have hk1 : (0 : Int) ≤ (k : Int) := by omega
                      have hk2 : (k : Int) < (L.length : Int) := by omega
                      have HQ := Lib.hid (fun (W : World) (hb : Below w4.heap.size w4 W) => rowEqual_any u u2 x x W (hru.lift hb) (hru2.lift hb))
                      rw [show sameB x x = true by unfold sameB; simp] at HQ
                      obtain ⟨H, hH⟩ : ∃ H, H = wr.heap.size := ⟨_, rfl⟩
                      obtain ⟨W, hW⟩ : ∃ W, W = wr.alloc (.cells #[.string ⟨#[49]⟩, .string ⟨#[49]⟩] 53) := ⟨_, rfl⟩
                      have hba : Below wr.heap.size wr W := by rw [hW]; exact (Below.refl _ _).alloc (Nat.le_refl _) _
                      have q0 : W.cell? ⟨H, 0, Option.none⟩ = some (.string ⟨#[49]⟩) := by rw [hW, hH]; exact World.cell?_alloc_new _ _ _ 0
                      have q1 : W.cell? ⟨H, 1, Option.none⟩ = some (.string ⟨(wtD p 1 x).toArray⟩) := by rw [hW, hH]; exact World.cell?_alloc_new _ _ _ 1
                      have HB5 := Lib.hid (hbw.trans (hba.mono hbw.size))
                      go_wp2_with fail
                      rw [← hW, ← hH]
                      clear hba hW hH hbw HB
                      have hb5 := HB5.out
                      have t0 := (hb5.cell (p := ⟨b, o + k * 3, Option.none⟩) hab).trans h0
                      have t1 := (hb5.cell (p := ⟨b, o + k * 3 + 1, Option.none⟩) hab).trans h1
                      have t2 := (hb5.cell (p := ⟨b, o + k * 3 + 2, Option.none⟩) hab).trans h2
                      have tx := (hb5.cell (p := ⟨b2, o2 + k, Option.none⟩) hab2).trans hx2
                      have hrn := rat_neq [49] (wtD p 1 x)
                      obtain ⟨AU, cu, rfl⟩ := hru.shape
                      obtain ⟨AV, cv, rfl⟩ := hru2.shape
                      clear h0 h1 h2 hx2 hcx hdx hru hru2 hb5
                      generalize wtD p 1 x = dd at *
                      have hB : Below W.heap.size W W.drew := below_drew (Below.refl _ _)
                      have hBq : Below w4.heap.size w4 W.drew := below_drew HB5.out
                      go_wp2_with fail
                      go_region_held3 (fun w' => (w'.cell? ⟨b, o + k * 3, Option.none⟩ = some (.slice AU x.length cu) ∧ w'.cell? ⟨b, o + k * 3 + 1, Option.none⟩ = some (.string ⟨#[49]⟩) ∧ w'.cell? ⟨b, o + k * 3 + 2, Option.none⟩ = some (.string ⟨dd.toArray⟩)) ∧ w'.cell? ⟨b2, o2 + k, Option.none⟩ = some (.slice AV x.length cv) ∧ w'.cell? ⟨H, 0, Option.none⟩ = some (.string ⟨#[49]⟩) ∧ w'.cell? ⟨H, 1, Option.none⟩ = some (.string ⟨dd.toArray⟩))
                        (first | exact ⟨⟨keep_cell t0 hB, keep_cell t1 hB, keep_cell t2 hB⟩, keep_cell tx hB, keep_cell q0 hB, keep_cell q1 hB⟩ | go_keep)
                        ((first | (go_at_call 38; (with_reducible refine (HQ.out _ hBq).mono ?_); rintro e w7 ⟨rfl, hbk⟩; replace hB := hB.trans (hbk.mono hB.size); replace hBq := hBq.trans (hbk.mono hBq.size); clear hbk)))
                      all_goals
                        go_wp2_with fail
                        go_roundw
                        case rel => exact ⟨k + 1, by omega, by go_num, hBq⟩
                        case measure => simp [intOf]; omega
                    · obtain rfl : k = L.length := by omega
                      have HB := Lib.hid (HBD.out.trans (hbw.mono HBD.out.size))
                      clear hbw
                      go_wp2_with fail
                      go_ret
                      exact ⟨rfl, HBW.out.trans (HB.out.mono HBW.out.size)⟩
          · by_cases hq2 : kd = 2
            · subst hq2
              by_cases h60 : 60 < L.length
              · have d60 : decide ((60 : Int) < (L.length : Int)) = true := by rw [decide_eq_true_iff]; omega
                have HW := Lib.hid (weigh_many _ p AX cx L 2 wr HPR.out HRX.out (by omega) HV.out (.inr rfl) h60)
                clear h60
                go_wp2_with fail
                refine HW.out.mono ?_
                rintro e w3 ⟨rfl, rfl⟩
                clear HW
                go_wp2_with fail
                go_loopw [12, 13] (fun q i wr2 => q = .int .i64 4 ∧ i = .int .i64 (0 : Nat) ∧ wr2 = wr) (fun _ _ _ => 0)
                case atStart => exact ⟨rfl, rfl, rfl⟩
                case round =>
                  obtain ⟨rfl, rfl, rfl⟩ := hrel
                  by_cases hl0 : 0 < L.length
                  · skip
                    go_wp2_with fail
                    all_goals
                      go_ret
                      exact ⟨rfl, HBW.out.trans (HBD.out.mono HBW.out.size)⟩
                  · skip
                    go_wp2_with fail
                    all_goals
                      go_ret
                      exact ⟨rfl, HBW.out.trans (HBD.out.mono HBW.out.size)⟩
              · have H60 : Box (L.length ≤ 60) := ⟨by omega⟩
                have d60 : decide ((60 : Int) < (L.length : Int)) = false := by rw [decide_eq_false_iff_not]; omega
                clear h60
                have HW := Lib.hid (weigh_ok2 _ p AX cx L wr HSR.out HPR.out HPE.out HRX.out HCK.out H60.out HD.out)
                have HWO : Box (∀ x ∈ L, WtOk (wtD p 2 x)) := ⟨fun x hx => ⟨num p x * den p x, Nat.mul_pos (num_pos (primed HPE.out) (HLS.out x hx).len) (den_pos (primed HPE.out) (HLS.out x hx).len), by unfold wtD; rw [if_pos rfl], by unfold wtD; rw [if_pos rfl]; exact HD.out x hx⟩⟩
                go_wp2_with fail
                refine HW.out.mono ?_
                rintro e w3 ⟨⟨v3, rfl, B3, cc3, rfl, ht3⟩, hb3⟩
                replace HBD := Lib.hid (HBD.out.trans (hb3.mono HBD.out.size))
                replace HRX := Lib.hid (HRX.out.lift hb3)
                replace HPR := Lib.hid (HPR.out.lift hb3)
                replace HSR := Lib.hid (HSR.out.below hb3 (Nat.le_refl _))
                have HT3 := Lib.hid ht3
                clear HW hb3 ht3
                go_wp2_with fail
                go_loopw [12, 13] (fun q i wr => ∃ k : Nat, k ≤ L.length ∧ q = .int .i64 0 ∧ i = .int .i64 k ∧ Below w3.heap.size w3 wr) (fun _ i _ => L.length - (intOf i).toNat)
                case atStart => exact ⟨0, Nat.zero_le _, rfl, rfl, Below.refl _ _⟩
                case round =>
                  obtain ⟨k, hk, rfl, rfl, hbw⟩ := hrel
                  by_cases hltk : k < L.length
                  · obtain ⟨b2, o2, u2, rfl, hab2, hx2, hru2⟩ := rows_plain HRX.out (List.getElem?_eq_getElem hltk)
                    have hcx := HCK.out _ (List.getElem_mem hltk)
                    have hdx := HD.out _ (List.getElem_mem hltk)
                    generalize L[k] = x at *
                    have HPD := Lib.hid (product_any (.slice AP p.length cp) u2 p x wr (HPR.out.lift hbw) (hru2.lift hbw) hcx (HSR.out.below hbw (Nat.le_refl _)))
                    have hso : shortOut (decDigits (num p x * den p x)) = .tuple #[.string ⟨(decDigits (num p x * den p x)).toArray⟩, .int .i64 0] := by unfold shortOut; rw [if_pos (by omega)]
                    rw [hso] at HPD
                    have ddl : decide ((30 : Int) < ((decDigits (num p x * den p x)).length : Int)) = false := by rw [decide_eq_false_iff_not]; omega
                    have hd30 : (decDigits (num p x * den p x)).length ≤ 30 := hdx
                    have tx := (hbw.cell (p := ⟨b2, o2 + k, Option.none⟩) hab2).trans hx2
                    have hk1 : (0 : Int) ≤ (k : Int) := by omega
                    have hk2 : (k : Int) < (L.length : Int) := by omega
                    have HB := Lib.hid hbw
                    obtain ⟨AV, cv, rfl⟩ := hru2.shape
                    clear hso hdx hcx hx2 hru2 hbw
                    generalize decDigits (num p x * den p x) = dd at *
                    go_wp2_with fail
                    refine HPD.out.mono ?_
                    rintro e w5 ⟨rfl, hb5⟩
                    have HB5 := Lib.hid (HB.out.trans (hb5.mono HB.out.size))
                    clear hb5
                    go_wp2_with fail
                    go_roundw
                    case rel => exact ⟨k + 1, by omega, rfl, by go_num, HB5.out⟩
                    case measure => simp [intOf]; omega
                  · obtain rfl : k = L.length := by omega
                    have dlk : decide ((L.length : Int) < (L.length : Int)) = false := by rw [decide_eq_false_iff_not]; omega
                    replace HBD := Lib.hid (HBD.out.trans (hbw.mono HBD.out.size))
                    replace HRX := Lib.hid (HRX.out.lift hbw)
                    replace HPR := Lib.hid (HPR.out.lift hbw)
                    replace HSR := Lib.hid (HSR.out.below hbw (Nat.le_refl _))
                    replace HT3 := Lib.hid (HT3.out.lift hbw)
                    clear hbw
                    have HDM := Lib.hid (damage_ok _ p B3 cc3 L (wtD p 2) wr HSR.out HPR.out HPE.out HT3.out HCK.out H60.out HWO.out)
                    go_wp2_with fail
                    refine HDM.out.mono ?_
                    rintro e w4 ⟨rfl, hb4⟩
                    replace HBD := Lib.hid (HBD.out.trans (hb4.mono HBD.out.size))
                    replace HRX := Lib.hid (HRX.out.lift hb4)
                    replace HPR := Lib.hid (HPR.out.lift hb4)
                    replace HSR := Lib.hid (HSR.out.below hb4 (Nat.le_refl _))
                    replace HT3 := Lib.hid (HT3.out.lift hb4)
                    clear HDM hb4
                    go_wp2_with fail
                    go_loopw [16] (fun i wr => ∃ k : Nat, k ≤ L.length ∧ i = .int .i64 k ∧ Below w4.heap.size w4 wr) (fun i _ => L.length - (intOf i).toNat)
                    case atStart => exact ⟨0, Nat.zero_le _, rfl, Below.refl _ _⟩
                    case round =>
                      obtain ⟨k, hk, rfl, hbw⟩ := hrel
                      by_cases hltk : k < L.length
                      · obtain ⟨b, o, u, rfl, hab, h0, h1, h2, hru⟩ := HT3.out k L[k] (List.getElem?_eq_getElem hltk)
                        obtain ⟨b2, o2, u2, rfl, hab2, hx2, hru2⟩ := rows_plain HRX.out (List.getElem?_eq_getElem hltk)
                        have hcx := HCK.out _ (List.getElem_mem hltk)
                        have hdx := HD.out _ (List.getElem_mem hltk)
                        generalize L[k] = x at *
                        have HB := Lib.hid hbw
                        have hkn : k ≤ 62 := by omega
                        have hk1 : (0 : Int) ≤ (k : Int) := by omega
                        have hk2 : (k : Int) < (L.length : Int) := by omega
                        have HQ := Lib.hid (fun (W : World) (hb : Below w4.heap.size w4 W) => rowEqual_any u u2 x x W (hru.lift hb) (hru2.lift hb))
                        rw [show sameB x x = true by unfold sameB; simp] at HQ
                        have HPD := Lib.hid (fun (W2 : World) (hb : Below w4.heap.size w4 W2) => product_any (.slice AP p.length cp) u2 p x W2 (HPR.out.lift hb) (hru2.lift hb) hcx (HSR.out.below hb (Nat.le_refl _)))
                        have hso : shortOut (decDigits (num p x * den p x)) = .tuple #[.string ⟨(wtD p 2 x).toArray⟩, .int .i64 0] := by unfold shortOut wtD; rw [if_pos (by omega), if_pos rfl]
                        rw [hso] at HPD
                        have hb0 : Below w4.heap.size w4 (wr.alloc (.cells #[.string ⟨#[49]⟩, .string ⟨#[49]⟩] 53)) := hbw.alloc hbw.size _
                        have HP1 := Lib.hid (HPD.out _ hb0)
                        have HB0 := Lib.hid hb0
                        have tx0 := (hb0.cell (p := ⟨b2, o2 + k, Option.none⟩) hab2).trans hx2
                        have hw4r := hbw.size
                        clear hso HPD hb0
                        obtain ⟨AV0, cv0, hsh⟩ := hru2.shape
                        rw [hsh] at tx0 HP1
                        go_wp2_with fail
                        refine HP1.out.mono ?_
                        rintro e w5 ⟨rfl, hb5⟩
                        have C5 := (Cells.new wr 53 #[.string ⟨#[49]⟩, .string ⟨#[49]⟩]).below hb5 (by simp)
                        have c0 := C5.cell 0
                        have c1 := C5.cell 1
                        have f1 := C5.free 1
                        have CC := C5.set 1 (.string ⟨(wtD p 2 x).toArray⟩)
                        simp at c0 c1
                        go_wp2_with fail
                        obtain ⟨H, hH⟩ : ∃ H, H = wr.heap.size := ⟨_, rfl⟩
                        obtain ⟨W, hW⟩ : ∃ W, W = w5.setCell ⟨wr.heap.size, 1, Option.none⟩ (.string ⟨(wtD p 2 x).toArray⟩) := ⟨_, rfl⟩
                        have hb05 := HB0.out.trans (hb5.mono HB0.out.size)
                        have HB5 : Hid (Below w4.heap.size w4 W) := Lib.hid (by rw [hW]; exact hb05.setCell (p := ⟨wr.heap.size, 1, Option.none⟩) hw4r _)
                        rw [← hW] at CC
                        have q0 : W.cell? ⟨H, 0, Option.none⟩ = some (.string ⟨#[49]⟩) := by rw [hH]; exact CC.cell 0
                        have q1 : W.cell? ⟨H, 1, Option.none⟩ = some (.string ⟨(wtD p 2 x).toArray⟩) := by rw [hH]; exact CC.cell 1
                        rw [← hW, ← hH]
                        clear hW hH hbw HB c0 c1 f1 C5 CC hb5 hb05 HB0 HP1 tx0 hsh
                        have hb5 := HB5.out
                        have t0 := (hb5.cell (p := ⟨b, o + k * 3, Option.none⟩) hab).trans h0
                        have t1 := (hb5.cell (p := ⟨b, o + k * 3 + 1, Option.none⟩) hab).trans h1
                        have t2 := (hb5.cell (p := ⟨b, o + k * 3 + 2, Option.none⟩) hab).trans h2
                        have tx := (hb5.cell (p := ⟨b2, o2 + k, Option.none⟩) hab2).trans hx2
                        have hrn := rat_neq [49] (wtD p 2 x)
                        obtain ⟨AU, cu, rfl⟩ := hru.shape
                        obtain ⟨AV, cv, rfl⟩ := hru2.shape
                        clear h0 h1 h2 hx2 hcx hdx hru hru2 hb5
                        generalize wtD p 2 x = dd at *
                        have hB : Below W.heap.size W W.drew := below_drew (Below.refl _ _)
                        have hBq : Below w4.heap.size w4 W.drew := below_drew HB5.out
                        go_wp2_with fail
                        go_region_held3 (fun w' => (w'.cell? ⟨b, o + k * 3, Option.none⟩ = some (.slice AU x.length cu) ∧ w'.cell? ⟨b, o + k * 3 + 1, Option.none⟩ = some (.string ⟨#[49]⟩) ∧ w'.cell? ⟨b, o + k * 3 + 2, Option.none⟩ = some (.string ⟨dd.toArray⟩)) ∧ w'.cell? ⟨b2, o2 + k, Option.none⟩ = some (.slice AV x.length cv) ∧ w'.cell? ⟨H, 0, Option.none⟩ = some (.string ⟨#[49]⟩) ∧ w'.cell? ⟨H, 1, Option.none⟩ = some (.string ⟨dd.toArray⟩))
                          (first | exact ⟨⟨keep_cell t0 hB, keep_cell t1 hB, keep_cell t2 hB⟩, keep_cell tx hB, keep_cell q0 hB, keep_cell q1 hB⟩ | go_keep)
                          ((first | (go_at_call 38; (with_reducible refine (HQ.out _ hBq).mono ?_); rintro e w7 ⟨rfl, hbk⟩; replace hB := hB.trans (hbk.mono hB.size); replace hBq := hBq.trans (hbk.mono hBq.size); clear hbk)))
                        all_goals
                          go_wp2_with fail
                          go_roundw
                          case rel => exact ⟨k + 1, by omega, by go_num, hBq⟩
                          case measure => simp [intOf]; omega
                      · obtain rfl : k = L.length := by omega
                        have HB := Lib.hid (HBD.out.trans (hbw.mono HBD.out.size))
                        clear hbw
                        go_wp2_with fail
                        go_ret
                        exact ⟨rfl, HBW.out.trans (HB.out.mono HBW.out.size)⟩
            · have q1 : (kd != 1) = true := by simpa using hq1
              have q2 : (kd != 2) = true := by simpa using hq2
              have q3 : (kd == 2) = false := by simpa using hq2
              have HW := Lib.hid (weigh_kind _ p AX cx L kd wr HPR.out HRX.out (by omega) HV.out q1 q2)
              clear hq1 hq2
              go_wp2_with fail
              refine HW.out.mono ?_
              rintro e w3 ⟨rfl, rfl⟩
              clear HW
              go_wp2_with fail
              go_loopw [12, 13] (fun q i wr2 => q = .int .i64 12 ∧ i = .int .i64 (0 : Nat) ∧ wr2 = wr) (fun _ _ _ => 0)
              case atStart => exact ⟨rfl, rfl, rfl⟩
              case round =>
                obtain ⟨rfl, rfl, rfl⟩ := hrel
                by_cases hl0 : 0 < L.length
                · skip
                  go_wp2_with fail
                  all_goals
                    go_ret
                    exact ⟨rfl, HBW.out.trans (HBD.out.mono HBW.out.size)⟩
                · skip
                  go_wp2_with fail
                  all_goals
                    go_ret
                    exact ⟨rfl, HBW.out.trans (HBD.out.mono HBW.out.size)⟩
    · have d8 : decide ((8 : Int) < (l1.length : Int)) = false := by rw [decide_eq_false_iff_not]; omega
      clear hbad h8
      go_enter Tryz.func10, Tryz.ntmps10
      go_wp2_with fail
      refine (HK.out w HS.out).mono ?_
      rintro e w1 ⟨rfl, hb1⟩
      go_wp2_with fail
      refine (HPA.out w1).mono ?_
      rintro e w2 ⟨⟨AP, cp, rfl, hp2⟩, hb2⟩
      have hb2' := hb1.trans (hb2.mono hb1.size)
      have HP := Lib.hid hp2
      have HS2 := Lib.hid (HS.out.below hb2' (Nat.le_refl _))
      have HBW := Lib.hid hb2'
      have HF2 : Hid (∀ W, Below w2.heap.size w2 W → FoursArg W (.slice A l1.length c) l1) := Lib.hid (fun W hb => by
        obtain ⟨A', c', e, h1, h2⟩ := HF.out
        refine ⟨A', c', e, h1, fun k x hx => ?_⟩
        obtain ⟨h3, ad, e2, h4, h5⟩ := h2 k x hx
        have hbb := HBW.out.trans (hb.mono HBW.out.size)
        exact ⟨h3, ad, e2, Nat.lt_of_lt_of_le h4 hbb.size, fun j hj => by rw [hbb.cell (by rw [add_block]; exact h4)]; exact h5 j hj⟩)
      clear HK HPA HS HF hb1 hb2 hb2' hp2
      go_wp2_with fail
      go_loopw [8, 9] (fun vx i wr => ∃ k : Nat, k ≤ l1.length ∧ i = .int .i64 k ∧ Hid (LRow wr w2.heap.size vx (L.take k)) ∧ Below w2.heap.size w2 wr) (fun _ i _ => l1.length - (intOf i).toNat)
      case atStart => exact ⟨0, Nat.zero_le _, rfl, Lib.hid (LRow.nil _ _), Below.refl _ _⟩
      case round =>
        obtain ⟨k, hk, rfl, HX, hbw⟩ := hrel
        by_cases hlt : k < l1.length
        · obtain ⟨b, o, f0, f1, f2, f3, rfl, hbs, hfe, h4, t0, t1, t2, t3⟩ := four_at (HF2.out wr hbw) hlt
          have hkL : k < L.length := by rw [HLL.out]; exact hlt
          have hLk := HLG.out k hlt hkL
          rw [hfe] at hLk
          have HTK := Lib.hid (show L.take (k + 1) = L.take k ++ [ivlTo [f0, f1, f2, f3] p.length] by rw [← hLk]; exact (List.take_append_getElem hkL).symm)
          have HIV := Lib.hid (interval_own AP cp p.length f0 f1 f2 f3 wr hple h4)
          have HBD := Lib.hid hbw
          have hw2r := hbw.size
          clear hfe h4 hLk hbw
          generalize ivlTo [f0, f1, f2, f3] p.length = x at *
          go_wp2_with fail
          refine HIV.out.mono ?_
          rintro e w3 ⟨⟨A3, c3, rfl, ho3⟩, hb3⟩
          replace HX := Lib.hid (HX.out.below hb3)
          replace HBD := Lib.hid (HBD.out.trans (hb3.mono HBD.out.size))
          obtain ⟨vs, hown, hvs⟩ := HX.out
          have hlk : (L.take k).length = k := by rw [List.length_take]; omega
          rw [hlk] at hown
          have HLK := Lib.hid hlk
          have HO := Lib.hid hown
          have HVS := Lib.hid hvs
          have HR3 := Lib.hid ho3
          have hk8 : k ≤ 62 := by omega
          have hw3 : w2.heap.size ≤ w3.heap.size := HBD.out.size
          clear hown hvs ho3 hb3 HX hlk HIV t0 t1 t2 t3
          go_wp2_with (at_builtin; refine wpList_append_own _ rfl _ _ _ rfl w2.heap.size 28 i0 (.slice Option.none 0 0) 1 24 Tryz.underlying27 hi0 hz0 hz1 hz2 rfl (by decide) _ _ _ rfl (HO.out.alloc _) ⟨w3.heap.size, 0, Option.none⟩ 1 1 [_] rfl rfl (cell_one_new _ _ _) (by intro u hu; simp at hu; subst hu; rfl) (by unfold maxLen; omega) (by omega) (by simp; omega) ?_; intro v3 w4 hown3 hg3 _)
          have hal := HO.out.alloc (.cells #[.slice A3 x.length c3] 28)
          go_roundw
          case rel =>
            refine ⟨k + 1, by omega, by go_num, Lib.hid ?_, (HBD.out.alloc hw3 _).grown hg3 (by simp; omega) (fun j hj => (hal.lt j hj).1)⟩
            rw [HTK.out]
            exact LRow.snoc (by rw [HLK.out]; exact hal) (fun j z hz => by obtain ⟨u, h5, h6⟩ := HVS.out j z hz; exact ⟨u, h5, h6.alloc _⟩) (HR3.out.alloc _) (by rw [HLK.out]; exact hown3) hg3
          case measure => simp [intOf]; omega
        · obtain rfl : k = l1.length := by omega
          have htk : L.take l1.length = L := List.take_of_length_le (by rw [HLL.out]; exact Nat.le_refl _)
          have hx0 := HX.out
          rw [htk] at hx0
          obtain ⟨AX, cx, rfl⟩ := hx0.shape
          have hrx := hx0.rows.2
          have hL62 : L.length ≤ 62 := by rw [HLL.out]; exact hl62
          have hpe := HT.out.pe
          have hchk := chk_row HLS.out hpe
          have hv : lstErr p L = 0 := by unfold lstErr; rw [if_neg (by simp [hpe]), if_neg (by omega)]; exact chk_all hpe hchk
          have HV := Lib.hid hv
          have HPE := Lib.hid hpe
          have HCK := Lib.hid hchk
          have HRX := Lib.hid hrx
          have HBD := Lib.hid hbw
          have HPR := Lib.hid (HP.out.lift hbw)
          have HSR := Lib.hid (HS2.out.below hbw (Nat.le_refl _))
          clear hx0 htk hrx hbw HX HF2 HLG hv hpe hchk hl62 HP HS2
          by_cases hq1 : kd = 1
          · subst hq1
            by_cases h60 : 60 < L.length
            · have d60 : decide ((60 : Int) < (L.length : Int)) = true := by rw [decide_eq_true_iff]; omega
              have HW := Lib.hid (weigh_many _ p AX cx L 1 wr HPR.out HRX.out (by omega) HV.out (.inl rfl) h60)
              clear h60
              go_wp2_with fail
              refine HW.out.mono ?_
              rintro e w3 ⟨rfl, rfl⟩
              clear HW
              go_wp2_with fail
              go_loopw [12, 13] (fun q i wr2 => q = .int .i64 4 ∧ i = .int .i64 (0 : Nat) ∧ wr2 = wr) (fun _ _ _ => 0)
              case atStart => exact ⟨rfl, rfl, rfl⟩
              case round =>
                obtain ⟨rfl, rfl, rfl⟩ := hrel
                by_cases hl0 : 0 < L.length
                · skip
                  go_wp2_with fail
                  all_goals
                    go_ret
                    exact ⟨rfl, HBW.out.trans (HBD.out.mono HBW.out.size)⟩
                · skip
                  go_wp2_with fail
                  all_goals
                    go_ret
                    exact ⟨rfl, HBW.out.trans (HBD.out.mono HBW.out.size)⟩
            · have H60 : Box (L.length ≤ 60) := ⟨by omega⟩
              have d60 : decide ((60 : Int) < (L.length : Int)) = false := by rw [decide_eq_false_iff_not]; omega
              clear h60
              have HW := Lib.hid (weigh_ok1 _ p AX cx L wr HSR.out HPR.out HPE.out HRX.out HCK.out H60.out HD.out)
              have HWO : Box (∀ x ∈ L, WtOk (wtD p 1 x)) := ⟨fun x hx => ⟨1, by omega, by unfold wtD; rw [if_neg (by decide), dec_small (by omega)]; rfl, by unfold wtD; rw [if_neg (by decide)]; simp⟩⟩
              go_wp2_with fail
              refine HW.out.mono ?_
              rintro e w3 ⟨⟨v3, rfl, B3, cc3, rfl, ht3⟩, hb3⟩
              replace HBD := Lib.hid (HBD.out.trans (hb3.mono HBD.out.size))
              replace HRX := Lib.hid (HRX.out.lift hb3)
              replace HPR := Lib.hid (HPR.out.lift hb3)
              replace HSR := Lib.hid (HSR.out.below hb3 (Nat.le_refl _))
              have HT3 := Lib.hid ht3
              clear HW hb3 ht3
              go_wp2_with fail
              go_loopw [12, 13] (fun q i wr => q = .int .i64 0 ∧ i = .int .i64 (0 : Nat) ∧ wr = w3) (fun _ _ _ => 0)
              case atStart => exact ⟨rfl, rfl, rfl⟩
              case round =>
                obtain ⟨rfl, rfl, rfl⟩ := hrel
                by_cases hl0 : 0 < L.length
                · skip
                  have HDM := Lib.hid (damage_ok _ p B3 cc3 L (wtD p 1) wr HSR.out HPR.out HPE.out HT3.out HCK.out H60.out HWO.out)
                  go_wp2_with fail
                  refine HDM.out.mono ?_
                  rintro e w4 ⟨rfl, hb4⟩
                  replace HBD := Lib.hid (HBD.out.trans (hb4.mono HBD.out.size))
                  replace HRX := Lib.hid (HRX.out.lift hb4)
                  replace HPR := Lib.hid (HPR.out.lift hb4)
                  replace HSR := Lib.hid (HSR.out.below hb4 (Nat.le_refl _))
                  replace HT3 := Lib.hid (HT3.out.lift hb4)
                  clear HDM hb4
                  go_wp2_with fail
                  clear hl0
                  go_loopw [16] (fun i wr => ∃ k : Nat, k ≤ L.length ∧ i = .int .i64 k ∧ Below w4.heap.size w4 wr) (fun i _ => L.length - (intOf i).toNat)
                  case atStart => exact ⟨0, Nat.zero_le _, rfl, Below.refl _ _⟩
                  case round =>
                    obtain ⟨k, hk, rfl, hbw⟩ := hrel
                    by_cases hltk : k < L.length
                    · obtain ⟨b, o, u, rfl, hab, h0, h1, h2, hru⟩ := HT3.out k L[k] (List.getElem?_eq_getElem hltk)
                      obtain ⟨b2, o2, u2, rfl, hab2, hx2, hru2⟩ := rows_plain HRX.out (List.getElem?_eq_getElem hltk)
                      have hcx := HCK.out _ (List.getElem_mem hltk)
                      have hdx := HD.out _ (List.getElem_mem hltk)
                      generalize L[k] = x at *
                      have HB := Lib.hid hbw
                      have hkn : k ≤ 62 := by omega
                      have hk1 : (0 : Int) ≤ (k : Int) := by omega
                      have hk2 : (k : Int) < (L.length : Int) := by omega
                      have HQ := Lib.hid (fun (W : World) (hb : Below w4.heap.size w4 W) => rowEqual_any u u2 x x W (hru.lift hb) (hru2.lift hb))
                      rw [show sameB x x = true by unfold sameB; simp] at HQ
                      obtain ⟨H, hH⟩ : ∃ H, H = wr.heap.size := ⟨_, rfl⟩
                      obtain ⟨W, hW⟩ : ∃ W, W = wr.alloc (.cells #[.string ⟨#[49]⟩, .string ⟨#[49]⟩] 53) := ⟨_, rfl⟩
                      have hba : Below wr.heap.size wr W := by rw [hW]; exact (Below.refl _ _).alloc (Nat.le_refl _) _
                      have q0 : W.cell? ⟨H, 0, Option.none⟩ = some (.string ⟨#[49]⟩) := by rw [hW, hH]; exact World.cell?_alloc_new _ _ _ 0
                      have q1 : W.cell? ⟨H, 1, Option.none⟩ = some (.string ⟨(wtD p 1 x).toArray⟩) := by rw [hW, hH]; exact World.cell?_alloc_new _ _ _ 1
                      have HB5 := Lib.hid (hbw.trans (hba.mono hbw.size))
                      go_wp2_with fail
                      rw [← hW, ← hH]
                      clear hba hW hH hbw HB
                      have hb5 := HB5.out
                      have t0 := (hb5.cell (p := ⟨b, o + k * 3, Option.none⟩) hab).trans h0
                      have t1 := (hb5.cell (p := ⟨b, o + k * 3 + 1, Option.none⟩) hab).trans h1
                      have t2 := (hb5.cell (p := ⟨b, o + k * 3 + 2, Option.none⟩) hab).trans h2
                      have tx := (hb5.cell (p := ⟨b2, o2 + k, Option.none⟩) hab2).trans hx2
                      have hrn := rat_neq [49] (wtD p 1 x)
                      obtain ⟨AU, cu, rfl⟩ := hru.shape
                      obtain ⟨AV, cv, rfl⟩ := hru2.shape
                      clear h0 h1 h2 hx2 hcx hdx hru hru2 hb5
                      generalize wtD p 1 x = dd at *
                      have hB : Below W.heap.size W W.drew := below_drew (Below.refl _ _)
                      have hBq : Below w4.heap.size w4 W.drew := below_drew HB5.out
                      go_wp2_with fail
                      go_region_held3 (fun w' => (w'.cell? ⟨b, o + k * 3, Option.none⟩ = some (.slice AU x.length cu) ∧ w'.cell? ⟨b, o + k * 3 + 1, Option.none⟩ = some (.string ⟨#[49]⟩) ∧ w'.cell? ⟨b, o + k * 3 + 2, Option.none⟩ = some (.string ⟨dd.toArray⟩)) ∧ w'.cell? ⟨b2, o2 + k, Option.none⟩ = some (.slice AV x.length cv) ∧ w'.cell? ⟨H, 0, Option.none⟩ = some (.string ⟨#[49]⟩) ∧ w'.cell? ⟨H, 1, Option.none⟩ = some (.string ⟨dd.toArray⟩))
                        (first | exact ⟨⟨keep_cell t0 hB, keep_cell t1 hB, keep_cell t2 hB⟩, keep_cell tx hB, keep_cell q0 hB, keep_cell q1 hB⟩ | go_keep)
                        ((first | (go_at_call 38; (with_reducible refine (HQ.out _ hBq).mono ?_); rintro e w7 ⟨rfl, hbk⟩; replace hB := hB.trans (hbk.mono hB.size); replace hBq := hBq.trans (hbk.mono hBq.size); clear hbk)))
                      all_goals
                        go_wp2_with fail
                        go_roundw
                        case rel => exact ⟨k + 1, by omega, by go_num, hBq⟩
                        case measure => simp [intOf]; omega
                    · obtain rfl : k = L.length := by omega
                      have HB := Lib.hid (HBD.out.trans (hbw.mono HBD.out.size))
                      clear hbw
                      go_wp2_with fail
                      go_ret
                      exact ⟨rfl, HBW.out.trans (HB.out.mono HBW.out.size)⟩
                · skip
                  have HDM := Lib.hid (damage_ok _ p B3 cc3 L (wtD p 1) wr HSR.out HPR.out HPE.out HT3.out HCK.out H60.out HWO.out)
                  go_wp2_with fail
                  refine HDM.out.mono ?_
                  rintro e w4 ⟨rfl, hb4⟩
                  replace HBD := Lib.hid (HBD.out.trans (hb4.mono HBD.out.size))
                  replace HRX := Lib.hid (HRX.out.lift hb4)
                  replace HPR := Lib.hid (HPR.out.lift hb4)
                  replace HSR := Lib.hid (HSR.out.below hb4 (Nat.le_refl _))
                  replace HT3 := Lib.hid (HT3.out.lift hb4)
                  clear HDM hb4
                  go_wp2_with fail
                  clear hl0
                  go_loopw [16] (fun i wr => ∃ k : Nat, k ≤ L.length ∧ i = .int .i64 k ∧ Below w4.heap.size w4 wr) (fun i _ => L.length - (intOf i).toNat)
                  case atStart => exact ⟨0, Nat.zero_le _, rfl, Below.refl _ _⟩
                  case round =>
                    obtain ⟨k, hk, rfl, hbw⟩ := hrel
                    by_cases hltk : k < L.length
                    · obtain ⟨b, o, u, rfl, hab, h0, h1, h2, hru⟩ := HT3.out k L[k] (List.getElem?_eq_getElem hltk)
                      obtain ⟨b2, o2, u2, rfl, hab2, hx2, hru2⟩ := rows_plain HRX.out (List.getElem?_eq_getElem hltk)
                      have hcx := HCK.out _ (List.getElem_mem hltk)
                      have hdx := HD.out _ (List.getElem_mem hltk)
                      generalize L[k] = x at *
                      have HB := Lib.hid hbw
                      have hkn : k ≤ 62 := by omega
                      have hk1 : (0 : Int) ≤ (k : Int) := by omega
                      have hk2 : (k : Int) < (L.length : Int) := by omega
                      have HQ := Lib.hid (fun (W : World) (hb : Below w4.heap.size w4 W) => rowEqual_any u u2 x x W (hru.lift hb) (hru2.lift hb))
                      rw [show sameB x x = true by unfold sameB; simp] at HQ
                      obtain ⟨H, hH⟩ : ∃ H, H = wr.heap.size := ⟨_, rfl⟩
                      obtain ⟨W, hW⟩ : ∃ W, W = wr.alloc (.cells #[.string ⟨#[49]⟩, .string ⟨#[49]⟩] 53) := ⟨_, rfl⟩
                      have hba : Below wr.heap.size wr W := by rw [hW]; exact (Below.refl _ _).alloc (Nat.le_refl _) _
                      have q0 : W.cell? ⟨H, 0, Option.none⟩ = some (.string ⟨#[49]⟩) := by rw [hW, hH]; exact World.cell?_alloc_new _ _ _ 0
                      have q1 : W.cell? ⟨H, 1, Option.none⟩ = some (.string ⟨(wtD p 1 x).toArray⟩) := by rw [hW, hH]; exact World.cell?_alloc_new _ _ _ 1
                      have HB5 := Lib.hid (hbw.trans (hba.mono hbw.size))
                      go_wp2_with fail
                      rw [← hW, ← hH]
                      clear hba hW hH hbw HB
                      have hb5 := HB5.out
                      have t0 := (hb5.cell (p := ⟨b, o + k * 3, Option.none⟩) hab).trans h0
                      have t1 := (hb5.cell (p := ⟨b, o + k * 3 + 1, Option.none⟩) hab).trans h1
                      have t2 := (hb5.cell (p := ⟨b, o + k * 3 + 2, Option.none⟩) hab).trans h2
                      have tx := (hb5.cell (p := ⟨b2, o2 + k, Option.none⟩) hab2).trans hx2
                      have hrn := rat_neq [49] (wtD p 1 x)
                      obtain ⟨AU, cu, rfl⟩ := hru.shape
                      obtain ⟨AV, cv, rfl⟩ := hru2.shape
                      clear h0 h1 h2 hx2 hcx hdx hru hru2 hb5
                      generalize wtD p 1 x = dd at *
                      have hB : Below W.heap.size W W.drew := below_drew (Below.refl _ _)
                      have hBq : Below w4.heap.size w4 W.drew := below_drew HB5.out
                      go_wp2_with fail
                      go_region_held3 (fun w' => (w'.cell? ⟨b, o + k * 3, Option.none⟩ = some (.slice AU x.length cu) ∧ w'.cell? ⟨b, o + k * 3 + 1, Option.none⟩ = some (.string ⟨#[49]⟩) ∧ w'.cell? ⟨b, o + k * 3 + 2, Option.none⟩ = some (.string ⟨dd.toArray⟩)) ∧ w'.cell? ⟨b2, o2 + k, Option.none⟩ = some (.slice AV x.length cv) ∧ w'.cell? ⟨H, 0, Option.none⟩ = some (.string ⟨#[49]⟩) ∧ w'.cell? ⟨H, 1, Option.none⟩ = some (.string ⟨dd.toArray⟩))
                        (first | exact ⟨⟨keep_cell t0 hB, keep_cell t1 hB, keep_cell t2 hB⟩, keep_cell tx hB, keep_cell q0 hB, keep_cell q1 hB⟩ | go_keep)
                        ((first | (go_at_call 38; (with_reducible refine (HQ.out _ hBq).mono ?_); rintro e w7 ⟨rfl, hbk⟩; replace hB := hB.trans (hbk.mono hB.size); replace hBq := hBq.trans (hbk.mono hBq.size); clear hbk)))
                      all_goals
                        go_wp2_with fail
                        go_roundw
                        case rel => exact ⟨k + 1, by omega, by go_num, hBq⟩
                        case measure => simp [intOf]; omega
                    · obtain rfl : k = L.length := by omega
                      have HB := Lib.hid (HBD.out.trans (hbw.mono HBD.out.size))
                      clear hbw
                      go_wp2_with fail
                      go_ret
                      exact ⟨rfl, HBW.out.trans (HB.out.mono HBW.out.size)⟩
          · by_cases hq2 : kd = 2
            · subst hq2
              by_cases h60 : 60 < L.length
              · have d60 : decide ((60 : Int) < (L.length : Int)) = true := by rw [decide_eq_true_iff]; omega
                have HW := Lib.hid (weigh_many _ p AX cx L 2 wr HPR.out HRX.out (by omega) HV.out (.inr rfl) h60)
                clear h60
                go_wp2_with fail
                refine HW.out.mono ?_
                rintro e w3 ⟨rfl, rfl⟩
                clear HW
                go_wp2_with fail
                go_loopw [12, 13] (fun q i wr2 => q = .int .i64 4 ∧ i = .int .i64 (0 : Nat) ∧ wr2 = wr) (fun _ _ _ => 0)
                case atStart => exact ⟨rfl, rfl, rfl⟩
                case round =>
                  obtain ⟨rfl, rfl, rfl⟩ := hrel
                  by_cases hl0 : 0 < L.length
                  · skip
                    go_wp2_with fail
                    all_goals
                      go_ret
                      exact ⟨rfl, HBW.out.trans (HBD.out.mono HBW.out.size)⟩
                  · skip
                    go_wp2_with fail
                    all_goals
                      go_ret
                      exact ⟨rfl, HBW.out.trans (HBD.out.mono HBW.out.size)⟩
              · have H60 : Box (L.length ≤ 60) := ⟨by omega⟩
                have d60 : decide ((60 : Int) < (L.length : Int)) = false := by rw [decide_eq_false_iff_not]; omega
                clear h60
                have HW := Lib.hid (weigh_ok2 _ p AX cx L wr HSR.out HPR.out HPE.out HRX.out HCK.out H60.out HD.out)
                have HWO : Box (∀ x ∈ L, WtOk (wtD p 2 x)) := ⟨fun x hx => ⟨num p x * den p x, Nat.mul_pos (num_pos (primed HPE.out) (HLS.out x hx).len) (den_pos (primed HPE.out) (HLS.out x hx).len), by unfold wtD; rw [if_pos rfl], by unfold wtD; rw [if_pos rfl]; exact HD.out x hx⟩⟩
                go_wp2_with fail
                refine HW.out.mono ?_
                rintro e w3 ⟨⟨v3, rfl, B3, cc3, rfl, ht3⟩, hb3⟩
                replace HBD := Lib.hid (HBD.out.trans (hb3.mono HBD.out.size))
                replace HRX := Lib.hid (HRX.out.lift hb3)
                replace HPR := Lib.hid (HPR.out.lift hb3)
                replace HSR := Lib.hid (HSR.out.below hb3 (Nat.le_refl _))
                have HT3 := Lib.hid ht3
                clear HW hb3 ht3
                go_wp2_with fail
                go_loopw [12, 13] (fun q i wr => ∃ k : Nat, k ≤ L.length ∧ q = .int .i64 0 ∧ i = .int .i64 k ∧ Below w3.heap.size w3 wr) (fun _ i _ => L.length - (intOf i).toNat)
                case atStart => exact ⟨0, Nat.zero_le _, rfl, rfl, Below.refl _ _⟩
                case round =>
                  obtain ⟨k, hk, rfl, rfl, hbw⟩ := hrel
                  by_cases hltk : k < L.length
                  · obtain ⟨b2, o2, u2, rfl, hab2, hx2, hru2⟩ := rows_plain HRX.out (List.getElem?_eq_getElem hltk)
                    have hcx := HCK.out _ (List.getElem_mem hltk)
                    have hdx := HD.out _ (List.getElem_mem hltk)
                    generalize L[k] = x at *
                    have HPD := Lib.hid (product_any (.slice AP p.length cp) u2 p x wr (HPR.out.lift hbw) (hru2.lift hbw) hcx (HSR.out.below hbw (Nat.le_refl _)))
                    have hso : shortOut (decDigits (num p x * den p x)) = .tuple #[.string ⟨(decDigits (num p x * den p x)).toArray⟩, .int .i64 0] := by unfold shortOut; rw [if_pos (by omega)]
                    rw [hso] at HPD
                    have ddl : decide ((30 : Int) < ((decDigits (num p x * den p x)).length : Int)) = false := by rw [decide_eq_false_iff_not]; omega
                    have hd30 : (decDigits (num p x * den p x)).length ≤ 30 := hdx
                    have tx := (hbw.cell (p := ⟨b2, o2 + k, Option.none⟩) hab2).trans hx2
                    have hk1 : (0 : Int) ≤ (k : Int) := by omega
                    have hk2 : (k : Int) < (L.length : Int) := by omega
                    have HB := Lib.hid hbw
                    obtain ⟨AV, cv, rfl⟩ := hru2.shape
                    clear hso hdx hcx hx2 hru2 hbw
                    generalize decDigits (num p x * den p x) = dd at *
                    go_wp2_with fail
                    refine HPD.out.mono ?_
                    rintro e w5 ⟨rfl, hb5⟩
                    have HB5 := Lib.hid (HB.out.trans (hb5.mono HB.out.size))
                    clear hb5
                    go_wp2_with fail
                    go_roundw
                    case rel => exact ⟨k + 1, by omega, rfl, by go_num, HB5.out⟩
                    case measure => simp [intOf]; omega
                  · obtain rfl : k = L.length := by omega
                    have dlk : decide ((L.length : Int) < (L.length : Int)) = false := by rw [decide_eq_false_iff_not]; omega
                    replace HBD := Lib.hid (HBD.out.trans (hbw.mono HBD.out.size))
                    replace HRX := Lib.hid (HRX.out.lift hbw)
                    replace HPR := Lib.hid (HPR.out.lift hbw)
                    replace HSR := Lib.hid (HSR.out.below hbw (Nat.le_refl _))
                    replace HT3 := Lib.hid (HT3.out.lift hbw)
                    clear hbw
                    have HDM := Lib.hid (damage_ok _ p B3 cc3 L (wtD p 2) wr HSR.out HPR.out HPE.out HT3.out HCK.out H60.out HWO.out)
                    go_wp2_with fail
                    refine HDM.out.mono ?_
                    rintro e w4 ⟨rfl, hb4⟩
                    replace HBD := Lib.hid (HBD.out.trans (hb4.mono HBD.out.size))
                    replace HRX := Lib.hid (HRX.out.lift hb4)
                    replace HPR := Lib.hid (HPR.out.lift hb4)
                    replace HSR := Lib.hid (HSR.out.below hb4 (Nat.le_refl _))
                    replace HT3 := Lib.hid (HT3.out.lift hb4)
                    clear HDM hb4
                    go_wp2_with fail
                    go_loopw [16] (fun i wr => ∃ k : Nat, k ≤ L.length ∧ i = .int .i64 k ∧ Below w4.heap.size w4 wr) (fun i _ => L.length - (intOf i).toNat)
                    case atStart => exact ⟨0, Nat.zero_le _, rfl, Below.refl _ _⟩
                    case round =>
                      obtain ⟨k, hk, rfl, hbw⟩ := hrel
                      by_cases hltk : k < L.length
                      · obtain ⟨b, o, u, rfl, hab, h0, h1, h2, hru⟩ := HT3.out k L[k] (List.getElem?_eq_getElem hltk)
                        obtain ⟨b2, o2, u2, rfl, hab2, hx2, hru2⟩ := rows_plain HRX.out (List.getElem?_eq_getElem hltk)
                        have hcx := HCK.out _ (List.getElem_mem hltk)
                        have hdx := HD.out _ (List.getElem_mem hltk)
                        generalize L[k] = x at *
                        have HB := Lib.hid hbw
                        have hkn : k ≤ 62 := by omega
                        have hk1 : (0 : Int) ≤ (k : Int) := by omega
                        have hk2 : (k : Int) < (L.length : Int) := by omega
                        have HQ := Lib.hid (fun (W : World) (hb : Below w4.heap.size w4 W) => rowEqual_any u u2 x x W (hru.lift hb) (hru2.lift hb))
                        rw [show sameB x x = true by unfold sameB; simp] at HQ
                        have HPD := Lib.hid (fun (W2 : World) (hb : Below w4.heap.size w4 W2) => product_any (.slice AP p.length cp) u2 p x W2 (HPR.out.lift hb) (hru2.lift hb) hcx (HSR.out.below hb (Nat.le_refl _)))
                        have hso : shortOut (decDigits (num p x * den p x)) = .tuple #[.string ⟨(wtD p 2 x).toArray⟩, .int .i64 0] := by unfold shortOut wtD; rw [if_pos (by omega), if_pos rfl]
                        rw [hso] at HPD
                        have hb0 : Below w4.heap.size w4 (wr.alloc (.cells #[.string ⟨#[49]⟩, .string ⟨#[49]⟩] 53)) := hbw.alloc hbw.size _
                        have HP1 := Lib.hid (HPD.out _ hb0)
                        have HB0 := Lib.hid hb0
                        have tx0 := (hb0.cell (p := ⟨b2, o2 + k, Option.none⟩) hab2).trans hx2
                        have hw4r := hbw.size
                        clear hso HPD hb0
                        obtain ⟨AV0, cv0, hsh⟩ := hru2.shape
                        rw [hsh] at tx0 HP1
                        go_wp2_with fail
                        refine HP1.out.mono ?_
                        rintro e w5 ⟨rfl, hb5⟩
                        have C5 := (Cells.new wr 53 #[.string ⟨#[49]⟩, .string ⟨#[49]⟩]).below hb5 (by simp)
                        have c0 := C5.cell 0
                        have c1 := C5.cell 1
                        have f1 := C5.free 1
                        have CC := C5.set 1 (.string ⟨(wtD p 2 x).toArray⟩)
                        simp at c0 c1
                        go_wp2_with fail
                        obtain ⟨H, hH⟩ : ∃ H, H = wr.heap.size := ⟨_, rfl⟩
                        obtain ⟨W, hW⟩ : ∃ W, W = w5.setCell ⟨wr.heap.size, 1, Option.none⟩ (.string ⟨(wtD p 2 x).toArray⟩) := ⟨_, rfl⟩
                        have hb05 := HB0.out.trans (hb5.mono HB0.out.size)
                        have HB5 : Hid (Below w4.heap.size w4 W) := Lib.hid (by rw [hW]; exact hb05.setCell (p := ⟨wr.heap.size, 1, Option.none⟩) hw4r _)
                        rw [← hW] at CC
                        have q0 : W.cell? ⟨H, 0, Option.none⟩ = some (.string ⟨#[49]⟩) := by rw [hH]; exact CC.cell 0
                        have q1 : W.cell? ⟨H, 1, Option.none⟩ = some (.string ⟨(wtD p 2 x).toArray⟩) := by rw [hH]; exact CC.cell 1
                        rw [← hW, ← hH]
                        clear hW hH hbw HB c0 c1 f1 C5 CC hb5 hb05 HB0 HP1 tx0 hsh
                        have hb5 := HB5.out
                        have t0 := (hb5.cell (p := ⟨b, o + k * 3, Option.none⟩) hab).trans h0
                        have t1 := (hb5.cell (p := ⟨b, o + k * 3 + 1, Option.none⟩) hab).trans h1
                        have t2 := (hb5.cell (p := ⟨b, o + k * 3 + 2, Option.none⟩) hab).trans h2
                        have tx := (hb5.cell (p := ⟨b2, o2 + k, Option.none⟩) hab2).trans hx2
                        have hrn := rat_neq [49] (wtD p 2 x)
                        obtain ⟨AU, cu, rfl⟩ := hru.shape
                        obtain ⟨AV, cv, rfl⟩ := hru2.shape
                        clear h0 h1 h2 hx2 hcx hdx hru hru2 hb5
                        generalize wtD p 2 x = dd at *
                        have hB : Below W.heap.size W W.drew := below_drew (Below.refl _ _)
                        have hBq : Below w4.heap.size w4 W.drew := below_drew HB5.out
                        go_wp2_with fail
                        go_region_held3 (fun w' => (w'.cell? ⟨b, o + k * 3, Option.none⟩ = some (.slice AU x.length cu) ∧ w'.cell? ⟨b, o + k * 3 + 1, Option.none⟩ = some (.string ⟨#[49]⟩) ∧ w'.cell? ⟨b, o + k * 3 + 2, Option.none⟩ = some (.string ⟨dd.toArray⟩)) ∧ w'.cell? ⟨b2, o2 + k, Option.none⟩ = some (.slice AV x.length cv) ∧ w'.cell? ⟨H, 0, Option.none⟩ = some (.string ⟨#[49]⟩) ∧ w'.cell? ⟨H, 1, Option.none⟩ = some (.string ⟨dd.toArray⟩))
                          (first | exact ⟨⟨keep_cell t0 hB, keep_cell t1 hB, keep_cell t2 hB⟩, keep_cell tx hB, keep_cell q0 hB, keep_cell q1 hB⟩ | go_keep)
                          ((first | (go_at_call 38; (with_reducible refine (HQ.out _ hBq).mono ?_); rintro e w7 ⟨rfl, hbk⟩; replace hB := hB.trans (hbk.mono hB.size); replace hBq := hBq.trans (hbk.mono hBq.size); clear hbk)))
                        all_goals
                          go_wp2_with fail
                          go_roundw
                          case rel => exact ⟨k + 1, by omega, by go_num, hBq⟩
                          case measure => simp [intOf]; omega
                      · obtain rfl : k = L.length := by omega
                        have HB := Lib.hid (HBD.out.trans (hbw.mono HBD.out.size))
                        clear hbw
                        go_wp2_with fail
                        go_ret
                        exact ⟨rfl, HBW.out.trans (HB.out.mono HBW.out.size)⟩
            · have q1 : (kd != 1) = true := by simpa using hq1
              have q2 : (kd != 2) = true := by simpa using hq2
              have q3 : (kd == 2) = false := by simpa using hq2
              have HW := Lib.hid (weigh_kind _ p AX cx L kd wr HPR.out HRX.out (by omega) HV.out q1 q2)
              clear hq1 hq2
              go_wp2_with fail
              refine HW.out.mono ?_
              rintro e w3 ⟨rfl, rfl⟩
              clear HW
              go_wp2_with fail
              go_loopw [12, 13] (fun q i wr2 => q = .int .i64 12 ∧ i = .int .i64 (0 : Nat) ∧ wr2 = wr) (fun _ _ _ => 0)
              case atStart => exact ⟨rfl, rfl, rfl⟩
              case round =>
                obtain ⟨rfl, rfl, rfl⟩ := hrel
                by_cases hl0 : 0 < L.length
                · skip
                  go_wp2_with fail
                  all_goals
                    go_ret
                    exact ⟨rfl, HBW.out.trans (HBD.out.mono HBW.out.size)⟩
                · skip
                  go_wp2_with fail
                  all_goals
                    go_ret
                    exact ⟨rfl, HBW.out.trans (HBD.out.mono HBW.out.size)⟩

end Go.Proofs.YtcfkclafpbaagaaGreatDoor
