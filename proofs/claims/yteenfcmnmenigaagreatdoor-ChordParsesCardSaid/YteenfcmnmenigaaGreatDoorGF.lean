/- decimal: Add and Sub of any numbers. decimal: Sub of any numbers. whole: Mul, Add, Neg, Sub, Compare, DivMod, Gcd of any integers. whole: Compare, DivMod by a positive integer, Gcd of any integers. whole: DivMod of any integer by a positive one. -/
import Derived.Test.YteenfcmnmenigaaGreatDoorGD
import Derived.Test.YteenfcmnmenigaaGreatDoorGB
import Derived.Deep.Cut
import Derived.Test.YteenfcmnmenigaaGreatDoorGE
namespace Go.Proofs.YteenfcmnmenigaaGreatDoor
open Go.RowKit Go.Lib

theorem us_zeros (m : Nat) : List.replicate m (Value.int .u64 0) = us (List.replicate m 0) := by simp [us]
theorem pcs_zeros {l : List Nat} (h : Pcs l) (m : Nat) : Pcs (l ++ List.replicate m 0) := by
  intro x hx
  rcases List.mem_append.1 hx with hx | hx
  · exact h x hx
  · rw [List.eq_of_mem_replicate hx]; omega
theorem pv_pad (l : List Nat) (m : Nat) : pv (l ++ List.replicate m 0) = pv l := by
  rw [pv_append, pv_zeros _ (fun x hx => List.eq_of_mem_replicate hx)]; omega

/-- The sum out of what back leaves. -/
theorem back_sum {X Y n cy m : Nat} {o : List Nat} (hX : (pcs X).length = n) (hY : (pcs Y).length + m = n) (h : BackAt (pcs X ++ [0]) (pcs Y ++ List.replicate m 0) 0 (n + 1) cy o) : pv o = X + Y := by
  have e := h.val
  rw [List.take_of_length_le (by rw [List.length_append, List.length_replicate]; omega), pv_pad, pv_pcs, pv_append, pv_pcs] at e
  simp only [pv, Nat.pow_zero, Nat.one_mul, Nat.mul_zero, Nat.add_zero, Nat.zero_add] at e
  have hl := pv_lt o h.pcs
  rw [h.len, List.length_append, hX] at hl
  have hx := pv_lt _ (pcs_lt X)
  have hy := pv_lt _ (pcs_lt Y)
  rw [pv_pcs] at hx hy
  rw [hX] at hx
  have hy2 : (1000000000 : Nat) ^ (pcs Y).length ≤ 1000000000 ^ n := Nat.pow_le_pow_right (by omega) (by omega)
  have hp : (1000000000 : Nat) ^ (n + 1) = 1000000000 ^ n * 1000000000 := Nat.pow_succ ..
  have hcy := h.cyl
  simp only [List.length_singleton] at hl
  rcases (show cy = 0 ∨ cy = 1 by omega) with rfl | rfl
  · omega
  · omega

def SumIs (a b X Y : Nat) : Prop := X + Y = a + b

set_option maxRecDepth 100000 in
set_option maxHeartbeats 2000000 in
theorem decAdd_any (a b : Nat) (w : World) (hS : Std w) (ha : (decDigits a).length ≤ 100000) (hb : (decDigits b).length ≤ 100000) :
    Calls Tryz.prog 189 #[.string ⟨(decDigits a).toArray⟩, .string ⟨(decDigits b).toArray⟩] w fun e w' => e = .returned (.string ⟨(decDigits (a + b)).toArray⟩) ∧ Below w.heap.size w w' := by
  obtain ⟨i0, hi0, hz0, hz1, hz2⟩ := info_parts Tryz.info_u64
  have HS := Lib.hid hS
  have HCA := Lib.hid (fun W => cut_dec a W (by omega))
  have HCB := Lib.hid (fun W => cut_dec b W (by omega))
  by_cases h18 : (decDigits a).length ≤ 18 ∧ (decDigits b).length ≤ 18
  · have HB := Lib.hid (fun W => both_yes a b W h18.1 h18.2)
    have ha2 := len18 h18.1
    have hb2 := len18 h18.2
    have HO := Lib.hid (fun W (hW : Std W) => decOf_any (a + b) W (by omega) hW)
    have h1 : (a : Int) ≤ 999999999999999999 := by omega
    have h2 : (b : Int) ≤ 999999999999999999 := by omega
    have HAD : Box ((a : Int) + (b : Int) = ((a + b : Nat) : Int)) := ⟨by simp⟩
    clear hS ha hb h18 ha2 hb2
    generalize decDigits a = la at *
    generalize decDigits b = lb at *
    go_enter Tryz.func189, Tryz.ntmps189
    go_wp2_with fail
    refine (HB.out _).mono ?_
    rintro e w1 ⟨rfl, hb1⟩
    go_wp2_with fail
    rw [HAD.out]
    refine (HO.out _ (HS.out.below hb1 (Nat.le_refl _))).mono ?_
    rintro e w2 ⟨rfl, hb2⟩
    go_wp2_with fail
    go_ret
    exact ⟨rfl, hb1.trans (hb2.mono hb1.size)⟩
  · have HB := Lib.hid (fun W => both_no (decDigits a) (decDigits b) W (by omega) (by omega) (by omega))
    have hpa : (pcs a).length ≤ 100000 := Nat.le_trans (pcs_le_dec a) ha
    have hpb : (pcs b).length ≤ 100000 := Nat.le_trans (pcs_le_dec b) hb
    have HLA : Box ((pcs a).length ≤ 100000 ∧ (pcs b).length ≤ 100000) := ⟨hpa, hpb⟩
    have HPOS : Box (0 < (pcs a).length ∨ 0 < (pcs b).length) := ⟨by
      rcases Nat.eq_zero_or_pos a with h | h
      · rcases Nat.eq_zero_or_pos b with h' | h'
        · subst h h'; exact absurd ⟨by rw [dec_small (by omega)]; simp, by rw [dec_small (by omega)]; simp⟩ h18
        · right; rw [pcs_pos h']; simp
      · left; rw [pcs_pos h]; simp⟩
    clear hS ha hb h18 hpa hpb
    generalize decDigits a = la at *
    generalize decDigits b = lb at *
    go_enter Tryz.func189, Tryz.ntmps189
    go_wp2_with fail
    refine (HB.out _).mono ?_
    rintro e w1 ⟨rfl, rfl⟩
    go_wp2_with fail
    refine (HCA.out _).mono ?_
    rintro e w2 ⟨⟨v2, rfl, hv2⟩, hb2⟩
    go_wp2_with fail
    refine (HCB.out _).mono ?_
    rintro e w3 ⟨⟨v3, rfl, hv3⟩, hb3⟩
    have hv2' := own_below hv2 hb3
    have h13 := hb2.trans (hb3.mono hb2.size)
    have hd2 : ∀ g, v2.ownBlock = some g → g < w2.heap.size := fun g hg => (hv2.lt g hg).2
    have hd3 : ∀ g, v3.ownBlock = some g → w2.heap.size ≤ g := fun g hg => (hv3.lt g hg).1
    obtain ⟨A2, c2, rfl, _, _, _⟩ := Row.of_own hv2'
    obtain ⟨A3, c3, rfl, _, _, _⟩ := Row.of_own hv3
    have hb3' := own_base hv3 hb2.size
    have hlen1 := HLA.out
    have hpos := HPOS.out
    generalize hna : (pcs a).length = na at *
    generalize hnb : (pcs b).length = nb at *
    by_cases hlt : na < nb
    · have HP := Lib.hid hb3'
      have HQ := Lib.hid hv2'
      have HPL := Lib.hid hnb
      have HQL := Lib.hid hna
      have HSUM : SumIs a b b a := Nat.add_comm _ _
      have HDIS : Box (∀ g, (Value.slice A3 nb c3).ownBlock = some g → (Value.slice A2 na c2).ownBlock ≠ some g) := ⟨fun g h1 h2 => by have := hd2 g h2; have := hd3 g h1; omega⟩
      have hlt' : (na : Int) < (nb : Int) := by omega
      clear hna hnb hd2 hd3 hv2 hv3 hv2' hb3' hb2 hb3 HCA HCB HB
      go_upto_region 8 with (at_builtin; refine wpList_append_own_at _ rfl _ _ _ rfl w.heap.size 131 i0 (.int .u64 0) 1 8 Tryz.underlying138 hi0 hz0 hz1 hz2 rfl (by decide) _ _ _ rfl (HP.out.alloc _) ⟨w3.heap.size, 0, Option.none⟩ 1 1 [_] rfl rfl (cell_one_new _ _ _) (by intro u hu; simp at hu; subst hu; rfl) (by unfold maxLen; omega) (by omega) (by have := h13.size; simp; omega) ?_; intro v5 w5 hown5 hg5 _ hat5; obtain ⟨ga, ca, rfl, hga, hgal⟩ := hown5.form (by omega))
      replace hg5 : World.grownBy _ _ (Value.slice A3 nb c3).ownBlock := hg5
      replace hat5 : _ = (Value.slice A3 nb c3).ownBlock ∨ _ := hat5
      have hq5 := (HQ.out.alloc (.cells #[.int .u64 0] 131)).kept hg5 (by
        cases hvq : (Value.slice A2 na c2).ownBlock with
        | none => exact .inl rfl
        | some g => exact .inr (fun h => HDIS.out g h.symm hvq))
      have hb5 : Below w.heap.size w w5 := (h13.alloc h13.size _).grown hg5 (by have := h13.size; simp; omega) (fun k hk => (HP.out.lt k hk).1)
      have hdis5 : (Value.slice A2 na c2).ownBlock ≠ some ga := fun h => by
        rcases hat5 with h5 | h5
        · exact HDIS.out ga (h5.symm.trans rfl) h
        · have h6 := (HQ.out.lt ga h).2
          have h7 : ga = (w3.alloc (.cells #[.int .u64 0] 131)).heap.size := by injection h5
          rw [World.size_alloc] at h7
          omega
      have h5' : w5.ownsRow w.heap.size 131 1 (.slice (some ⟨ga, 0, Option.none⟩) (nb + 1) ca) (nb + 1) (us (pcs b ++ [0])) := by rw [us_append]; exact hown5
      have H5 := Lib.hid h5'
      have HQ5 := Lib.hid hq5
      have HD5 : Box ((Value.slice A2 na c2).ownBlock ≠ some ga) := ⟨hdis5⟩
      clear hown5 h5' hq5 hg5 hat5 hdis5 HP HQ HDIS
      go_wp2_with (at_builtin; refine wpList_zeros_own _ rfl _ _ _ _ rfl w.heap.size 131 i0 (.int .u64 0) 8 Tryz.underlying138 Tryz.underlying3 hi0 hz0 hz1 hz2 rfl rfl _ _ _ rfl HQ5.out (nb - na) _ rfl (by omega) (by unfold maxLen; omega) (by omega) hb5.size ?_; intro v6 w6 hown6 hg6 hat6; obtain ⟨gb, cb, rfl, hgb, hgbl⟩ := hown6.form (by omega))
      replace hg6 : World.grownBy _ _ (Value.slice A2 na c2).ownBlock := hg6
      replace hat6 : _ = (Value.slice A2 na c2).ownBlock ∨ _ := hat6
      have hne : gb ≠ ga := fun h => by
        subst h
        rcases hat6 with h6 | h6
        · exact HD5.out (h6.symm.trans rfl)
        · have h7 : gb = w5.heap.size := by injection h6
          omega
      have H6 : Hid (w6.ownsRow w.heap.size 131 1 (.slice (some ⟨gb, 0, Option.none⟩) (na + (nb - na)) cb) (na + (nb - na)) (us (pcs a ++ List.replicate (nb - na) 0))) := Lib.hid (by rw [us_append, ← us_zeros]; exact hown6)
      have H56 := Lib.hid (H5.out.kept hg6 (.inr (fun h => HD5.out (h.symm.trans rfl))))
      have hb6 := hb5.grown hg6 hb5.size (fun k hk => (HQ5.out.lt k hk).1)
      have hpx : Pcs (pcs b ++ [0]) := pcs_zeros (pcs_lt b) 1
      have hpy : Pcs (pcs a ++ List.replicate (nb - na) 0) := pcs_zeros (pcs_lt a) _
      clear hown6 hg6 hat6 H5 HQ5 HD5
      refine (back_any w.heap.size ga (nb + 1) ca w.heap.size gb (na + (nb - na)) cb (pcs b ++ [0]) (pcs a ++ List.replicate (nb - na) 0) 0 w6 H56.out H6.out hne hpx hpy (by omega) (by omega)).mono ?_
      rintro e w7 ⟨o, cy, hB, rfl, hrow7, hgr7⟩
      have hlen7 : (pcs a ++ List.replicate (nb - na) 0).length = nb := by rw [List.length_append, List.length_replicate, HQL.out]; omega
      rw [hlen7] at hB
      have hv7 := back_sum HPL.out (by rw [HQL.out]; omega) hB
      rw [show b + a = a + b from HSUM] at hv7
      have hb7 := hb6.grown hgr7 hb6.size (fun k hk => by injection hk with hk; subst hk; exact hga)
      obtain ⟨A7, c7, e7, hc7, hm7, hr7⟩ := Row.of_own hrow7
      injection e7 with e71 _ e73
      subst e71 e73
      have hol : o.length = nb + 1 := by rw [hB.len, List.length_append, HPL.out]; rfl
      have HTR := Lib.hid (trim_any (some ⟨ga, 0, Option.none⟩) (nb + 1) ca w7.heap.size o w7 hr7 hc7 hm7 hB.pcs)
      have hto := trim_take o hB.pcs
      have hown7 := own_take hrow7 (k := (pcs (pv o)).length) (by rw [← hol]; exact hto.1)
      rw [← us_take, hto.2] at hown7
      rw [hv7] at hown7 HTR hto
      have HO7 := Lib.hid hown7
      have HL7 : Box ((pcs (a + b)).length ≤ 1000000) := ⟨by have := hto.1; omega⟩
      clear hB hrow7 hgr7 hlen7 hv7 hr7 hc7 hm7 hto hown7 hol hpx hpy H6 H56
      go_wp2_with fail
      refine HTR.out.mono ?_
      rintro e w8 ⟨rfl, rfl⟩
      go_wp2_with fail
      refine (text_own _ _ (a + b) w7 HO7.out HL7.out).mono ?_
      rintro e w9 ⟨rfl, hb9⟩
      go_wp2_with fail
      go_ret
      exact ⟨rfl, hb7.trans (hb9.mono hb7.size)⟩
    · have HP := Lib.hid hv2'
      have HQ := Lib.hid hb3'
      have HPL := Lib.hid hna
      have HQL := Lib.hid hnb
      have HSUM : SumIs a b a b := rfl
      have HDIS : Box (∀ g, (Value.slice A2 na c2).ownBlock = some g → (Value.slice A3 nb c3).ownBlock ≠ some g) := ⟨fun g h1 h2 => by have := hd2 g h1; have := hd3 g h2; omega⟩
      have hlt' : ¬ (na : Int) < (nb : Int) := by omega
      clear hna hnb hd2 hd3 hv2 hv3 hv2' hb3' hb2 hb3 HCA HCB HB
      go_upto_region 8 with (at_builtin; refine wpList_append_own_at _ rfl _ _ _ rfl w.heap.size 131 i0 (.int .u64 0) 1 8 Tryz.underlying138 hi0 hz0 hz1 hz2 rfl (by decide) _ _ _ rfl (HP.out.alloc _) ⟨w3.heap.size, 0, Option.none⟩ 1 1 [_] rfl rfl (cell_one_new _ _ _) (by intro u hu; simp at hu; subst hu; rfl) (by unfold maxLen; omega) (by omega) (by have := h13.size; simp; omega) ?_; intro v5 w5 hown5 hg5 _ hat5; obtain ⟨ga, ca, rfl, hga, hgal⟩ := hown5.form (by omega))
      replace hg5 : World.grownBy _ _ (Value.slice A2 na c2).ownBlock := hg5
      replace hat5 : _ = (Value.slice A2 na c2).ownBlock ∨ _ := hat5
      have hq5 := (HQ.out.alloc (.cells #[.int .u64 0] 131)).kept hg5 (by
        cases hvq : (Value.slice A3 nb c3).ownBlock with
        | none => exact .inl rfl
        | some g => exact .inr (fun h => HDIS.out g h.symm hvq))
      have hb5 : Below w.heap.size w w5 := (h13.alloc h13.size _).grown hg5 (by have := h13.size; simp; omega) (fun k hk => (HP.out.lt k hk).1)
      have hdis5 : (Value.slice A3 nb c3).ownBlock ≠ some ga := fun h => by
        rcases hat5 with h5 | h5
        · exact HDIS.out ga (h5.symm.trans rfl) h
        · have h6 := (HQ.out.lt ga h).2
          have h7 : ga = (w3.alloc (.cells #[.int .u64 0] 131)).heap.size := by injection h5
          rw [World.size_alloc] at h7
          omega
      have h5' : w5.ownsRow w.heap.size 131 1 (.slice (some ⟨ga, 0, Option.none⟩) (na + 1) ca) (na + 1) (us (pcs a ++ [0])) := by rw [us_append]; exact hown5
      have H5 := Lib.hid h5'
      have HQ5 := Lib.hid hq5
      have HD5 : Box ((Value.slice A3 nb c3).ownBlock ≠ some ga) := ⟨hdis5⟩
      clear hown5 h5' hq5 hg5 hat5 hdis5 HP HQ HDIS
      go_wp2_with (at_builtin; refine wpList_zeros_own _ rfl _ _ _ _ rfl w.heap.size 131 i0 (.int .u64 0) 8 Tryz.underlying138 Tryz.underlying3 hi0 hz0 hz1 hz2 rfl rfl _ _ _ rfl HQ5.out (na - nb) _ rfl (by omega) (by unfold maxLen; omega) (by omega) hb5.size ?_; intro v6 w6 hown6 hg6 hat6; obtain ⟨gb, cb, rfl, hgb, hgbl⟩ := hown6.form (by omega))
      replace hg6 : World.grownBy _ _ (Value.slice A3 nb c3).ownBlock := hg6
      replace hat6 : _ = (Value.slice A3 nb c3).ownBlock ∨ _ := hat6
      have hne : gb ≠ ga := fun h => by
        subst h
        rcases hat6 with h6 | h6
        · exact HD5.out (h6.symm.trans rfl)
        · have h7 : gb = w5.heap.size := by injection h6
          omega
      have H6 : Hid (w6.ownsRow w.heap.size 131 1 (.slice (some ⟨gb, 0, Option.none⟩) (nb + (na - nb)) cb) (nb + (na - nb)) (us (pcs b ++ List.replicate (na - nb) 0))) := Lib.hid (by rw [us_append, ← us_zeros]; exact hown6)
      have H56 := Lib.hid (H5.out.kept hg6 (.inr (fun h => HD5.out (h.symm.trans rfl))))
      have hb6 := hb5.grown hg6 hb5.size (fun k hk => (HQ5.out.lt k hk).1)
      have hpx : Pcs (pcs a ++ [0]) := pcs_zeros (pcs_lt a) 1
      have hpy : Pcs (pcs b ++ List.replicate (na - nb) 0) := pcs_zeros (pcs_lt b) _
      clear hown6 hg6 hat6 H5 HQ5 HD5
      refine (back_any w.heap.size ga (na + 1) ca w.heap.size gb (nb + (na - nb)) cb (pcs a ++ [0]) (pcs b ++ List.replicate (na - nb) 0) 0 w6 H56.out H6.out hne hpx hpy (by omega) (by omega)).mono ?_
      rintro e w7 ⟨o, cy, hB, rfl, hrow7, hgr7⟩
      have hlen7 : (pcs b ++ List.replicate (na - nb) 0).length = na := by rw [List.length_append, List.length_replicate, HQL.out]; omega
      rw [hlen7] at hB
      have hv7 := back_sum HPL.out (by rw [HQL.out]; omega) hB
      rw [show a + b = a + b from HSUM] at hv7
      have hb7 := hb6.grown hgr7 hb6.size (fun k hk => by injection hk with hk; subst hk; exact hga)
      obtain ⟨A7, c7, e7, hc7, hm7, hr7⟩ := Row.of_own hrow7
      injection e7 with e71 _ e73
      subst e71 e73
      have hol : o.length = na + 1 := by rw [hB.len, List.length_append, HPL.out]; rfl
      have HTR := Lib.hid (trim_any (some ⟨ga, 0, Option.none⟩) (na + 1) ca w7.heap.size o w7 hr7 hc7 hm7 hB.pcs)
      have hto := trim_take o hB.pcs
      have hown7 := own_take hrow7 (k := (pcs (pv o)).length) (by rw [← hol]; exact hto.1)
      rw [← us_take, hto.2] at hown7
      rw [hv7] at hown7 HTR hto
      have HO7 := Lib.hid hown7
      have HL7 : Box ((pcs (a + b)).length ≤ 1000000) := ⟨by have := hto.1; omega⟩
      clear hB hrow7 hgr7 hlen7 hv7 hr7 hc7 hm7 hto hown7 hol hpx hpy H6 H56
      go_wp2_with fail
      refine HTR.out.mono ?_
      rintro e w8 ⟨rfl, rfl⟩
      go_wp2_with fail
      refine (text_own _ _ (a + b) w7 HO7.out HL7.out).mono ?_
      rintro e w9 ⟨rfl, hb9⟩
      go_wp2_with fail
      go_ret
      exact ⟨rfl, hb7.trans (hb9.mono hb7.size)⟩

end Go.Proofs.YteenfcmnmenigaaGreatDoor

namespace Go.Proofs.YteenfcmnmenigaaGreatDoor
open Go.RowKit Go.Lib

/-- The difference out of what take leaves. -/
theorem take_diff {X Y n bo m : Nat} {o : List Nat} (hX : (pcs X).length = n) (hY : (pcs Y).length + m = n) (hle : Y ≤ X) (h : TakeAt (pcs X ++ [0]) (pcs Y ++ List.replicate m 0) 1 0 (n + 1) 0 bo o) : pv o = X - Y := by
  have e := h.val
  rw [List.take_of_length_le (by rw [List.length_append, List.length_replicate]; omega), pv_pad, pv_pcs, pv_append, pv_pcs] at e
  simp only [pv, Nat.pow_zero, Nat.one_mul, Nat.mul_zero, Nat.add_zero, Nat.zero_add] at e
  have hl := pv_lt o h.pcs
  rw [h.len, List.length_append, hX] at hl
  simp only [List.length_singleton] at hl
  rcases (show bo = 0 ∨ bo = 1 by have := h.bol; omega) with rfl | rfl
  · omega
  · omega

set_option maxRecDepth 100000 in
set_option maxHeartbeats 2000000 in
theorem decSub_any (a b : Nat) (w : World) (hS : Std w) (ha : (decDigits a).length ≤ 100000) (hb : (decDigits b).length ≤ 100000) (hba : b ≤ a) :
    Calls Tryz.prog 190 #[.string ⟨(decDigits a).toArray⟩, .string ⟨(decDigits b).toArray⟩] w fun e w' => e = .returned (.tuple #[.string ⟨(decDigits (a - b)).toArray⟩, .int .i64 0]) ∧ Below w.heap.size w w' := by
  obtain ⟨i0, hi0, hz0, hz1, hz2⟩ := info_parts Tryz.info_u64
  have HS := Lib.hid hS
  have HCA := Lib.hid (fun W => cut_dec a W (by omega))
  have HCB := Lib.hid (fun W => cut_dec b W (by omega))
  have HCM := Lib.hid (compare_any a b w (by omega) (by omega))
  have hcm : decide (cmpN a b < 0) = false := by unfold cmpN; rw [if_neg (by omega)]; split <;> decide
  generalize cmpN a b = cc at *
  by_cases h18 : (decDigits a).length ≤ 18 ∧ (decDigits b).length ≤ 18
  · have HB := Lib.hid (fun W => both_yes a b W h18.1 h18.2)
    have ha2 := len18 h18.1
    have hb2 := len18 h18.2
    have HO := Lib.hid (fun W (hW : Std W) => decOf_any (a - b) W (by omega) hW)
    have h1 : (a : Int) ≤ 999999999999999999 := by omega
    have h2 : (b : Int) ≤ (a : Int) := by omega
    have HAD : Box ((a : Int) - (b : Int) = ((a - b : Nat) : Int)) := ⟨by omega⟩
    clear hS ha hb h18 ha2 hb2 hba
    generalize decDigits a = la at *
    generalize decDigits b = lb at *
    go_enter Tryz.func190, Tryz.ntmps190
    go_wp2_with fail
    refine HCM.out.mono ?_
    rintro e w0 ⟨rfl, rfl⟩
    go_wp2_with fail
    refine (HB.out _).mono ?_
    rintro e w1 ⟨rfl, hb1⟩
    go_wp2_with fail
    rw [HAD.out]
    refine (HO.out _ (HS.out.below hb1 (Nat.le_refl _))).mono ?_
    rintro e w2 ⟨rfl, hb2⟩
    go_wp2_with fail
    go_ret2
    exact ⟨rfl, hb1.trans (hb2.mono hb1.size)⟩
  · have HB := Lib.hid (fun W => both_no (decDigits a) (decDigits b) W (by omega) (by omega) (by omega))
    have hpa : (pcs a).length ≤ 100000 := Nat.le_trans (pcs_le_dec a) ha
    have hpl : (pcs b).length ≤ (pcs a).length := pcs_len_mono hba
    have HPOS : Box (0 < (pcs a).length) := ⟨by
      rcases Nat.eq_zero_or_pos a with h | h
      · exfalso
        have h' : b = 0 := by omega
        subst h h'; exact absurd ⟨by rw [dec_small (by omega)]; simp, by rw [dec_small (by omega)]; simp⟩ h18
      · rw [pcs_pos h]; simp⟩
    have HBA : Box (b ≤ a) := ⟨hba⟩
    clear hS ha hb h18 hba
    generalize decDigits a = la at *
    generalize decDigits b = lb at *
    have hpos := HPOS.out
    generalize hna : (pcs a).length = na at *
    generalize hnb : (pcs b).length = nb at *
    have HPL := Lib.hid hna
    have HQL := Lib.hid hnb
    go_enter Tryz.func190, Tryz.ntmps190
    go_wp2_with fail
    refine HCM.out.mono ?_
    rintro e w0 ⟨rfl, rfl⟩
    go_wp2_with fail
    refine (HB.out _).mono ?_
    rintro e w1 ⟨rfl, rfl⟩
    go_wp2_with fail
    refine (HCA.out _).mono ?_
    rintro e w2 ⟨⟨v2, rfl, hv2⟩, hb2⟩
    have hv2' : w2.ownsRow w.heap.size 131 1 v2 na (us (pcs a)) := by rw [← hna]; exact hv2
    have HP := Lib.hid hv2'
    clear hv2 hv2' hna hnb
    go_upto_region 7 with (at_builtin; refine wpList_append_own_at _ rfl _ _ _ rfl w.heap.size 131 i0 (.int .u64 0) 1 8 Tryz.underlying138 hi0 hz0 hz1 hz2 rfl (by decide) _ _ _ rfl (HP.out.alloc _) ⟨w2.heap.size, 0, Option.none⟩ 1 1 [_] rfl rfl (cell_one_new _ _ _) (by intro u hu; simp at hu; subst hu; rfl) (by unfold maxLen; omega) (by omega) (by have := hb2.size; simp; omega) ?_; intro v5 w5 hown5 hg5 _ hat5; obtain ⟨ga, ca, rfl, hga, hgal⟩ := hown5.form (by omega))
    replace hg5 : World.grownBy _ _ v2.ownBlock := hg5
    have hb5 : Below w.heap.size w w5 := (hb2.alloc hb2.size _).grown hg5 (by have := hb2.size; simp; omega) (fun k hk => (HP.out.lt k hk).1)
    have h5' : w5.ownsRow w.heap.size 131 1 (.slice (some ⟨ga, 0, Option.none⟩) (na + 1) ca) (na + 1) (us (pcs a ++ [0])) := by rw [us_append]; exact hown5
    have H5 := Lib.hid h5'
    clear hown5 h5' hg5 hat5 HP hb2
    go_wp2_with fail
    refine (HCB.out _).mono ?_
    rintro e w3 ⟨⟨v3, rfl, hv3⟩, hb3⟩
    have hv3' : w3.ownsRow w5.heap.size 131 1 v3 nb (us (pcs b)) := by rw [← HQL.out]; exact hv3
    have hd3 : ∀ g, v3.ownBlock = some g → w5.heap.size ≤ g ∧ g < w3.heap.size := fun g hg => hv3'.lt g hg
    replace H5 := Lib.hid (own_below H5.out hb3)
    have HQ := Lib.hid (own_base hv3' hb5.size)
    have hb53 := hb5.trans (hb3.mono hb5.size)
    have HD3 : Box (∀ g, v3.ownBlock = some g → w5.heap.size ≤ g ∧ g < w3.heap.size) := ⟨hd3⟩
    have hs35 := hb3.size
    clear hv3 hv3' hb3 hd3 hb5
    go_wp2_with fail
    refine (HCB.out _).mono ?_
    rintro e w4 ⟨⟨v4, rfl, hv4⟩, hb4⟩
    obtain ⟨A4, c4, rfl, _, _, _⟩ := Row.of_own hv4
    rw [HQL.out]
    replace H5 := Lib.hid (own_below H5.out hb4)
    replace HQ := Lib.hid (own_below HQ.out hb4)
    have hb54 := hb53.trans (hb4.mono hb53.size)
    have hs34 := hb4.size
    obtain ⟨A3, c3, rfl, _, _, _⟩ := Row.of_own HQ.out
    clear hv4 hb4 hb53
    go_wp2_with (at_builtin; refine wpList_zeros_own _ rfl _ _ _ _ rfl w.heap.size 131 i0 (.int .u64 0) 8 Tryz.underlying138 Tryz.underlying3 hi0 hz0 hz1 hz2 rfl rfl _ _ _ rfl HQ.out (na - nb) _ rfl (by omega) (by unfold maxLen; omega) (by omega) hb54.size ?_; intro v6 w6 hown6 hg6 hat6; obtain ⟨gb, cb, rfl, hgb, hgbl⟩ := hown6.form (by omega))
    replace hg6 : World.grownBy _ _ (Value.slice A3 nb c3).ownBlock := hg6
    replace hat6 : _ = (Value.slice A3 nb c3).ownBlock ∨ _ := hat6
    have hne : gb ≠ ga := fun h => by
      subst h
      rcases hat6 with h6 | h6
      · have := HD3.out gb (h6.symm.trans rfl)
        omega
      · have h7 : gb = w4.heap.size := by injection h6
        omega
    have H6 : Hid (w6.ownsRow w.heap.size 131 1 (.slice (some ⟨gb, 0, Option.none⟩) na cb) na (us (pcs b ++ List.replicate (na - nb) 0))) := Lib.hid (by rw [us_append, ← us_zeros]; have h := hown6; rwa [show nb + (na - nb) = na by omega] at h)
    have H56 := Lib.hid (H5.out.kept hg6 (.inr (fun h => by have := HD3.out ga (h.symm.trans rfl); omega)))
    have hb6 := hb54.grown hg6 hb54.size (fun k hk => (HQ.out.lt k hk).1)
    have hpx : Pcs (pcs a ++ [0]) := pcs_zeros (pcs_lt a) 1
    have hpy : Pcs (pcs b ++ List.replicate (na - nb) 0) := pcs_zeros (pcs_lt b) _
    clear hown6 hg6 hat6 H5 HQ HD3
    refine (take_any w.heap.size ga (na + 1) ca w.heap.size gb na cb (pcs a ++ [0]) (pcs b ++ List.replicate (na - nb) 0) 1 0 w6 H56.out H6.out hne hpx hpy (by omega) (by omega) (by omega)).mono ?_
    rintro e w7 ⟨o, bo, hB, rfl, hrow7, hgr7⟩
    have hlen7 : (pcs b ++ List.replicate (na - nb) 0).length = na := by rw [List.length_append, List.length_replicate, HQL.out]; omega
    rw [hlen7] at hB
    have hv7 := take_diff HPL.out (by rw [HQL.out]; omega) HBA.out hB
    have hb7 := hb6.grown hgr7 hb6.size (fun k hk => by injection hk with hk; subst hk; exact hga)
    obtain ⟨A7, c7, e7, hc7, hm7, hr7⟩ := Row.of_own hrow7
    injection e7 with e71 _ e73
    subst e71 e73
    have hol : o.length = na + 1 := by rw [hB.len, List.length_append, HPL.out]; rfl
    have HTR := Lib.hid (trim_any (some ⟨ga, 0, Option.none⟩) (na + 1) ca w7.heap.size o w7 hr7 hc7 hm7 hB.pcs)
    have hto := trim_take o hB.pcs
    have hown7 := own_take hrow7 (k := (pcs (pv o)).length) (by rw [← hol]; exact hto.1)
    rw [← us_take, hto.2] at hown7
    rw [hv7] at hown7 HTR hto
    have HO7 := Lib.hid hown7
    have HL7 : Box ((pcs (a - b)).length ≤ 1000000) := ⟨by have := hto.1; omega⟩
    clear hB hrow7 hgr7 hlen7 hv7 hr7 hc7 hm7 hto hown7 hol hpx hpy H6 H56
    go_wp2_with fail
    refine HTR.out.mono ?_
    rintro e w8 ⟨rfl, rfl⟩
    go_wp2_with fail
    refine (text_own _ _ (a - b) w7 HO7.out HL7.out).mono ?_
    rintro e w9 ⟨rfl, hb9⟩
    go_wp2_with fail
    go_ret2
    exact ⟨rfl, hb7.trans (hb9.mono hb7.size)⟩

end Go.Proofs.YteenfcmnmenigaaGreatDoor

namespace Go.Proofs.YteenfcmnmenigaaGreatDoor
open Go.RowKit Go.Lib

theorem natAbs_len (z : Int) : (decDigits z.natAbs).length ≤ (itoa z).length := by
  rcases itoa_cases z with ⟨_, e⟩ | ⟨_, e⟩
  · rw [e]; simp
  · rw [e]; exact Nat.le_refl _

theorem signed_true (n : Nat) : signed true n = -(n : Int) := rfl
theorem signed_false (n : Nat) : signed false n = (n : Int) := rfl

theorem signed_mul (x y : Int) : signed (decide (x < 0) != decide (y < 0)) (x.natAbs * y.natAbs) = x * y := by
  by_cases hx : x < 0 <;> by_cases hy : y < 0
  · have ex : (x.natAbs : Int) = -x := by omega
    have ey : (y.natAbs : Int) = -y := by omega
    rw [decide_eq_true hx, decide_eq_true hy, show (true != true) = false from rfl, signed_false, Int.natCast_mul, ex, ey, Int.neg_mul_neg]
  · have ex : (x.natAbs : Int) = -x := by omega
    have ey : (y.natAbs : Int) = y := by omega
    rw [decide_eq_true hx, decide_eq_false hy, show (true != false) = true from rfl, signed_true, Int.natCast_mul, ex, ey, Int.neg_mul, Int.neg_neg]
  · have ex : (x.natAbs : Int) = x := by omega
    have ey : (y.natAbs : Int) = -y := by omega
    rw [decide_eq_false hx, decide_eq_true hy, show (false != true) = true from rfl, signed_true, Int.natCast_mul, ex, ey, Int.mul_neg, Int.neg_neg]
  · have ex : (x.natAbs : Int) = x := by omega
    have ey : (y.natAbs : Int) = y := by omega
    rw [decide_eq_false hx, decide_eq_false hy, show (false != false) = false from rfl, signed_false, Int.natCast_mul, ex, ey]

theorem small_mul {x y : Int} (hx : (itoa x).length ≤ 9) (hy : (itoa y).length ≤ 9) : -1000000000000000000 ≤ x * y ∧ x * y ≤ 1000000000000000000 := by
  have h1 := itoa_len_lt hx
  have h2 := itoa_len_lt hy
  have h3 : (x * y).natAbs ≤ 1000000000 * 1000000000 := by rw [Int.natAbs_mul]; exact Nat.mul_le_mul (by omega) (by omega)
  omega

set_option maxRecDepth 100000 in
set_option maxHeartbeats 1000000 in
theorem whMul_any (x y : Int) (w : World) (hS : Std w) (hx : (itoa x).length ≤ 50000) (hy : (itoa y).length ≤ 50000) :
    Calls Tryz.prog 91 #[.string ⟨(itoa x).toArray⟩, .string ⟨(itoa y).toArray⟩] w fun e w' => e = .returned (.string ⟨(itoa (x * y)).toArray⟩) ∧ Below w.heap.size w w' := by
  have HS := Lib.hid hS
  by_cases hb9 : (itoa x).length ≤ 9 ∧ (itoa y).length ≤ 9
  · have hm := small_mul hb9.1 hb9.2
    have HX := Lib.hid (little_yes x 9 w hb9.1 (by omega))
    have HY := Lib.hid (fun W => little_yes y 9 W hb9.2 (by omega))
    have HO := Lib.hid (fun W (hW : Std W) => whOf_any (x * y) W (by omega) (by omega) hW)
    clear hS hx hy hb9
    generalize itoa x = lx at *
    generalize itoa y = ly at *
    go_enter Tryz.func91, Tryz.ntmps91
    go_wp2_with fail
    refine HX.out.mono ?_
    rintro e w1 ⟨rfl, hb1⟩
    go_wp2_with fail
    refine (HY.out _).mono ?_
    rintro e w2 ⟨rfl, hb2⟩
    go_wp2_with fail
    have h12 := hb1.trans (hb2.mono hb1.size)
    refine (HO.out _ (HS.out.below h12 (Nat.le_refl _))).mono ?_
    rintro e w3 ⟨rfl, hb3⟩
    go_wp2_with fail
    go_ret
    exact ⟨rfl, h12.trans (hb3.mono h12.size)⟩
  · have hnx := natAbs_len x
    have hny := natAbs_len y
    have HSX := Lib.hid (fun W => split_any x W (by omega))
    have HSY := Lib.hid (fun W => split_any y W (by omega))
    have HM := Lib.hid (fun W hW => mul_any x.natAbs y.natAbs W hW (by omega) (by omega))
    have hml := dec_mul_len x.natAbs y.natAbs
    have HJ := Lib.hid (fun W => join_any (decide (x < 0) != decide (y < 0)) (x.natAbs * y.natAbs) W (by omega))
    rw [signed_mul] at HJ
    have HNX := Lib.hid (fun W (h : 9 < (itoa x).length) => little_no (itoa x) 9 W h (by omega))
    have HNY := Lib.hid (fun W (h : 9 < (itoa y).length) => little_no (itoa y) 9 W h (by omega))
    have HYX := Lib.hid (fun W (h : (itoa x).length ≤ 9) => little_yes x 9 W h (by omega))
    clear hS hnx hny hml
    generalize decide (x < 0) = bx at *
    generalize decide (y < 0) = by' at *
    generalize decDigits x.natAbs = dx at *
    generalize decDigits y.natAbs = dy at *
    generalize decDigits (x.natAbs * y.natAbs) = dm at *
    generalize itoa x = lx at *
    generalize itoa y = ly at *
    generalize itoa (x * y) = lz at *
    by_cases hx9 : lx.length ≤ 9
    case' pos =>
      go_enter Tryz.func91, Tryz.ntmps91
      go_wp2_with fail
      refine (HYX.out _ hx9).mono ?_
      rintro e w1 ⟨rfl, hbw⟩
      go_wp2_with fail
      refine (HNY.out _ (by omega)).mono ?_
      rintro e w2 ⟨rfl, rfl⟩
    case' neg =>
      go_enter Tryz.func91, Tryz.ntmps91
      go_wp2_with fail
      refine (HNX.out _ (by omega)).mono ?_
      rintro e w1 ⟨rfl, rfl⟩
      have hbw := Below.refl w.heap.size w
    all_goals
      replace HS := Lib.hid (HS.out.below hbw (Nat.le_refl _))
      go_wp2_with fail
      refine (HSX.out _).mono ?_
      rintro e wk1 ⟨rfl, hbk⟩
      replace HS := Lib.hid (HS.out.below hbk (Nat.le_refl _))
      replace hbw := hbw.trans (hbk.mono hbw.size)
      clear hbk
      go_wp2_with fail
      refine (HSY.out _).mono ?_
      rintro e wk2 ⟨rfl, hbk⟩
      replace HS := Lib.hid (HS.out.below hbk (Nat.le_refl _))
      replace hbw := hbw.trans (hbk.mono hbw.size)
      clear hbk
      go_wp2_with fail
      refine (HM.out _ HS.out).mono ?_
      rintro e wk3 ⟨rfl, hbk⟩
      replace HS := Lib.hid (HS.out.below hbk (Nat.le_refl _))
      replace hbw := hbw.trans (hbk.mono hbw.size)
      clear hbk
      go_wp2_with fail
      refine (HJ.out _).mono ?_
      rintro e wk4 ⟨rfl, rfl⟩
      go_wp2_with fail
      go_ret
      exact ⟨rfl, hbw⟩

set_option maxHeartbeats 400000 in
theorem whNeg_any (x : Int) (w : World) (hx : (itoa x).length ≤ 100000) :
    Calls Tryz.prog 155 #[.string ⟨(itoa x).toArray⟩] w fun e w' => e = .returned (.string ⟨(itoa (-x)).toArray⟩) ∧ Below w.heap.size w w' := by
  have hnx := natAbs_len x
  have HSX := Lib.hid (split_any x w hx)
  have HJ := Lib.hid (fun W => join_any (!decide (x < 0)) x.natAbs W (by omega))
  rw [show signed (!decide (x < 0)) x.natAbs = -x by
    by_cases h : x < 0
    · rw [decide_eq_true h, Bool.not_true, signed_false]; omega
    · rw [decide_eq_false h, Bool.not_false, signed_true]; omega] at HJ
  clear hnx
  generalize decide (x < 0) = bx at *
  generalize decDigits x.natAbs = dx at *
  generalize itoa x = lx at *
  go_enter Tryz.func155, Tryz.ntmps155
  go_wp2_with fail
  refine HSX.out.mono ?_
  rintro e w1 ⟨rfl, hb1⟩
  go_wp2_with fail
  refine (HJ.out _).mono ?_
  rintro e w2 ⟨rfl, rfl⟩
  go_wp2_with fail
  go_ret
  exact ⟨rfl, hb1⟩

theorem signed_same {x y : Int} (h : decide (x < 0) = decide (y < 0)) : signed (decide (x < 0)) (x.natAbs + y.natAbs) = x + y := by
  by_cases hx : x < 0
  · have hy : y < 0 := by rw [decide_eq_true hx] at h; simpa using h.symm
    rw [decide_eq_true hx, signed_true]; omega
  · have hy : ¬ y < 0 := by rw [decide_eq_false hx] at h; simpa using h.symm
    rw [decide_eq_false hx, signed_false]; omega
theorem signed_diff {x y : Int} (h : decide (x < 0) ≠ decide (y < 0)) (hle : y.natAbs ≤ x.natAbs) : signed (decide (x < 0)) (x.natAbs - y.natAbs) = x + y := by
  by_cases hx : x < 0
  · have hy : ¬ y < 0 := fun hy => h (by rw [decide_eq_true hx, decide_eq_true hy])
    rw [decide_eq_true hx, signed_true]; omega
  · have hy : y < 0 := by
      rcases Int.lt_or_le y 0 with hy | hy
      · exact hy
      · exact absurd (by rw [decide_eq_false hx, decide_eq_false (by omega)]) h
    rw [decide_eq_false hx, signed_false]; omega

theorem beq_bool_true {a b : Bool} (h : a = b) : (a == b) = true := by rw [h]; simp
theorem beq_bool_false {a b : Bool} (h : a ≠ b) : (a == b) = false := by simpa using h

set_option maxRecDepth 100000 in
set_option maxHeartbeats 1000000 in
theorem whAdd_any (x y : Int) (w : World) (hS : Std w) (hx : (itoa x).length ≤ 50000) (hy : (itoa y).length ≤ 50000) :
    Calls Tryz.prog 241 #[.string ⟨(itoa x).toArray⟩, .string ⟨(itoa y).toArray⟩] w fun e w' => e = .returned (.string ⟨(itoa (x + y)).toArray⟩) ∧ Below w.heap.size w w' := by
  have HS := Lib.hid hS
  by_cases hb9 : (itoa x).length ≤ 18 ∧ (itoa y).length ≤ 18
  · have h1 := itoa_len_lt hb9.1
    have h2 := itoa_len_lt hb9.2
    have hx1 : -1000000000000000000 ≤ x ∧ x ≤ 1000000000000000000 := by omega
    have hy1 : -1000000000000000000 ≤ y ∧ y ≤ 1000000000000000000 := by omega
    have HX := Lib.hid (little_yes x 18 w hb9.1 (by omega))
    have HY := Lib.hid (fun W => little_yes y 18 W hb9.2 (by omega))
    have HO := Lib.hid (fun W (hW : Std W) => whOf_any (x + y) W (by omega) (by omega) hW)
    clear hS hx hy hb9 h1 h2
    generalize itoa x = lx at *
    generalize itoa y = ly at *
    go_enter Tryz.func241, Tryz.ntmps241
    go_wp2_with fail
    refine HX.out.mono ?_
    rintro e w1 ⟨rfl, hb1⟩
    go_wp2_with fail
    refine (HY.out _).mono ?_
    rintro e w2 ⟨rfl, hb2⟩
    go_wp2_with fail
    have h12 := hb1.trans (hb2.mono hb1.size)
    refine (HO.out _ (HS.out.below h12 (Nat.le_refl _))).mono ?_
    rintro e w3 ⟨rfl, hb3⟩
    go_wp2_with fail
    go_ret
    exact ⟨rfl, h12.trans (hb3.mono h12.size)⟩
  · have hnx := natAbs_len x
    have hny := natAbs_len y
    have HSX := Lib.hid (fun W => split_any x W (by omega))
    have HSY := Lib.hid (fun W => split_any y W (by omega))
    have HNX := Lib.hid (fun W (h : 18 < (itoa x).length) => little_no (itoa x) 18 W h (by omega))
    have HNY := Lib.hid (fun W (h : 18 < (itoa y).length) => little_no (itoa y) 18 W h (by omega))
    have HYX := Lib.hid (fun W (h : (itoa x).length ≤ 18) => little_yes x 18 W h (by omega))
    have HCM := Lib.hid (fun W => compare_any x.natAbs y.natAbs W (by omega) (by omega))
    have HAD := Lib.hid (fun W hW => decAdd_any x.natAbs y.natAbs W hW (by omega) (by omega))
    have HS1 := Lib.hid (fun W hW => decSub_any x.natAbs y.natAbs W hW (by omega) (by omega))
    have HS2 := Lib.hid (fun W hW => decSub_any y.natAbs x.natAbs W hW (by omega) (by omega))
    have hl1 : (decDigits (x.natAbs + y.natAbs)).length ≤ 100000 := by
      have h := dec_mul_len 2 (max x.natAbs y.natAbs)
      have h3 : x.natAbs + y.natAbs ≤ 2 * max x.natAbs y.natAbs := by omega
      have h4 : (decDigits (max x.natAbs y.natAbs)).length ≤ 50000 := by
        rcases Nat.le_total x.natAbs y.natAbs with h | h
        · rw [Nat.max_eq_right h]; omega
        · rw [Nat.max_eq_left h]; omega
      have h5 : (decDigits 2).length = 1 := by rw [dec_small (by omega)]; rfl
      have h6 := nDigits_mono h3
      rw [← dec_length, ← dec_length] at h6
      omega
    have hl2 : (decDigits (x.natAbs - y.natAbs)).length ≤ 100000 := by
      have h6 := nDigits_mono (Nat.sub_le x.natAbs y.natAbs)
      rw [← dec_length, ← dec_length] at h6
      omega
    have hl3 : (decDigits (y.natAbs - x.natAbs)).length ≤ 100000 := by
      have h6 := nDigits_mono (Nat.sub_le y.natAbs x.natAbs)
      rw [← dec_length, ← dec_length] at h6
      omega
    have HJ1 := Lib.hid (fun W => join_any (decide (x < 0)) (x.natAbs + y.natAbs) W hl1)
    have HJ2 := Lib.hid (fun W => join_any (decide (x < 0)) (x.natAbs - y.natAbs) W hl2)
    have HJ3 := Lib.hid (fun W => join_any (decide (y < 0)) (y.natAbs - x.natAbs) W hl3)
    have E1 : Box (decide (x < 0) = decide (y < 0) → signed (decide (x < 0)) (x.natAbs + y.natAbs) = x + y) := ⟨signed_same⟩
    have E2 : Box (decide (x < 0) ≠ decide (y < 0) → y.natAbs ≤ x.natAbs → signed (decide (x < 0)) (x.natAbs - y.natAbs) = x + y) := ⟨signed_diff⟩
    have E3 : Box (decide (x < 0) ≠ decide (y < 0) → x.natAbs ≤ y.natAbs → signed (decide (y < 0)) (y.natAbs - x.natAbs) = x + y) := ⟨fun h1 h2 => by rw [signed_diff (Ne.symm h1) h2]; omega⟩
    clear hS hnx hny hl1 hl2 hl3
    generalize decide (x < 0) = bx at *
    generalize decide (y < 0) = by' at *
    generalize x.natAbs = nx at *
    generalize y.natAbs = ny at *
    generalize itoa x = lx at *
    generalize itoa y = ly at *
    by_cases hx9 : lx.length ≤ 18
    case' pos =>
      go_enter Tryz.func241, Tryz.ntmps241
      go_wp2_with fail
      refine (HYX.out _ hx9).mono ?_
      rintro e w1 ⟨rfl, hbw⟩
      go_wp2_with fail
      refine (HNY.out _ (by omega)).mono ?_
      rintro e w2 ⟨rfl, rfl⟩
    case' neg =>
      go_enter Tryz.func241, Tryz.ntmps241
      go_wp2_with fail
      refine (HNX.out _ (by omega)).mono ?_
      rintro e w1 ⟨rfl, rfl⟩
      have hbw := Below.refl w.heap.size w
    all_goals
      replace HS := Lib.hid (HS.out.below hbw (Nat.le_refl _))
      go_wp2_with fail
      refine (HSX.out _).mono ?_
      rintro e wk5 ⟨rfl, hbk⟩
      replace HS := Lib.hid (HS.out.below hbk (Nat.le_refl _))
      replace hbw := hbw.trans (hbk.mono hbw.size)
      clear hbk
      go_wp2_with fail
      refine (HSY.out _).mono ?_
      rintro e wk6 ⟨rfl, hbk⟩
      replace HS := Lib.hid (HS.out.below hbk (Nat.le_refl _))
      replace hbw := hbw.trans (hbk.mono hbw.size)
      clear hbk
      by_cases hsame : bx = by'
      · have hbb := beq_bool_true hsame
        have HE := E1.out hsame
        have HEE : Box (signed bx (nx + ny) = x + y) := ⟨HE⟩
        clear hsame HE
        go_wp2_with fail
        refine (HAD.out _ HS.out).mono ?_
        rintro e wk7 ⟨rfl, hbk⟩
        replace HS := Lib.hid (HS.out.below hbk (Nat.le_refl _))
        replace hbw := hbw.trans (hbk.mono hbw.size)
        clear hbk
        go_wp2_with fail
        refine (HJ1.out _).mono ?_
        rintro e wk8 ⟨rfl, rfl⟩
        go_wp2_with fail
        go_ret
        exact ⟨ret_str (by rw [HEE.out]), hbw⟩
      · have hbb := beq_bool_false hsame
        by_cases hlt : nx < ny
        · have HEE : Box (signed by' (ny - nx) = x + y) := ⟨E3.out hsame (by omega)⟩
          have hc : cmpN nx ny = -1 := by unfold cmpN; rw [if_pos hlt]
          rw [hc] at HCM
          clear hsame hc
          go_wp2_with fail
          refine (HCM.out _).mono ?_
          rintro e wk9 ⟨rfl, rfl⟩
          go_wp2_with fail
          refine (HS2.out _ HS.out (by omega)).mono ?_
          rintro e wk10 ⟨rfl, hbk⟩
          replace HS := Lib.hid (HS.out.below hbk (Nat.le_refl _))
          replace hbw := hbw.trans (hbk.mono hbw.size)
          clear hbk
          go_wp2_with fail
          refine (HJ3.out _).mono ?_
          rintro e wk11 ⟨rfl, rfl⟩
          go_wp2_with fail
          go_ret
          exact ⟨ret_str (by rw [HEE.out]), hbw⟩
        · have HEE : Box (signed bx (nx - ny) = x + y) := ⟨E2.out hsame (by omega)⟩
          have hc : decide (cmpN nx ny < 0) = false := by unfold cmpN; rw [if_neg hlt]; split <;> decide
          generalize cmpN nx ny = cc at *
          clear hsame
          go_wp2_with fail
          refine (HCM.out _).mono ?_
          rintro e wk12 ⟨rfl, rfl⟩
          go_wp2_with fail
          refine (HS1.out _ HS.out (by omega)).mono ?_
          rintro e wk13 ⟨rfl, hbk⟩
          replace HS := Lib.hid (HS.out.below hbk (Nat.le_refl _))
          replace hbw := hbw.trans (hbk.mono hbw.size)
          clear hbk
          go_wp2_with fail
          refine (HJ2.out _).mono ?_
          rintro e wk14 ⟨rfl, rfl⟩
          go_wp2_with fail
          go_ret
          exact ⟨ret_str (by rw [HEE.out]), hbw⟩

def cmpZ (x y : Int) : Int := if x < y then -1 else if x = y then 0 else 1

end Go.Proofs.YteenfcmnmenigaaGreatDoor

namespace Go.Proofs.YteenfcmnmenigaaGreatDoor
open Go.RowKit Go.Lib

theorem itoa_neg_len (x : Int) (h : (itoa x).length ≤ 49999) : (itoa (-x)).length ≤ 50000 := by
  have h1 := itoa_len (-x)
  have h2 := natAbs_len x
  rw [Int.natAbs_neg] at h1
  omega

theorem cmpZ_neg {x y : Int} (hx : x < 0) (hy : y < 0) : cmpZ x y = cmpN y.natAbs x.natAbs := by
  unfold cmpZ cmpN
  repeat' split
  all_goals omega
theorem cmpZ_pos {x y : Int} (hx : ¬ x < 0) (hy : ¬ y < 0) : cmpZ x y = cmpN x.natAbs y.natAbs := by
  unfold cmpZ cmpN
  repeat' split
  all_goals omega
theorem cmpZ_nat (a b : Nat) : cmpZ (a : Int) (b : Int) = cmpN a b := by
  rw [cmpZ_pos (by omega) (by omega)]; rfl

set_option maxHeartbeats 1000000 in
theorem whCompare_any (x y : Int) (w : World) (hx : (itoa x).length ≤ 100000) (hy : (itoa y).length ≤ 100000) :
    Calls Tryz.prog 251 #[.string ⟨(itoa x).toArray⟩, .string ⟨(itoa y).toArray⟩] w fun e w' => e = .returned (.int .i64 (cmpZ x y)) ∧ Below w.heap.size w w' := by
  have hnx := natAbs_len x
  have hny := natAbs_len y
  have HGX := Lib.hid (fun W => whSign_any x W hx)
  have HGY := Lib.hid (fun W => whSign_any y W hy)
  have HSX := Lib.hid (fun W => split_any x W hx)
  have HSY := Lib.hid (fun W => split_any y W hy)
  have HC1 := Lib.hid (fun W => compare_any x.natAbs y.natAbs W (by omega) (by omega))
  have HC2 := Lib.hid (fun W => compare_any y.natAbs x.natAbs W (by omega) (by omega))
  clear hnx hny hx hy
  generalize itoa x = lx at *
  generalize itoa y = ly at *
  by_cases hs : sgn x = sgn y
  · have hne : (sgn x != sgn y) = false := by rw [hs]; simp
    by_cases hneg : x < 0
    · have hyn : y < 0 := by unfold sgn at hs; split at hs <;> split at hs <;> (try split at hs) <;> (try split at hs) <;> omega
      have HE : Box (cmpZ x y = cmpN y.natAbs x.natAbs) := ⟨cmpZ_neg hneg hyn⟩
      rw [decide_eq_true hneg] at HSX
      clear hs hneg hyn
      generalize sgn x = sx at *
      generalize sgn y = sy at *
      generalize decide (y < 0) = by' at *
      generalize decDigits x.natAbs = dx at *
      generalize decDigits y.natAbs = dy at *
      go_enter Tryz.func251, Tryz.ntmps251
      go_wp2_with fail
      refine (HGX.out _).mono ?_
      rintro e wk1 ⟨rfl, rfl⟩
      go_wp2_with fail
      refine (HGY.out _).mono ?_
      rintro e wk2 ⟨rfl, rfl⟩
      go_wp2_with fail
      refine (HSX.out _).mono ?_
      rintro e w3 ⟨rfl, hb3⟩
      go_wp2_with fail
      refine (HSY.out _).mono ?_
      rintro e w4 ⟨rfl, hb4⟩
      go_wp2_with fail
      refine (HC2.out _).mono ?_
      rintro e wk3 ⟨rfl, rfl⟩
      go_wp2_with fail
      go_ret
      exact ⟨ret_int (by rw [HE.out]), hb3.trans (hb4.mono hb3.size)⟩
    · have hyn : ¬ y < 0 := by unfold sgn at hs; split at hs <;> split at hs <;> (try split at hs) <;> (try split at hs) <;> omega
      have HE : Box (cmpZ x y = cmpN x.natAbs y.natAbs) := ⟨cmpZ_pos hneg hyn⟩
      rw [decide_eq_false hneg] at HSX
      clear hs hneg hyn
      generalize sgn x = sx at *
      generalize sgn y = sy at *
      generalize decide (y < 0) = by' at *
      generalize decDigits x.natAbs = dx at *
      generalize decDigits y.natAbs = dy at *
      go_enter Tryz.func251, Tryz.ntmps251
      go_wp2_with fail
      refine (HGX.out _).mono ?_
      rintro e wk4 ⟨rfl, rfl⟩
      go_wp2_with fail
      refine (HGY.out _).mono ?_
      rintro e wk5 ⟨rfl, rfl⟩
      go_wp2_with fail
      refine (HSX.out _).mono ?_
      rintro e w3 ⟨rfl, hb3⟩
      go_wp2_with fail
      refine (HSY.out _).mono ?_
      rintro e w4 ⟨rfl, hb4⟩
      go_wp2_with fail
      refine (HC1.out _).mono ?_
      rintro e wk6 ⟨rfl, rfl⟩
      go_wp2_with fail
      go_ret
      exact ⟨ret_int (by rw [HE.out]), hb3.trans (hb4.mono hb3.size)⟩
  · have hne : (sgn x != sgn y) = true := by simpa using hs
    have hcz : (sgn x < sgn y → cmpZ x y = -1) ∧ (¬ sgn x < sgn y → cmpZ x y = 1) := by
      unfold cmpZ
      constructor
      · intro h
        have : x < y := by unfold sgn at h; split at h <;> split at h <;> (try split at h) <;> (try split at h) <;> omega
        rw [if_pos this]
      · intro h
        have : y < x := by unfold sgn at h hs; split at h <;> split at h <;> (try split at h) <;> (try split at h) <;> simp_all <;> omega
        rw [if_neg (by omega), if_neg (by omega)]
    have HCZ : Box ((sgn x < sgn y → cmpZ x y = -1) ∧ (¬ sgn x < sgn y → cmpZ x y = 1)) := ⟨hcz⟩
    clear hcz hs
    generalize sgn x = sx at *
    generalize sgn y = sy at *
    by_cases hlt : sx < sy
    · have HE : Box (cmpZ x y = -1) := ⟨HCZ.out.1 hlt⟩
      go_enter Tryz.func251, Tryz.ntmps251
      go_wp2_with fail
      refine (HGX.out _).mono ?_
      rintro e wk7 ⟨rfl, rfl⟩
      go_wp2_with fail
      refine (HGY.out _).mono ?_
      rintro e wk8 ⟨rfl, rfl⟩
      go_wp2_with fail
      go_ret
      exact ⟨ret_int (by rw [HE.out]), Below.refl _ _⟩
    · have HE : Box (cmpZ x y = 1) := ⟨HCZ.out.2 hlt⟩
      go_enter Tryz.func251, Tryz.ntmps251
      go_wp2_with fail
      refine (HGX.out _).mono ?_
      rintro e wk9 ⟨rfl, rfl⟩
      go_wp2_with fail
      refine (HGY.out _).mono ?_
      rintro e wk10 ⟨rfl, rfl⟩
      go_wp2_with fail
      go_ret
      exact ⟨ret_int (by rw [HE.out]), Below.refl _ _⟩

set_option maxRecDepth 100000 in
set_option maxHeartbeats 1000000 in
theorem whGcd_any (x y : Int) (w : World) (hS : Std w) (hx : (itoa x).length ≤ 100000) (hy : (itoa y).length ≤ 100000) :
    Calls Tryz.prog 156 #[.string ⟨(itoa x).toArray⟩, .string ⟨(itoa y).toArray⟩] w fun e w' => e = .returned (.string ⟨(decDigits (Nat.gcd x.natAbs y.natAbs)).toArray⟩) ∧ Below w.heap.size w w' := by
  by_cases h18 : (decDigits x.natAbs).length ≤ 18 ∧ (decDigits y.natAbs).length ≤ 18
  · exact whGcd_small x y w hS h18.1 h18.2
  · have hnx := natAbs_len x
    have hny := natAbs_len y
    have HS := Lib.hid hS
    have HX := Lib.hid (whAbs_any x w hx)
    have HY := Lib.hid (fun W => whAbs_any y W hy)
    have HNX := Lib.hid (fun W (h : 18 < (decDigits x.natAbs).length) => little_no (decDigits x.natAbs) 18 W h (by omega))
    have HNY := Lib.hid (fun W (h : 18 < (decDigits y.natAbs).length) => little_no (decDigits y.natAbs) 18 W h (by omega))
    have HYX := Lib.hid (fun W (h : (decDigits x.natAbs).length ≤ 18) => little_nat x.natAbs 18 W h (Nat.le_refl _))
    have HG := Lib.hid (fun W hW => decGcd_any x.natAbs y.natAbs W hW (by omega) (by omega))
    clear hS hnx hny hx hy
    generalize itoa x = lx at *
    generalize itoa y = ly at *
    generalize x.natAbs = nx at *
    generalize y.natAbs = ny at *
    generalize decDigits nx = dx at *
    generalize decDigits ny = dy at *
    go_enter Tryz.func156, Tryz.ntmps156
    go_wp2_with fail
    refine HX.out.mono ?_
    rintro e w1 ⟨rfl, hbw⟩
    replace HS := Lib.hid (HS.out.below hbw (Nat.le_refl _))
    go_wp2_with fail
    refine (HY.out _).mono ?_
    rintro e wk11 ⟨rfl, hbk⟩
    replace HS := Lib.hid (HS.out.below hbk (Nat.le_refl _))
    replace hbw := hbw.trans (hbk.mono hbw.size)
    clear hbk
    by_cases hx9 : dx.length ≤ 18
    · have tok := True.intro
      clear tok
      go_wp2_with fail
      refine (HYX.out _ hx9).mono ?_
      rintro e wk12 ⟨rfl, hbk⟩
      replace HS := Lib.hid (HS.out.below hbk (Nat.le_refl _))
      replace hbw := hbw.trans (hbk.mono hbw.size)
      clear hbk
      go_wp2_with fail
      refine (HNY.out _ (by omega)).mono ?_
      rintro e wk13 ⟨rfl, rfl⟩
      go_wp2_with fail
      refine (HG.out _ HS.out).mono ?_
      rintro e wk14 ⟨rfl, hbk⟩
      replace HS := Lib.hid (HS.out.below hbk (Nat.le_refl _))
      replace hbw := hbw.trans (hbk.mono hbw.size)
      clear hbk
      go_wp2_with fail
      go_ret
      exact ⟨rfl, hbw⟩
    · have tok := True.intro
      clear tok
      go_wp2_with fail
      refine (HNX.out _ (by omega)).mono ?_
      rintro e wk15 ⟨rfl, rfl⟩
      go_wp2_with fail
      refine (HG.out _ HS.out).mono ?_
      rintro e wk16 ⟨rfl, hbk⟩
      replace HS := Lib.hid (HS.out.below hbk (Nat.le_refl _))
      replace hbw := hbw.trans (hbk.mono hbw.size)
      clear hbk
      go_wp2_with fail
      go_ret
      exact ⟨rfl, hbw⟩

end Go.Proofs.YteenfcmnmenigaaGreatDoor

namespace Go.Proofs.YteenfcmnmenigaaGreatDoor
open Go.RowKit Go.Lib

theorem div_unique {x : Int} {y : Nat} (hy : 0 < y) {q r : Int} (e : r + (y : Int) * q = x) (h0 : 0 ≤ r) (h1 : r < (y : Int)) : x / (y : Int) = q ∧ x % (y : Int) = r :=
  (Int.ediv_emod_unique (by omega)).2 ⟨e, h0, h1⟩

theorem neg_div_zero {x : Int} {y : Nat} (hy : 0 < y) (hx : x < 0) (h : x.natAbs % y = 0) : x / (y : Int) = -((x.natAbs / y : Nat) : Int) ∧ x % (y : Int) = 0 := by
  refine div_unique hy ?_ (by omega) (by omega)
  have := Nat.div_add_mod x.natAbs y
  have e : (y : Int) * ((x.natAbs / y : Nat) : Int) = ((y * (x.natAbs / y) : Nat) : Int) := by simp
  rw [Int.mul_neg, e]
  generalize y * (x.natAbs / y) = t at *
  omega
theorem neg_div_pos {x : Int} {y : Nat} (hy : 0 < y) (hx : x < 0) (h : x.natAbs % y ≠ 0) : x / (y : Int) = -((x.natAbs / y : Nat) : Int) - 1 ∧ x % (y : Int) = (y : Int) - ((x.natAbs % y : Nat) : Int) := by
  have hm := Nat.mod_lt x.natAbs hy
  refine div_unique hy ?_ (by omega) (by omega)
  have := Nat.div_add_mod x.natAbs y
  have e : (y : Int) * ((x.natAbs / y : Nat) : Int) = ((y * (x.natAbs / y) : Nat) : Int) := by simp
  rw [Int.mul_sub, Int.mul_neg, e, Int.mul_one]
  generalize y * (x.natAbs / y) = t at *
  omega
theorem pos_div {x : Int} {y : Nat} (hx : ¬ x < 0) : x / (y : Int) = ((x.natAbs / y : Nat) : Int) ∧ x % (y : Int) = ((x.natAbs % y : Nat) : Int) := by
  have e : x = (x.natAbs : Int) := by omega
  constructor
  · conv => lhs; rw [e]
    simp
  · conv => lhs; rw [e]
    simp

theorem tdiv_neg {x : Int} {y : Nat} (hx : x < 0) : x.tdiv (y : Int) = -((x.natAbs / y : Nat) : Int) ∧ x.tmod (y : Int) = -((x.natAbs % y : Nat) : Int) := by
  have e : x = -(x.natAbs : Int) := by omega
  constructor
  · conv => lhs; rw [e]
    rw [Int.neg_tdiv, Int.tdiv_eq_ediv_of_nonneg (by omega)]; simp
  · conv => lhs; rw [e]
    rw [Int.neg_tmod, Int.tmod_eq_emod_of_nonneg (by omega)]; simp

set_option maxRecDepth 100000 in
set_option maxHeartbeats 1000000 in
theorem whDivMod_neg (x : Int) (y : Nat) (w : World) (hS : Std w) (hx : (itoa x).length ≤ 18) (hy : (decDigits y).length ≤ 18) (h0 : 0 < y) (hneg : x < 0) :
    Calls Tryz.prog 157 #[.string ⟨(itoa x).toArray⟩, .string ⟨(decDigits y).toArray⟩] w fun e w' => e = .returned (.tuple #[.string ⟨(itoa (x / (y : Int))).toArray⟩, .string ⟨(itoa (x % (y : Int))).toArray⟩, .int .i64 0]) ∧ Below w.heap.size w w' := by
  have hx2 := itoa_len_lt hx
  have hy2 := len18 hy
  have hz := dec_eq_zero y
  rw [decide_eq_false (by omega)] at hz
  have HLX := Lib.hid (little_yes x 18 w hx (Nat.le_refl _))
  have HLY := Lib.hid (fun W => little_nat y 18 W hy (Nat.le_refl _))
  obtain ⟨ht1, ht2⟩ := tdiv_neg (y := y) hneg
  have hq : x.natAbs / y ≤ x.natAbs := Nat.div_le_self _ _
  have hr : x.natAbs % y < y := Nat.mod_lt _ h0
  have HZ : Box (x.natAbs % y = 0 → x / (y : Int) = -((x.natAbs / y : Nat) : Int) ∧ x % (y : Int) = 0) := ⟨neg_div_zero h0 hneg⟩
  have HP : Box (x.natAbs % y ≠ 0 → x / (y : Int) = -((x.natAbs / y : Nat) : Int) - 1 ∧ x % (y : Int) = (y : Int) - ((x.natAbs % y : Nat) : Int)) := ⟨neg_div_pos h0 hneg⟩
  generalize x.natAbs / y = q at *
  generalize x.natAbs % y = r at *
  have hqb : q ≤ 1000000000000000000 := by omega
  have hrb : r ≤ 1000000000000000000 := by omega
  have hyb : y ≤ 1000000000000000000 := by omega
  have HT1b : Box (wrap64 (x.tdiv (y : Int)) = -(q : Int)) := ⟨by rw [ht1]; exact IntWalk.wrap64_in _ (by omega)⟩
  have HT2 : Box (x.tmod (y : Int) = -(r : Int)) := ⟨ht2⟩
  have HS := Lib.hid hS
  clear hS hx hy hx2 hy2 hq ht1 ht2
  generalize itoa x = lx at *
  generalize decDigits y = ly at *
  have z1 : ¬ (y : Int) = 0 := by omega
  have z2 : ((y : Int) == 0) = false := by simp; omega
  go_enter Tryz.func157, Tryz.ntmps157
  go_wp2_with fail
  refine HLX.out.mono ?_
  rintro e w1 ⟨rfl, hb1⟩
  go_wp2_with fail
  refine (HLY.out _).mono ?_
  rintro e w2 ⟨rfl, hb2⟩
  go_wp2_with fail
  go_quiet (fail)
  rw [HT1b.out, HT2.out]
  have hs2 := HS.out.below hb1 (Nat.le_refl _) |>.below hb2 (Nat.le_refl _) |>.drewN nq
  have hbw := below_drewN (hb1.trans (hb2.mono hb1.size)) nq
  clear hb1 hb2
  have HS2 := Lib.hid hs2
  clear hs2 HS
  have hy0 : ¬ (y : Int) < 0 := by omega
  by_cases hr0 : r = 0
  · subst hr0
    obtain ⟨e1, e2⟩ := HZ.out rfl
    have HE : Box (x / (y : Int) = -(q : Int) ∧ x % (y : Int) = 0) := ⟨e1, e2⟩
    rw [show -((0 : Nat) : Int) = 0 from rfl]
    clear e1 e2 HZ HP
    have HQ := Lib.hid (fun W (hW : Std W) => whOf_any (-(q : Int)) W (by omega) (by omega) hW)
    have HR := Lib.hid (fun W (hW : Std W) => whOf_any 0 W (by omega) (by omega) hW)
    go_wp2_with fail
    refine (HQ.out _ HS2.out).mono ?_
    rintro e wk1 ⟨rfl, hbk⟩
    replace HS2 := Lib.hid (HS2.out.below hbk (Nat.le_refl _))
    replace hbw := hbw.trans (hbk.mono hbw.size)
    clear hbk
    go_wp2_with fail
    refine (HR.out _ HS2.out).mono ?_
    rintro e wk2 ⟨rfl, hbk⟩
    replace HS2 := Lib.hid (HS2.out.below hbk (Nat.le_refl _))
    replace hbw := hbw.trans (hbk.mono hbw.size)
    clear hbk
    go_wp2_with fail
    go_ret3
    exact ⟨by rw [HE.out.1, HE.out.2]; rfl, hbw⟩
  · obtain ⟨e1, e2⟩ := HP.out hr0
    have HE : Box (x / (y : Int) = -(q : Int) - 1 ∧ x % (y : Int) = (y : Int) - r) := ⟨e1, e2⟩
    have hr1 : ((-(r : Int)) != 0) = true := by simp; omega
    have hr2 : -(r : Int) < 0 := by omega
    clear e1 e2 HZ HP
    have HQ := Lib.hid (fun W (hW : Std W) => whOf_any (-(q : Int) - 1) W (by omega) (by omega) hW)
    have HR := Lib.hid (fun W (hW : Std W) => whOf_any (-(r : Int) + y) W (by omega) (by omega) hW)
    rw [show -(r : Int) + y = (y : Int) - r by omega] at HR
    go_wp2_with fail
    refine (HQ.out _ HS2.out).mono ?_
    rintro e wk3 ⟨rfl, hbk⟩
    replace HS2 := Lib.hid (HS2.out.below hbk (Nat.le_refl _))
    replace hbw := hbw.trans (hbk.mono hbw.size)
    clear hbk
    go_wp2_with fail
    rw [show -(r : Int) + y = (y : Int) - r by omega]
    go_wp2_with fail
    refine (HR.out _ HS2.out).mono ?_
    rintro e wk4 ⟨rfl, hbk⟩
    replace HS2 := Lib.hid (HS2.out.below hbk (Nat.le_refl _))
    replace hbw := hbw.trans (hbk.mono hbw.size)
    clear hbk
    go_wp2_with fail
    go_ret3
    exact ⟨by rw [HE.out.1, HE.out.2]; rfl, hbw⟩

theorem dec_le_len {a b : Nat} (h : a ≤ b) : (decDigits a).length ≤ (decDigits b).length := by rw [dec_length, dec_length]; exact nDigits_mono h

set_option maxRecDepth 100000 in
set_option maxHeartbeats 1000000 in
theorem whDivMod_long (x : Int) (y : Nat) (w : World) (hS : Std w) (hx : (itoa x).length ≤ 50000) (hy : (decDigits y).length ≤ 50000) (h18 : 18 < (itoa x).length ∨ 18 < (decDigits y).length) (h0 : 0 < y) :
    Calls Tryz.prog 157 #[.string ⟨(itoa x).toArray⟩, .string ⟨(decDigits y).toArray⟩] w fun e w' => e = .returned (.tuple #[.string ⟨(itoa (x / (y : Int))).toArray⟩, .string ⟨(itoa (x % (y : Int))).toArray⟩, .int .i64 0]) ∧ Below w.heap.size w w' := by
  have hz := dec_eq_zero y
  rw [decide_eq_false (by omega)] at hz
  have hnx := natAbs_len x
  have HSX := Lib.hid (fun W => split_any x W (by omega))
  have HSY := Lib.hid (fun W => split_any (y : Int) W (by rw [itoa_nat]; omega))
  rw [itoa_nat, decide_eq_false (show ¬ (y : Int) < 0 by omega), show (y : Int).natAbs = y from rfl] at HSY
  have HNX := Lib.hid (fun W (h : 18 < (itoa x).length) => little_no (itoa x) 18 W h (by omega))
  have HNY := Lib.hid (fun W (h : 18 < (decDigits y).length) => little_no (decDigits y) 18 W h (by omega))
  have HYX := Lib.hid (fun W (h : (itoa x).length ≤ 18) => little_yes x 18 W h (by omega))
  have HD := Lib.hid (fun W hW => divMod_any x.natAbs y W hW (by omega) (by omega) h0)
  have hq := dec_le_len (Nat.div_le_self x.natAbs y)
  have hrl := dec_le_len (Nat.le_of_lt (Nat.mod_lt x.natAbs h0))
  have HA := Lib.hid (fun W hW => decAdd_any (x.natAbs / y) 1 W hW (by omega) (by rw [dec_small (by omega)]; simp))
  rw [show decDigits 1 = [49] by rw [dec_small (by omega)]; rfl] at HA
  have HB := Lib.hid (fun W hW => decSub_any y (x.natAbs % y) W hW (by omega) (by omega) (Nat.le_of_lt (Nat.mod_lt x.natAbs h0)))
  have hq1 : (decDigits (x.natAbs / y + 1)).length ≤ 100000 := by
    have h := dec_mul_len 2 (x.natAbs / y + 1)
    have h2 : x.natAbs / y + 1 ≤ 2 * x.natAbs + 2 := by have := Nat.div_le_self x.natAbs y; omega
    have h3 := dec_le_len h2
    have h4 := dec_mul_len 2 (x.natAbs + 1)
    have h5 : (decDigits 2).length = 1 := by rw [dec_small (by omega)]; rfl
    have h6 : (decDigits (x.natAbs + 1)).length ≤ (decDigits x.natAbs).length + 2 := by
      have h7 : x.natAbs + 1 ≤ 2 * x.natAbs ∨ x.natAbs = 0 := by omega
      rcases h7 with h7 | h7
      · have := dec_le_len h7
        have h8 := dec_mul_len 2 x.natAbs
        omega
      · rw [h7, dec_small (by omega), dec_small (by omega)]; simp
    rw [show 2 * x.natAbs + 2 = 2 * (x.natAbs + 1) by omega] at h3
    omega
  have hyr := dec_le_len (Nat.sub_le y (x.natAbs % y))
  have HJ1 := Lib.hid (fun b W => join_any b (x.natAbs / y) W (by omega))
  have HJ2 := Lib.hid (fun b W => join_any b (x.natAbs / y + 1) W hq1)
  have HJ3 := Lib.hid (fun b W => join_any b (x.natAbs % y) W (by omega))
  have HJ4 := Lib.hid (fun b W => join_any b (y - x.natAbs % y) W (by omega))
  have hmod := Nat.mod_lt x.natAbs h0
  have hzr := dec_eq_zero (x.natAbs % y)
  have EP : Box (¬ x < 0 → x / (y : Int) = ((x.natAbs / y : Nat) : Int) ∧ x % (y : Int) = ((x.natAbs % y : Nat) : Int)) := ⟨pos_div⟩
  have EZ : Box (x < 0 → x.natAbs % y = 0 → x / (y : Int) = -((x.natAbs / y : Nat) : Int) ∧ x % (y : Int) = 0) := ⟨neg_div_zero h0⟩
  have EN : Box (x < 0 → x.natAbs % y ≠ 0 → x / (y : Int) = -((x.natAbs / y : Nat) : Int) - 1 ∧ x % (y : Int) = (y : Int) - ((x.natAbs % y : Nat) : Int)) := ⟨neg_div_pos h0⟩
  have HS := Lib.hid hS
  clear hS hnx hq hrl hq1 hyr hx hy
  generalize x.natAbs / y = q at *
  generalize x.natAbs % y = r at *
  generalize x.natAbs = n at *
  generalize itoa x = lx at *
  generalize decDigits y = ly at *
  by_cases hx9 : lx.length ≤ 18
  case' pos =>
    go_enter Tryz.func157, Tryz.ntmps157
    go_wp2_with fail
    refine (HYX.out _ hx9).mono ?_
    rintro e w1 ⟨rfl, hbw⟩
    go_wp2_with fail
    refine (HNY.out _ (by omega)).mono ?_
    rintro e w2 ⟨rfl, rfl⟩
  case' neg =>
    go_enter Tryz.func157, Tryz.ntmps157
    go_wp2_with fail
    refine (HNX.out _ (by omega)).mono ?_
    rintro e w1 ⟨rfl, rfl⟩
    have hbw := Below.refl w.heap.size w
  all_goals
    replace HS := Lib.hid (HS.out.below hbw (Nat.le_refl _))
    clear HNX HNY HYX h18
    go_wp2_with fail
    refine (HSX.out _).mono ?_
    rintro e wk5 ⟨rfl, hbk⟩
    replace HS := Lib.hid (HS.out.below hbk (Nat.le_refl _))
    replace hbw := hbw.trans (hbk.mono hbw.size)
    clear hbk
    go_wp2_with fail
    refine (HSY.out _).mono ?_
    rintro e wk6 ⟨rfl, hbk⟩
    replace HS := Lib.hid (HS.out.below hbk (Nat.le_refl _))
    replace hbw := hbw.trans (hbk.mono hbw.size)
    clear hbk
    go_wp2_with fail
    refine (HD.out _ HS.out).mono ?_
    rintro e wk7 ⟨rfl, hbk⟩
    replace HS := Lib.hid (HS.out.below hbk (Nat.le_refl _))
    replace hbw := hbw.trans (hbk.mono hbw.size)
    clear hbk
    by_cases hneg : x < 0
    · rw [decide_eq_true hneg]
      by_cases hr0 : r = 0
      · obtain ⟨e1, e2⟩ := EZ.out hneg hr0
        subst hr0
        have F1 : Box (itoa (signed true q) = itoa (x / (y : Int))) := ⟨by rw [e1, signed_true]⟩
        have F2 : Box (itoa (signed false 0) = itoa (x % (y : Int))) := ⟨by rw [e2, signed_false]; rfl⟩
        have hzr2 : (decDigits 0 != [48]) = false := by simp only [bne, hzr]; rfl
        rw [decide_eq_true rfl] at hzr
        clear e1 e2 hneg EP EZ EN
        generalize decDigits 0 = l0 at *
        go_wp2_with fail
        refine (HJ1.out true _).mono ?_
        rintro e wk8 ⟨rfl, rfl⟩
        go_wp2_with fail
        refine (HJ3.out false _).mono ?_
        rintro e wk9 ⟨rfl, rfl⟩
        go_wp2_with fail
        go_ret3
        exact ⟨by rw [F1.out, F2.out]; rfl, hbw⟩
      · obtain ⟨e1, e2⟩ := EN.out hneg hr0
        have F1 : Box (itoa (signed true (q + 1)) = itoa (x / (y : Int))) := ⟨by rw [e1, signed_true]; congr 1; omega⟩
        have F2 : Box (itoa (signed false (y - r)) = itoa (x % (y : Int))) := ⟨by rw [e2, signed_false]; congr 1; omega⟩
        rw [decide_eq_false hr0] at hzr
        have hzr2 : (decDigits r != [48]) = true := by simp only [bne, hzr]; rfl
        clear e1 e2 hneg EP EZ EN hr0
        generalize decDigits r = lr at *
        go_wp2_with fail
        refine (HA.out _ HS.out).mono ?_
        rintro e wk10 ⟨rfl, hbk⟩
        replace HS := Lib.hid (HS.out.below hbk (Nat.le_refl _))
        replace hbw := hbw.trans (hbk.mono hbw.size)
        clear hbk
        go_wp2_with fail
        refine (HB.out _ HS.out).mono ?_
        rintro e wk11 ⟨rfl, hbk⟩
        replace HS := Lib.hid (HS.out.below hbk (Nat.le_refl _))
        replace hbw := hbw.trans (hbk.mono hbw.size)
        clear hbk
        go_wp2_with fail
        refine (HJ2.out true _).mono ?_
        rintro e wk12 ⟨rfl, rfl⟩
        go_wp2_with fail
        refine (HJ4.out false _).mono ?_
        rintro e wk13 ⟨rfl, rfl⟩
        go_wp2_with fail
        go_ret3
        exact ⟨by rw [F1.out, F2.out]; rfl, hbw⟩
    · rw [decide_eq_false hneg]
      obtain ⟨e1, e2⟩ := EP.out (by omega)
      have F1 : Box (itoa (signed false q) = itoa (x / (y : Int))) := ⟨by rw [e1, signed_false]⟩
      have F2 : Box (itoa (signed false r) = itoa (x % (y : Int))) := ⟨by rw [e2, signed_false]⟩
      clear e1 e2 hneg EP EZ EN
      go_wp2_with fail
      refine (HJ1.out false _).mono ?_
      rintro e wk14 ⟨rfl, rfl⟩
      go_wp2_with fail
      refine (HJ3.out false _).mono ?_
      rintro e wk15 ⟨rfl, rfl⟩
      go_wp2_with fail
      go_ret3
      exact ⟨by rw [F1.out, F2.out]; rfl, hbw⟩

theorem whDivMod_any (x : Int) (y : Nat) (w : World) (hS : Std w) (hx : (itoa x).length ≤ 50000) (hy : (decDigits y).length ≤ 50000) (h0 : 0 < y) :
    Calls Tryz.prog 157 #[.string ⟨(itoa x).toArray⟩, .string ⟨(decDigits y).toArray⟩] w fun e w' => e = .returned (.tuple #[.string ⟨(itoa (x / (y : Int))).toArray⟩, .string ⟨(itoa (x % (y : Int))).toArray⟩, .int .i64 0]) ∧ Below w.heap.size w w' := by
  by_cases h18 : 18 < (itoa x).length ∨ 18 < (decDigits y).length
  · exact whDivMod_long x y w hS hx hy h18 h0
  · by_cases hneg : x < 0
    · exact whDivMod_neg x y w hS (by omega) (by omega) h0 hneg
    · obtain ⟨e1, e2⟩ := pos_div (y := y) hneg
      rw [e1, e2, itoa_nat, itoa_nat]
      rcases itoa_cases x with ⟨h, _⟩ | ⟨_, e⟩
      · exact absurd h hneg
      · rw [e] at h18 ⊢
        exact whDivMod_small x.natAbs y w hS (by omega) (by omega) h0

end Go.Proofs.YteenfcmnmenigaaGreatDoor
